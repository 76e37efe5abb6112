import Derived.Test.YtlgaolpkeejmdaaMC
import Derived.Test.YtlgaolpkeejmdaaMD
namespace Go.Pv
open Go.Proofs
/-- legate/legatelaw14.TicketBack -/
def rc6 : RCode := (.seq (.region false [⟨(some 3), none, .box (.t 0)⟩,
  ⟨(some 4), none, .box (.t 1)⟩,
  ⟨(some 5), none, .box (.t 2)⟩,
  ⟨(some 6), none, .mov (.c (.scal (.bool false)))⟩])
 (.seq (.region false [⟨(some 16), none, .callP 19 []⟩,
  ⟨(some 7), none, .mov (.t 16)⟩])
 (.seq (.seq (.region false [⟨(some 17), none, .mov (.t 7)⟩,
  ⟨(some 18), none, .un .not (.t 17)⟩])
 (.cond (.t 18) (.seq (.region false [⟨(some 6), none, .mov (.c (.scal (.bool false)))⟩])
 .ret)
 .skip))
 (.seq (.seq (.region false [⟨(some 19), none, .loadA 13 (.t 3)⟩,
  ⟨(some 20), none, .callP 20 [(.t 19)]⟩,
  ⟨(some 21), none, .mov (.t 20)⟩,
  ⟨(some 22), (some (21, false)), .loadA 4 (.t 4)⟩,
  ⟨(some 23), (some (21, false)), .callP 21 [(.t 22), (.c (.scal (.int .i64 20)))]⟩,
  ⟨(some 24), none, .pick (.t 21) (.c (.scal (.bool true))) (.t 23)⟩,
  ⟨(some 25), none, .mov (.t 24)⟩,
  ⟨(some 26), (some (25, false)), .loadA 4 (.t 5)⟩,
  ⟨(some 27), (some (25, false)), .callP 21 [(.t 26), (.c (.scal (.int .i64 20)))]⟩,
  ⟨(some 28), none, .pick (.t 25) (.c (.scal (.bool true))) (.t 27)⟩])
 (.cond (.t 28) (.seq (.region false [⟨(some 29), none, .mov (.t 7)⟩,
  ⟨(some 6), none, .mov (.t 29)⟩])
 .ret)
 .skip))
 (.seq (.region false [⟨(some 31), none, .loadA 13 (.t 3)⟩,
  ⟨(some 32), none, .loadA 4 (.t 4)⟩,
  ⟨(some 33), none, .callP 22 [(.t 31), (.t 32)]⟩,
  ⟨(some 30), none, .mov (.t 33)⟩,
  ⟨(some 34), none, .ext (.t 30) 0⟩,
  ⟨(some 35), none, .ext (.t 30) 1⟩,
  ⟨(some 8), none, .alloc [(.scal (.int .i64 0)), (.scal (.string ⟨#[]⟩)), (.scal (.int .i64 0)), (.list .full [])]⟩,
  ⟨none, none, .store 4 (.t 8) (.t 34)⟩,
  ⟨(some 9), none, .mov (.t 35)⟩])
 (.seq (.seq (.region false [⟨(some 36), none, .mov (.t 9)⟩,
  ⟨(some 37), none, .bin .neq 33 (.t 36) (.c (.scal (.int .i64 0)))⟩])
 (.cond (.t 37) (.seq (.region false [⟨(some 38), none, .mov (.t 7)⟩,
  ⟨(some 39), none, .mov (.t 38)⟩,
  ⟨(some 40), (some (39, true)), .loadA 13 (.t 3)⟩,
  ⟨(some 41), (some (39, true)), .callP 25 [(.t 40)]⟩,
  ⟨(some 42), (some (39, true)), .un .not (.t 41)⟩,
  ⟨(some 43), (some (39, true)), .mov (.t 42)⟩,
  ⟨(some 44), (some (43, false)), .faddr 0 (.t 4)⟩,
  ⟨(some 45), (some (43, false)), .load1 (.t 44)⟩,
  ⟨(some 46), (some (43, false)), .bin .neq 22 (.t 45) (.c (.scal (.int .i64 2)))⟩,
  ⟨(some 47), (some (39, true)), .pick (.t 43) (.c (.scal (.bool true))) (.t 46)⟩,
  ⟨(some 48), none, .pick (.t 39) (.t 47) (.c (.scal (.bool false)))⟩,
  ⟨(some 6), none, .mov (.t 48)⟩])
 .ret)
 .skip))
 (.seq (.region false [⟨(some 50), none, .loadA 4 (.t 8)⟩,
  ⟨(some 51), none, .loadA 4 (.t 4)⟩,
  ⟨(some 52), none, .callP 30 [(.t 50), (.t 51)]⟩,
  ⟨(some 49), none, .mov (.t 52)⟩,
  ⟨(some 53), none, .ext (.t 49) 0⟩,
  ⟨(some 54), none, .ext (.t 49) 1⟩,
  ⟨(some 10), none, .alloc [(.scal (.string ⟨#[]⟩)), (.scal (.int .i64 0)), (.scal (.int .i64 0)), (.scal (.string ⟨#[]⟩)), (.scal (.int .i64 0)), (.list .full []), (.scal (.string ⟨#[]⟩)), (.scal (.int .i64 0)), (.scal (.int .i64 0)), (.scal (.int .i64 0)), (.scal (.string ⟨#[]⟩)), (.scal (.int .i64 0)), (.list .full [])]⟩,
  ⟨none, none, .store 13 (.t 10) (.t 53)⟩,
  ⟨(some 11), none, .mov (.t 54)⟩])
 (.seq (.region false [⟨(some 56), none, .loadA 4 (.t 8)⟩,
  ⟨(some 57), none, .callP 32 [(.t 56)]⟩,
  ⟨(some 55), none, .mov (.t 57)⟩,
  ⟨(some 58), none, .ext (.t 55) 0⟩,
  ⟨(some 59), none, .ext (.t 55) 1⟩,
  ⟨(some 12), none, .mov (.t 58)⟩,
  ⟨(some 13), none, .mov (.t 59)⟩])
 (.seq (.region false [⟨(some 61), none, .loadA 4 (.t 8)⟩,
  ⟨(some 62), none, .loadA 4 (.t 5)⟩,
  ⟨(some 63), none, .callP 30 [(.t 61), (.t 62)]⟩,
  ⟨(some 60), none, .mov (.t 63)⟩,
  ⟨(some 64), none, .ext (.t 60) 0⟩,
  ⟨(some 65), none, .ext (.t 60) 1⟩,
  ⟨(some 14), none, .alloc [(.scal (.string ⟨#[]⟩)), (.scal (.int .i64 0)), (.scal (.int .i64 0)), (.scal (.string ⟨#[]⟩)), (.scal (.int .i64 0)), (.list .full []), (.scal (.string ⟨#[]⟩)), (.scal (.int .i64 0)), (.scal (.int .i64 0)), (.scal (.int .i64 0)), (.scal (.string ⟨#[]⟩)), (.scal (.int .i64 0)), (.list .full [])]⟩,
  ⟨none, none, .store 13 (.t 14) (.t 64)⟩,
  ⟨(some 15), none, .mov (.t 65)⟩])
 (.seq (.seq (.region false [⟨(some 66), none, .loadA 4 (.t 4)⟩,
  ⟨(some 67), none, .loadA 4 (.t 5)⟩,
  ⟨(some 68), none, .callP 41 [(.t 66), (.t 67)]⟩])
 (.cond (.t 68) (.seq (.region false [⟨(some 69), none, .mov (.t 7)⟩,
  ⟨(some 70), none, .mov (.t 69)⟩,
  ⟨(some 71), (some (70, true)), .mov (.t 11)⟩,
  ⟨(some 72), (some (70, true)), .bin .eql 33 (.t 71) (.c (.scal (.int .i64 0)))⟩,
  ⟨(some 73), none, .pick (.t 70) (.t 72) (.c (.scal (.bool false)))⟩,
  ⟨(some 74), none, .mov (.t 73)⟩,
  ⟨(some 75), (some (74, true)), .mov (.t 13)⟩,
  ⟨(some 76), (some (74, true)), .bin .eql 33 (.t 75) (.c (.scal (.int .i64 0)))⟩,
  ⟨(some 77), none, .pick (.t 74) (.t 76) (.c (.scal (.bool false)))⟩,
  ⟨(some 78), none, .mov (.t 77)⟩,
  ⟨(some 79), (some (78, true)), .loadA 13 (.t 3)⟩,
  ⟨(some 80), (some (78, true)), .loadA 13 (.t 10)⟩,
  ⟨(some 81), (some (78, true)), .callP 27 [(.t 79), (.t 80)]⟩,
  ⟨(some 82), none, .pick (.t 78) (.t 81) (.c (.scal (.bool false)))⟩,
  ⟨(some 83), none, .mov (.t 82)⟩,
  ⟨(some 84), (some (83, true)), .mov (.t 12)⟩,
  ⟨(some 85), (some (83, true)), .faddr 0 (.t 3)⟩,
  ⟨(some 86), (some (83, true)), .load1 (.t 85)⟩,
  ⟨(some 87), (some (83, true)), .bin .eql 9 (.t 84) (.t 86)⟩,
  ⟨(some 88), none, .pick (.t 83) (.t 87) (.c (.scal (.bool false)))⟩,
  ⟨(some 89), none, .mov (.t 88)⟩,
  ⟨(some 90), (some (89, true)), .mov (.t 15)⟩,
  ⟨(some 91), (some (89, true)), .bin .eql 33 (.t 90) (.c (.scal (.int .i64 0)))⟩,
  ⟨(some 92), none, .pick (.t 89) (.t 91) (.c (.scal (.bool false)))⟩,
  ⟨(some 6), none, .mov (.t 92)⟩])
 .ret)
 .skip))
 (.seq (.region false [⟨(some 93), none, .mov (.t 7)⟩,
  ⟨(some 94), none, .mov (.t 93)⟩,
  ⟨(some 95), (some (94, true)), .mov (.t 11)⟩,
  ⟨(some 96), (some (94, true)), .bin .eql 33 (.t 95) (.c (.scal (.int .i64 0)))⟩,
  ⟨(some 97), none, .pick (.t 94) (.t 96) (.c (.scal (.bool false)))⟩,
  ⟨(some 98), none, .mov (.t 97)⟩,
  ⟨(some 99), (some (98, true)), .mov (.t 13)⟩,
  ⟨(some 100), (some (98, true)), .bin .eql 33 (.t 99) (.c (.scal (.int .i64 0)))⟩,
  ⟨(some 101), none, .pick (.t 98) (.t 100) (.c (.scal (.bool false)))⟩,
  ⟨(some 102), none, .mov (.t 101)⟩,
  ⟨(some 103), (some (102, true)), .loadA 13 (.t 3)⟩,
  ⟨(some 104), (some (102, true)), .loadA 13 (.t 10)⟩,
  ⟨(some 105), (some (102, true)), .callP 27 [(.t 103), (.t 104)]⟩,
  ⟨(some 106), none, .pick (.t 102) (.t 105) (.c (.scal (.bool false)))⟩,
  ⟨(some 107), none, .mov (.t 106)⟩,
  ⟨(some 108), (some (107, true)), .mov (.t 12)⟩,
  ⟨(some 109), (some (107, true)), .faddr 0 (.t 3)⟩,
  ⟨(some 110), (some (107, true)), .load1 (.t 109)⟩,
  ⟨(some 111), (some (107, true)), .bin .eql 9 (.t 108) (.t 110)⟩,
  ⟨(some 112), none, .pick (.t 107) (.t 111) (.c (.scal (.bool false)))⟩,
  ⟨(some 113), none, .mov (.t 112)⟩,
  ⟨(some 114), (some (113, true)), .mov (.t 15)⟩,
  ⟨(some 115), (some (113, true)), .bin .eql 33 (.t 114) (.c (.scal (.int .i64 20)))⟩,
  ⟨(some 116), none, .pick (.t 113) (.t 115) (.c (.scal (.bool false)))⟩,
  ⟨(some 117), none, .mov (.t 116)⟩,
  ⟨(some 118), (some (117, true)), .loadA 13 (.t 14)⟩,
  ⟨(some 119), (some (117, true)), .build [(.scal (.string ⟨#[]⟩)), (.scal (.int .i64 0)), (.scal (.int .i64 0)), (.scal (.string ⟨#[]⟩)), (.scal (.int .i64 0)), (.list .full []), (.scal (.string ⟨#[]⟩)), (.scal (.int .i64 0)), (.scal (.int .i64 0)), (.scal (.int .i64 0)), (.scal (.string ⟨#[]⟩)), (.scal (.int .i64 0)), (.list .full [])] []⟩,
  ⟨(some 120), (some (117, true)), .callP 27 [(.t 118), (.t 119)]⟩,
  ⟨(some 121), none, .pick (.t 117) (.t 120) (.c (.scal (.bool false)))⟩,
  ⟨(some 6), none, .mov (.t 121)⟩])
 .ret)))))))))))
theorem ok6 : fnRes Try.prog ⟨pfE, fun d => ([] : List Nat).contains d, fun d => ([] : List Nat).contains d⟩ Try.f6 = some (122, [.t 6], rc6) := by kernel_rfl
/-- legate/legateref08.Size -/
def rc73 : RCode := (.seq (.region false [⟨(some 1), none, .box (.t 0)⟩,
  ⟨(some 2), none, .mov (.c (.scal (.int .i64 0)))⟩])
 (.seq (.region false [⟨(some 3), none, .mov (.c (.scal (.int .i64 1)))⟩])
 (.seq (.seq (.region false [⟨(some 4), none, .mov (.c (.scal (.int .i64 0)))⟩])
 (.block 0 (.loop (.seq (.seq (.region false [⟨(some 5), none, .mov (.t 4)⟩,
  ⟨(some 6), none, .faddr 3 (.t 1)⟩,
  ⟨(some 7), none, .load1 (.t 6)⟩,
  ⟨(some 8), none, .lenL (.t 7)⟩,
  ⟨(some 9), none, .bin .lss 3 (.t 5) (.t 8)⟩])
 (.cond (.t 9) .skip
 (.exit 0)))
 (.seq (.block 1 (.region false [⟨(some 12), none, .mov (.t 3)⟩,
  ⟨(some 13), none, .faddr 3 (.t 1)⟩,
  ⟨(some 14), none, .load1 (.t 13)⟩,
  ⟨(some 15), none, .mov (.t 4)⟩,
  ⟨(some 16), none, .iaddr 4 (.t 14) (.t 15)⟩,
  ⟨(some 17), none, .loadA 4 (.t 16)⟩,
  ⟨(some 18), none, .callP 73 [(.t 17)]⟩,
  ⟨(some 19), none, .bin .add 3 (.t 12) (.t 18)⟩,
  ⟨(some 3), none, .mov (.t 19)⟩]))
 (.region false [⟨(some 10), none, .mov (.t 4)⟩,
  ⟨(some 11), none, .bin .add 3 (.t 10) (.c (.scal (.int .i64 1)))⟩,
  ⟨(some 4), none, .mov (.t 11)⟩]))))))
 (.seq (.region false [⟨(some 20), none, .mov (.t 3)⟩,
  ⟨(some 2), none, .mov (.t 20)⟩])
 .ret))))
theorem ok73 : fnRes Try.prog ⟨pfE, fun d => ([] : List Nat).contains d, fun d => ([] : List Nat).contains d⟩ Try.f73 = some (21, [.t 2], rc73) := by kernel_rfl
/-- legate/legateref08.Large -/
def rc21 : RCode := (.seq (.region false [⟨(some 2), none, .box (.t 0)⟩,
  ⟨(some 4), none, .mov (.c (.scal (.bool false)))⟩])
 (.seq (.region false [⟨(some 5), none, .loadA 4 (.t 2)⟩,
  ⟨(some 6), none, .callP 73 [(.t 5)]⟩,
  ⟨(some 7), none, .mov (.t 1)⟩,
  ⟨(some 8), none, .bin .gtr 3 (.t 6) (.t 7)⟩,
  ⟨(some 4), none, .mov (.t 8)⟩])
 .ret))
theorem ok21 : fnRes Try.prog ⟨pfE, fun d => ([] : List Nat).contains d, fun d => ([] : List Nat).contains d⟩ Try.f21 = some (9, [.t 4], rc21) := by kernel_rfl
/-- legate/legateref14.Large -/
def rc20 : RCode := (.seq (.region false [⟨(some 1), none, .box (.t 0)⟩,
  ⟨(some 2), none, .mov (.c (.scal (.bool false)))⟩])
 (.seq (.region false [⟨(some 3), none, .faddr 2 (.t 1)⟩,
  ⟨(some 4), none, .loadA 4 (.t 3)⟩,
  ⟨(some 5), none, .callP 21 [(.t 4), (.c (.scal (.int .i64 20)))]⟩,
  ⟨(some 6), none, .mov (.t 5)⟩,
  ⟨(some 7), (some (6, false)), .faddr 9 (.t 1)⟩,
  ⟨(some 8), (some (6, false)), .loadA 4 (.t 7)⟩,
  ⟨(some 9), (some (6, false)), .callP 21 [(.t 8), (.c (.scal (.int .i64 300)))]⟩,
  ⟨(some 10), none, .pick (.t 6) (.c (.scal (.bool true))) (.t 9)⟩,
  ⟨(some 11), none, .mov (.t 10)⟩,
  ⟨(some 12), (some (11, false)), .faddr 0 (.t 1)⟩,
  ⟨(some 13), (some (11, false)), .load1 (.t 12)⟩,
  ⟨(some 14), (some (11, false)), .bi .len #[9] 3 [(.t 13)]⟩,
  ⟨(some 15), (some (11, false)), .bin .gtr 3 (.t 14) (.c (.scal (.int .i64 100)))⟩,
  ⟨(some 16), none, .pick (.t 11) (.c (.scal (.bool true))) (.t 15)⟩,
  ⟨(some 17), none, .mov (.t 16)⟩,
  ⟨(some 18), (some (17, false)), .faddr 6 (.t 1)⟩,
  ⟨(some 19), (some (17, false)), .load1 (.t 18)⟩,
  ⟨(some 20), (some (17, false)), .bi .len #[9] 3 [(.t 19)]⟩,
  ⟨(some 21), (some (17, false)), .bin .gtr 3 (.t 20) (.c (.scal (.int .i64 100)))⟩,
  ⟨(some 22), none, .pick (.t 17) (.c (.scal (.bool true))) (.t 21)⟩,
  ⟨(some 2), none, .mov (.t 22)⟩])
 .ret))
theorem ok20 : fnRes Try.prog ⟨pfE, fun d => ([] : List Nat).contains d, fun d => ([] : List Nat).contains d⟩ Try.f20 = some (23, [.t 2], rc20) := by kernel_rfl
end Go.Pv

set_option linter.unusedSimpArgs false
set_option linter.unusedVariables false
namespace Go.Pv
open Go.Proofs
def sgn (b : Bool) : Int := if b then -1 else 1
def strLt (a b : ByteArray) : Bool := Op.bytesLess a.toList b.toList
mutual
def ordR : Term → Term → Int
  | .mk k s n l, .mk k' s' n' l' =>
    if k != k' then sgn (decide (k < k')) else if !seqB s s' then sgn (strLt s s') else if n != n' then sgn (decide (n < n')) else ordRL l l'
def ordRL : List Term → List Term → Int
  | x :: l, y :: m => if ordR x y != 0 then ordR x y else ordRL l m
  | [], [] => 0
  | [], _ :: _ => sgn true
  | _ :: _, [] => sgn false
end
theorem sgn_ne (b : Bool) : sgn b ≠ 0 := by cases b <;> decide
mutual
theorem ordR_zero : ∀ {a b : Term}, ordR a b = 0 ↔ a = b
  | .mk k s n l, .mk k' s' n' l' => by
    have ih := ordRL_zero (l := l) (m := l')
    simp only [ordR, Term.mk.injEq]
    split
    · rename_i h; simp at h; simp [sgn_ne, h]
    · rename_i h; simp at h
      split
      · rename_i h2; simp only [Bool.not_eq_true', ← Bool.not_eq_true, seqB_iff] at h2; simp [sgn_ne, h2]
      · rename_i h2; simp only [Bool.not_eq_true', Bool.not_eq_false, seqB_iff] at h2
        split
        · rename_i h3; simp at h3; simp [sgn_ne, h3]
        · rename_i h3; simp at h3; simp [h, h2, h3, ih]
theorem ordRL_zero : ∀ {l m : List Term}, ordRL l m = 0 ↔ l = m
  | x :: l, y :: m => by
    have h1 := ordR_zero (a := x) (b := y)
    have h2 := ordRL_zero (l := l) (m := m)
    simp only [ordRL, List.cons.injEq]
    split
    · rename_i h; simp at h; simp [h, ← h1]
    · rename_i h; simp at h; simp [h1.1 h, h2]
  | [], [] => by simp [ordRL]
  | [], _ :: _ => by simp [ordRL, sgn_ne]
  | _ :: _, [] => by simp [ordRL, sgn_ne]
end
end Go.Pv

set_option linter.unusedSimpArgs false
set_option linter.unusedVariables false
namespace Go.Pv
open Go.Proofs
mutual
def sizeR : Term → Int
  | .mk _ _ _ l => sizeRL 1 l
def sizeRL (acc : Int) : List Term → Int
  | [] => acc
  | x :: l => sizeRL (IntKind.i64.wrap (acc + sizeR x)) l
end
theorem sizeRL_at {l : List Term} {i : Nat} {x : Term} {acc : Int} (hx : nth l i = some x) : sizeRL acc (l.drop i) = sizeRL (IntKind.i64.wrap (acc + sizeR x)) (l.drop (i + 1)) := by
  have e1 := List.getElem?_eq_some_iff.1 hx
  rw [List.drop_eq_getElem_cons e1.1, e1.2]
  rfl
set_option maxRecDepth 10000 in
theorem c73 : ∀ a : Term, PPure Try.prog 73 [enc a] (.scal (.int .i64 (sizeR a)))
  | .mk k s n l => by
    refine pure_ok_of hmix Try.func73 ok73 (by simp) fun hok => ?_
    have hlen : l.length ≤ lenB := by simp only [okBL] at hok; exact ((okB_enc _).1 hok.1).2.1
    simp -implicitDefEqProofs only [rc73, zzfp, zzft, zzff, zzju, zzjk, zzbd, zziq, zzdn, zzdm, zzhz, zzge, List.length_nil, List.nil_append, Nat.reduceSub, if_true, zzde, k_mk, s_mk, n_mk, l_mk]
    refine go_loop (fun n0 st => ∃ i acc, i ≤ l.length ∧ n0 = l.length - i ∧ st.env 4 = .v (.scal (.int .i64 ((i : Nat) : Int))) ∧ st.env 3 = .v (.scal (.int .i64 acc)) ∧ st.env 1 = .l 0 0 ∧
      st.L = [[.scal (.int .i64 k), .scal (.string s), .scal (.int .i64 n), .list .foreign (encL l)]] ∧ sizeRL 1 l = sizeRL acc (l.drop i)) l.length ?_ ?_
    · exact ⟨0, 1, by omega, by omega, rfl, rfl, rfl, rfl, rfl⟩
    rintro n0 env L H ⟨i, acc, hi, rfl, h4, h3, h1, rfl, ho⟩
    simp only at h4 h3 h1
    simp -implicitDefEqProofs only [h4, h1, zzfp, zzft, zzfh, zzju, zzjg, zzcd, zziq, zzil, zzic, zzif, zzij, zzdn, zzlb, zzhz, zzhq, zzhn, zzje, zzgk, zzdl, zzdv, zzgp, zzkb, zzlc, zzaz, zzar, zzai, Option.map_some, Nat.reduceSub, Nat.reduceEqDiff, Nat.zero_add, if_true, if_false, zzcw, Nat.add_one_ne_zero]
    refine br_intro (fun b1 => ?_) (fun b1 => ?_)
    · have hlt : i < l.length := by simpa using b1
      obtain ⟨x, hx⟩ : ∃ x, nth l i = some x := ⟨_, nth_of hlt⟩
      have hxm : x ∈ l := List.mem_of_getElem? hx
      simp -implicitDefEqProofs only [h4, h3, h1, hx, zzfu, zzfp, zzft, zzff, zzjn, zzjg, zziq, zzil, zzim, zzif, zzig, zzdn, zzlb, zzhz, zzhq, zzhn, zzky, zzkx, zzce, zzku, zzje, zzjd, zzgk, zzgl, zzdl, zzdi, zzib, zzia, zzhv, zzdv, zzaf, zzae, zzgc, zzcf, List.map_cons, List.map_nil, List.length_cons, List.length_nil, Option.map_some, Nat.reduceAdd, Nat.reduceSub, Nat.reduceEqDiff, Nat.zero_add, if_true, if_false, fgL, zzdf, zzcx, zzhh, Int.toNat_natCast, Nat.add_one_ne_zero, zzhu, zzde, Term.eta, zzfc]
      refine qcall_intro (c73 x) ?_
      simp -implicitDefEqProofs only [h4, h3, h1, wrap_add hlt hlen, zzfp, zzfe, zzju, zzjg, zziq, zzic, zzdn, zzdm, zzlb, zzhz, zzkb, zzlc, zzaz, zzal, zzaj, Nat.reduceEqDiff, if_true, if_false, true_and, Bool.true_and, zzfl]
      refine ⟨_, ?_, i + 1, _, hlt, rfl, rfl, rfl, by rw [ho, sizeRL_at hx]⟩
      omega
    · have he : i = l.length := by
        have : ¬ i < l.length := by simpa using b1
        omega
      simp -implicitDefEqProofs only [h3, zzfp, zzft, zzfq, zzfj, zzdp, zzdo, zzju, zziq, zzeb, zzdh, zziw, zzix, zzit, zziz, zzdn, zzlb, zzhz, Nat.reduceEqDiff, if_true, if_false, PV.fg, zzdq]
      simp only [sizeR]
      rw [ho, he, List.drop_of_length_le (Nat.le_refl _)]
      rfl
termination_by a => SizeOf.sizeOf a
decreasing_by
  have := Term.lt_of_mem hxm
  simp only [Term.mk.sizeOf_spec]
  omega
theorem c21 (a : Term) (n : Int) : PPure Try.prog 21 [enc a, .scal (.int .i64 n)] (.scal (.bool (decide (n < sizeR a)))) := by
  refine pure_of hmix Try.func21 ok21 (by simp) ?_
  try simp -implicitDefEqProofs only [rc21, zzfp, zzft, zzju, zzjk, zzbd, zzjn, zzjg, zziq, zzim, zzdn, zzdm, zzlb, zzhz, zzge, zzhq, zzhn, zzky, zzkx, zzce, zzku, zzje, zzgl, zzdi, zzib, zzia, zzhv, List.map_cons, List.map_nil, List.length_nil, List.nil_append, Option.map_some, Nat.reduceAdd, Nat.reduceSub, Nat.reduceEqDiff, if_true, if_false, fgL, zzdf, Nat.add_one_ne_zero, zzhu, zzde, Term.eta, zzfc]
  repeat' (first
    | (refine br_intro (fun h => ?_) (fun h => ?_) <;> try simp -implicitDefEqProofs only [zzfo])
    | (refine qcall_intro (c73 _) ?_; try simp -implicitDefEqProofs only [zzfq, zzju, zzjg, zziq, zzic, zzeb, zzdh, zziw, zzix, zzit, zziz, zzdn, zzlb, zzhz, zzge, zzkb, zzlc, zzaz, zzap, zzai, Nat.reduceSub, Nat.reduceEqDiff, if_true, if_false, PV.fg, Nat.add_one_ne_zero]))
end Go.Pv

set_option linter.unusedSimpArgs false
set_option linter.unusedVariables false
namespace Go.Pv
open Go.Proofs
def largeK (k : Tk) : Bool := decide (20 < sizeR k.key) || (decide (300 < sizeR k.auth) || (decide (100 < (k.service.size : Int)) || decide (100 < (k.client.size : Int))))
set_option maxRecDepth 10000 in
theorem c20 (k : Tk) : PPure Try.prog 20 [encK k] (.scal (.bool (largeK k))) := by
  refine pure_of hmix Try.func20 ok20 (by simp) ?_
  try simp -implicitDefEqProofs only [rc20, zzfp, zzft, zzju, zzjk, zzbd, zzjn, zzjg, zziq, zzim, zzif, zzdn, zzdm, zzlb, zzhz, zzge, zzhq, zzhn, zzky, zzkx, zzce, zzku, zzje, zzgl, zzdi, zzib, zzia, zzhv, zzdv, List.map_cons, List.map_nil, List.length_nil, List.nil_append, Option.map_some, Nat.reduceAdd, Nat.reduceSub, Nat.reduceEqDiff, Nat.zero_add, if_true, if_false, PV.fg, fgL, zzdf, Nat.add_one_ne_zero, zzhu, Term.eta, zzfc, zzcr]
  repeat' (first
    | (refine br_intro (fun h => ?_) (fun h => ?_) <;> try simp -implicitDefEqProofs only [h, biE_len u9, zzfq, zzju, zzjr, zzjv, zzjn, zzjg, zzcd, zzfy, zziq, zzil, zzim, zzic, zzif, zzeb, zzdh, zziw, zzix, zzit, zziz, zzdn, zzdm, zzlb, zzhz, zzge, zzhq, zzhn, zzky, zzkx, zzce, zzku, zzje, zzgk, zzgl, zzdl, zzdi, zzib, zzia, zzhv, zzdv, zzkb, zzlc, zzaz, zzap, zzai, br_true, br_false, List.map_cons, List.map_nil, Option.map_some, Nat.reduceAdd, Nat.reduceSub, Nat.reduceEqDiff, Nat.add_zero, Nat.zero_add, if_true, if_false, PV.fg, fgL, zzdf, r_b, Nat.add_one_ne_zero, zzhu, Term.eta, zzfc])
    | (refine qcall_intro (c21 _ _) ?_; try simp -implicitDefEqProofs only [zzjr, zzjv, zzcd, zzfy, zziq, zzdn, zzlb, zzhz, zzge, br_false, Nat.reduceSub, Nat.reduceEqDiff, if_true, if_false, Nat.add_one_ne_zero]))
  all_goals simp only [largeK, *, Bool.true_and, Bool.false_and, Bool.and_true, Bool.and_false, Bool.true_or, Bool.false_or, Bool.or_true, Bool.or_false, Bool.not_true, Bool.not_false, Bool.not_not, decide_true, decide_false, if_true, if_false, Bool.false_eq_true, reduceIte, and_self, and_true, true_and, beq_self_eq_true, bne_self_eq_false, decide_not]
end Go.Pv

set_option linter.unusedSimpArgs false
set_option linter.unusedVariables false
namespace Go.Pv
open Go.Proofs
theorem sameT_self (a : Term) : sameT a a = true := sameT_iff.2 rfl
theorem seqB_self (a : ByteArray) : seqB a a = true := seqB_iff.2 rfl
theorem sameK_self (k : Tk) : sameK k k = true := by simp [sameK, sameT_self, seqB_self]
theorem emp0' : emp ⟨#[]⟩ = true := seqB_iff.2 rfl
theorem takeT_msg (a b : ByteArray) (l : List Term) (n : Int) : takeT (msgT a l) b n = if a = b ∧ n = (l.length : Int) then (l, 0) else ([], 50) := by
  unfold takeT msgT lstT
  simp only [Term.k, Term.s, Term.n, Term.l, emp0', hd, List.drop_succ_cons, List.drop_zero, List.length_cons]
  have e1 : ((((l.length + 1 : Nat) : Int) - 1) != n) = (n != (l.length : Int)) := by
    rw [Bool.eq_iff_iff, bne_iff_ne, bne_iff_ne]; omega
  have e2 : sameT (nmT a) (nmT b) = decide (a = b) := by
    rw [Bool.eq_iff_iff, sameT_iff, decide_eq_true_eq]; simp [nmT]
  rw [e1, e2]
  by_cases h1 : a = b
  · by_cases h2 : n = (l.length : Int)
    · have : ¬ n < 0 := by omega
      simp [h1, h2, this]
    · simp [h1, h2]
  · simp [h1]
end Go.Pv


import Derived.Test.YtlgaolpkeejmdaaGreatMC
import Derived.Test.YtlgaolpkeejmdaaGreatMW
import Derived.Test.YtlgaolpkeejmdaaGreatMI
namespace Go.Pv
open Go.Proofs
/-- legate/legatelaw16.LoginSerial -/
def rc6 : RCode := (.seq (.region false [⟨(some 4), none, .mov (.c (.scal (.bool false)))⟩])
 (.seq (.region false [⟨(some 20), none, .callP 24 []⟩,
  ⟨(some 5), none, .mov (.t 20)⟩])
 (.seq (.seq (.region false [⟨(some 21), none, .mov (.t 5)⟩,
  ⟨(some 22), none, .un .not (.t 21)⟩])
 (.cond (.t 22) (.seq (.region false [⟨(some 4), none, .mov (.c (.scal (.bool false)))⟩])
 .ret)
 .skip))
 (.seq (.region false [⟨(some 23), none, .mov (.t 0)⟩,
  ⟨(some 24), none, .callP 30 [(.t 23)]⟩,
  ⟨(some 6), none, .mov (.t 24)⟩])
 (.seq (.seq (.region false [⟨(some 25), none, .mov (.t 6)⟩,
  ⟨(some 26), none, .un .not (.t 25)⟩,
  ⟨(some 27), none, .mov (.t 26)⟩,
  ⟨(some 28), (some (27, false)), .mov (.t 1)⟩,
  ⟨(some 29), (some (27, false)), .lenL (.t 28)⟩,
  ⟨(some 30), (some (27, false)), .bin .gtr 3 (.t 29) (.c (.scal (.int .i64 20)))⟩,
  ⟨(some 31), none, .pick (.t 27) (.c (.scal (.bool true))) (.t 30)⟩])
 (.cond (.t 31) (.seq (.region false [⟨(some 32), none, .mov (.t 5)⟩,
  ⟨(some 4), none, .mov (.t 32)⟩])
 .ret)
 .skip))
 (.seq (.seq (.region false [⟨(some 7), none, .mov (.c (.scal (.int .i64 0)))⟩])
 (.block 0 (.loop (.seq (.seq (.region false [⟨(some 33), none, .mov (.t 7)⟩,
  ⟨(some 34), none, .mov (.t 1)⟩,
  ⟨(some 35), none, .lenL (.t 34)⟩,
  ⟨(some 36), none, .bin .lss 3 (.t 33) (.t 35)⟩])
 (.cond (.t 36) .skip
 (.exit 0)))
 (.seq (.block 1 (.seq (.region true [⟨(some 39), none, .mov (.t 1)⟩,
  ⟨(some 40), none, .mov (.t 7)⟩,
  ⟨(some 41), none, .iaddr 9 (.t 39) (.t 40)⟩,
  ⟨(some 42), none, .faddr 5 (.t 41)⟩,
  ⟨(some 43), none, .load1 (.t 42)⟩,
  ⟨(some 44), none, .lenL (.t 43)⟩,
  ⟨(some 45), none, .bin .gtr 3 (.t 44) (.c (.scal (.int .i64 30)))⟩,
  ⟨(some 46), none, .mov (.t 45)⟩,
  ⟨(some 47), (some (46, false)), .mov (.t 1)⟩,
  ⟨(some 48), (some (46, false)), .mov (.t 7)⟩,
  ⟨(some 49), (some (46, false)), .iaddr 9 (.t 47) (.t 48)⟩,
  ⟨(some 50), (some (46, false)), .faddr 0 (.t 49)⟩,
  ⟨(some 51), (some (46, false)), .load1 (.t 50)⟩,
  ⟨(some 52), (some (46, false)), .bi .len #[9] 3 [(.t 51)]⟩,
  ⟨(some 53), (some (46, false)), .mov (.t 1)⟩,
  ⟨(some 54), (some (46, false)), .mov (.t 7)⟩,
  ⟨(some 55), (some (46, false)), .iaddr 9 (.t 53) (.t 54)⟩,
  ⟨(some 56), (some (46, false)), .faddr 1 (.t 55)⟩,
  ⟨(some 57), (some (46, false)), .load1 (.t 56)⟩,
  ⟨(some 58), (some (46, false)), .bi .len #[9] 3 [(.t 57)]⟩,
  ⟨(some 59), (some (46, false)), .bin .add 3 (.t 52) (.t 58)⟩,
  ⟨(some 60), (some (46, false)), .bin .gtr 3 (.t 59) (.c (.scal (.int .i64 200)))⟩,
  ⟨(some 61), none, .pick (.t 46) (.c (.scal (.bool true))) (.t 60)⟩])
 (.cond (.t 61) (.seq (.region false [⟨(some 62), none, .mov (.t 5)⟩,
  ⟨(some 4), none, .mov (.t 62)⟩])
 .ret)
 .skip)))
 (.region false [⟨(some 37), none, .mov (.t 7)⟩,
  ⟨(some 38), none, .bin .add 3 (.t 37) (.c (.scal (.int .i64 1)))⟩,
  ⟨(some 7), none, .mov (.t 38)⟩]))))))
 (.seq (.region false [⟨(some 64), none, .mov (.t 0)⟩,
  ⟨(some 65), none, .callF 31 [(.t 64)]⟩,
  ⟨(some 63), none, .mov (.t 65)⟩,
  ⟨(some 66), none, .ext (.t 63) 0⟩,
  ⟨(some 67), none, .ext (.t 63) 1⟩,
  ⟨(some 8), none, .mov (.t 66)⟩,
  ⟨(some 9), none, .mov (.t 67)⟩])
 (.seq (.region false [⟨(some 68), none, .mov (.t 8)⟩,
  ⟨(some 69), none, .callF 32 [(.t 68), (.c (.scal (.int .i64 5)))]⟩,
  ⟨(some 10), none, .mov (.t 69)⟩])
 (.seq (.region false [⟨(some 11), none, .mov (.c (.scal (.int .i64 0)))⟩])
 (.seq (.seq (.region false [⟨(some 12), none, .mov (.c (.scal (.int .i64 0)))⟩])
 (.block 2 (.loop (.seq (.seq (.region false [⟨(some 70), none, .mov (.t 12)⟩,
  ⟨(some 71), none, .mov (.t 1)⟩,
  ⟨(some 72), none, .lenL (.t 71)⟩,
  ⟨(some 73), none, .bin .lss 3 (.t 70) (.t 72)⟩])
 (.cond (.t 73) .skip
 (.exit 2)))
 (.seq (.block 3 (.seq (.region false [⟨(some 77), none, .mov (.t 10)⟩,
  ⟨(some 78), none, .mov (.t 1)⟩,
  ⟨(some 79), none, .mov (.t 12)⟩,
  ⟨(some 80), none, .iaddr 9 (.t 78) (.t 79)⟩,
  ⟨(some 81), none, .loadA 9 (.t 80)⟩,
  ⟨(some 82), none, .callF 39 [(.t 77), (.t 81)]⟩,
  ⟨(some 76), none, .mov (.t 82)⟩,
  ⟨(some 83), none, .ext (.t 76) 0⟩,
  ⟨(some 84), none, .ext (.t 76) 1⟩,
  ⟨(some 85), none, .ext (.t 76) 2⟩,
  ⟨(some 13), none, .alloc [(.scal (.int .i64 0)), (.scal (.string ⟨#[]⟩)), (.scal (.int .i64 0)), (.list .full [])]⟩,
  ⟨(some 14), none, .alloc [(.scal (.int .i64 0)), (.scal (.string ⟨#[]⟩)), (.scal (.int .i64 0)), (.list .full [])]⟩,
  ⟨none, none, .store 4 (.t 13) (.t 83)⟩,
  ⟨none, none, .store 4 (.t 14) (.t 84)⟩,
  ⟨(some 15), none, .mov (.t 85)⟩])
 (.seq (.seq (.region false [⟨(some 86), none, .mov (.t 15)⟩,
  ⟨(some 87), none, .bin .neq 51 (.t 86) (.c (.scal (.int .i64 0)))⟩])
 (.cond (.t 87) (.seq (.seq (.region false [⟨(some 88), none, .loadA 4 (.t 13)⟩,
  ⟨(some 89), none, .build [(.scal (.int .i64 0)), (.scal (.string ⟨#[]⟩)), (.scal (.int .i64 0)), (.list .full [])] []⟩,
  ⟨(some 90), none, .callP 35 [(.t 88), (.t 89)]⟩,
  ⟨(some 91), none, .un .not (.t 90)⟩,
  ⟨(some 92), none, .mov (.t 91)⟩,
  ⟨(some 93), (some (92, false)), .loadA 4 (.t 14)⟩,
  ⟨(some 94), (some (92, false)), .build [(.scal (.int .i64 0)), (.scal (.string ⟨#[]⟩)), (.scal (.int .i64 0)), (.list .full [])] []⟩,
  ⟨(some 95), (some (92, false)), .callP 35 [(.t 93), (.t 94)]⟩,
  ⟨(some 96), (some (92, false)), .un .not (.t 95)⟩,
  ⟨(some 97), none, .pick (.t 92) (.c (.scal (.bool true))) (.t 96)⟩])
 (.cond (.t 97) (.seq (.region false [⟨(some 4), none, .mov (.c (.scal (.bool false)))⟩])
 .ret)
 .skip))
 (.exit 3))
 .skip))
 (.seq (.region false [⟨(some 99), none, .mov (.t 8)⟩,
  ⟨(some 100), none, .mov (.t 1)⟩,
  ⟨(some 101), none, .mov (.t 12)⟩,
  ⟨(some 102), none, .iaddr 9 (.t 100) (.t 101)⟩,
  ⟨(some 103), none, .faddr 2 (.t 102)⟩,
  ⟨(some 104), none, .load1 (.t 103)⟩,
  ⟨(some 105), none, .callF 37 [(.t 99), (.t 104)]⟩,
  ⟨(some 98), none, .mov (.t 105)⟩,
  ⟨(some 106), none, .ext (.t 98) 0⟩,
  ⟨(some 107), none, .ext (.t 98) 1⟩,
  ⟨(some 16), none, .alloc [(.scal (.int .i64 0)), (.scal (.string ⟨#[]⟩)), (.scal (.int .i64 0)), (.list .full [])]⟩,
  ⟨none, none, .store 4 (.t 16) (.t 106)⟩,
  ⟨(some 17), none, .mov (.t 107)⟩])
 (.seq (.region false [⟨(some 109), none, .loadA 4 (.t 13)⟩,
  ⟨(some 110), none, .loadA 4 (.t 16)⟩,
  ⟨(some 111), none, .callP 40 [(.t 109), (.t 110)]⟩,
  ⟨(some 108), none, .mov (.t 111)⟩,
  ⟨(some 112), none, .ext (.t 108) 0⟩,
  ⟨(some 113), none, .ext (.t 108) 1⟩,
  ⟨(some 18), none, .alloc [(.scal (.string ⟨#[]⟩)), (.scal (.int .i64 0)), (.scal (.int .i64 0)), (.scal (.string ⟨#[]⟩)), (.scal (.int .i64 0)), (.list .full []), (.scal (.string ⟨#[]⟩)), (.scal (.int .i64 0)), (.scal (.int .i64 0)), (.scal (.int .i64 0)), (.scal (.string ⟨#[]⟩)), (.scal (.int .i64 0)), (.list .full [])]⟩,
  ⟨none, none, .store 13 (.t 18) (.t 112)⟩,
  ⟨(some 19), none, .mov (.t 113)⟩])
 (.seq (.seq (.region true [⟨(some 114), none, .faddr 0 (.t 14)⟩,
  ⟨(some 115), none, .load1 (.t 114)⟩,
  ⟨(some 116), none, .bin .neq 22 (.t 115) (.c (.scal (.int .i64 2)))⟩,
  ⟨(some 117), none, .mov (.t 116)⟩,
  ⟨(some 118), (some (117, false)), .faddr 1 (.t 14)⟩,
  ⟨(some 119), (some (117, false)), .load1 (.t 118)⟩,
  ⟨(some 120), (some (117, false)), .bin .neq 9 (.t 119) (.c (.scal (.string ⟨#[]⟩)))⟩,
  ⟨(some 121), none, .pick (.t 117) (.c (.scal (.bool true))) (.t 120)⟩,
  ⟨(some 122), none, .mov (.t 121)⟩,
  ⟨(some 123), (some (122, false)), .faddr 2 (.t 14)⟩,
  ⟨(some 124), (some (122, false)), .load1 (.t 123)⟩,
  ⟨(some 125), (some (122, false)), .mov (.t 11)⟩,
  ⟨(some 126), (some (122, false)), .bin .leq 3 (.t 124) (.t 125)⟩,
  ⟨(some 127), none, .pick (.t 122) (.c (.scal (.bool true))) (.t 126)⟩,
  ⟨(some 128), none, .mov (.t 127)⟩,
  ⟨(some 129), (some (128, false)), .mov (.t 17)⟩,
  ⟨(some 130), (some (128, false)), .bin .neq 51 (.t 129) (.c (.scal (.int .i64 0)))⟩,
  ⟨(some 131), none, .pick (.t 128) (.c (.scal (.bool true))) (.t 130)⟩,
  ⟨(some 132), none, .mov (.t 131)⟩,
  ⟨(some 133), (some (132, false)), .mov (.t 19)⟩,
  ⟨(some 134), (some (132, false)), .bin .neq 51 (.t 133) (.c (.scal (.int .i64 0)))⟩,
  ⟨(some 135), none, .pick (.t 132) (.c (.scal (.bool true))) (.t 134)⟩,
  ⟨(some 136), none, .mov (.t 135)⟩,
  ⟨(some 137), (some (136, false)), .faddr 2 (.t 18)⟩,
  ⟨(some 138), (some (136, false)), .loadA 4 (.t 137)⟩,
  ⟨(some 139), (some (136, false)), .loadA 4 (.t 14)⟩,
  ⟨(some 140), (some (136, false)), .callP 35 [(.t 138), (.t 139)]⟩,
  ⟨(some 141), (some (136, false)), .un .not (.t 140)⟩,
  ⟨(some 142), none, .pick (.t 136) (.c (.scal (.bool true))) (.t 141)⟩,
  ⟨(some 143), none, .mov (.t 142)⟩,
  ⟨(some 144), (some (143, false)), .faddr 6 (.t 18)⟩,
  ⟨(some 145), (some (143, false)), .load1 (.t 144)⟩,
  ⟨(some 146), (some (143, false)), .mov (.t 1)⟩,
  ⟨(some 147), (some (143, false)), .mov (.t 12)⟩,
  ⟨(some 148), (some (143, false)), .iaddr 9 (.t 146) (.t 147)⟩,
  ⟨(some 149), (some (143, false)), .faddr 1 (.t 148)⟩,
  ⟨(some 150), (some (143, false)), .load1 (.t 149)⟩,
  ⟨(some 151), (some (143, false)), .bin .neq 9 (.t 145) (.t 150)⟩,
  ⟨(some 152), none, .pick (.t 143) (.c (.scal (.bool true))) (.t 151)⟩,
  ⟨(some 153), none, .mov (.t 152)⟩,
  ⟨(some 154), (some (153, false)), .faddr 7 (.t 18)⟩,
  ⟨(some 155), (some (153, false)), .loadA 2 (.t 154)⟩,
  ⟨(some 156), (some (153, false)), .mov (.t 1)⟩,
  ⟨(some 157), (some (153, false)), .mov (.t 12)⟩,
  ⟨(some 158), (some (153, false)), .iaddr 9 (.t 156) (.t 157)⟩,
  ⟨(some 159), (some (153, false)), .faddr 7 (.t 158)⟩,
  ⟨(some 160), (some (153, false)), .loadA 2 (.t 159)⟩,
  ⟨(some 161), (some (153, false)), .bin .neq 46 (.t 155) (.t 160)⟩,
  ⟨(some 162), none, .pick (.t 153) (.c (.scal (.bool true))) (.t 161)⟩])
 (.cond (.t 162) (.seq (.region false [⟨(some 4), none, .mov (.c (.scal (.bool false)))⟩])
 .ret)
 .skip))
 (.region false [⟨(some 163), none, .faddr 2 (.t 14)⟩,
  ⟨(some 164), none, .load1 (.t 163)⟩,
  ⟨(some 11), none, .mov (.t 164)⟩])))))))
 (.region false [⟨(some 74), none, .mov (.t 12)⟩,
  ⟨(some 75), none, .bin .add 3 (.t 74) (.c (.scal (.int .i64 1)))⟩,
  ⟨(some 12), none, .mov (.t 75)⟩]))))))
 (.seq (.region false [⟨(some 165), none, .mov (.t 5)⟩,
  ⟨(some 4), none, .mov (.t 165)⟩])
 .ret)))))))))))
theorem ok6 : fnRes Tryz.prog ⟨pf2, fun d => ([] : List Nat).contains d, fun d => ([] : List Nat).contains d⟩ Tryz.f6 = some (166, [.t 4], rc6) := by kernel_rfl
end Go.Pv

set_option linter.unusedSimpArgs false
set_option linter.unusedVariables false
namespace Go.Pv
open Go.Proofs
theorem pair_neq {P : Program} {t ti : TypeId} {f0 f1 : Field} (hu : pureP P (underlying t) = some (.struct #[f0, f1])) (hi : pureP P (underlying ti) = some (.int .i64))
    (e1 : f0.type = ti) (e2 : f1.type = ti) (e5 : (f0.name == "_") = false) (e6 : (f1.name == "_") = false) (hs : P.stoodInHeld t = false)
    (p0 : ∀ a b : Int, pureP P (part ti #[.int .i64 a, .int .i64 b] f0.offset) = some (.int .i64 a)) (p1 : ∀ a b : Int, pureP P (part ti #[.int .i64 a, .int .i64 b] f1.offset) = some (.int .i64 b))
    (hg : P.eqGuardType P.depth t = false)
    (a b c d : Int) : bin2 P .neq t (.agg #[.int .i64 a, .int .i64 b]) (.agg #[.int .i64 c, .int .i64 d]) = some (.bool (!(a == c && b == d))) := by
  show pureP P (do eqGuard .neq t (.const (.agg #[.int .i64 a, .int .i64 b])) (.const (.agg #[.int .i64 c, .int .i64 d])) (.agg #[.int .i64 a, .int .i64 b]) (.agg #[.int .i64 c, .int .i64 d]); binOp .neq t (.agg #[.int .i64 a, .int .i64 b]) (.agg #[.int .i64 c, .int .i64 d]) : Sem Value) = _
  have hguard : pureP P (eqGuard .neq t (.const (.agg #[.int .i64 a, .int .i64 b])) (.const (.agg #[.int .i64 c, .int .i64 d])) (.agg #[.int .i64 a, .int .i64 b]) (.agg #[.int .i64 c, .int .i64 d])) = some () := by
    show pureP P (program >>= fun p => program >>= fun q => if (!p.eqGuardType q.depth t) = true then pure () else _) = _
    refine pb (a := P) rfl (pb (a := P) rfl ?_)
    rw [hg]; rfl
  rw [pureP_bind hguard]
  show pureP P (Op.equal t (.agg #[.int .i64 a, .int .i64 b]) (.agg #[.int .i64 c, .int .i64 d]) >>= fun r => (pure (.bool (!r)) : Sem Value)) = _
  have hEq : ∀ x y : Int, pureP P (Op.equalIn 9999 ti (.int .i64 x) (.int .i64 y)) = some (x == y) := by
    intro x y
    show pureP P (Op.equalIn (9998 + 1) ti _ _) = _
    unfold Op.equalIn
    rw [pureP_bind hi]; rfl
  have n0 : f0.name ≠ "_" := by simpa using e5
  have n1 : f1.name ≠ "_" := by simpa using e6
  have this : pureP P (Op.equal t (.agg #[.int .i64 a, .int .i64 b]) (.agg #[.int .i64 c, .int .i64 d])) = some (a == c && b == d) := by
    unfold Op.equal Op.maxDepth
    show pureP P (Op.equalIn (9999 + 1) t _ _) = _
    unfold Op.equalIn
    rw [pureP_bind hu]
    simp only
    refine pb (a := P) rfl ?_
    rw [hs]
    simp only [Bool.false_eq_true, if_false, List.forIn_toArray, List.forIn_cons, List.forIn_nil, if_pos n0, if_pos n1, e1, e2]
    have h0 := hEq a c
    have h1 := hEq b d
    cases hac : (a == c) with
    | false =>
      rw [hac] at h0
      refine pb (pb (pb (p0 a b) (pb (p0 c d) (pb h0 rfl))) rfl) rfl
    | true =>
      rw [hac] at h0
      cases hbd : (b == d) with
      | false =>
        rw [hbd] at h1
        refine pb (pb (pb (p0 a b) (pb (p0 c d) (pb h0 rfl))) (pb (pb (p1 a b) (pb (p1 c d) (pb h1 rfl))) rfl)) rfl
      | true =>
        rw [hbd] at h1
        refine pb (pb (pb (p0 a b) (pb (p0 c d) (pb h0 rfl))) (pb (pb (p1 a b) (pb (p1 c d) (pb h1 rfl))) rfl)) rfl
  rw [pureP_bind this]; rfl
theorem span_neq (a b : Sp) : binE Tryz.prog .neq 46 (vals2 (.v (encS a)) (.v (encS b))) = some (.v (.scal (.bool (!(a.lo == b.lo && a.hi == b.hi))))) := by
  have h := pair_neq (P := Tryz.prog) (t := 46) (ti := 3) (f0 := fld46 0) (f1 := fld46 1) (hu := by kernel_rfl) (hi := by kernel_rfl) (by kernel_rfl) (by kernel_rfl) (by kernel_rfl) (by kernel_rfl) (by kernel_rfl) (fun _ _ => by kernel_rfl) (fun _ _ => by kernel_rfl) (by kernel_rfl) a.lo a.hi b.lo b.hi
  show scE (bin2 Tryz.prog .neq 46 (.agg #[.int .i64 a.lo, .int .i64 a.hi]) (.agg #[.int .i64 b.lo, .int .i64 b.hi])) = _
  rw [h]; rfl
theorem issue_err {ps : List Pr} {n : Int} {g : Gr} (h : ((issueT ps n g).2.2.1 != 0) = true) : (issueT ps n g).1 = zT ∧ (issueT ps n g).2.1 = zT ∧ ((issueT ps n g).2.2.2 = n ∨ (issueT ps n g).2.2.2 = IntKind.i64.wrap (n + 1)) := by
  unfold issueT at h ⊢
  split
  · exact ⟨rfl, rfl, .inl rfl⟩
  · rename_i h1
    rw [if_neg h1] at h
    split
    · exact ⟨rfl, rfl, .inr rfl⟩
    · rename_i h2
      rw [if_neg h2] at h
      split
      · exact ⟨rfl, rfl, .inr rfl⟩
      · rename_i h3
        rw [if_neg h3] at h
        simp at h
theorem issue_ok {ps : List Pr} {n : Int} {g : Gr} (h : ((issueT ps n g).2.2.1 != 0) = false) : (issueT ps n g).2.1 = keyT ⟨#[]⟩ (IntKind.i64.wrap (n + 1)) ∧ (issueT ps n g).2.2.2 = IntKind.i64.wrap (n + 1) ∧ (keyP ps g.service).2 = 0 ∧
    ∃ a, openT (issueT ps n g).1 (keyP ps g.service).1 = (⟨g.service, g.flags, keyT ⟨#[]⟩ (IntKind.i64.wrap (n + 1)), g.client, g.span, a⟩, 0) := by
  unfold issueT at h ⊢
  split at h
  · cases h
  · rename_i h1
    rw [if_neg h1]
    split at h
    · rename_i h2; simp only at h; rw [h] at h2; cases h2
    · rename_i h2
      rw [if_neg h2]
      split at h
      · rename_i h3; simp only at h; rw [h] at h3; cases h3
      · rename_i h3
        rw [if_neg h3]
        simp only [Bool.or_eq_true, not_or, Bool.not_eq_true] at h1
        refine ⟨rfl, rfl, by simpa using h1.1, (issA ps g).1, ?_⟩
        have hm : (issK ps (IntKind.i64.wrap (n + 1)) g).2 = 0 := by simpa using h3
        unfold issK at hm ⊢
        generalize hk : (⟨g.service, g.flags, keyT ⟨#[]⟩ (IntKind.i64.wrap (n + 1)), g.client, g.span, (issA ps g).1⟩ : Tk) = k at hm ⊢
        by_cases hb : (!ticketOk k || (keyP ps g.service).1.k != 2) = true
        · unfold makeT at hm; rw [if_pos hb] at hm; cases hm
        · simp only [Bool.or_eq_true, not_or, Bool.not_eq_true, Bool.not_eq_false', bne_eq_false_iff_eq] at hb
          rw [makeT_ok hb.1 hb.2]
          have := open_made (k := k) (keyP ps g.service).1 (keyP ps g.service).1 hb.1 hb.2
          rw [sameT_self, if_pos rfl] at this
          exact this
end Go.Pv

set_option linter.unusedSimpArgs false
set_option linter.unusedVariables false
namespace Go.Pv
open Go.Proofs
def gsL (l : List Gr) : List PV := l.map encG
theorem gsL_len (l : List Gr) : (gsL l).length = l.length := by simp [gsL]
theorem gsL_nth {l : List Gr} {i : Nat} {g : Gr} (h : nth l i = some g) : nth (gsL l) i = some (encG g) := by simp only [gsL, zzht, h, Option.map_some]
set_option maxRecDepth 20000 in
set_option maxHeartbeats 4000000 in
theorem c6 (ps : List Pr) (gs : List Gr) : PPure Tryz.prog 6 [.list .foreign (prs ps), .list .foreign (gsL gs)] (.scal (.bool true)) := by
  show PCalls Tryz.prog 6 _ [] fun r' _ => r' = .scal (.bool true)
  refine calls_of hmix Tryz.func6 ok6 (by simp) ?_
  simp -implicitDefEqProofs only [rc6, zzfp, zzft, zzjy, zzjr, zziu, zzdm, zzid, zzif, List.map_nil, fgL, zzhy]
  refine qcall_intro c24 ?_
  simp -implicitDefEqProofs only [prs_fgL, zzfu, zzfp, zzft, zzfh, zzjy, zzjr, zzjk, zzcd, zziu, r_un, zzdn, zzlf, zzid, zzgi, zzif, zzie, zzhz, zzle, br_false, List.map_cons, List.map_nil, Nat.reduceSub, Nat.reduceEqDiff, if_true, if_false, PV.fg, fgL, Nat.add_one_ne_zero, zzhy, Bool.not_true]
  refine qcall_intro (c30 ps) ?_
  simp -implicitDefEqProofs only [zzfp, zzft, zzjy, zzjv, zzjk, zzgc, zziu, r_un, zzdn, zzlf, zzid, zzgi, zzle, Nat.reduceSub, Nat.reduceEqDiff, if_true, if_false, Nat.add_one_ne_zero]
  refine br_intro (fun b1 => ?_) (fun b1 => ?_)
  · simp -implicitDefEqProofs only [b1, zzfp, zzft, zzfh, zzfq, zzjy, zzjv, zzjz, zzcd, zzgc, zziu, zzja, zzjb, zzix, zzjd, zzdn, zzdm, zzlf, zzid, zzgi, br_true, Nat.reduceSub, Nat.reduceEqDiff, if_true, if_false, Nat.add_one_ne_zero, zzib, zzdg]
    exact endK_raw rfl
  simp -implicitDefEqProofs only [b1, gsL_len, zzfh, zzjy, zzjv, zzjz, zzjk, zzcd, zzgc, zziu, zzig, zzin, zzdn, zzdm, zzlf, zzid, zzgi, zzgt, zzkf, zzlg, zzaz, zzap, zzai, br_false, Nat.reduceSub, Nat.reduceEqDiff, if_true, if_false, Nat.add_one_ne_zero]
  refine br_intro (fun b2 => ?_) (fun b2 => ?_)
  · simp -implicitDefEqProofs only [b2, zzfp, zzft, zzfq, zzjy, zziu, zzja, zzjb, zzix, zzjd, zzdn, zzlf, zzid, zzgi, Nat.reduceSub, Nat.reduceEqDiff, if_true, if_false, Nat.add_one_ne_zero, zzib, zzdg]
    exact endK_raw rfl
  have hl : gs.length ≤ 20 := by have := of_decide_eq_false b2; omega
  have hlB : gs.length ≤ lenB := by rw [lenB_eq]; omega
  simp -implicitDefEqProofs only [b2, zzfu, zzfp, zzft, zzff, zzjy, zziu, zzdm, zzid]
  refine go_loop (fun n s => ∃ i : Nat, i ≤ gs.length ∧ n = gs.length - i ∧ s.env 7 = .v (.scal (.int .i64 (i : Nat))) ∧ s.env 5 = .v (.scal (.bool true)) ∧ s.env 0 = .v (.list .foreign (prs ps)) ∧ s.env 1 = .v (.list .foreign (gsL gs)) ∧ s.H = []) gs.length ?_ ?_
  · exact ⟨0, by omega, by omega, rfl, rfl, rfl, rfl, rfl⟩
  rintro n env L H ⟨i, hi, rfl, h7, h5, h0, h1, rfl⟩
  simp only at h7 h5 h0 h1
  have hls := fun s : ByteArray => biE_len (P := Tryz.prog) (t := 9) (ty := 3) u9 s
  simp -implicitDefEqProofs only [h7, h1, gsL_len, zzfp, zzft, zzfh, zzjy, zzjk, zzcd, zziu, zzig, zzin, zzdn, zzlf, zzid, zzgt, zzkf, zzlg, zzaz, zzar, zzai, Nat.reduceEqDiff, if_true, if_false]
  refine br_intro (fun b3 => ?_) (fun b3 => ?_)
  · have hlt : i < gs.length := by simpa using b3
    obtain ⟨g, hg⟩ : ∃ x, nth gs i = some x := ⟨_, nth_of hlt⟩
    have hx := gsL_nth hg
    simp only [encG] at hx
    simp -implicitDefEqProofs only [h7, h1, hx, zzfu, zzfp, zzft, zzff, zzjv, zzjk, zzgc, zziu, zzip, zzig, zzij, zzik, zzin, zzdn, zzdm, zzlf, zzid, zzhu, zzhr, zzhs, zzjh, zzgo, zzdl, zzdu, zzaf, zzae, zzgg, zzcf, zzgt, zzkf, zzlg, zzaz, zzap, zzai, zzbw, List.length_cons, List.length_nil, Nat.reduceAdd, Nat.reduceSub, Nat.reduceEqDiff, Nat.add_zero, Nat.zero_add, if_true, if_false, zzku, zzhl, Int.toNat_natCast, Nat.add_one_ne_zero]
    refine br_intro (fun b4 => ?_) (fun b4 => ?_)
    · simp -implicitDefEqProofs only [b4, h5, zzfp, zzft, zzfh, zzfq, zzjy, zzjv, zzjz, zzcd, zzgc, zziu, zzja, zzjb, zzix, zzjd, zzdn, zzdm, zzlf, zzid, br_true, Nat.reduceEqDiff, if_true, if_false, zzib, zzdg]
      exact endK_raw rfl
    simp -implicitDefEqProofs only [b4, h7, h1, hx, r_b, hls, zzfh, zzjy, zzjv, zzjz, zzjk, zzcd, zzgc, zziu, zzip, zzig, zzij, zzik, zzdn, zzdm, zzlf, zzid, zzhu, zzhr, zzhs, zzjh, zzgo, zzdl, zzif, zzie, zzhz, zzdu, zzaf, zzae, zzgg, zzcf, zzkf, zzlg, zzaz, zzap, zzal, zzai, zzaj, br_false, zzbw, List.map_cons, List.map_nil, List.length_cons, List.length_nil, Nat.reduceAdd, Nat.reduceSub, Nat.reduceEqDiff, Nat.add_zero, Nat.zero_add, if_true, if_false, r_b, zzhl, Int.toNat_natCast, Nat.add_one_ne_zero, List.drop_zero]
    refine br_intro (fun b5 => ?_) (fun b5 => ?_)
    · simp -implicitDefEqProofs only [b5, h5, zzfp, zzft, zzfq, zzjy, zziu, zzja, zzjb, zzix, zzjd, zzdn, zzlf, zzid, Nat.reduceEqDiff, if_true, if_false, zzib, zzdg]
      exact endK_raw rfl
    simp -implicitDefEqProofs only [b5, h7, wrap_add hlt hlB, zzfu, zzfp, zzfe, zzjy, zzjk, zziu, zzig, zzdn, zzdm, zzlf, zzid, zzkf, zzlg, zzaz, zzal, zzaj, Nat.reduceEqDiff, if_true, if_false, and_true, Bool.and_true, zzfl]
    exact ⟨_, by omega, i + 1, hlt, rfl, rfl, h5, h0, h1⟩
  simp -implicitDefEqProofs only [b3, h0, prs_fgL, zzfp, zzft, zzfj, zzdp, zzdo, zzjq, zziu, zzdn, zzlf, zzid, zzif, zzie, zzhz, List.map_cons, List.map_nil, Nat.reduceEqDiff, if_true, if_false, PV.fg, fgL, zzdq, zzgf]
  refine kcall_intro (c31 ps) ?_
  rintro r H1 ⟨b, rb, m, ses, v, HA, HB, rfl, hT1, hS, hR⟩
  generalize addL [] ps = ps' at hS hR
  simp -implicitDefEqProofs only [zzfp, zzft, zzjy, zzjq, zzjk, zziu, zzii, zzdn, zzdm, zzlf, zzid, zzhu, zzhr, zzdl, zzif, zzie, zzhz, zzdt, List.map_cons, List.map_nil, Nat.reduceSub, Nat.reduceEqDiff, if_true, if_false, PV.fg, fgL, Nat.add_one_ne_zero, zzgf]
  refine kcall_intro ((c32 b 5).two (Two.nilR H1).symm) ?_
  rintro r H2 ⟨HC, hT2, d, c, rfl, hC⟩
  have hroom : (if (0 : Int) > 5 then (0 : Int) else 5) = 5 := by decide
  rw [hroom] at hC
  obtain ⟨HY, hT3, hL⟩ := Lg.new hT2 hT1 hS hC
  simp -implicitDefEqProofs only [zzfp, zzft, zzff, zzjy, zziu, zzdn, zzdm, zzlf, zzid, Nat.reduceEqDiff, if_true, if_false]
  refine go_loop (fun n s => ∃ (i : Nat) (HY : PH) (last ser : Int), i ≤ gs.length ∧ n = gs.length - i ∧ s.env 12 = .v (.scal (.int .i64 (i : Nat))) ∧ s.env 5 = .v (.scal (.bool true)) ∧ s.env 1 = .v (.list .foreign (gsL gs)) ∧ s.env 8 = .v (.ptr b 0) ∧ s.env 10 = .v (.ptr d 0) ∧ s.env 11 = .v (.scal (.int .i64 last)) ∧
      0 ≤ last ∧ last ≤ ser ∧ ser ≤ i ∧ Two s.H HY HB ∧ Lg HY d b 5 ⟨ps', [], ser, []⟩) gs.length ?_ ?_
  · exact ⟨0, HY, 0, 0, by omega, by omega, by simp [zzlf], by simp [zzlf, h5], by simp [zzlf, h1], by simp [zzlf], by simp [zzlf], by simp [zzlf], by omega, by omega, by omega, hT3, hL⟩
  clear h7 h5 h0 h1 hT3 hL hC hT2 hT1 hS hR
  rintro n env L H ⟨i2, HY2, last, ser, hi2, rfl, h12, h5, h1, h8, h10, h11, hl0, hl1, hl2, hT, hL⟩
  simp only at h12 h5 h1 h8 h10 h11 hT
  simp -implicitDefEqProofs only [h12, h1, gsL_len, zzfp, zzft, zzfh, zzjy, zzjk, zzcd, zziu, zzig, zzin, zzdn, zzlf, zzid, zzgt, zzkf, zzlg, zzaz, zzar, zzai, Nat.reduceEqDiff, if_true, if_false]
  refine br_intro (fun b7 => ?_) (fun b7 => ?_)
  rotate_left
  · simp -implicitDefEqProofs only [b7, h5, zzfp, zzft, zzfq, zzfj, zzdp, zzdo, zzjy, zziu, zzja, zzjb, zzix, zzjd, zzdn, zzlf, zzid, Nat.reduceEqDiff, if_true, if_false, zzdq, zzib, zzdg]
    exact endK_raw rfl
  have hlt : i2 < gs.length := by simpa using b7
  obtain ⟨g, hg⟩ : ∃ x, nth gs i2 = some x := ⟨_, nth_of hlt⟩
  have hx := gsL_nth hg
  simp only [encG] at hx
  simp -implicitDefEqProofs only [h12, h1, h10, hx, zzfu, zzfp, zzft, zzff, zzjq, zzjk, zziu, zziq, zzik, zzdn, zzlf, zzid, zzlc, zzlb, zzce, zzky, zzjh, zzgp, zzdi, zzif, zzie, zzhz, zzaf, zzae, zzgg, zzcf, zzbw, List.map_cons, List.map_nil, List.length_cons, List.length_nil, Nat.reduceAdd, Nat.reduceSub, Nat.reduceEqDiff, Nat.zero_add, if_true, if_false, PV.fg, fgL, zzkt, zzhl, Int.toNat_natCast, Nat.add_one_ne_zero, zzgf]
  refine kcall_intro ((c39 hL g).two hT) ?_
  rintro r H3 ⟨HY3, hT3, rfl, hL3⟩
  simp only at hL3 ⊢
  have hw : IntKind.i64.wrap (ser + 1) = ser + 1 := wrap_of (by omega) (by omega)
  simp -implicitDefEqProofs only [zzfp, zzft, zzfh, zzjy, zzjm, zzkd, zzjk, zzjl, zzcd, zziu, zzig, zzii, zzdn, zzdm, zzlf, zzid, zzic, zzhu, zzhr, zzji, zzdl, zzkl, zzkr, zzkq, zzag, zzki, zzdt, zzkf, zzlg, zzaz, zzas, zzai, List.length_cons, List.length_nil, List.cons_append, List.nil_append, List.all_cons, List.all_nil, zzbv, zzbt, zzbr, zzbs, Option.map_some, Nat.reduceAdd, Nat.reduceSub, Nat.reduceEqDiff, Nat.zero_add, Bool.and_self, and_self, if_true, if_false, List.length_append, Nat.add_one_ne_zero, zzkg, zzkh, zzhp, zzhq, List.append_assoc, zzde]
  refine br_intro (fun b8 => ?_) (fun b8 => ?_)
  · obtain ⟨e1, e2, e3⟩ := issue_err b8
    rw [hw] at e3
    simp -implicitDefEqProofs only [b8, e1, e2, zzfp, zzft, zzjr, zzjk, zzih, zziq, zzdn, zzlf, zzid, zzhu, zzhr, zzlc, zzlb, zzce, zzky, zzji, zzgp, zzdi, zzbb, zzdk, zzbg, zzif, zzie, zzhz, List.map_cons, List.map_nil, Option.map_some, Nat.reduceAdd, Nat.reduceSub, Nat.reduceEqDiff, if_true, if_false, PV.fg, fgL, zzdf, Nat.add_one_ne_zero, zzhp, zzhy, Term.eta, zzfc, zzfd]
    refine qcall_intro (c35 zT zT) ?_
    simp -implicitDefEqProofs only [sameT_self, zzjv, zzjr, zzjk, zzgc, zziu, zzih, zziq, r_un, zzdn, zzlf, zzid, zzhu, zzhr, zzlc, zzlb, zzce, zzky, zzji, zzgp, zzdi, zzbb, zzdk, zzbg, zzif, zzie, zzhz, zzle, br_false, List.map_cons, List.map_nil, Option.map_some, Nat.reduceAdd, Nat.reduceSub, Nat.reduceEqDiff, if_true, if_false, PV.fg, fgL, zzdf, Nat.add_one_ne_zero, zzhq, zzhy, Term.eta, zzfc, zzfd, Bool.not_true]
    refine qcall_intro (c35 zT zT) ?_
    simp -implicitDefEqProofs only [sameT_self, h12, wrap_add hlt hlB, zzfu, zzfp, zzft, zzfh, zzfq, zzfj, zzdp, zzdo, zzjy, zzjv, zzjz, zzjk, zzcd, zzgc, zziu, zzig, r_un, zzja, zzjb, zzdn, zzdm, zzlf, zzid, zzkf, zzlg, zzaz, zzle, zzal, zzaj, br_false, Nat.reduceEqDiff, if_true, if_false, zzfl, zzdq, zzib, Bool.not_true]
    exact ⟨_, by omega, i2 + 1, HY3, last, _, hlt, rfl, rfl, h5, h1, h8, h10, h11, hl0, by rcases e3 with e | e <;> rw [e] <;> omega, by rcases e3 with e | e <;> rw [e] <;> omega, hT3, hL3⟩
  obtain ⟨f1, f2, f3, a, f4⟩ := issue_ok b8
  rw [hw] at f1 f2 f4
  rw [f2] at hL3
  obtain ⟨m4, ses4, hS4⟩ := hL3.sto
  have hS5 := hS4.mono (fun x o hx => hT3.left hx)
  simp -implicitDefEqProofs only [b8, h12, h1, h8, hx, zzfu, zzfp, zzft, zzjq, zzjk, zziu, zzip, zzij, zzik, zzdn, zzlf, zzid, zzhu, zzhr, zzhs, zzjh, zzgo, zzdl, zzif, zzie, zzhz, zzdu, zzaf, zzae, zzgg, zzcf, zzbw, List.map_cons, List.map_nil, List.length_cons, List.length_nil, Nat.reduceAdd, Nat.reduceSub, Nat.reduceEqDiff, Nat.add_zero, Nat.zero_add, if_true, if_false, PV.fg, fgL, zzhl, Int.toNat_natCast, Nat.add_one_ne_zero, zzgf]
  refine kcall_intro (c37 hS5 _) ?_
  rintro r H5 ⟨rfl, rfl⟩
  simp -implicitDefEqProofs only [f3, zzfp, zzft, zzjy, zzjm, zzkd, zzjr, zzjk, zzjl, zziu, zziq, zzii, zzdn, zzlf, zzid, zzic, zzhu, zzhr, zzlc, zzlb, zzce, zzky, zzji, zzgp, zzdl, zzdi, zzkl, zzkr, zzkq, zzag, zzki, zzif, zzie, zzhz, zzdt, List.map_cons, List.map_nil, List.length_cons, List.length_nil, List.cons_append, List.nil_append, List.all_cons, List.all_nil, zzbv, zzbt, zzbr, zzbs, Option.map_some, Nat.reduceAdd, Nat.reduceSub, Nat.reduceEqDiff, Nat.zero_add, Bool.and_self, and_self, if_true, if_false, fgL, zzdf, List.length_append, Nat.add_one_ne_zero, zzkh, zzhp, zzhq, List.append_assoc, zzhy, zzde, Term.eta, zzfc]
  refine qcall_intro (c40 _ _) ?_
  have f5 : (openT (issueT ps' ser g).1 (keyP ps' g.service).1).2 = 0 := by rw [f4]
  have f6 : (openT (issueT ps' ser g).1 (keyP ps' g.service).1).1 = ⟨g.service, g.flags, keyT ⟨#[]⟩ (ser + 1), g.client, g.span, a⟩ := by rw [f4]
  have bn0 : ((0 : Int) != 0) = false := by decide
  have hd : decide (ser + 1 ≤ last) = false := by simp; omega
  simp only [f1, f5, f6]
  simp -implicitDefEqProofs only [bn0, h11, hd, zzcr, keyT, bneI, seqS, zzfp, zzft, zzjy, zzjv, zzjz, zzjm, zzkd, zzjr, zzjk, zzjl, zzcd, zzgc, zziu, zzip, zziq, zzig, zzij, zzii, zzdn, zzdm, zzlf, zzid, zzic, zzhu, zzhr, zzlc, zzlb, zzce, zzky, zzji, zzgo, zzgp, zzdl, zzdi, zzkl, zzkr, zzkq, zzag, zzki, zzif, zzie, zzhz, zzdv, zzdt, zzkf, zzlg, zzaz, zzas, zzaq, zzaw, zzai, br_false, List.map_cons, List.map_nil, List.length_cons, List.length_nil, List.cons_append, List.nil_append, List.all_cons, List.all_nil, zzbv, zzbt, zzbr, zzbs, Option.map_some, Nat.reduceAdd, Nat.reduceSub, Nat.reduceEqDiff, Nat.add_zero, Nat.zero_add, Bool.and_self, and_self, if_true, if_false, fgL, zzdf, List.length_append, Nat.add_one_ne_zero, zzkh, zzhq, List.append_assoc, zzhy, k_mk, s_mk, n_mk, l_mk, zzfc, zzcr, Bool.not_true]
  refine qcall_intro (c35 (.mk 2 ⟨#[]⟩ (ser + 1) []) (.mk 2 ⟨#[]⟩ (ser + 1) [])) ?_
  have hsp := span_neq g.span g.span
  simp only [beq_self_eq_true, Bool.and_self, Bool.not_true, encS] at hsp
  simp -implicitDefEqProofs only [sameT_self, h12, h5, h1, h8, h10, h11, hx, seqS, span_neq, sub_dropS, beq_self_eq_true, wrap_add hlt hlB, zzfu, zzfp, zzfh, zzfe, zzjy, zzjv, zzjz, zzjk, zzcd, zzgc, zziu, zzip, zziq, zzig, r_un, zzij, zzik, zzdn, zzdm, zzlf, zzid, zzhu, zzhr, zzhs, zzlc, zzlb, zzce, zzky, zzji, zzjh, zzgo, zzgp, zzdl, zzdi, zzdv, zzdu, zzaf, zzae, zzgg, zzcf, zzkf, zzlg, zzaz, zzle, zzal, zzaw, zzai, zzaj, br_false, zzbw, List.length_cons, List.length_nil, Option.map_some, Nat.reduceAdd, Nat.reduceSub, Nat.reduceEqDiff, Nat.add_zero, Nat.zero_add, Bool.and_self, and_self, if_true, if_false, true_and, beq_self_eq_true, Bool.true_and, zzfl, zzhl, Int.toNat_natCast, Nat.add_one_ne_zero, zzhq, zzfb, Bool.not_true]
  refine ⟨_, by omega, i2 + 1, HY3, ser + 1, ser + 1, hlt, rfl, rfl, rfl, by omega, by omega, by omega, hT3, hL3⟩
end Go.Pv


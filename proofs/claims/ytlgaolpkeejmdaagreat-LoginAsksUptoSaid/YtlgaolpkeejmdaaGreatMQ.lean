import Derived.Test.YtlgaolpkeejmdaaGreatMC
import Derived.Test.YtlgaolpkeejmdaaGreatMO
namespace Go.Pv
open Go.Proofs
/-- legate/legatelaw16.LoginAsks -/
def rc4 : RCode := (.seq (.region false [⟨(some 10), none, .box (.t 1)⟩,
  ⟨(some 14), none, .box (.t 5)⟩,
  ⟨(some 15), none, .box (.t 6)⟩,
  ⟨(some 17), none, .box (.t 8)⟩,
  ⟨(some 18), none, .mov (.c (.scal (.bool false)))⟩])
 (.seq (.region false [⟨(some 22), none, .callP 24 []⟩,
  ⟨(some 19), none, .mov (.t 22)⟩])
 (.seq (.seq (.region false [⟨(some 23), none, .mov (.t 19)⟩,
  ⟨(some 24), none, .un .not (.t 23)⟩])
 (.cond (.t 24) (.seq (.region false [⟨(some 18), none, .mov (.c (.scal (.bool false)))⟩])
 .ret)
 .skip))
 (.seq (.seq (.region false [⟨(some 25), none, .loadA 4 (.t 10)⟩,
  ⟨(some 26), none, .callP 13 [(.t 25), (.c (.scal (.int .i64 20)))]⟩,
  ⟨(some 27), none, .mov (.t 26)⟩,
  ⟨(some 28), (some (27, false)), .loadA 4 (.t 14)⟩,
  ⟨(some 29), (some (27, false)), .callP 13 [(.t 28), (.c (.scal (.int .i64 50)))]⟩,
  ⟨(some 30), none, .pick (.t 27) (.c (.scal (.bool true))) (.t 29)⟩,
  ⟨(some 31), none, .mov (.t 30)⟩,
  ⟨(some 32), (some (31, false)), .loadA 4 (.t 15)⟩,
  ⟨(some 33), (some (31, false)), .callP 13 [(.t 32), (.c (.scal (.int .i64 20)))]⟩,
  ⟨(some 34), none, .pick (.t 31) (.c (.scal (.bool true))) (.t 33)⟩])
 (.cond (.t 34) (.seq (.region false [⟨(some 35), none, .mov (.t 19)⟩,
  ⟨(some 18), none, .mov (.t 35)⟩])
 .ret)
 .skip))
 (.seq (.region true [⟨(some 36), none, .mov (.t 0)⟩,
  ⟨(some 37), none, .loadA 4 (.t 10)⟩,
  ⟨(some 38), none, .mov (.t 2)⟩,
  ⟨(some 39), none, .mov (.t 3)⟩,
  ⟨(some 40), none, .mov (.t 4)⟩,
  ⟨(some 41), none, .callP 25 [(.t 36), (.t 37), (.t 38), (.t 39), (.t 40)]⟩,
  ⟨(some 42), none, .mov (.t 0)⟩,
  ⟨(some 43), none, .loadA 4 (.t 10)⟩,
  ⟨(some 44), none, .mov (.t 2)⟩,
  ⟨(some 45), none, .mov (.t 3)⟩,
  ⟨(some 46), none, .mov (.t 4)⟩,
  ⟨(some 47), none, .callP 26 [(.t 42), (.t 43), (.t 44), (.t 45), (.t 46)]⟩,
  ⟨(some 48), none, .callP 21 [(.t 41), (.t 47)]⟩,
  ⟨(some 20), none, .mov (.t 48)⟩])
 (.seq (.region true [⟨(some 49), none, .mov (.t 0)⟩,
  ⟨(some 50), none, .loadA 4 (.t 14)⟩,
  ⟨(some 51), none, .loadA 4 (.t 10)⟩,
  ⟨(some 52), none, .loadA 4 (.t 15)⟩,
  ⟨(some 53), none, .mov (.t 7)⟩,
  ⟨(some 54), none, .mov (.t 3)⟩,
  ⟨(some 55), none, .loadA 9 (.t 17)⟩,
  ⟨(some 56), none, .callP 27 [(.c (.scal (.string ⟨#[120]⟩))), (.t 49), (.t 50), (.t 51), (.t 52), (.t 53), (.t 54), (.t 55)]⟩,
  ⟨(some 57), none, .mov (.t 0)⟩,
  ⟨(some 58), none, .loadA 4 (.t 14)⟩,
  ⟨(some 59), none, .loadA 4 (.t 10)⟩,
  ⟨(some 60), none, .loadA 4 (.t 15)⟩,
  ⟨(some 61), none, .mov (.t 7)⟩,
  ⟨(some 62), none, .mov (.t 3)⟩,
  ⟨(some 63), none, .loadA 9 (.t 17)⟩,
  ⟨(some 64), none, .callP 29 [(.t 63)]⟩,
  ⟨(some 65), none, .callP 28 [(.c (.scal (.string ⟨#[120]⟩))), (.t 57), (.t 58), (.t 59), (.t 60), (.t 61), (.t 62), (.t 64)]⟩,
  ⟨(some 66), none, .callP 21 [(.t 56), (.t 65)]⟩,
  ⟨(some 21), none, .mov (.t 66)⟩])
 (.seq (.region false [⟨(some 67), none, .mov (.t 19)⟩,
  ⟨(some 68), none, .mov (.t 67)⟩,
  ⟨(some 69), (some (68, true)), .mov (.t 20)⟩,
  ⟨(some 70), none, .pick (.t 68) (.t 69) (.c (.scal (.bool false)))⟩,
  ⟨(some 71), none, .mov (.t 70)⟩,
  ⟨(some 72), (some (71, true)), .mov (.t 21)⟩,
  ⟨(some 73), none, .pick (.t 71) (.t 72) (.c (.scal (.bool false)))⟩,
  ⟨(some 18), none, .mov (.t 73)⟩])
 .ret)))))))
theorem ok4 : fnRes Tryz.prog ⟨pf2, fun d => ([] : List Nat).contains d, fun d => ([] : List Nat).contains d⟩ Tryz.f4 = some (74, [.t 18], rc4) := by kernel_rfl
end Go.Pv

set_option linter.unusedSimpArgs false
set_option linter.unusedVariables false
namespace Go.Pv
open Go.Proofs
set_option maxRecDepth 10000 in
theorem c4 (client : ByteArray) (key : Term) (now nonce till : Int) (tk session : Term) (use : Int) (g : Gr) :
    PPure Tryz.prog 4 [.scal (.string client), enc key, .scal (.int .i64 now), .scal (.int .i64 nonce), .scal (.int .i64 till), enc tk, enc session, .scal (.int .i64 use), encG g] (.scal (.bool true)) := by
  refine pure_of hmix Tryz.func4 ok4 (by simp) ?_
  try simp -implicitDefEqProofs only [rc4, encG_cells, zzfp, zzft, zzjy, zzjo, zzbd, zzjr, zziu, zzdn, zzdm, zzlf, zzid, zzgi, zzif, List.map_nil, List.length_cons, List.length_nil, List.cons_append, List.nil_append, Nat.reduceAdd, Nat.reduceSub, Nat.reduceEqDiff, Nat.zero_add, if_true, if_false, fgL, Nat.add_one_ne_zero, zzhy, zzde]
  repeat' (first
    | (refine br_intro (fun h => ?_) (fun h => ?_) <;> try simp -implicitDefEqProofs only [h, zzfu, zzfp, zzft, zzfh, zzfq, zzjy, zzjv, zzjz, zzjr, zzjk, zzcd, zzgc, zziu, zziq, zzeb, zzdh, zzja, zzjb, zzix, zzjd, zzdn, zzdm, zzlf, zzid, zzgi, zzhu, zzhr, zzlc, zzlb, zzce, zzky, zzji, zzgp, zzdi, zzif, zzie, zzhz, br_true, br_false, List.map_cons, List.map_nil, Option.map_some, Nat.reduceAdd, Nat.reduceSub, Nat.reduceEqDiff, if_true, if_false, PV.fg, fgL, zzdf, Nat.add_one_ne_zero, zzhy, Term.eta, zzfc])
    | (refine qcall_intro (c24) ?_; try simp -implicitDefEqProofs only [zzfu, zzfp, zzft, zzfh, zzjy, zzjr, zzjk, zzcd, zziu, zziq, r_un, zzdn, zzdm, zzlf, zzid, zzgi, zzhu, zzhr, zzlc, zzlb, zzce, zzky, zzji, zzgp, zzdi, zzif, zzie, zzhz, zzle, br_false, List.map_cons, List.map_nil, Option.map_some, Nat.reduceAdd, Nat.reduceSub, Nat.reduceEqDiff, if_true, if_false, PV.fg, fgL, zzdf, Nat.add_one_ne_zero, zzhy, Term.eta, zzfc, Bool.not_true])
    | (refine qcall_intro (c13 _ _) ?_; try simp -implicitDefEqProofs only [zzfh, zzjy, zzjv, zzjz, zzcd, zzgc, zziu, zzdn, zzlf, zzid, zzgi, br_false, Nat.reduceSub, Nat.reduceEqDiff, if_true, if_false, Nat.add_one_ne_zero])
    | (refine qcall_intro (c25 _ _ _ _ _) ?_; try simp -implicitDefEqProofs only [zzjr, zzjk, zziu, zziq, zzdn, zzlf, zzid, zzgi, zzhu, zzhr, zzlc, zzlb, zzce, zzky, zzji, zzgp, zzdi, zzif, zzie, zzhz, List.map_cons, List.map_nil, Option.map_some, Nat.reduceAdd, Nat.reduceSub, Nat.reduceEqDiff, if_true, if_false, PV.fg, fgL, zzdf, Nat.add_one_ne_zero, zzhy, Term.eta, zzfc])
    | (refine qcall_intro (c26 _ _ _ _ _) ?_; try simp -implicitDefEqProofs only [zzjr, zzdn, zzlf, zzid, zzgi, zzif, zzie, zzhz, List.map_cons, List.map_nil, Nat.reduceSub, Nat.reduceEqDiff, if_true, if_false, fgL, zzdf, Nat.add_one_ne_zero, zzhy])
    | (refine qcall_intro (c21 _ _) ?_; try simp -implicitDefEqProofs only [sameT_self, zzfp, zzft, zzfq, zzjy, zzjv, zzjz, zzjr, zzjk, zzcd, zzgd, zziu, zziq, zzeb, zzdh, zzja, zzjb, zzix, zzjd, zzdn, zzdm, zzlf, zzid, zzgi, zzhu, zzhr, zzlc, zzlb, zzce, zzky, zzji, zzgp, zzdi, zzif, zzie, zzhz, br_true, List.map_cons, List.map_nil, Option.map_some, Nat.reduceAdd, Nat.reduceSub, Nat.reduceEqDiff, if_true, if_false, PV.fg, fgL, zzdf, zzkt, Nat.add_one_ne_zero, zzhy, Term.eta, zzfc])
    | (refine qcall_intro (c27 _ _ _ _ _ _ _ g) ?_; try simp -implicitDefEqProofs only [zzjr, zzjk, zziu, zziq, zzdn, zzlf, zzid, zzgi, zzhu, zzhr, zzlc, zzlb, zzce, zzky, zzji, zzgp, zzdi, zzif, zzie, zzhz, List.map_cons, List.map_nil, Option.map_some, Nat.reduceAdd, Nat.reduceSub, Nat.reduceEqDiff, if_true, if_false, PV.fg, fgL, zzkt, Nat.add_one_ne_zero, zzhy, Term.eta, zzfc])
    | (refine qcall_intro (c29 g) ?_; try simp -implicitDefEqProofs only [encG_fg, zzjr, zzdn, zzdm, zzlf, zzid, zzgi, zzif, zzie, zzhz, List.map_cons, List.map_nil, Nat.reduceSub, Nat.reduceEqDiff, if_true, if_false, PV.fg, fgL, zzdf, Nat.add_one_ne_zero, zzhy])
    | (refine qcall_intro (c28 _ _ _ _ _ _ _ g) ?_; try simp -implicitDefEqProofs only [zzjr, zzdn, zzlf, zzid, zzgi, zzif, zzie, zzhz, List.map_cons, List.map_nil, Nat.reduceSub, Nat.reduceEqDiff, if_true, if_false, fgL, zzdf, Nat.add_one_ne_zero, zzhy]))
end Go.Pv


/- LoginAsks of layer 16 returns true whatever it is asked with, where what it reads is of bulk at most 1048576. -/
import Derived.Test.YtlgaolpkeejmdaaGreatMQ
import Derived.Test.YtlgaolpkeejmdaaGreatMR
namespace Go.Proofs.YtlgaolpkeejmdaaGreat
open Go.ChangeShapes Go.WideShapes Go.ChangeAt Go.RowKit
set_option linter.unusedVariables false
set_option maxRecDepth 100000 in
theorem lifted4 (os : Os) (started : os.Started) (H : Type) (enc : TypeId × Value → H) (F : Stop.Interp) :
    ReturnsInHanded {} Tryz.checked os 4 .any ((Rows.OpenSpec.upto Rows.loginAsksSpec).pre6 enc Tryz.prog Tryz.f4 Rows.loginAsksUptoRow.domain false) (((Rows.OpenSpec.upto Rows.loginAsksSpec).at F).post enc Tryz.prog Tryz.f4 false true false false) := by
  refine returnsInHanded_of_cond (C := Tryz.checked) (k := Rows.uptoSmall) rfl own started (by kernel_rfl) Tryz.func4
    (OpenSpec.witness (enc := enc) (C := Tryz.checked) rfl false ⟨#[], #[.string ⟨#[]⟩, .agg #[.int .i64 0, .string ⟨#[]⟩, .int .i64 0, .slice none 0 0], .int .i64 0, .int .i64 0, .int .i64 0, .agg #[.int .i64 0, .string ⟨#[]⟩, .int .i64 0, .slice none 0 0], .agg #[.int .i64 0, .string ⟨#[]⟩, .int .i64 0, .slice none 0 0], .int .i64 0, .agg #[.string ⟨#[]⟩, .string ⟨#[]⟩, .string ⟨#[]⟩, .int .i64 0, .int .i64 0, .slice none 0 0, .bool false, .int .i64 0, .int .i64 0]], []⟩ 8 (by kernel_rfl) (by kernel_rfl) (by kernel_rfl) (x := ([.lit (.string []), .agg [.lit (.int .i64 0), .lit (.string []), .lit (.int .i64 0), .nil], .lit (.int .i64 0), .lit (.int .i64 0), .lit (.int .i64 0), .agg [.lit (.int .i64 0), .lit (.string []), .lit (.int .i64 0), .nil], .agg [.lit (.int .i64 0), .lit (.string []), .lit (.int .i64 0), .nil], .lit (.int .i64 0), .agg [.lit (.string []), .lit (.string []), .lit (.string []), .lit (.int .i64 0), .lit (.int .i64 0), .nil, .lit (.bool false), .agg [.lit (.int .i64 0), .lit (.int .i64 0)]]], [], [])) (by kernel_rfl) (by kernel_rfl) (by kernel_rfl)) ?_
  intro W base args ds gs before hval0 hW hcnd hsm _
  have hval : ∀ (j : Nat) t v, Tryz.f4.params[j]? = some t → args[j]? = some v → Value.okWide Tryz.prog W .any base t v := hval0
  have hW' := hW
  obtain ⟨p, q, hA0, hV, rfl, hfz, hnd⟩ := hW
  have hA : DataW.TrodAll enc Tryz.prog W 0 (fun _ => true) true Tryz.f4.params.toList args.toList ds p := hA0
  rw [Tryz.params4] at hA hval
  obtain ⟨v0, vs0, d0, ds0, p0, q0, hargs, rfl, rfl, h0, r0⟩ := trodAll_cons hA
  obtain ⟨v1, vs1, d1, ds1, p1, q1, rfl, rfl, rfl, h1, r1⟩ := trodAll_cons r0
  obtain ⟨v2, vs2, d2, ds2, p2, q2, rfl, rfl, rfl, h2, r2⟩ := trodAll_cons r1
  obtain ⟨v3, vs3, d3, ds3, p3, q3, rfl, rfl, rfl, h3, r3⟩ := trodAll_cons r2
  obtain ⟨v4, vs4, d4, ds4, p4, q4, rfl, rfl, rfl, h4, r4⟩ := trodAll_cons r3
  obtain ⟨v5, vs5, d5, ds5, p5, q5, rfl, rfl, rfl, h5, r5⟩ := trodAll_cons r4
  obtain ⟨v6, vs6, d6, ds6, p6, q6, rfl, rfl, rfl, h6, r6⟩ := trodAll_cons r5
  obtain ⟨v7, vs7, d7, ds7, p7, q7, rfl, rfl, rfl, h7, r7⟩ := trodAll_cons r6
  obtain ⟨v8, vs8, d8, ds8, p8, q8, rfl, rfl, rfl, h8, r8⟩ := trodAll_cons r7
  obtain ⟨rfl, rfl, rfl⟩ := trodAll_nil r8
  obtain rfl : args = #[v0, v1, v2, v3, v4, v5, v6, v7, v8] := by cases args; simp_all
  obtain ⟨rfl, rfl⟩ := trodVars_none hV
  have hb := Go.Pv.bulk_parts hsm
  simp only [List.append_nil, Go.Pv.eachLe] at hb
  clear hA0 hval0
  obtain ⟨x0, R0, B0⟩ := Go.Pv.arg_str (hval 0 9 v0 rfl rfl) h0 (hb.1)
  obtain ⟨x1, R1, B1⟩ := Go.Pv.arg_term (hval 1 25 v1 rfl rfl) h1 (hb.2.1)
  obtain ⟨x2, R2, B2⟩ := Go.Pv.arg_int (hval 2 3 v2 rfl rfl) h2 (hb.2.2.1)
  obtain ⟨x3, R3, B3⟩ := Go.Pv.arg_int (hval 3 3 v3 rfl rfl) h3 (hb.2.2.2.1)
  obtain ⟨x4, R4, B4⟩ := Go.Pv.arg_int (hval 4 3 v4 rfl rfl) h4 (hb.2.2.2.2.1)
  obtain ⟨x5, R5, B5⟩ := Go.Pv.arg_term (hval 5 25 v5 rfl rfl) h5 (hb.2.2.2.2.2.1)
  obtain ⟨x6, R6, B6⟩ := Go.Pv.arg_term (hval 6 25 v6 rfl rfl) h6 (hb.2.2.2.2.2.2.1)
  obtain ⟨x7, R7, B7⟩ := Go.Pv.arg_int (hval 7 3 v7 rfl rfl) h7 (hb.2.2.2.2.2.2.2.1)
  obtain ⟨x8, R8, B8⟩ := Go.Pv.arg_grant (hval 8 64 v8 rfl rfl) h8 (hb.2.2.2.2.2.2.2.2.1)
  have hlt : ∀ x ∈ p0 ++ (p1 ++ (p2 ++ (p3 ++ (p4 ++ (p5 ++ (p6 ++ (p7 ++ (p8 ++ [])))))))), x.block < W.heap.size := fun x hx => hW'.lt x (by simpa using hx)
  refine (Go.Pv.run_true (Go.Pv.c4 x0 x1 x2 x3 x4 x5 x6 x7 x8) (Go.Pv.RepL_cons.2 ⟨R0, Go.Pv.RepL_cons.2 ⟨R1, Go.Pv.RepL_cons.2 ⟨R2, Go.Pv.RepL_cons.2 ⟨R3, Go.Pv.RepL_cons.2 ⟨R4, Go.Pv.RepL_cons.2 ⟨R5, Go.Pv.RepL_cons.2 ⟨R6, Go.Pv.RepL_cons.2 ⟨R7, Go.Pv.RepL_cons.2 ⟨R8, Go.Pv.RepL_nil⟩⟩⟩⟩⟩⟩⟩⟩⟩)).mono fun e W' ⟨he, hg⟩ => ?_
  subst he
  refine ⟨_, rfl, post_below (s := (Rows.OpenSpec.upto Rows.loginAsksSpec).at F) (pa := p0 ++ (p1 ++ (p2 ++ (p3 ++ (p4 ++ (p5 ++ (p6 ++ (p7 ++ (p8 ++ []))))))))) (pv := []) hW' hg (by simp) (fun _ _ _ => trodAll_cons_mk (shut_bool Tryz.underlying4 _) trodAll_mk0) (fun sp hsp => ?_) (fun _ _ => rfl) (ok_one (by kernel_rfl) rfl (okWide_bool_mk Tryz.underlying4 _))⟩
  exact trodAll_cons_mk (Go.Pv.stays9 h0 hg (fun x hx => hlt x (by simp [hx])) (fun x hx => hsp x (by simp [hx]))) (trodAll_cons_mk (Go.Pv.stays25 h1 hg (fun x hx => hlt x (by simp [hx])) (fun x hx => hsp x (by simp [hx]))) (trodAll_cons_mk (Go.Pv.stays3 h2 hg (fun x hx => hlt x (by simp [hx])) (fun x hx => hsp x (by simp [hx]))) (trodAll_cons_mk (Go.Pv.stays3 h3 hg (fun x hx => hlt x (by simp [hx])) (fun x hx => hsp x (by simp [hx]))) (trodAll_cons_mk (Go.Pv.stays3 h4 hg (fun x hx => hlt x (by simp [hx])) (fun x hx => hsp x (by simp [hx]))) (trodAll_cons_mk (Go.Pv.stays25 h5 hg (fun x hx => hlt x (by simp [hx])) (fun x hx => hsp x (by simp [hx]))) (trodAll_cons_mk (Go.Pv.stays25 h6 hg (fun x hx => hlt x (by simp [hx])) (fun x hx => hsp x (by simp [hx]))) (trodAll_cons_mk (Go.Pv.stays3 h7 hg (fun x hx => hlt x (by simp [hx])) (fun x hx => hsp x (by simp [hx]))) (trodAll_cons_mk (Go.Pv.stays64 h8 hg (fun x hx => hlt x (by simp [hx])) (fun x hx => hsp x (by simp [hx]))) (trodAll_mk0)))))))))
theorem loginAsksProved : Rows.LoginAsksUptoSaid :=
  OpenClaim.holds_of_cond 4 Tryz.f4 rfl rfl rfl rfl rfl rfl rfl ⟨rfl, rfl, rfl, rfl, rfl⟩ rfl rfl rfl rfl rfl (by kernel_rfl) Tryz.func4 (by kernel_rfl)
    (of_decide_eq_true (by kernel_rfl)) (by unfold Func.isWrapper; first | (rw [if_pos (by decide +kernel)]; kernel_rfl) | (rw [if_neg (by decide +kernel)]; exact ⟨rfl, rfl⟩))
    (fun os started H enc _ F => lifted4 os started H enc F)
end Go.Proofs.YtlgaolpkeejmdaaGreat

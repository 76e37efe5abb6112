import Derived.Test.YtlgaolpkeejmdaaGreatMK
import Derived.Test.YtlgaolpkeejmdaaGreatMO
namespace Go.Pv
open Go Go.Proofs Go.RowKit Go.WideShapes
set_option linter.unusedVariables false
theorem len8 {α : Type} {l : List α} (h : l.length = 8) : ∃ a b c d e f g i, l = [a, b, c, d, e, f, g, i] := by
  match l, h with
  | [a, b, c, d, e, f, g, i], _ => exact ⟨a, b, c, d, e, f, g, i, rfl⟩
theorem ShpN.strs {G : Type} {P : Program} {n : Nat} {t ts : TypeId} {d : DataW G} (hu : P.underlying t = some (.slice ts)) (hs : P.underlying ts = some .string) (h : ShpN P n t d) : ∃ l : List ByteArray, pvE d = .list .foreign (Go.Pv.strs l) := by
  obtain ⟨m, es, _, e, hes⟩ := h.slice hu
  obtain ⟨l, hl⟩ := strs_of fun y hy => (hes y hy).str hs
  exact ⟨l, by rw [e, hl]⟩
theorem ShpN.ints {G : Type} {P : Program} {n : Nat} {t ts : TypeId} {d : DataW G} (hu : P.underlying t = some (.slice ts)) (hs : P.underlying ts = some (.int .i64)) (h : ShpN P n t d) : ∃ l : List Int, pvE d = .list .foreign (Go.Pv.ints l) := by
  obtain ⟨m, es, _, e, hes⟩ := h.slice hu
  obtain ⟨l, hl⟩ := ints_of fun y hy => (hes y hy).int hs
  exact ⟨l, by rw [e, hl]⟩
def GrTy (P : Program) (t tS ts ti : TypeId) : Prop := ∃ f0 f1 f2 f3 f4 f5 f6 f7 : Field, P.underlying t = some (.struct #[f0, f1, f2, f3, f4, f5, f6, f7]) ∧ P.underlying f0.type = some .string ∧ P.underlying f1.type = some .string ∧ P.underlying f2.type = some .string ∧ P.underlying f3.type = some (.int .i64) ∧ P.underlying f4.type = some (.int .i64) ∧ P.underlying f5.type = some (.slice ts) ∧ P.underlying f6.type = some .bool ∧ f7.type = tS
theorem pv_grant {G : Type} {P : Program} {t tS ts ti : TypeId} (hK : GrTy P t tS ts ti) (hS : SpanTy P tS) (hs : P.underlying ts = some .string) (hi : P.underlying ti = some (.int .i64)) {n : Nat} {d : DataW G} (h : ShpN P n t d) : ∃ k : Gr, pvE d = encG k := by
  obtain ⟨f0, f1, f2, f3, f4, f5, f6, f7, hu, h0, h1, h2, h3, h4, h5, h6, h7⟩ := hK
  obtain ⟨m, ys, rfl, e, hl, hall⟩ := h.struct hu
  obtain ⟨a0, a1, a2, a3, a4, a5, a6, a7, rfl⟩ := len8 (l := ys) (by simpa using hl)
  obtain ⟨_, e0, s0⟩ := hall 0 f0 rfl
  obtain ⟨_, e1, s1⟩ := hall 1 f1 rfl
  obtain ⟨_, e2, s2⟩ := hall 2 f2 rfl
  obtain ⟨_, e3, s3⟩ := hall 3 f3 rfl
  obtain ⟨_, e4, s4⟩ := hall 4 f4 rfl
  obtain ⟨_, e5, s5⟩ := hall 5 f5 rfl
  obtain ⟨_, e6, s6⟩ := hall 6 f6 rfl
  obtain ⟨_, e7, s7⟩ := hall 7 f7 rfl
  simp at e0 e1 e2 e3 e4 e5 e6 e7
  subst e0; subst e1; subst e2; subst e3; subst e4; subst e5; subst e6; subst e7
  obtain ⟨x0, p0⟩ := s0.str h0
  obtain ⟨x1, p1⟩ := s1.str h1
  obtain ⟨x2, p2⟩ := s2.str h2
  obtain ⟨x3, p3⟩ := s3.int h3
  obtain ⟨x4, p4⟩ := s4.int h4
  obtain ⟨x5, p5⟩ := s5.strs h5 hs
  obtain ⟨x6, p6⟩ := s6.bool h6
  rw [h7] at s7
  obtain ⟨x7, p7⟩ := pv_span hS s7
  refine ⟨⟨x0, x1, x2, x3, x4, x5, x6, x7⟩, ?_⟩
  rw [e]
  simp only [pvCs, p0, p1, p2, p3, p4, p5, p6, p7, zzdb, encG]
  rfl
theorem grantTy : GrTy Tryz.prog 64 46 9 3 := ⟨fldOf Tryz.prog 64 0, fldOf Tryz.prog 64 1, fldOf Tryz.prog 64 2, fldOf Tryz.prog 64 3, fldOf Tryz.prog 64 4, fldOf Tryz.prog 64 5, fldOf Tryz.prog 64 6, fldOf Tryz.prog 64 7, by kernel_rfl, by kernel_rfl, by kernel_rfl, by kernel_rfl, by kernel_rfl, by kernel_rfl, by kernel_rfl, by kernel_rfl, by kernel_rfl⟩
def plTG : List TypeId := [3, 4, 9, 42, 45, 46, 63, 64, 89]
theorem plOG : plB Tryz.prog plTG = true := by kernel_rfl
def PrTy (P : Program) (t tS ts ti : TypeId) : Prop := ∃ f0 f1 f2 f3 f4 f5 f6 f7 : Field, P.underlying t = some (.struct #[f0, f1, f2, f3, f4, f5, f6, f7]) ∧ P.underlying f0.type = some .string ∧ P.underlying f1.type = some (.int .i64) ∧ P.underlying f2.type = some .bool ∧ P.underlying f3.type = some .bool ∧ P.underlying f4.type = some (.slice ts) ∧ P.underlying f5.type = some (.slice ts) ∧ P.underlying f6.type = some (.slice ti) ∧ P.underlying f7.type = some (.int .i64)
theorem pv_pr {G : Type} {P : Program} {t tS ts ti : TypeId} (hK : PrTy P t tS ts ti) (hS : SpanTy P tS) (hs : P.underlying ts = some .string) (hi : P.underlying ti = some (.int .i64)) {n : Nat} {d : DataW G} (h : ShpN P n t d) : ∃ k : Pr, pvE d = encPr k := by
  obtain ⟨f0, f1, f2, f3, f4, f5, f6, f7, hu, h0, h1, h2, h3, h4, h5, h6, h7⟩ := hK
  obtain ⟨m, ys, rfl, e, hl, hall⟩ := h.struct hu
  obtain ⟨a0, a1, a2, a3, a4, a5, a6, a7, rfl⟩ := len8 (l := ys) (by simpa using hl)
  obtain ⟨_, e0, s0⟩ := hall 0 f0 rfl
  obtain ⟨_, e1, s1⟩ := hall 1 f1 rfl
  obtain ⟨_, e2, s2⟩ := hall 2 f2 rfl
  obtain ⟨_, e3, s3⟩ := hall 3 f3 rfl
  obtain ⟨_, e4, s4⟩ := hall 4 f4 rfl
  obtain ⟨_, e5, s5⟩ := hall 5 f5 rfl
  obtain ⟨_, e6, s6⟩ := hall 6 f6 rfl
  obtain ⟨_, e7, s7⟩ := hall 7 f7 rfl
  simp at e0 e1 e2 e3 e4 e5 e6 e7
  subst e0; subst e1; subst e2; subst e3; subst e4; subst e5; subst e6; subst e7
  obtain ⟨x0, p0⟩ := s0.str h0
  obtain ⟨x1, p1⟩ := s1.int h1
  obtain ⟨x2, p2⟩ := s2.bool h2
  obtain ⟨x3, p3⟩ := s3.bool h3
  obtain ⟨x4, p4⟩ := s4.strs h4 hs
  obtain ⟨x5, p5⟩ := s5.strs h5 hs
  obtain ⟨x6, p6⟩ := s6.ints h6 hi
  obtain ⟨x7, p7⟩ := s7.int h7
  refine ⟨⟨x0, x1, x2, x3, x4, x5, x6, x7⟩, ?_⟩
  rw [e]
  simp only [pvCs, p0, p1, p2, p3, p4, p5, p6, p7, zzdb, encPr]
  rfl
theorem prTy : PrTy Tryz.prog 98 46 9 3 := ⟨fldOf Tryz.prog 98 0, fldOf Tryz.prog 98 1, fldOf Tryz.prog 98 2, fldOf Tryz.prog 98 3, fldOf Tryz.prog 98 4, fldOf Tryz.prog 98 5, fldOf Tryz.prog 98 6, fldOf Tryz.prog 98 7, by kernel_rfl, by kernel_rfl, by kernel_rfl, by kernel_rfl, by kernel_rfl, by kernel_rfl, by kernel_rfl, by kernel_rfl, by kernel_rfl⟩
def plTP : List TypeId := [3, 4, 9, 41, 42, 97, 98, 71]
theorem plOP : plB Tryz.prog plTP = true := by kernel_rfl
theorem strTy9 : Tryz.prog.underlying 9 = some .string := by kernel_rfl
theorem intTy3 : Tryz.prog.underlying 3 = some (.int .i64) := by kernel_rfl
section
variable {G : Type} {ec : TypeId × Value → G} {W : World} {base : Nat} {v : Value} {d : DataW G} {ps : List MemPlace}
theorem slTy89 : Tryz.prog.underlying 89 = some (.slice 64) := by kernel_rfl
set_option maxRecDepth 100000 in
theorem arg_grants (hval : Value.okWide Tryz.prog W .any base 89 v) (h : DataW.Trod ec Tryz.prog W 0 (fun _ => true) true 89 v d ps) (hb : Small d) : ∃ x : List Gr, Rep (memOf W (hwOf W)) (.list .foreign (x.map encG)) v ∧ True := by
  obtain ⟨n, s⟩ := ShpN.of h
  obtain ⟨m, es, _, e, hes⟩ := s.slice slTy89
  obtain ⟨l, hl⟩ := list_of (f := encG) fun y hy => pv_grant grantTy spanTy strTy9 intTy3 (hes y hy)
  have R := Trod_rep plOG (show _ ∈ plTG by simp [plTG]) hval h (fits_of d hb)
  rw [e, hl] at R
  exact ⟨l, R, trivial⟩
theorem stays89 {W' : World} (h : DataW.Trod ec Tryz.prog W 0 (fun _ => true) true 89 v d ps) (hb : Below W.heap.size W W') (hlt : ∀ x ∈ ps, x.block < W.heap.size) {sp : Nat → Bool} (hsp : ∀ x ∈ ps, sp x.block = true) : DataW.Trod ec Tryz.prog W' 0 sp true 89 v d ps := stays_of (by kernel_rfl) (of_decide_eq_true (by kernel_rfl)) h hb hlt hsp
theorem slTy71 : Tryz.prog.underlying 71 = some (.slice 98) := by kernel_rfl
set_option maxRecDepth 100000 in
theorem arg_prs (hval : Value.okWide Tryz.prog W .any base 71 v) (h : DataW.Trod ec Tryz.prog W 0 (fun _ => true) true 71 v d ps) (hb : Small d) : ∃ x : List Pr, Rep (memOf W (hwOf W)) (.list .foreign (x.map encPr)) v ∧ True := by
  obtain ⟨n, s⟩ := ShpN.of h
  obtain ⟨m, es, _, e, hes⟩ := s.slice slTy71
  obtain ⟨l, hl⟩ := list_of (f := encPr) fun y hy => pv_pr prTy spanTy strTy9 intTy3 (hes y hy)
  have R := Trod_rep plOP (show _ ∈ plTP by simp [plTP]) hval h (fits_of d hb)
  rw [e, hl] at R
  exact ⟨l, R, trivial⟩
theorem stays71 {W' : World} (h : DataW.Trod ec Tryz.prog W 0 (fun _ => true) true 71 v d ps) (hb : Below W.heap.size W W') (hlt : ∀ x ∈ ps, x.block < W.heap.size) {sp : Nat → Bool} (hsp : ∀ x ∈ ps, sp x.block = true) : DataW.Trod ec Tryz.prog W' 0 sp true 71 v d ps := stays_of (by kernel_rfl) (of_decide_eq_true (by kernel_rfl)) h hb hlt hsp
end
end Go.Pv


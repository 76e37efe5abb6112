import Derived.Test.YtlgaolpkeejmdaaME
import Derived.Test.YtlgaolpkeejmdaaMB
namespace Go.Pv
open Go Go.Proofs Go.RowKit Go.WideShapes
set_option linter.unusedVariables false
/-- The type of what one has who may use a ticket. -/
def CredTy (P : Program) (t tT tS : TypeId) : Prop := ∃ f0 f1 f2 f3 f4 f5 : Field, P.underlying t = some (.struct #[f0, f1, f2, f3, f4, f5]) ∧ P.underlying f0.type = some .string ∧ P.underlying f1.type = some .string ∧ f2.type = tT ∧ f3.type = tT ∧ P.underlying f4.type = some (.int .i64) ∧ f5.type = tS
theorem pv_cred {G : Type} {P : Program} {t tT tS : TypeId} (hK : CredTy P t tT tS) (hT : TermTy P tT) (hS : SpanTy P tS) {n : Nat} {d : DataW G} (h : ShpN P n t d) : ∃ k : Cr, pvE d = encD k := by
  obtain ⟨f0, f1, f2, f3, f4, f5, hu, h0, h1, h2, h3, h4, h5⟩ := hK
  obtain ⟨m, ys, rfl, e, hl, hall⟩ := h.struct hu
  obtain ⟨a, b, c, d', e', f, rfl⟩ := len6 (l := ys) (by simpa using hl)
  obtain ⟨_, e0, s0⟩ := hall 0 f0 rfl
  obtain ⟨_, e1, s1⟩ := hall 1 f1 rfl
  obtain ⟨_, e2, s2⟩ := hall 2 f2 rfl
  obtain ⟨_, e3, s3⟩ := hall 3 f3 rfl
  obtain ⟨_, e4, s4⟩ := hall 4 f4 rfl
  obtain ⟨_, e5, s5⟩ := hall 5 f5 rfl
  simp at e0 e1 e2 e3 e4 e5
  subst e0; subst e1; subst e2; subst e3; subst e4; subst e5
  obtain ⟨x0, p0⟩ := s0.str h0
  obtain ⟨x1, p1⟩ := s1.str h1
  rw [h2] at s2; rw [h3] at s3; rw [h5] at s5
  obtain ⟨x2, p2⟩ := pv_term hT _ _ s2
  obtain ⟨x3, p3⟩ := pv_term hT _ _ s3
  obtain ⟨x4, p4⟩ := s4.int h4
  obtain ⟨x5, p5⟩ := pv_span hS s5
  refine ⟨⟨x0, x1, x2, x3, x4, x5⟩, ?_⟩
  rw [e]
  simp only [pvCs, p0, p1, p2, p3, p4, p5, zzdd, encC, zzdb, encD]
  rfl
theorem credTy : CredTy Try.prog 58 25 27 := ⟨fldOf Try.prog 58 0, fldOf Try.prog 58 1, fldOf Try.prog 58 2, fldOf Try.prog 58 3, fldOf Try.prog 58 4, fldOf Try.prog 58 5, by kernel_rfl, by kernel_rfl, by kernel_rfl, by kernel_rfl, by kernel_rfl, by kernel_rfl, by kernel_rfl⟩
def plTc : List TypeId := [3, 9, 22, 23, 25, 27, 58]
theorem plOc : plB Try.prog plTc = true := by kernel_rfl
section
variable {G : Type} {ec : TypeId × Value → G} {W : World} {base : Nat} {v : Value} {d : DataW G} {ps : List MemPlace}
set_option maxRecDepth 100000 in
theorem arg_cred (hval : Value.okWide Try.prog W .any base 58 v) (h : DataW.Trod ec Try.prog W 0 (fun _ => true) true 58 v d ps) (hb : Small d) : ∃ x : Cr, Rep (memOf W (hwOf W)) (encD x) v ∧ True := by
  obtain ⟨n, s⟩ := ShpN.of h
  obtain ⟨x, e⟩ := pv_cred credTy termTy spanTy s
  have R := Trod_rep plOc (show _ ∈ plTc by simp [plTc]) hval h (fits_of d hb)
  rw [e] at R
  exact ⟨x, R, trivial⟩
theorem stays58 {W' : World} (h : DataW.Trod ec Try.prog W 0 (fun _ => true) true 58 v d ps) (hb : Below W.heap.size W W') (hlt : ∀ x ∈ ps, x.block < W.heap.size) {sp : Nat → Bool} (hsp : ∀ x ∈ ps, sp x.block = true) : DataW.Trod ec Try.prog W' 0 sp true 58 v d ps := stays_of (by kernel_rfl) (of_decide_eq_true (by kernel_rfl)) h hb hlt hsp
theorem stays88 {W' : World} (h : DataW.Trod ec Try.prog W 0 (fun _ => true) true 88 v d ps) (hb : Below W.heap.size W W') (hlt : ∀ x ∈ ps, x.block < W.heap.size) {sp : Nat → Bool} (hsp : ∀ x ∈ ps, sp x.block = true) : DataW.Trod ec Try.prog W' 0 sp true 88 v d ps := stays_of (by kernel_rfl) (of_decide_eq_true (by kernel_rfl)) h hb hlt hsp
end
end Go.Pv

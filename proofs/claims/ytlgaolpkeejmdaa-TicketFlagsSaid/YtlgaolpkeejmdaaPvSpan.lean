import Derived.Test.YtlgaolpkeejmdaaPvZ
namespace Go.Pv
theorem pb {P : Program} {α β : Type} {s : Sem α} {f : α → Sem β} {a : α} {v : Option β} (h : pureP P s = some a) (h2 : pureP P (f a) = v) : pureP P (s >>= f) = v := (pureP_bind h).trans h2
/-- Structs of two fields that are numbers. -/
theorem pair_eql {P : Program} {t ti : TypeId} {f0 f1 : Field} (hu : pureP P (underlying t) = some (.struct #[f0, f1])) (hi : pureP P (underlying ti) = some (.int .i64))
    (e1 : f0.type = ti) (e2 : f1.type = ti) (e5 : (f0.name == "_") = false) (e6 : (f1.name == "_") = false) (hs : P.stoodInHeld t = false)
    (p0 : ∀ a b : Int, pureP P (part ti #[.int .i64 a, .int .i64 b] f0.offset) = some (.int .i64 a)) (p1 : ∀ a b : Int, pureP P (part ti #[.int .i64 a, .int .i64 b] f1.offset) = some (.int .i64 b))
    (hg : P.eqGuardType P.depth t = false)
    (a b c d : Int) : bin2 P .eql t (.agg #[.int .i64 a, .int .i64 b]) (.agg #[.int .i64 c, .int .i64 d]) = some (.bool (a == c && b == d)) := by
  show pureP P (do eqGuard .eql t (.const (.agg #[.int .i64 a, .int .i64 b])) (.const (.agg #[.int .i64 c, .int .i64 d])) (.agg #[.int .i64 a, .int .i64 b]) (.agg #[.int .i64 c, .int .i64 d]); binOp .eql t (.agg #[.int .i64 a, .int .i64 b]) (.agg #[.int .i64 c, .int .i64 d]) : Sem Value) = _
  have hguard : pureP P (eqGuard .eql t (.const (.agg #[.int .i64 a, .int .i64 b])) (.const (.agg #[.int .i64 c, .int .i64 d])) (.agg #[.int .i64 a, .int .i64 b]) (.agg #[.int .i64 c, .int .i64 d])) = some () := by
    show pureP P (program >>= fun p => program >>= fun q => if (!p.eqGuardType q.depth t) = true then pure () else _) = _
    refine pb (a := P) rfl (pb (a := P) rfl ?_)
    rw [hg]; rfl
  rw [pureP_bind hguard]
  show pureP P (Op.equal t (.agg #[.int .i64 a, .int .i64 b]) (.agg #[.int .i64 c, .int .i64 d]) >>= fun r => (pure (.bool r) : Sem Value)) = _
  have hEq : ∀ x y : Int, pureP P (Op.equalIn 9999 ti (.int .i64 x) (.int .i64 y)) = some (x == y) := by
    intro x y
    show pureP P (Op.equalIn (9998 + 1) ti _ _) = _
    unfold Op.equalIn
    rw [pureP_bind hi]; rfl
  have n0 : f0.name ≠ "_" := by simpa using e5
  have n1 : f1.name ≠ "_" := by simpa using e6
  have this : pureP P (Op.equal t (.agg #[.int .i64 a, .int .i64 b]) (.agg #[.int .i64 c, .int .i64 d])) = some (a == c && b == d) := by
    unfold Op.equal Op.maxDepth
    show pureP P (Op.equalIn (9999 + 1) t _ _) = _
    unfold Op.equalIn
    rw [pureP_bind hu]
    simp only
    refine pb (a := P) rfl ?_
    rw [hs]
    simp only [Bool.false_eq_true, if_false, List.forIn_toArray, List.forIn_cons, List.forIn_nil, if_pos n0, if_pos n1, e1, e2]
    have h0 := hEq a c
    have h1 := hEq b d
    cases hac : (a == c) with
    | false =>
      rw [hac] at h0
      refine pb (pb (pb (p0 a b) (pb (p0 c d) (pb h0 rfl))) rfl) rfl
    | true =>
      rw [hac] at h0
      cases hbd : (b == d) with
      | false =>
        rw [hbd] at h1
        refine pb (pb (pb (p0 a b) (pb (p0 c d) (pb h0 rfl))) (pb (pb (p1 a b) (pb (p1 c d) (pb h1 rfl))) rfl)) rfl
      | true =>
        rw [hbd] at h1
        refine pb (pb (pb (p0 a b) (pb (p0 c d) (pb h0 rfl))) (pb (pb (p1 a b) (pb (p1 c d) (pb h1 rfl))) rfl)) rfl
  rw [pureP_bind this]; rfl
end Go.Pv

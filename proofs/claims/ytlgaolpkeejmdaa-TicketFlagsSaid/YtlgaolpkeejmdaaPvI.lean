import Derived.Test.YtlgaolpkeejmdaaPvH
set_option linter.unusedSimpArgs false
set_option linter.unusedVariables false
namespace Go.Pv
section
variable {P : Program} {w0 w : World} {hw0 hw : Nat → Nat} {H0 H : PH} {lam : Nat → Nat} {L : List (List PV)}

/-- The slots, and what they stand for. -/
def Evals (m : Mem) (lam : Nat → Nat) (nL n : Nat) (ρ : RO → EV) (a : Operand → Value) : Prop := ∀ x y, rO n x = some y → RepEV m lam nL (ρ y) (a x)

theorem evs_rep {m : Mem} {lam : Nat → Nat} {nL n : Nat} {ρ : RO → EV} {a : Operand → Value} (ev : Evals m lam nL n ρ a) : ∀ {xs : List Operand} {ys : List RO} {ps : List PV}, rOs n xs = some ys → pvs? (ys.map ρ) = some ps → RepL m ps (xs.map a)
  | [], ys, ps, h, k => by
    simp only [rOs, Option.some.injEq] at h; subst h
    simp only [List.map_nil, pvs?, Option.some.injEq] at k; subst k
    exact RepL_nil
  | x :: xs, ys, ps, h, k => by
    simp only [rOs] at h
    split at h
    · rename_i y ys' h1 h2
      cases h
      simp only [List.map_cons, pvs?] at k
      have r := ev x y h1
      cases hy : ρ y with
      | l i o => rw [hy] at k; simp [pvs?] at k
      | v p =>
        rw [hy] at k r
        simp only [pvs?, Option.map_eq_some_iff] at k
        obtain ⟨ps', k1, rfl⟩ := k
        simp only [List.map_cons, RepL_cons]
        exact ⟨r, evs_rep ev h2 k1⟩
    · cases h

theorem ev_v {m : Mem} {lam : Nat → Nat} {nL n : Nat} {ρ : RO → EV} {a : Operand → Value} (ev : Evals m lam nL n ρ a) {x : Operand} {y : RO} {p : PV} (h : rO n x = some y) (hy : ρ y = .v p) : Rep m p (a x) := by
  have := ev x y h
  rw [hy] at this
  exact this

def Done (P : Program) (w0 : World) (hw0 : Nat → Nat) (H0 : PH) (w : World) (hw : Nat → Nat) (lam : Nat → Nat) (L : List (List PV)) (H : PH) (s : Sem Value) (e : EV) : Prop :=
  ∃ v w' hw', s.run P w = .ok v w' ∧ SimB w0 hw0 H0 w' hw' lam L H ∧ MLe (memOf w hw) (memOf w' hw') ∧ RepEV (memOf w' hw') lam L.length e v

theorem Done.stay (s : SimB w0 hw0 H0 w hw lam L H) {x : Sem Value} {e : EV} {v : Value} (h : x.run P w = .ok v w) (r : RepEV (memOf w hw) lam L.length e v) : Done P w0 hw0 H0 w hw lam L H x e :=
  ⟨v, w, hw, h, s, MLe.refl _, r⟩

theorem scalD {e : EV} {x : Option Value} (h : (x.bind fun r => if atomB r then some (EV.v (.scal r)) else none) = some e) : ∃ r, x = some r ∧ e = .v (.scal r) ∧ atomB r = true := by
  simp only [Option.bind_eq_some_iff] at h
  obtain ⟨r, h1, h2⟩ := h
  split at h2
  · rename_i h3; cases h2; exact ⟨r, h1, rfl, h3⟩
  · cases h2

/-! bounds of a slice -/
theorem optI_rep {m : Mem} {nL n : Nat} {ρ : RO → EV} {a : Operand → Value} (ev : Evals m lam nL n ρ a) {x : Option Operand} {y : Option RO} {i : Option Int} (h : rOpt n x = some y) (k : optI ρ y = some i) : x.map a = i.map (.int .i64 ·) := by
  cases x with
  | none =>
    simp only [rOpt, Option.some.injEq] at h; subst h
    simp only [optI, Option.some.injEq] at k; subst k; rfl
  | some x =>
    simp only [rOpt, Option.map_eq_some_iff] at h
    obtain ⟨y', h1, rfl⟩ := h
    simp only [optI, Option.map_eq_some_iff] at k
    obtain ⟨j, k1, rfl⟩ := k
    simp only [Option.map_some]
    rw [asInt_rep k1 (ev _ _ h1)]

theorem run_bound {i : Int} {y : Nat} {c : BoundsCode} (h : 0 ≤ i ∧ i ≤ y) (w : World) : (Instr.sliceBound (.int .i64 i) y c).run P w = .ok i.toNat w := by
  show ((pure (IntKind.i64, i) : Sem (IntKind × Int)) >>= fun p => if 0 ≤ p.2 ∧ p.2 ≤ y then pure p.2.toNat else boundsPanic p.1 p.2 y c).run P w = _
  rw [run_bind_ok (run_pure' _ w), if_pos h]
  rfl

theorem run_bounds {len cap : Nat} {lo hi mx : Option Int} (hl : 0 ≤ lo.getD 0) (hh : lo.getD 0 ≤ hi.getD len) (hlen : hi.getD len ≤ len) (hc : len ≤ cap) (hm : ∀ m, mx = some m → m = hi.getD len ∧ hi.isSome = true) (w : World) :
    (Instr.sliceBounds true len cap (lo.map (.int .i64 ·)) (hi.map (.int .i64 ·)) (mx.map (.int .i64 ·))).run P w =
      .ok ((lo.getD 0).toNat, (hi.getD len).toNat, ((mx.map Int.toNat).getD cap)) w := by
  unfold Instr.sliceBounds
  cases mx with
  | none =>
    simp only [Option.map_none]
    rw [run_bind_ok (run_pure' _ w)]
    cases hi with
    | none =>
      simp only [Option.map_none]
      rw [run_bind_ok (run_pure' _ w)]
      cases lo with
      | none => simp only [Option.map_none]; rw [run_bind_ok (run_pure' _ w)]; rfl
      | some l =>
        simp only [Option.map_some, Option.getD_some, Option.getD_none] at hl hh ⊢
        rw [run_bind_ok (run_bound ⟨hl, by omega⟩ w)]; rfl
    | some h =>
      simp only [Option.map_some, Option.getD_some] at hh hlen ⊢
      rw [run_bind_ok (run_bound ⟨by omega, by omega⟩ w)]
      cases lo with
      | none => simp only [Option.map_none]; rw [run_bind_ok (run_pure' _ w)]; rfl
      | some l =>
        simp only [Option.map_some, Option.getD_some] at hl hh ⊢
        rw [run_bind_ok (run_bound ⟨hl, by omega⟩ w)]; rfl
  | some m =>
    obtain ⟨h1, h2⟩ := hm m rfl
    cases hi with
    | none => simp at h2
    | some h =>
      simp only [Option.map_some, Option.getD_some] at h1 hh hlen ⊢
      subst h1
      rw [run_bind_ok (run_bound ⟨by omega, by omega⟩ w)]
      rw [run_bind_ok (run_bound ⟨by omega, by omega⟩ w)]
      cases lo with
      | none => simp only [Option.map_none]; rw [run_bind_ok (run_pure' _ w)]; rfl
      | some l =>
        simp only [Option.map_some, Option.getD_some] at hl hh ⊢
        rw [run_bind_ok (run_bound ⟨hl, by omega⟩ w)]; rfl

theorem s_slice (s : SimB w0 hw0 H0 w hw lam L H) {t el : TypeId} {sz : Nat} (ht : P.underlying t = some (.slice el)) (hs : tSize P el = some sz) {tok : Tok} {xs : List PV} {u : Value} (hr : Rep (memOf w hw) (.list tok xs) u)
    {lo hi mx : Option Int} {p : PV} (hsz : ∀ p ∈ xs, p.cells.length = sz) (h : sliceL tok xs lo hi mx = some p) :
    ∃ v, (Instr.sliceAt t u (lo.map (.int .i64 ·)) (hi.map (.int .i64 ·)) (mx.map (.int .i64 ·))).run P w = .ok v w ∧ Rep (memOf w hw) p v := by
  simp only [Rep] at hr
  obtain ⟨A, len, cap, z, rfl, hlen, hcap, hB, htok, hrow⟩ := hr
  unfold sliceL at h
  split at h
  · rename_i hb
    obtain ⟨h1, h2, h3⟩ := hb
    subst hlen
    have hmx : ∀ m, mx = some m → m = hi.getD xs.length ∧ hi.isSome = true := by
      rintro m rfl
      simp only at h
      split at h
      · assumption
      · cases h
    have hrun : (Instr.sliceAt t (.slice A xs.length cap) (lo.map (.int .i64 ·)) (hi.map (.int .i64 ·)) (mx.map (.int .i64 ·))).run P w =
        .ok (.slice (if ((mx.map Int.toNat).getD cap) = (lo.getD 0).toNat then A else A.map (·.add ((lo.getD 0).toNat * sz))) ((hi.getD xs.length).toNat - (lo.getD 0).toNat)
          (((mx.map Int.toNat).getD cap) - (lo.getD 0).toNat)) w := by
      unfold Instr.sliceAt
      rw [run_bind_ok (run_under ht w)]
      show (Instr.slice t (.slice A xs.length cap) _ _ _).run P w = _
      unfold Instr.slice
      rw [run_bind_ok (run_under ht w)]
      simp only
      rw [run_bind_ok (run_bounds h1 h2 h3 hcap hmx w)]
      simp only
      rw [run_bind_ok (run_sizeOf hs w)]
      rfl
    refine ⟨_, hrun, ?_⟩
    have hlx : ((xs.drop (lo.getD 0).toNat).take (hi.getD xs.length - lo.getD 0).toNat).length = (hi.getD xs.length).toNat - (lo.getD 0).toNat := by
      simp only [List.length_take, List.length_drop]; omega
    have hcap2 : (hi.getD xs.length).toNat ≤ ((mx.map Int.toNat).getD cap) := by
      cases mx with
      | none => simp only [Option.map_none, Option.getD_none]; omega
      | some m => have := (hmx m rfl).1; simp only [Option.map_some, Option.getD_some]; omega
    have hrow' : (hi.getD xs.length).toNat - (lo.getD 0).toNat ≠ 0 → ∃ b o, (if ((mx.map Int.toNat).getD cap) = (lo.getD 0).toNat then A else A.map (·.add ((lo.getD 0).toNat * sz))) = some ⟨b, o, none⟩ ∧
        RepE (memOf w hw) ((xs.drop (lo.getD 0).toNat).take (hi.getD xs.length - lo.getD 0).toNat) b o z := by
      intro hne
      obtain ⟨b, o, rfl, hE⟩ := hrow (by omega)
      have hz : z = sz := by
        cases xs with
        | nil => simp at h3 hne; omega
        | cons x xs => rw [RepE_cons] at hE; rw [← hE.1.1]; exact hsz x (by simp)
      subst hz
      refine ⟨b, o + (lo.getD 0).toNat * z, ?_, RepE_take _ (RepE_drop _ hE)⟩
      rw [if_neg (by omega)]
      simp [addr_add]
    cases mx with
    | none =>
      cases h
      simp only [Rep]
      refine ⟨_, _, _, z, rfl, hlx.symm, by omega, by omega, ?_, hrow'⟩
      split
      · rename_i hf
        cases tok with
        | full => simp only [RepTok, Option.map_none, Option.getD_none] at htok ⊢; omega
        | _ => simp [isFull] at hf
      · trivial
    | some m =>
      simp only at h
      split at h
      · rename_i hm
        cases h
        simp only [Rep]
        exact ⟨_, _, _, z, rfl, hlx.symm, by omega, by omega, by simp only [RepTok, Option.map_some, Option.getD_some]; omega, hrow'⟩
      · cases h
  · cases h

theorem s_iaddr (s : SimB w0 hw0 H0 w hw lam L H) {t el : TypeId} {sz : Nat} (ht : P.underlying t = some (.slice el)) (hs : tSize P el = some sz) {tok : Tok} {xs : List PV} {u : Value} (hr : Rep (memOf w hw) (.list tok xs) u)
    {i : Int} {p : PV} (h0 : 0 ≤ i) (hp : xs[i.toNat]? = some p) (hc : p.cells.length = sz) :
    ∃ v, (Instr.indexAt t u (.int .i64 i)).run P w = .ok v w ∧ Rep (memOf w hw) (.cptr p.cells) v := by
  simp only [Rep] at hr
  obtain ⟨A, len, cap, z, rfl, hlen, hcap, hB, htok, hrow⟩ := hr
  have hlt : i.toNat < xs.length := (List.getElem?_eq_some_iff.1 hp).1
  obtain ⟨b, o, rfl, hE⟩ := hrow (by omega)
  obtain ⟨hR, hz⟩ := elem_at hE hp
  have hzz : z = sz := by omega
  subst hzz
  refine ⟨.pointer (some ⟨b, o + i.toNat * z, none⟩), ?_, by simp only [Rep]; exact ⟨_, _, rfl, hR⟩⟩
  unfold Instr.indexAt
  show ((pure (IntKind.i64, i) : Sem (IntKind × Int)) >>= _).run P w = _
  rw [run_bind_ok (run_pure' _ w)]
  simp only
  rw [run_bind_ok (run_under ht w)]
  simp only
  rw [run_bind_ok (run_pure' _ w), run_bind_ok (run_under ht w)]
  simp only
  rw [if_pos (show 0 ≤ i ∧ i < (len : Int) by omega), run_bind_ok (run_sizeOf hs w), addr_add]
  rfl

theorem s_iaddrA {t el : TypeId} {len sz : Nat} (ht : P.underlying t = some (.array len el)) (hs : tSize P el = some sz) {b o : Nat} {i : Int} (h0 : 0 ≤ i) (h1 : i < len) :
    (Instr.indexAt t (.pointer (some ⟨b, o, none⟩)) (.int .i64 i)).run P w = .ok (.pointer (some ⟨b, o + i.toNat * sz, none⟩)) w := by
  unfold Instr.indexAt
  show ((pure (IntKind.i64, i) : Sem (IntKind × Int)) >>= _).run P w = _
  rw [run_bind_ok (run_pure' _ w)]
  simp only
  rw [run_bind_ok (run_under ht w)]
  simp only
  rw [run_bind_ok (run_sure _ w), run_bind_ok (run_pure' _ w), run_bind_ok (run_under ht w)]
  simp only
  rw [if_pos (show 0 ≤ i ∧ i < (len : Int) from ⟨h0, h1⟩), run_bind_ok (run_sizeOf hs w), addr_add]
  rfl

theorem s_faddr {t : TypeId} {fields : Array Field} {f : Nat} {fd : Field} {sz : Nat} (ht : P.underlying t = some (.struct fields)) (hf : fields[f]? = some fd) (hs : tSize P fd.type = some sz) (h0 : sz ≠ 0) {b o : Nat} :
    (Instr.fieldAt t (.pointer (some ⟨b, o, none⟩)) f).run P w = .ok (.pointer (some ⟨b, o + fd.offset, none⟩)) w := by
  unfold Instr.fieldAt
  rw [run_bind_ok (run_under ht w)]
  simp only
  rw [hf]
  simp only
  rw [run_bind_ok (run_sure _ w)]
  rw [run_bind_ok (s := fieldPlace _ _) (w' := w) (a := ⟨b, o + fd.offset, none⟩) (by
    unfold fieldPlace
    rw [run_bind_ok (run_sizeOf hs w), if_neg h0, addr_add]; rfl)]
  rfl

theorem s_part {m : Mem} {t : TypeId} {sz off : Nat} {g : Bool} (hg : tAgg P t = some g) (hs : tSize P t = some sz) {cs : List PV} {vs : Array Value} (r : RepL m cs vs.toList) {p : PV}
    (h : (if g then (if off + sz ≤ cs.length then some (PV.agg ((cs.drop off).take sz)) else none) else cs[off]?) = some p) :
    ∃ v, (part t vs off).run P w = .ok v w ∧ Rep m p v := by
  have hl := RepL_length r
  simp only [Array.length_toList] at hl
  unfold part
  cases g with
  | true =>
    simp only [if_true] at h
    split at h
    · cases h
      refine ⟨_, by rw [run_bind_ok (run_agg hg w), if_pos rfl, run_bind_ok (run_sizeOf hs w)]; rfl, ?_⟩
      simp only [Rep]
      refine ⟨_, rfl, ?_⟩
      have := RepL_take sz (RepL_drop off r)
      rw [Array.toList_extract, List.extract_eq_take_drop]
      rwa [show off + sz - off = sz by omega]
    · cases h
  | false =>
    simp only [Bool.false_eq_true, if_false] at h
    obtain ⟨v, h1, h2⟩ := RepL_get r h
    refine ⟨v, ?_, h2⟩
    rw [run_bind_ok (run_agg hg w), if_neg (by simp)]
    rw [Array.getElem?_toList] at h1
    rw [h1]; rfl

theorem s_fld {m : Mem} {t : TypeId} {fields : Array Field} {f : Nat} {fd : Field} {sz : Nat} {g : Bool} (ht : P.underlying t = some (.struct fields)) (hf : fields[f]? = some fd) (hg : tAgg P fd.type = some g) (hs : tSize P fd.type = some sz)
    {cs : List PV} {u : Value} (r : Rep m (.agg cs) u) {p : PV} (h : (if g then (if fd.offset + sz ≤ cs.length then some (PV.agg ((cs.drop fd.offset).take sz)) else none) else cs[fd.offset]?) = some p) :
    ∃ v, (Instr.field t u f).run P w = .ok v w ∧ Rep m p v := by
  simp only [Rep] at r
  obtain ⟨vs, rfl, r⟩ := r
  obtain ⟨v, h1, h2⟩ := s_part (w := w) hg hs r h
  refine ⟨v, ?_, h2⟩
  unfold Instr.field
  rw [run_bind_ok (run_under ht w)]
  simp only
  rw [hf]
  simp only
  rw [run_bind_ok (s := asAgg (.agg vs)) (a := vs) (w' := w) rfl]
  exact h1

theorem s_idxA {m : Mem} {t el : TypeId} {len sz : Nat} {g : Bool} (ht : P.underlying t = some (.array len el)) (hg : tAgg P el = some g) (hs : tSize P el = some sz)
    {cs : List PV} {u : Value} (r : Rep m (.agg cs) u) {i : Int} (h0 : 0 ≤ i) (h1 : i < len) {p : PV} (h : (if g then (if i.toNat * sz + sz ≤ cs.length then some (PV.agg ((cs.drop (i.toNat * sz)).take sz)) else none) else cs[i.toNat * sz]?) = some p) :
    ∃ v, (Instr.index t u (.int .i64 i)).run P w = .ok v w ∧ Rep m p v := by
  simp only [Rep] at r
  obtain ⟨vs, rfl, r⟩ := r
  obtain ⟨v, h3, h2⟩ := s_part (w := w) hg hs r h
  refine ⟨v, ?_, h2⟩
  unfold Instr.index
  show ((pure (IntKind.i64, i) : Sem (IntKind × Int)) >>= _).run P w = _
  rw [run_bind_ok (run_pure' _ w)]
  simp only
  rw [run_bind_ok (run_under ht w)]
  simp only
  rw [if_pos ⟨h0, h1⟩, run_bind_ok (run_sizeOf hs w)]
  exact h3
end
end Go.Pv

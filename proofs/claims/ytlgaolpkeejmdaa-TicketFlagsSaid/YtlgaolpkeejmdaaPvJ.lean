import Derived.Test.YtlgaolpkeejmdaaPvI
import Derived.Laws.Sem
set_option linter.unusedSimpArgs false
set_option linter.unusedVariables false
namespace Go.Pv
section
variable {P : Program} {w0 w : World} {hw0 hw : Nat → Nat} {H0 H : PH} {lam : Nat → Nat} {L : List (List PV)}

/-! build -/
theorem zipIdx_splice : ∀ (vs : List Value) (cs : Array Value) (off k : Nat),
    ((vs.zipIdx k).foldl (fun cs (x : Value × Nat) => cs.setIfInBounds (off + x.2) x.1) cs).toList = splice cs.toList (off + k) vs
  | [], cs, off, k => by simp [splice]
  | v :: vs, cs, off, k => by
    simp only [List.zipIdx_cons, List.foldl_cons]
    rw [zipIdx_splice vs _ off (k + 1)]
    simp [splice, Nat.add_assoc]

def PartsR (m : Mem) (place : Nat → Option (Nat × Nat)) : List (Nat × Nat × PV) → List (Nat × Value) → Prop
  | [], [] => True
  | a :: as, b :: bs => place b.1 = some (a.1, a.2.1) ∧ Rep m a.2.2 b.2 ∧ PartsR m place as bs
  | _, _ => False

theorem fill_rep {m : Mem} {place : Nat → Option (Nat × Nat)} : ∀ {parts : List (Nat × Value)} {ps : List (Nat × Nat × PV)} {cs : List PV} {us : Array Value} {r : List PV},
    PartsR m place ps parts → RepL m cs us.toList → buildP cs ps = some r →
    ∃ vs, Instr.fill place us parts = some vs ∧ RepL m r vs.toList
  | [], ps, cs, us, r, hf, hc, h => by
    cases ps with
    | cons a as => exact hf.elim
    | nil =>
      simp only [buildP, Option.some.injEq] at h
      subst h
      exact ⟨us, rfl, hc⟩
  | (i, v) :: parts, ps, cs, us, r, hf, hc, h => by
    cases ps with
    | nil => exact hf.elim
    | cons a ps' =>
      obtain ⟨off, sz, p⟩ := a
      obtain ⟨hp, hr, h2⟩ := hf
      simp only [buildP] at h
      split at h
      · rename_i hb
        obtain ⟨hb1, hb2⟩ := hb
        have hcells := Rep_cells hr
        have hl := RepL_length hcells
        have hl2 := RepL_length hc
        simp only [Array.length_toList] at hl hl2
        have hs : RepL m (splice cs off p.cells) ((v.cells.zipIdx.foldl (fun cs (x : Value × Nat) => cs.setIfInBounds (off + x.2) x.1) us).toList) := by
          have := zipIdx_splice v.cells.toList us off 0
          rw [← Array.foldl_toList, Array.toList_zipIdx, this]
          simpa using RepL_splice off hcells hc
        obtain ⟨vs, k1, k2⟩ := fill_rep h2 hs h
        refine ⟨vs, ?_, k2⟩
        simp only [Instr.fill]
        simp only at hp
        rw [hp]
        simp only
        rw [if_neg (by simp; omega)]
        exact k1
      · cases h

def placeOf (f : Field) : Sem (Nat × Nat) := do pure (f.offset, ← sizeOf f.type)

theorem run_mapM_places {fields : Array Field} (h : fields.toList.all (fun f => (tSize P f.type).isSome) = true) (w : World) :
    ∃ places : Array (Nat × Nat), (fields.mapM placeOf).run P w = .ok places w ∧
      ∀ (i : Nat) (f : Field) (s : Nat), fields[i]? = some f → tSize P f.type = some s → places[i]? = some (f.offset, s) := by
  have key : ∀ (l : List Field), l.all (fun (f : Field) => (tSize P f.type).isSome) = true → ∃ pl : List (Nat × Nat), (l.mapM placeOf).run P w = .ok pl w ∧
      ∀ (i : Nat) (f : Field) (s : Nat), l[i]? = some f → tSize P f.type = some s → pl[i]? = some (f.offset, s) := by
    intro l
    induction l with
    | nil => intro _; exact ⟨[], by simp [run_pure'], by simp⟩
    | cons f l ih =>
      intro hl
      simp only [List.all_cons, Bool.and_eq_true] at hl
      obtain ⟨s, hs⟩ := Option.isSome_iff_exists.1 hl.1
      obtain ⟨pl, h1, h2⟩ := ih hl.2
      refine ⟨(f.offset, s) :: pl, ?_, ?_⟩
      · rw [List.mapM_cons]
        rw [run_bind_ok (s := placeOf f) (a := (f.offset, s)) (w' := w) (by unfold placeOf; rw [run_bind_ok (run_sizeOf hs w)]; rfl)]
        rw [run_bind_ok h1]; rfl
      · intro i g s' hg hs'
        cases i with
        | zero => simp at hg; subst hg; rw [hs] at hs'; cases hs'; simp
        | succ i => simpa using h2 i g s' (by simpa using hg) hs'
  obtain ⟨pl, h1, h2⟩ := key fields.toList h
  refine ⟨pl.toArray, ?_, fun i f s hi hs => ?_⟩
  · rw [Array.mapM_eq_mapM_toList]
    show (List.toArray <$> _ : Sem (Array (Nat × Nat))).run P w = _
    rw [map_eq_pure_bind, run_bind_ok h1]
    rfl
  · simpa using h2 i f s (by simpa using hi) hs
end
end Go.Pv

import Derived.Test.YtlgaolpkeejmdaaPvJ
set_option linter.unusedSimpArgs false
set_option linter.unusedVariables false
namespace Go.Pv
section
variable {P : Program} {w0 w : World} {hw0 hw : Nat → Nat} {H0 H : PH} {lam : Nat → Nat} {L : List (List PV)}

theorem parts_rep {m : Mem} {nL n : Nat} {ρ : RO → EV} {a : Operand → Value} (ev : Evals m lam nL n ρ a) {fields : Array Field} {places : Array (Nat × Nat)}
    (hp : ∀ (i : Nat) (f : Field) (s : Nat), fields[i]? = some f → tSize P f.type = some s → places[i]? = some (f.offset, s)) :
    ∀ {parts : List (Nat × Operand)} {rs : List (Nat × Nat × RO)} {ps : List (Nat × Nat × PV)}, rParts P n fields parts = some rs → evParts ρ rs = some ps →
      PartsR m (places[·]?) ps (parts.map fun (i, x) => (i, a x))
  | [], rs, ps, h, k => by
    simp only [rParts, Option.some.injEq] at h; subst h
    simp only [evParts, Option.some.injEq] at k; subst k
    trivial
  | (i, x) :: parts, rs, ps, h, k => by
    simp only [rParts] at h
    split at h
    · rename_i f y ys h1 h2 h3
      simp only [Option.map_eq_some_iff] at h
      obtain ⟨s, hs, rfl⟩ := h
      simp only [evParts] at k
      split at k
      · rename_i p ps' k1 k2
        cases k
        exact ⟨hp i f s h1 hs, ev_v ev h2 k1, parts_rep ev hp h3 k2⟩
      · cases k
    · cases h

theorem partsA_rep {m : Mem} {nL n sz : Nat} {ρ : RO → EV} {a : Operand → Value} (ev : Evals m lam nL n ρ a) :
    ∀ {parts : List (Nat × Operand)} {rs : List (Nat × Nat × RO)} {ps : List (Nat × Nat × PV)}, rPartsA n sz parts = some rs → evParts ρ rs = some ps →
      PartsR m (fun i => some (i * sz, sz)) ps (parts.map fun (i, x) => (i, a x))
  | [], rs, ps, h, k => by
    simp only [rPartsA, Option.some.injEq] at h; subst h
    simp only [evParts, Option.some.injEq] at k; subst k
    trivial
  | (i, x) :: parts, rs, ps, h, k => by
    simp only [rPartsA] at h
    split at h
    · rename_i y ys h2 h3
      cases h
      simp only [evParts] at k
      split at k
      · rename_i p ps' k1 k2
        cases k
        exact ⟨rfl, ev_v ev h2 k1, partsA_rep ev h3 k2⟩
      · cases k
    · cases h

theorem s_buildA {m : Mem} {nL n sz len : Nat} {ρ : RO → EV} {a : Operand → Value} (ev : Evals m lam nL n ρ a) {t el : TypeId} {z : Value} {cs : List PV} {parts : Array (Nat × Operand)}
    (ht : P.underlying t = some (.array len el)) (hs : tSize P el = some sz) (hz : tZero P t = some z) (hc : ofCells z.cells.toList = some cs)
    {rs : List (Nat × Nat × RO)} {ps : List (Nat × Nat × PV)} {r : List PV} (h1 : rPartsA n sz parts.toList = some rs) (h2 : evParts ρ rs = some ps) (h3 : buildP cs ps = some r) (w : World) :
    ∃ v, (Instr.build t (parts.map fun (i, x) => (i, a x))).run P w = .ok v w ∧ Rep m (.agg r) v := by
  have hpr := partsA_rep ev h1 h2
  obtain ⟨vs, hv1, hv2⟩ := fill_rep hpr (RepL_ofCells m _ hc) h3
  refine ⟨.agg vs, ?_, by simp only [Rep]; exact ⟨_, rfl, hv2⟩⟩
  unfold Instr.build
  rw [run_bind_ok (run_zero hz w), run_bind_ok (run_under ht w)]
  simp only
  rw [run_bind_ok (run_sizeOf hs w)]
  rw [Array.toList_map, hv1]
  rfl

theorem s_build {m : Mem} {nL n : Nat} {ρ : RO → EV} {a : Operand → Value} (ev : Evals m lam nL n ρ a) {t : TypeId} {fields : Array Field} {z : Value} {cs : List PV} {parts : Array (Nat × Operand)}
    (ht : P.underlying t = some (.struct fields)) (hf : fields.toList.all (fun (f : Field) => (tSize P f.type).isSome) = true) (hz : tZero P t = some z) (hc : ofCells z.cells.toList = some cs)
    {rs : List (Nat × Nat × RO)} {ps : List (Nat × Nat × PV)} {r : List PV} (h1 : rParts P n fields parts.toList = some rs) (h2 : evParts ρ rs = some ps) (h3 : buildP cs ps = some r) (w : World) :
    ∃ v, (Instr.build t (parts.map fun (i, x) => (i, a x))).run P w = .ok v w ∧ Rep m (.agg r) v := by
  obtain ⟨places, hp1, hp2⟩ := run_mapM_places (P := P) hf w
  have hpr := parts_rep (P := P) ev hp2 h1 h2
  obtain ⟨vs, hv1, hv2⟩ := fill_rep hpr (RepL_ofCells m _ hc) h3
  refine ⟨.agg vs, ?_, by simp only [Rep]; exact ⟨_, rfl, hv2⟩⟩
  unfold Instr.build
  rw [run_bind_ok (run_zero hz w), run_bind_ok (run_under ht w)]
  simp only
  have hp1' : (fields.mapM fun (f : Field) => (do pure (f.offset, ← sizeOf f.type) : Sem (Nat × Nat))).run P w = .ok places w := hp1
  rw [run_bind_ok hp1']
  rw [Array.toList_map, hv1]
  rfl

theorem splice_mid {α : Type} : ∀ (vs pre rest : List α), vs.length ≤ rest.length → splice (pre ++ rest) pre.length vs = pre ++ vs ++ rest.drop vs.length
  | [], pre, rest, _ => by simp [splice]
  | v :: vs, pre, [], h => by simp at h
  | v :: vs, pre, r :: rest, h => by
    have := splice_mid vs (pre ++ [v]) rest (by simpa using h)
    simp only [List.length_append, List.length_singleton] at this
    simp only [splice, List.length_cons, List.drop_succ_cons]
    rw [show (pre ++ r :: rest).set pre.length v = pre ++ [v] ++ rest by simp [List.set_append]]
    rw [this]
    simp

theorem fill_row {sz : Nat} : ∀ (vs : List Value) (k : Nat) (pre rest : List Value), (∀ v ∈ vs, v.cells.size = sz) → pre.length = k * sz → rest.length = vs.length * sz →
    Instr.fill (fun i => some (i * sz, sz)) (pre ++ rest).toArray ((List.range' k vs.length).zip vs) = some (pre ++ vs.flatMap (·.cells.toList)).toArray
  | [], k, pre, rest, _, _, h => by
    have : rest = [] := by simpa using h
    simp [Instr.fill, this]
  | v :: vs, k, pre, rest, h1, h2, h3 => by
    have hv := h1 v (by simp)
    simp only [List.length_cons, Nat.succ_mul] at h3
    simp only [List.length_cons, List.range'_succ, List.zip_cons_cons, Instr.fill]
    rw [if_neg (by simp; omega)]
    have hz : (v.cells.zipIdx.foldl (fun cs (x : Value × Nat) => cs.setIfInBounds (k * sz + x.2) x.1) (pre ++ rest).toArray) = (pre ++ v.cells.toList ++ rest.drop sz).toArray := by
      apply Array.ext'
      have := zipIdx_splice v.cells.toList (pre ++ rest).toArray (k * sz) 0
      rw [← Array.foldl_toList, Array.toList_zipIdx, this, Nat.add_zero, ← h2]
      have := splice_mid v.cells.toList pre rest (by simp; omega)
      simp only [Array.length_toList, hv] at this
      simpa using this
    show Instr.fill _ (v.cells.zipIdx.foldl (fun cs (x : Value × Nat) => cs.setIfInBounds (k * sz + x.2) x.1) (pre ++ rest).toArray) _ = _
    rw [hz, fill_row vs (k + 1) (pre ++ v.cells.toList) (rest.drop sz) (fun u hu => h1 u (by simp [hu])) (by simp [Nat.succ_mul]; omega) (by simp; omega)]
    simp

theorem flat_cells {m : Mem} : ∀ {xs : List PV} {vs : List Value}, RepL m xs vs → RepL m (flat xs) (vs.flatMap (·.cells.toList))
  | [], vs, h => by simp [RepL] at h; subst h; simpa [flat] using RepL_nil
  | x :: xs, vs, h => by
    obtain ⟨v, rest, rfl, h1, h2⟩ := by simpa [RepL] using h
    rw [List.flatMap_cons, flat]
    exact RepL_append (Rep_cells h1) (flat_cells h2)
theorem cells_size {m : Mem} {sz : Nat} : ∀ {xs : List PV} {vs : List Value}, RepL m xs vs → (∀ p ∈ xs, p.cells.length = sz) → ∀ v ∈ vs, v.cells.size = sz
  | [], vs, h, _, v, hv => by simp [RepL] at h; subst h; simp at hv
  | x :: xs, vs, h, k, v, hv => by
    obtain ⟨u, rest, rfl, h1, h2⟩ := by simpa [RepL] using h
    rcases List.mem_cons.1 hv with rfl | hv
    · have := RepL_length (Rep_cells h1)
      rw [k x (by simp)] at this
      simpa using this
    · exact cells_size h2 (fun p hp => k p (by simp [hp])) v hv

theorem run_newRow (el : TypeId) (c : Array Value) (w : World) : (newRow el c).run P w = .ok ⟨w.heap.size, 0, none⟩ (World.push w (.cells c el (0, 0))) := rfl

/-- A list in a row of its own. -/
theorem s_row (s : SimB w0 hw0 H0 w hw lam L H) {el : TypeId} {sz : Nat} {xs : List PV} {vs : List Value} {extra : List Value} (hr : RepL (memOf w hw) (flat xs) vs) (hsz : ∀ p ∈ xs, p.cells.length = sz) (hB : xs.length ≤ lenB)
    (cap : Nat) (hcap : xs.length ≤ cap) (tok : Tok) (htok : RepTok tok (some ⟨w.heap.size, 0, none⟩) xs.length cap) :
    let w' := World.push w (.cells (vs ++ extra).toArray el (0, 0))
    let hw' := updF hw w.heap.size (xs.length * sz)
    SimB w0 hw0 H0 w' hw' lam L H ∧ MLe (memOf w hw) (memOf w' hw') ∧ Rep (memOf w' hw') (.list tok xs) (.slice (some ⟨w.heap.size, 0, none⟩) xs.length cap) ∧
      ObjRep w' hw' w.heap.size (.row (xs.length * sz) (vs ++ extra).length) := by
  intro w' hw'
  have hl := RepL_length hr
  rw [flat_length hsz] at hl
  obtain ⟨h1, h2, h3, h4⟩ := s.wrep.rowNew (vs ++ extra).toArray el (xs.length * sz) (by simp; omega)
  refine ⟨s.step h2 h1, h2.mono, ?_, by simpa using h4⟩
  simp only [Rep]
  refine ⟨_, _, _, sz, rfl, rfl, hcap, hB, htok, fun _ => ⟨_, _, rfl, RepE_of_flat hsz (RepL.mono h2.mono _ hr) fun i v hi => ?_⟩⟩
  rw [Nat.zero_add]
  have hlt : i < vs.length := (List.getElem?_eq_some_iff.1 hi).1
  exact h3 i v (by omega) (by simp only [List.getElem?_toArray]; rw [List.getElem?_append_left hlt]; exact hi)

theorem zip_fst_snd (a : Operand → Value) : ∀ l : List (Nat × Operand), (l.map (·.1)).zip ((l.map (·.2)).map a) = l.map fun (p : Nat × Operand) => (p.1, a p.2)
  | [] => rfl
  | p :: l => by simp only [List.map_cons, List.zip_cons_cons, zip_fst_snd a l]

theorem s_mkslice (s : SimB w0 hw0 H0 w hw lam L H) {nL n : Nat} {ρ : RO → EV} {a : Operand → Value} (ev : Evals (memOf w hw) lam nL n ρ a) {t el : TypeId} {sz len : Nat} {z : Value} {parts : Array (Nat × Operand)}
    (ht : P.underlying t = some (.slice el)) (hs : tSize P el = some sz) (hz : tZero P el = some z) {ys : List RO} {xs : List PV} (h1 : rOs n (parts.toList.map (·.2)) = some ys) (h2 : pvs? (ys.map ρ) = some xs)
    (hr : parts.toList.map (·.1) = List.range len) (hbig : len * sz ≤ 2 ^ 24) (h0 : 0 < sz) (hsz : ∀ p ∈ xs, p.cells.length = sz) (hB : xs.length ≤ lenB) :
    ∃ v w' hw', (Instr.buildSlice t len (parts.map fun (i, x) => (i, a x))).run P w = .ok v w' ∧ SimB w0 hw0 H0 w' hw' lam L H ∧ MLe (memOf w hw) (memOf w' hw') ∧ Rep (memOf w' hw') (.list .full xs) v := by
  have hx := evs_rep ev h1 h2
  have hlen : xs.length = len := by
    have e1 := RepL_length hx
    have e2 : parts.toList.length = len := by have := congrArg List.length hr; simpa using this
    simp only [List.length_map] at e1
    omega
  have hflat := flat_cells hx
  have hsize := cells_size hx hsz
  obtain ⟨k1, k2, k3, _⟩ := s_row (el := el) (extra := []) s hflat hsz hB xs.length (Nat.le_refl _) .full rfl
  refine ⟨_, _, _, ?_, k1, k2, k3⟩
  unfold Instr.buildSlice
  rw [run_bind_ok (run_under ht w)]
  simp only
  rw [run_bind_ok (run_sizeOf hs w), if_neg (by omega)]
  have e2 : parts.toList.length = len := by have := congrArg List.length hr; simpa using this
  have hzip : (List.range' 0 ((parts.toList.map (·.2)).map a).length).zip ((parts.toList.map (·.2)).map a) = (parts.map fun (p : Nat × Operand) => (p.1, a p.2)).toList := by
    rw [← List.range_eq_range']
    simp only [List.length_map]
    rw [e2, ← hr]
    rw [Array.toList_map]
    exact zip_fst_snd a parts.toList
  have key : ∀ Z : Array Value, (match Instr.fill (fun i => some (i * sz, sz)) (Array.map (fun x => Z[x % Z.size]!) (Array.range (len * sz))) (parts.map fun (p : Nat × Operand) => (p.1, a p.2)).toList with
      | some cells => do
        let __do_lift ← newRow el cells
        pure (Value.slice (some __do_lift) len len)
      | x => (stuck "buildSlice: a part of the wrong size" : Sem Value)).run P w = .ok (.slice (some ⟨w.heap.size, 0, none⟩) xs.length xs.length)
        (World.push w (.cells ((List.map a (List.map (fun (x : Nat × Operand) => x.snd) parts.toList)).flatMap (fun (x : Value) => x.cells.toList) ++ []).toArray el (0, 0))) := by
    intro Z
    have hfill := fill_row (sz := sz) ((parts.toList.map (·.2)).map a) 0 [] ((Array.range (len * sz)).map fun x => Z[x % Z.size]!).toList hsize (by simp)
      (by
        simp only [Array.length_toList, Array.size_map, Array.size_range, List.length_map]
        rw [Array.length_toList] at e2
        rw [e2])
    rw [hzip] at hfill
    simp only [List.nil_append, Array.toArray_toList] at hfill
    rw [hfill]
    simp only
    rw [run_bind_ok (run_newRow _ _ w), ← hlen]
    simp only [List.append_nil]
    rfl
  split
  · rw [run_bind_ok (run_pure' _ w)]
    exact key _
  · rw [run_bind_ok (run_zero hz w), run_bind_ok (run_pure' _ w)]
    exact key _
end
end Go.Pv

import Derived.Test.YtlgaolpkeejmdaaPvA
namespace Go.Pv

def ofCell : Value → Option PV
  | .slice none 0 0 => some (.list .full [])
  | .agg _ => none
  | v => if atomB v = true then some (.scal v) else none
def ofCells : List Value → Option (List PV)
  | [] => some []
  | v :: vs => match ofCell v, ofCells vs with
    | some p, some ps => some (p :: ps)
    | _, _ => none
def ofValue : Value → Option PV
  | .agg cs => (ofCells cs.toList).map .agg
  | v => ofCell v

theorem Rep_ofCell (m : Mem) (v : Value) {p : PV} (h : ofCell v = some p) : Rep m p v := by
  unfold ofCell at h
  split at h
  · cases h
    simp only [Rep]
    exact ⟨none, 0, 0, 0, rfl, rfl, Nat.le_refl _, Nat.zero_le _, rfl, fun h => absurd rfl h⟩
  · cases h
  · split at h
    · rename_i h2
      cases h
      simp only [Rep, true_and]
      exact h2
    · cases h
theorem RepL_ofCells (m : Mem) : ∀ (vs : List Value) {ps : List PV}, ofCells vs = some ps → RepL m ps vs
  | [], ps, h => by simp [ofCells] at h; subst h; exact RepL_nil
  | v :: vs, ps, h => by
    simp only [ofCells] at h
    split at h
    · rename_i h1 h2
      cases h
      exact RepL_cons.2 ⟨Rep_ofCell m v h1, RepL_ofCells m vs h2⟩
    · cases h
theorem Rep_ofValue (m : Mem) (v : Value) {p : PV} (h : ofValue v = some p) : Rep m p v := by
  unfold ofValue at h
  split at h
  · simp only [Option.map_eq_some_iff] at h
    obtain ⟨ps, h1, rfl⟩ := h
    simp only [Rep]; exact ⟨_, rfl, RepL_ofCells m _ h1⟩
  · exact Rep_ofCell m _ h

/-- A value's cells. -/
theorem Rep_cells {m : Mem} {p : PV} {v : Value} (h : Rep m p v) : RepL m p.cells v.cells.toList := by
  cases p with
  | agg cs =>
    simp only [Rep] at h
    obtain ⟨vs, rfl, h⟩ := h
    simpa [PV.cells, Value.cells] using h
  | scal u =>
    have h0 := h
    simp only [Rep] at h
    obtain ⟨rfl, h⟩ := h
    have : v.cells = #[v] := by cases v <;> first | rfl | simp [atomB] at h
    rw [this]
    simp only [PV.cells, RepL]
    exact ⟨_, [], rfl, h0, rfl⟩
  | tup cs =>
    have h0 := h
    simp only [Rep] at h
    obtain ⟨vs, rfl, h⟩ := h
    simp only [PV.cells, Value.cells, RepL]
    exact ⟨_, [], rfl, h0, rfl⟩
  | list t xs =>
    have h0 := h
    simp only [Rep] at h
    obtain ⟨a, len, cap, sz, rfl, h⟩ := h
    simp only [PV.cells, Value.cells, RepL]
    exact ⟨_, [], rfl, h0, rfl⟩
  | cptr cs =>
    have h0 := h
    simp only [Rep] at h
    obtain ⟨a, len, rfl, h⟩ := h
    simp only [PV.cells, Value.cells, RepL]
    exact ⟨_, [], rfl, h0, rfl⟩
  | ptr b o =>
    have h0 := h
    simp only [Rep] at h
    subst h
    simp only [PV.cells, Value.cells, RepL]
    exact ⟨_, [], rfl, h0, rfl⟩
  | fn f a c =>
    have h0 := h
    simp only [Rep] at h
    obtain ⟨va, vc, rfl, h⟩ := h
    simp only [PV.cells, Value.cells, RepL]
    exact ⟨_, [], rfl, h0, rfl⟩
  | mapr b =>
    have h0 := h
    simp only [Rep] at h
    subst h
    simp only [PV.cells, Value.cells, RepL]
    exact ⟨_, [], rfl, h0, rfl⟩
  | iface t p =>
    have h0 := h
    simp only [Rep] at h
    obtain ⟨v, rfl, h⟩ := h
    simp only [PV.cells, Value.cells, RepL]
    exact ⟨_, [], rfl, h0, rfl⟩
end Go.Pv

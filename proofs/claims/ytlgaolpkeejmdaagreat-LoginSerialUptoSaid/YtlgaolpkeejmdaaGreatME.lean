import Derived.Test.YtlgaolpkeejmdaaGreatMB
import Derived.ChangeArms
import Derived.DataOpen
import Derived.Carry
import Derived.WideShapes
namespace Go.Pv
open Go Go.RowKit Go.WideShapes
set_option linter.unusedSimpArgs false
set_option linter.unusedVariables false
def hwOf (w : World) (b : Nat) : Nat := match w.heap[b]? with | some (.cells c _ _) => c.size | _ => 0
theorem memOf_hwOf {w : World} {b o : Nat} {v : Value} (h : w.cell? ⟨b, o, none⟩ = some v) : memOf w (hwOf w) b o = some v := by
  have h0 := h
  unfold World.cell? at h
  unfold memOf hwOf
  split at h
  · rename_i c x y e
    simp only at e
    rw [e]
    simp only [Option.isSome_none, Bool.false_eq_true, if_false] at h ⊢
    rw [if_pos (Array.getElem?_eq_some_iff.1 h).1]
    exact h0
  · cases h
theorem WRep.old (w : World) : WRep w (hwOf w) [] := by
  refine ⟨fun b h => ?_, fun b o h => by simp [PH.get] at h⟩
  unfold hwOf at h
  split at h
  · rename_i e; exact (Array.getElem?_eq_some_iff.1 e).1
  · exact absurd rfl h
section
variable {G : Type}
mutual
def pvE : DataW G → PV
  | .lit (.int k n) => .scal (.int k n)
  | .lit (.bool b) => .scal (.bool b)
  | .lit (.string l) => .scal (.string ⟨l.toArray⟩)
  | .lit _ => .scal (.bool false)
  | .nil => .list .foreign []
  | .ptr _ => .scal (.bool false)
  | .slice es _ => .list .foreign (pvEs es)
  | .agg ps => .agg (pvCs ps)
  | .iface _ _ => .scal (.bool false)
  | .map _ => .scal (.bool false)
  | .held _ => .scal (.bool false)
def pvEs : List (DataW G) → List PV
  | [] => []
  | d :: ds => pvE d :: pvEs ds
def pvCs : List (DataW G) → List PV
  | [] => []
  | d :: ds => (pvE d).cells ++ pvCs ds
end
mutual
def fits : DataW G → Bool
  | .lit (.string l) => decide (l.length ≤ lenB)
  | .slice es _ => decide (es.length ≤ lenB) && fitsL es
  | .agg ps => fitsL ps
  | _ => true
def fitsL : List (DataW G) → Bool
  | [] => true
  | d :: ds => fits d && fitsL ds
end
theorem pvEs_len : ∀ ds : List (DataW G), (pvEs ds).length = ds.length
  | [] => rfl
  | d :: ds => by simp only [pvEs, List.length_cons, pvEs_len ds]
theorem fitsL_mem : ∀ {ds : List (DataW G)}, fitsL ds = true → ∀ d ∈ ds, fits d = true
  | d :: ds, h, x, hx => by
    simp only [fitsL, Bool.and_eq_true] at h
    rcases List.mem_cons.1 hx with rfl | hx
    · exact h.1
    · exact fitsL_mem h.2 x hx
end
/-- These types hold bools, integers, strings, lists and structs alone. -/
def plB (P : Program) (T : List TypeId) : Bool := T.all fun t =>
  match P.underlying t with
  | some .bool | some (.int _) | some .string => P.cellsOf t == 1
  | some (.slice e) => P.cellsOf t == 1 && (T.contains e && decide (0 < P.cellsOf e))
  | some (.struct fs) => P.consecB fs.toList 0 (P.cellsOf t) && fs.toList.all fun f => T.contains f.type
  | _ => false
theorem RepR_of {m : Mem} : ∀ {ps : List PV} {vs : List Value} {b o : Nat}, RepL m ps vs → (∀ (i : Nat) (v : Value), vs[i]? = some v → m b (o + i) = some v) → RepR m ps b o
  | [], vs, b, o, _, _ => by simp [RepR]
  | p :: ps, vs, b, o, h, k => by
    obtain ⟨v, rest, rfl, h1, h2⟩ := by simpa [RepL] using h
    simp only [RepR]
    refine ⟨⟨v, by simpa using k 0 v rfl, h1⟩, RepR_of h2 fun i u hu => ?_⟩
    have := k (i + 1) u (by simpa using hu)
    rw [show o + 1 + i = o + (i + 1) by omega]; exact this
theorem RepE_of {G : Type} {m : Mem} {sz : Nat} : ∀ {ds : List (DataW G)} {b o : Nat}, (∀ (i : Nat) (d : DataW G), ds[i]? = some d → ∃ cs : List Value, RepL m (pvE d).cells cs ∧ cs.length = sz ∧ ∀ j v, cs[j]? = some v → m b (o + i * sz + j) = some v) → RepE m (pvEs ds) b o sz
  | [], b, o, _ => by simp [pvEs, RepE]
  | d :: ds, b, o, h => by
    simp only [pvEs, RepE_cons]
    obtain ⟨cs, h1, h2, h3⟩ := h 0 d rfl
    refine ⟨⟨by rw [← RepL_length h1]; exact h2, RepR_of h1 fun i v hv => by simpa using h3 i v hv⟩, RepE_of fun i d' hd => ?_⟩
    obtain ⟨cs, h1, h2, h3⟩ := h (i + 1) d' (by simpa using hd)
    refine ⟨cs, h1, h2, fun j v hv => ?_⟩
    have := h3 j v hv
    rw [show o + sz + i * sz + j = o + (i + 1) * sz + j by rw [Nat.add_mul]; omega]; exact this
theorem cells_at {w : World} {base : Nat} {a : Addr} {n : Nat} {cs : List Value} (h : w.cells? base a n = some cs) : cs.length = n ∧ ∀ (i : Nat) (v : Value), cs[i]? = some v → w.cell? (a.add i) = some v := by
  unfold World.cells? at h
  split at h
  · refine ⟨by simpa using mapM_some_length h, fun i v hv => ?_⟩
    have hl := mapM_some_length h
    have hi : i < n := by
      have := (List.getElem?_eq_some_iff.1 hv).1
      simp at hl; omega
    have := mapM_some_get h i i (by simp [hi])
    rw [this]; exact hv
  · cases h
theorem spot_none {w : World} {a : Addr} {v : Value} (h : w.cell? a = some v) : a.spot = none := by
  unfold World.cell? at h
  split at h
  · cases e : a.spot with
    | none => rfl
    | some x => rw [e] at h; simp at h
  · cases h
section
variable {G : Type} {ec : TypeId × Value → G} {P : Program} {w : World} {base : Nat} {sp : Nat → Bool} {held : Bool}
theorem fields_rep {m : Mem} {total : Nat} {cs : List Value} (hcs : cs.length = total) : ∀ (fs : List Field) (off : Nat) (xs : List (DataW G × List MemPlace)), P.consecB fs off total = true → xs.length = fs.length → off ≤ total →
    (∀ (i : Nat) (f : Field), fs[i]? = some f → ∃ x : DataW G × List MemPlace, xs[i]? = some x ∧ RepL m (pvE x.1).cells ((cs.drop f.offset).take (P.cellsOf f.type)) ∧ ((cs.drop f.offset).take (P.cellsOf f.type)).length = P.cellsOf f.type) → RepL m (pvCs (xs.map (·.1))) (cs.drop off)
  | [], off, xs, h1, h2, h3, h4 => by
    obtain rfl : xs = [] := by simpa using h2
    simp only [Program.consecB, beq_iff_eq] at h1
    rw [List.drop_of_length_le (by omega)]
    simp [pvCs, RepL]
  | f :: fs, off, xs, h1, h2, h3, h4 => by
    cases xs with
    | nil => simp at h2
    | cons x xs =>
      simp only [Program.consecB, Bool.and_eq_true, beq_iff_eq] at h1
      obtain ⟨y, hy, k1, k2⟩ := h4 0 f rfl
      simp at hy; subst hy
      rw [h1.1] at k1 k2
      have hle : off + P.cellsOf f.type ≤ total := by
        simp only [List.length_take, List.length_drop] at k2; omega
      have ih := fields_rep hcs fs (off + P.cellsOf f.type) xs h1.2 (by simpa using h2) hle fun i f' hf => by
        obtain ⟨y, hy, k⟩ := h4 (i + 1) f' (by simpa using hf)
        exact ⟨y, by simpa using hy, k⟩
      simp only [List.map_cons, pvCs]
      rw [← take_drop_step cs off (P.cellsOf f.type)]
      exact RepL_append k1 ih
theorem trod_rep {T : List TypeId} (hT : plB P T = true) : ∀ (n : Nat) (t : TypeId) (cs : List Value) (x : DataW G × List MemPlace), t ∈ T → DataW.trod ec P w base sp held n t cs = some x → fits x.1 = true →
    RepL (memOf w (hwOf w)) (pvE x.1).cells cs ∧ cs.length = P.cellsOf t := by
  intro n
  induction n with
  | zero => intro t cs x _ h; simp [DataW.trod] at h
  | succ n ih =>
    intro t cs x ht h hf
    have hp := List.all_eq_true.1 hT t ht
    split at hp
    · rename_i hu
      obtain ⟨b, rfl, rfl⟩ := DataW.trod_bool hu h
      simp only [beq_iff_eq] at hp
      exact ⟨by simp [pvE, PV.cells, RepL, Rep, atomB], by simp [hp]⟩
    · rename_i k hu
      obtain ⟨b, rfl, rfl, _⟩ := DataW.trod_int hu h
      simp only [beq_iff_eq] at hp
      exact ⟨by simp [pvE, PV.cells, RepL, Rep, atomB], by simp [hp]⟩
    · rename_i hu
      obtain ⟨s, rfl, rfl, _⟩ := DataW.trod_string hu h
      simp only [beq_iff_eq] at hp
      refine ⟨?_, by simp [hp]⟩
      have : s.size ≤ lenB := by simpa [fits] using hf
      simp only [pvE, PV.cells, RepL, Rep, atomB]
      exact ⟨_, [], rfl, ⟨rfl, by simpa using this⟩, rfl⟩
    · rename_i e hu
      simp only [Bool.and_eq_true, beq_iff_eq, decide_eq_true_eq] at hp
      rcases DataW.trod_slice hu h with ⟨rfl, rfl⟩ | ⟨a, len, cap, elems, rest, m, hm, rfl, rfl, h1, h2, h3, h4, h5, _, _⟩
      · refine ⟨?_, by simp [hp.1]⟩
        simp only [pvE, PV.cells, RepL, Rep]
        exact ⟨_, [], rfl, ⟨none, 0, 0, 0, rfl, rfl, Nat.le_refl _, Nat.zero_le _, trivial, fun h => absurd rfl h⟩, rfl⟩
      · obtain rfl : n = m := by omega
        refine ⟨?_, by simp [hp.1]⟩
        simp only [fits, Bool.and_eq_true, decide_eq_true_eq, List.length_map] at hf
        have he : e ∈ T := by simpa using hp.2.1
        have hel : ∀ (i : Nat) (y : DataW G × List MemPlace), elems[i]? = some y → ∃ cs', w.cells? base (a.add (i * P.cellsOf e)) (P.cellsOf e) = some cs' ∧ RepL (memOf w (hwOf w)) (pvE y.1).cells cs' ∧ cs'.length = P.cellsOf e := by
          intro i y hy
          have hi : i < len := by rw [← h4]; exact (List.getElem?_eq_some_iff.1 hy).1
          have k := h5 i hi
          rw [hy, Option.bind_eq_some_iff] at k
          obtain ⟨cs', k1, k2⟩ := k
          have hfy : fits y.1 = true := fitsL_mem hf.2 y.1 (List.mem_map_of_mem (List.mem_of_getElem? hy))
          exact ⟨cs', k1, (ih e cs' y he k2 hfy)⟩
        have hsp : len ≠ 0 → a.spot = none := by
          intro hn
          obtain ⟨y, hy⟩ : ∃ y, elems[0]? = some y := ⟨_, List.getElem?_eq_getElem (by omega)⟩
          obtain ⟨cs', k1, _, k3⟩ := hel 0 y hy
          obtain ⟨v, hv⟩ : ∃ v, cs'[0]? = some v := ⟨_, List.getElem?_eq_getElem (by omega)⟩
          have := spot_none ((cells_at k1).2 0 v hv)
          simpa [Addr.add] using this
        simp only [pvE, PV.cells, RepL, Rep]
        refine ⟨_, [], rfl, ⟨some a, len, cap, P.cellsOf e, rfl, by simp [pvEs_len, h4], h2, by omega, trivial, fun hn => ⟨a.block, a.off, ?_, RepE_of fun i d hd => ?_⟩⟩, rfl⟩
        · have := hsp hn
          obtain ⟨b, o, s⟩ := a
          simp only at this; subst this; rfl
        · obtain ⟨y, hy, rfl⟩ : ∃ y, elems[i]? = some y ∧ y.1 = d := by simpa using hd
          obtain ⟨cs', k1, k2, k3⟩ := hel i y hy
          refine ⟨cs', k2, k3, fun j v hv => ?_⟩
          have := (cells_at k1).2 j v hv
          have hs := hsp hn
          refine memOf_hwOf ?_
          obtain ⟨b, o, s⟩ := a
          simp only at hs; subst hs
          rw [addr_add, addr_add] at this
          exact this
    · rename_i fs hu
      simp only [Bool.and_eq_true] at hp
      obtain ⟨xs, m, hm, rfl, hl, hx, hall⟩ := DataW.trod_struct hu h
      obtain rfl : n = m := by omega
      refine ⟨?_, hl⟩
      simp only [fits] at hf
      simp only [pvE, PV.cells]
      have := fields_rep (P := P) (m := memOf w (hwOf w)) hl fs.toList 0 xs hp.1 (by simpa using hx) (Nat.zero_le _) fun i f hfi => by
        have hfi' : fs[i]? = some f := by simpa using hfi
        have k := hall i f hfi'
        obtain ⟨y, hy⟩ : ∃ y, xs[i]? = some y := ⟨_, List.getElem?_eq_getElem (by rw [hx]; exact (Array.getElem?_eq_some_iff.1 hfi').1)⟩
        rw [hy] at k
        have hfT : f.type ∈ T := by simpa using List.all_eq_true.1 hp.2 f (List.mem_of_getElem? hfi)
        have hfy : fits y.1 = true := fitsL_mem hf y.1 (List.mem_map_of_mem (List.mem_of_getElem? hy))
        have := ih f.type _ y hfT k hfy
        exact ⟨y, hy, this.1, this.2⟩
      simpa using this
    · cases hp
theorem Trod_rep {T : List TypeId} (hT : plB P T = true) {t : TypeId} (ht : t ∈ T) {r : Reach} {b0 : Nat} {v : Value} {d : DataW G} {ps : List MemPlace} (hval : Value.okWide P w r b0 t v) (h : DataW.Trod ec P w base sp held t v d ps) (hf : fits d = true) :
    Rep (memOf w (hwOf w)) (pvE d) v := by
  obtain ⟨n, hn⟩ := h
  have k := (trod_rep hT n t v.cells.toList (d, ps) ht hn hf).1
  cases n with
  | zero => simp [DataW.trod] at hn
  | succ n =>
    have hp := List.all_eq_true.1 hT t ht
    split at hp
    · rename_i hu
      obtain ⟨b, h1, h2⟩ := DataW.trod_bool hu hn
      obtain ⟨b', rfl⟩ := okWide_bool hu hval
      simp only [Prod.mk.injEq] at h2
      obtain ⟨rfl, _⟩ := h2
      simpa [pvE, PV.cells, RepL, Value.cells] using k
    · rename_i hu
      obtain ⟨b, h1, h2, _⟩ := DataW.trod_int hu hn
      obtain ⟨b', rfl⟩ := okWide_int hu hval
      simp only [Prod.mk.injEq] at h2
      obtain ⟨rfl, _⟩ := h2
      simpa [pvE, PV.cells, RepL, Value.cells] using k
    · rename_i hu
      obtain ⟨b, h1, h2, _⟩ := DataW.trod_string hu hn
      obtain ⟨b', rfl⟩ := okWide_string hu hval
      simp only [Prod.mk.injEq] at h2
      obtain ⟨rfl, _⟩ := h2
      simpa [pvE, PV.cells, RepL, Value.cells] using k
    · rename_i e hu
      obtain ⟨a, len, cap, rfl⟩ := okWide_slice hu hval
      have hc : ∃ xs, pvE d = .list .foreign xs := by
        rcases DataW.trod_slice hu hn with ⟨_, e⟩ | ⟨a, len, cap, elems, rest, m, hm, _, e, _⟩
        · simp only [Prod.mk.injEq] at e; obtain ⟨rfl, _⟩ := e; exact ⟨_, by rw [pvE]⟩
        · simp only [Prod.mk.injEq] at e; obtain ⟨rfl, _⟩ := e; exact ⟨_, by rw [pvE]⟩
      obtain ⟨xs, hc⟩ := hc
      rw [hc] at k ⊢
      simp only [PV.cells, Value.cells] at k
      have := RepL_cons.1 k
      exact this.1
    · rename_i fs hu
      obtain ⟨cs, rfl, _⟩ := okWide_struct hu hval
      obtain ⟨xs, m, hm, e, _⟩ := DataW.trod_struct hu hn
      simp only [Prod.mk.injEq] at e
      obtain ⟨rfl, _⟩ := e
      simp only [pvE, PV.cells, Value.cells] at k ⊢
      simp only [Rep]
      exact ⟨cs, rfl, k⟩
    · cases hp
end
end Go.Pv

namespace Go.Pv
open Go Go.RowKit Go.WideShapes
set_option linter.unusedSimpArgs false
set_option linter.unusedVariables false
section
variable {G : Type} {P : Program}
/-- Something of this type reads as d. -/
def ShpN (P : Program) (n : Nat) (t : TypeId) (d : DataW G) : Prop :=
  ∃ (ec : TypeId × Value → G) (w : World) (base : Nat) (sp : Nat → Bool) (held : Bool) (cs : List Value) (ps : List MemPlace), DataW.trod ec P w base sp held n t cs = some (d, ps)
theorem ShpN.of {ec : TypeId × Value → G} {w : World} {base : Nat} {sp : Nat → Bool} {held : Bool} {t : TypeId} {v : Value} {d : DataW G} {ps : List MemPlace} (h : DataW.Trod ec P w base sp held t v d ps) : ∃ n, ShpN P n t d := by
  obtain ⟨n, h⟩ := h
  exact ⟨n, ec, w, base, sp, held, _, ps, h⟩
theorem ShpN.int {n : Nat} {t : TypeId} {d : DataW G} {k : IntKind} (hu : P.underlying t = some (.int k)) (h : ShpN P n t d) : ∃ x, pvE d = .scal (.int k x) := by
  obtain ⟨ec, w, base, sp, held, cs, ps, h⟩ := h
  obtain ⟨x, _, e, _⟩ := DataW.trod_int hu h
  simp only [Prod.mk.injEq] at e
  obtain ⟨rfl, _⟩ := e
  exact ⟨x, by rw [pvE]⟩
theorem ShpN.bool {n : Nat} {t : TypeId} {d : DataW G} (hu : P.underlying t = some .bool) (h : ShpN P n t d) : ∃ x, pvE d = .scal (.bool x) := by
  obtain ⟨ec, w, base, sp, held, cs, ps, h⟩ := h
  obtain ⟨x, _, e⟩ := DataW.trod_bool hu h
  simp only [Prod.mk.injEq] at e
  obtain ⟨rfl, _⟩ := e
  exact ⟨x, by rw [pvE]⟩
theorem ShpN.str {n : Nat} {t : TypeId} {d : DataW G} (hu : P.underlying t = some .string) (h : ShpN P n t d) : ∃ s, pvE d = .scal (.string s) := by
  obtain ⟨ec, w, base, sp, held, cs, ps, h⟩ := h
  obtain ⟨s, _, e, _⟩ := DataW.trod_string hu h
  simp only [Prod.mk.injEq] at e
  obtain ⟨rfl, _⟩ := e
  exact ⟨_, by rw [pvE]⟩
theorem ShpN.struct {n : Nat} {t : TypeId} {d : DataW G} {fs : Array Field} (hu : P.underlying t = some (.struct fs)) (h : ShpN P n t d) :
    ∃ (m : Nat) (ys : List (DataW G)), n = m + 1 ∧ pvE d = .agg (pvCs ys) ∧ ys.length = fs.size ∧ ∀ (i : Nat) (f : Field), fs[i]? = some f → ∃ y, ys[i]? = some y ∧ ShpN P m f.type y := by
  obtain ⟨ec, w, base, sp, held, cs, ps, h⟩ := h
  obtain ⟨xs, m, rfl, e, hl, hx, hall⟩ := DataW.trod_struct hu h
  simp only [Prod.mk.injEq] at e
  obtain ⟨rfl, _⟩ := e
  refine ⟨m, _, rfl, by rw [pvE], by simpa using hx, fun i f hf => ?_⟩
  have k := hall i f hf
  obtain ⟨y, hy⟩ : ∃ y, xs[i]? = some y := ⟨_, List.getElem?_eq_getElem (by rw [hx]; exact (Array.getElem?_eq_some_iff.1 hf).1)⟩
  rw [hy] at k
  exact ⟨y.1, by simp [hy], ec, w, base, sp, held, _, y.2, k⟩
theorem ShpN.slice {n : Nat} {t e : TypeId} {d : DataW G} (hu : P.underlying t = some (.slice e)) (h : ShpN P n t d) :
    ∃ (m : Nat) (es : List (DataW G)), n = m + 1 ∧ pvE d = .list .foreign (pvEs es) ∧ ∀ y ∈ es, ShpN P m e y := by
  obtain ⟨ec, w, base, sp, held, cs, ps, h⟩ := h
  cases n with
  | zero => simp [DataW.trod] at h
  | succ n =>
    rcases DataW.trod_slice hu h with ⟨_, e⟩ | ⟨a, len, cap, elems, rest, m, hm, _, e, h1, h2, h3, h4, h5, _, _⟩
    · simp only [Prod.mk.injEq] at e; obtain ⟨rfl, _⟩ := e
      exact ⟨n, [], rfl, by rw [pvE, pvEs], by simp⟩
    · simp only [Prod.mk.injEq] at e; obtain ⟨rfl, _⟩ := e
      refine ⟨n, _, rfl, by rw [pvE], fun y hy => ?_⟩
      obtain ⟨z, hz, rfl⟩ := List.mem_map.1 hy
      obtain ⟨i, hi⟩ := List.mem_iff_getElem?.1 hz
      have k := h5 i (by rw [← h4]; exact (List.getElem?_eq_some_iff.1 hi).1)
      rw [hi, Option.bind_eq_some_iff] at k
      obtain ⟨cs', _, k2⟩ := k
      obtain rfl : n = m := by omega
      exact ⟨ec, w, base, sp, held, cs', z.2, k2⟩
theorem ints_of : ∀ {es : List (DataW G)}, (∀ y ∈ es, ∃ x, pvE y = .scal (.int .i64 x)) → ∃ l : List Int, pvEs es = ints l
  | [], _ => ⟨[], rfl⟩
  | y :: es, h => by
    obtain ⟨t, ht⟩ := h y (by simp)
    obtain ⟨l, hl⟩ := ints_of (es := es) fun z hz => h z (List.mem_cons_of_mem _ hz)
    exact ⟨t :: l, by rw [pvEs, ht, hl]; rfl⟩
theorem strs_of : ∀ {es : List (DataW G)}, (∀ y ∈ es, ∃ x, pvE y = .scal (.string x)) → ∃ l : List ByteArray, pvEs es = strs l
  | [], _ => ⟨[], rfl⟩
  | y :: es, h => by
    obtain ⟨t, ht⟩ := h y (by simp)
    obtain ⟨l, hl⟩ := strs_of (es := es) fun z hz => h z (List.mem_cons_of_mem _ hz)
    exact ⟨t :: l, by rw [pvEs, ht, hl]; rfl⟩
theorem len2 {α : Type} {l : List α} (h : l.length = 2) : ∃ a b, l = [a, b] := by
  match l, h with
  | [a, b], _ => exact ⟨a, b, rfl⟩
def SpanTy (P : Program) (t : TypeId) : Prop := ∃ f0 f1 : Field, P.underlying t = some (.struct #[f0, f1]) ∧ P.underlying f0.type = some (.int .i64) ∧ P.underlying f1.type = some (.int .i64)
theorem pv_span {t : TypeId} (hT : SpanTy P t) {n : Nat} {d : DataW G} (h : ShpN P n t d) : ∃ s : Sp, pvE d = encS s := by
  obtain ⟨f0, f1, hu, h0, h1⟩ := hT
  obtain ⟨m, ys, rfl, e, hl, hall⟩ := h.struct hu
  obtain ⟨a, b, rfl⟩ := len2 (l := ys) (by simpa using hl)
  obtain ⟨_, e0, s0⟩ := hall 0 f0 rfl
  obtain ⟨_, e1, s1⟩ := hall 1 f1 rfl
  simp at e0 e1
  subst e0; subst e1
  obtain ⟨x0, p0⟩ := s0.int h0
  obtain ⟨x1, p1⟩ := s1.int h1
  refine ⟨⟨x0, x1⟩, ?_⟩
  rw [e]
  simp only [pvCs, p0, p1, PV.cells, encS]
  rfl
def fldOf (P : Program) (t : TypeId) (i : Nat) : Field := ((match P.underlying t with | some (.struct fs) => fs[i]? | _ => none)).getD ⟨"", 0, 0, false, "", "", 0⟩
end
end Go.Pv


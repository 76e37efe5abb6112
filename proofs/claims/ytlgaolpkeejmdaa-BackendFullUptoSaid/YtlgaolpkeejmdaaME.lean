import Derived.Test.YtlgaolpkeejmdaaMB
import Derived.ChangeArms
import Derived.DataOpen
import Derived.Carry
import Derived.WideShapes
import Derived.Test.YtlgaolpkeejmdaaRows
import Derived.WalkKit
import Derived.ProofKit
import Derived.OpenShut
import Derived.JoinedCond
namespace Go.Pv
open Go Go.RowKit Go.WideShapes
set_option linter.unusedSimpArgs false
set_option linter.unusedVariables false
def hwOf (w : World) (b : Nat) : Nat := match w.heap[b]? with | some (.cells c _ _) => c.size | _ => 0
theorem memOf_hwOf {w : World} {b o : Nat} {v : Value} (h : w.cell? ⟨b, o, none⟩ = some v) : memOf w (hwOf w) b o = some v := by
  have h0 := h
  unfold World.cell? at h
  unfold memOf hwOf
  split at h
  · rename_i c x y e
    simp only at e
    rw [e]
    simp only [Option.isSome_none, Bool.false_eq_true, if_false] at h ⊢
    rw [if_pos (Array.getElem?_eq_some_iff.1 h).1]
    exact h0
  · cases h
theorem WRep.old (w : World) : WRep w (hwOf w) [] := by
  refine ⟨fun b h => ?_, fun b o h => by simp [PH.get] at h⟩
  unfold hwOf at h
  split at h
  · rename_i e; exact (Array.getElem?_eq_some_iff.1 e).1
  · exact absurd rfl h
section
variable {G : Type}
mutual
def pvE : DataW G → PV
  | .lit (.int k n) => .scal (.int k n)
  | .lit (.bool b) => .scal (.bool b)
  | .lit (.string l) => .scal (.string ⟨l.toArray⟩)
  | .lit _ => .scal (.bool false)
  | .nil => .list .foreign []
  | .ptr _ => .scal (.bool false)
  | .slice es _ => .list .foreign (pvEs es)
  | .agg ps => .agg (pvCs ps)
  | .iface _ _ => .scal (.bool false)
  | .map _ => .scal (.bool false)
  | .held _ => .scal (.bool false)
def pvEs : List (DataW G) → List PV
  | [] => []
  | d :: ds => pvE d :: pvEs ds
def pvCs : List (DataW G) → List PV
  | [] => []
  | d :: ds => (pvE d).cells ++ pvCs ds
end
mutual
def fits : DataW G → Bool
  | .lit (.string l) => decide (l.length ≤ lenB)
  | .slice es _ => decide (es.length ≤ lenB) && fitsL es
  | .agg ps => fitsL ps
  | _ => true
def fitsL : List (DataW G) → Bool
  | [] => true
  | d :: ds => fits d && fitsL ds
end
theorem pvEs_len : ∀ ds : List (DataW G), (pvEs ds).length = ds.length
  | [] => rfl
  | d :: ds => by simp only [pvEs, List.length_cons, pvEs_len ds]
theorem fitsL_mem : ∀ {ds : List (DataW G)}, fitsL ds = true → ∀ d ∈ ds, fits d = true
  | d :: ds, h, x, hx => by
    simp only [fitsL, Bool.and_eq_true] at h
    rcases List.mem_cons.1 hx with rfl | hx
    · exact h.1
    · exact fitsL_mem h.2 x hx
end
/-- These types hold bools, integers, strings, lists and structs alone. -/
def plB (P : Program) (T : List TypeId) : Bool := T.all fun t =>
  match P.underlying t with
  | some .bool | some (.int _) | some .string => P.cellsOf t == 1
  | some (.slice e) => P.cellsOf t == 1 && (T.contains e && decide (0 < P.cellsOf e))
  | some (.struct fs) => P.consecB fs.toList 0 (P.cellsOf t) && fs.toList.all fun f => T.contains f.type
  | _ => false
theorem RepR_of {m : Mem} : ∀ {ps : List PV} {vs : List Value} {b o : Nat}, RepL m ps vs → (∀ (i : Nat) (v : Value), vs[i]? = some v → m b (o + i) = some v) → RepR m ps b o
  | [], vs, b, o, _, _ => by simp [RepR]
  | p :: ps, vs, b, o, h, k => by
    obtain ⟨v, rest, rfl, h1, h2⟩ := by simpa [RepL] using h
    simp only [RepR]
    refine ⟨⟨v, by simpa using k 0 v rfl, h1⟩, RepR_of h2 fun i u hu => ?_⟩
    have := k (i + 1) u (by simpa using hu)
    rw [show o + 1 + i = o + (i + 1) by omega]; exact this
theorem RepE_of {G : Type} {m : Mem} {sz : Nat} : ∀ {ds : List (DataW G)} {b o : Nat}, (∀ (i : Nat) (d : DataW G), ds[i]? = some d → ∃ cs : List Value, RepL m (pvE d).cells cs ∧ cs.length = sz ∧ ∀ j v, cs[j]? = some v → m b (o + i * sz + j) = some v) → RepE m (pvEs ds) b o sz
  | [], b, o, _ => by simp [pvEs, RepE]
  | d :: ds, b, o, h => by
    simp only [pvEs, RepE_cons]
    obtain ⟨cs, h1, h2, h3⟩ := h 0 d rfl
    refine ⟨⟨by rw [← RepL_length h1]; exact h2, RepR_of h1 fun i v hv => by simpa using h3 i v hv⟩, RepE_of fun i d' hd => ?_⟩
    obtain ⟨cs, h1, h2, h3⟩ := h (i + 1) d' (by simpa using hd)
    refine ⟨cs, h1, h2, fun j v hv => ?_⟩
    have := h3 j v hv
    rw [show o + sz + i * sz + j = o + (i + 1) * sz + j by rw [Nat.add_mul]; omega]; exact this
theorem cells_at {w : World} {base : Nat} {a : Addr} {n : Nat} {cs : List Value} (h : w.cells? base a n = some cs) : cs.length = n ∧ ∀ (i : Nat) (v : Value), cs[i]? = some v → w.cell? (a.add i) = some v := by
  unfold World.cells? at h
  split at h
  · refine ⟨by simpa using mapM_some_length h, fun i v hv => ?_⟩
    have hl := mapM_some_length h
    have hi : i < n := by
      have := (List.getElem?_eq_some_iff.1 hv).1
      simp at hl; omega
    have := mapM_some_get h i i (by simp [hi])
    rw [this]; exact hv
  · cases h
theorem spot_none {w : World} {a : Addr} {v : Value} (h : w.cell? a = some v) : a.spot = none := by
  unfold World.cell? at h
  split at h
  · cases e : a.spot with
    | none => rfl
    | some x => rw [e] at h; simp at h
  · cases h
section
variable {G : Type} {ec : TypeId × Value → G} {P : Program} {w : World} {base : Nat} {sp : Nat → Bool} {held : Bool}
theorem fields_rep {m : Mem} {total : Nat} {cs : List Value} (hcs : cs.length = total) : ∀ (fs : List Field) (off : Nat) (xs : List (DataW G × List MemPlace)), P.consecB fs off total = true → xs.length = fs.length → off ≤ total →
    (∀ (i : Nat) (f : Field), fs[i]? = some f → ∃ x : DataW G × List MemPlace, xs[i]? = some x ∧ RepL m (pvE x.1).cells ((cs.drop f.offset).take (P.cellsOf f.type)) ∧ ((cs.drop f.offset).take (P.cellsOf f.type)).length = P.cellsOf f.type) → RepL m (pvCs (xs.map (·.1))) (cs.drop off)
  | [], off, xs, h1, h2, h3, h4 => by
    obtain rfl : xs = [] := by simpa using h2
    simp only [Program.consecB, beq_iff_eq] at h1
    rw [List.drop_of_length_le (by omega)]
    simp [pvCs, RepL]
  | f :: fs, off, xs, h1, h2, h3, h4 => by
    cases xs with
    | nil => simp at h2
    | cons x xs =>
      simp only [Program.consecB, Bool.and_eq_true, beq_iff_eq] at h1
      obtain ⟨y, hy, k1, k2⟩ := h4 0 f rfl
      simp at hy; subst hy
      rw [h1.1] at k1 k2
      have hle : off + P.cellsOf f.type ≤ total := by
        simp only [List.length_take, List.length_drop] at k2; omega
      have ih := fields_rep hcs fs (off + P.cellsOf f.type) xs h1.2 (by simpa using h2) hle fun i f' hf => by
        obtain ⟨y, hy, k⟩ := h4 (i + 1) f' (by simpa using hf)
        exact ⟨y, by simpa using hy, k⟩
      simp only [List.map_cons, pvCs]
      rw [← take_drop_step cs off (P.cellsOf f.type)]
      exact RepL_append k1 ih
theorem trod_rep {T : List TypeId} (hT : plB P T = true) : ∀ (n : Nat) (t : TypeId) (cs : List Value) (x : DataW G × List MemPlace), t ∈ T → DataW.trod ec P w base sp held n t cs = some x → fits x.1 = true →
    RepL (memOf w (hwOf w)) (pvE x.1).cells cs ∧ cs.length = P.cellsOf t := by
  intro n
  induction n with
  | zero => intro t cs x _ h; simp [DataW.trod] at h
  | succ n ih =>
    intro t cs x ht h hf
    have hp := List.all_eq_true.1 hT t ht
    split at hp
    · rename_i hu
      obtain ⟨b, rfl, rfl⟩ := DataW.trod_bool hu h
      simp only [beq_iff_eq] at hp
      exact ⟨by simp [pvE, PV.cells, RepL, Rep, atomB], by simp [hp]⟩
    · rename_i k hu
      obtain ⟨b, rfl, rfl, _⟩ := DataW.trod_int hu h
      simp only [beq_iff_eq] at hp
      exact ⟨by simp [pvE, PV.cells, RepL, Rep, atomB], by simp [hp]⟩
    · rename_i hu
      obtain ⟨s, rfl, rfl, _⟩ := DataW.trod_string hu h
      simp only [beq_iff_eq] at hp
      refine ⟨?_, by simp [hp]⟩
      have : s.size ≤ lenB := by simpa [fits] using hf
      simp only [pvE, PV.cells, RepL, Rep, atomB]
      exact ⟨_, [], rfl, ⟨rfl, by simpa using this⟩, rfl⟩
    · rename_i e hu
      simp only [Bool.and_eq_true, beq_iff_eq, decide_eq_true_eq] at hp
      rcases DataW.trod_slice hu h with ⟨rfl, rfl⟩ | ⟨a, len, cap, elems, rest, m, hm, rfl, rfl, h1, h2, h3, h4, h5, _, _⟩
      · refine ⟨?_, by simp [hp.1]⟩
        simp only [pvE, PV.cells, RepL, Rep]
        exact ⟨_, [], rfl, ⟨none, 0, 0, 0, rfl, rfl, Nat.le_refl _, Nat.zero_le _, trivial, fun h => absurd rfl h⟩, rfl⟩
      · obtain rfl : n = m := by omega
        refine ⟨?_, by simp [hp.1]⟩
        simp only [fits, Bool.and_eq_true, decide_eq_true_eq, List.length_map] at hf
        have he : e ∈ T := by simpa using hp.2.1
        have hel : ∀ (i : Nat) (y : DataW G × List MemPlace), elems[i]? = some y → ∃ cs', w.cells? base (a.add (i * P.cellsOf e)) (P.cellsOf e) = some cs' ∧ RepL (memOf w (hwOf w)) (pvE y.1).cells cs' ∧ cs'.length = P.cellsOf e := by
          intro i y hy
          have hi : i < len := by rw [← h4]; exact (List.getElem?_eq_some_iff.1 hy).1
          have k := h5 i hi
          rw [hy, Option.bind_eq_some_iff] at k
          obtain ⟨cs', k1, k2⟩ := k
          have hfy : fits y.1 = true := fitsL_mem hf.2 y.1 (List.mem_map_of_mem (List.mem_of_getElem? hy))
          exact ⟨cs', k1, (ih e cs' y he k2 hfy)⟩
        have hsp : len ≠ 0 → a.spot = none := by
          intro hn
          obtain ⟨y, hy⟩ : ∃ y, elems[0]? = some y := ⟨_, List.getElem?_eq_getElem (by omega)⟩
          obtain ⟨cs', k1, _, k3⟩ := hel 0 y hy
          obtain ⟨v, hv⟩ : ∃ v, cs'[0]? = some v := ⟨_, List.getElem?_eq_getElem (by omega)⟩
          have := spot_none ((cells_at k1).2 0 v hv)
          simpa [Addr.add] using this
        simp only [pvE, PV.cells, RepL, Rep]
        refine ⟨_, [], rfl, ⟨some a, len, cap, P.cellsOf e, rfl, by simp [pvEs_len, h4], h2, by omega, trivial, fun hn => ⟨a.block, a.off, ?_, RepE_of fun i d hd => ?_⟩⟩, rfl⟩
        · have := hsp hn
          obtain ⟨b, o, s⟩ := a
          simp only at this; subst this; rfl
        · obtain ⟨y, hy, rfl⟩ : ∃ y, elems[i]? = some y ∧ y.1 = d := by simpa using hd
          obtain ⟨cs', k1, k2, k3⟩ := hel i y hy
          refine ⟨cs', k2, k3, fun j v hv => ?_⟩
          have := (cells_at k1).2 j v hv
          have hs := hsp hn
          refine memOf_hwOf ?_
          obtain ⟨b, o, s⟩ := a
          simp only at hs; subst hs
          rw [addr_add, addr_add] at this
          exact this
    · rename_i fs hu
      simp only [Bool.and_eq_true] at hp
      obtain ⟨xs, m, hm, rfl, hl, hx, hall⟩ := DataW.trod_struct hu h
      obtain rfl : n = m := by omega
      refine ⟨?_, hl⟩
      simp only [fits] at hf
      simp only [pvE, PV.cells]
      have := fields_rep (P := P) (m := memOf w (hwOf w)) hl fs.toList 0 xs hp.1 (by simpa using hx) (Nat.zero_le _) fun i f hfi => by
        have hfi' : fs[i]? = some f := by simpa using hfi
        have k := hall i f hfi'
        obtain ⟨y, hy⟩ : ∃ y, xs[i]? = some y := ⟨_, List.getElem?_eq_getElem (by rw [hx]; exact (Array.getElem?_eq_some_iff.1 hfi').1)⟩
        rw [hy] at k
        have hfT : f.type ∈ T := by simpa using List.all_eq_true.1 hp.2 f (List.mem_of_getElem? hfi)
        have hfy : fits y.1 = true := fitsL_mem hf y.1 (List.mem_map_of_mem (List.mem_of_getElem? hy))
        have := ih f.type _ y hfT k hfy
        exact ⟨y, hy, this.1, this.2⟩
      simpa using this
    · cases hp
theorem Trod_rep {T : List TypeId} (hT : plB P T = true) {t : TypeId} (ht : t ∈ T) {r : Reach} {b0 : Nat} {v : Value} {d : DataW G} {ps : List MemPlace} (hval : Value.okWide P w r b0 t v) (h : DataW.Trod ec P w base sp held t v d ps) (hf : fits d = true) :
    Rep (memOf w (hwOf w)) (pvE d) v := by
  obtain ⟨n, hn⟩ := h
  have k := (trod_rep hT n t v.cells.toList (d, ps) ht hn hf).1
  cases n with
  | zero => simp [DataW.trod] at hn
  | succ n =>
    have hp := List.all_eq_true.1 hT t ht
    split at hp
    · rename_i hu
      obtain ⟨b, h1, h2⟩ := DataW.trod_bool hu hn
      obtain ⟨b', rfl⟩ := okWide_bool hu hval
      simp only [Prod.mk.injEq] at h2
      obtain ⟨rfl, _⟩ := h2
      simpa [pvE, PV.cells, RepL, Value.cells] using k
    · rename_i hu
      obtain ⟨b, h1, h2, _⟩ := DataW.trod_int hu hn
      obtain ⟨b', rfl⟩ := okWide_int hu hval
      simp only [Prod.mk.injEq] at h2
      obtain ⟨rfl, _⟩ := h2
      simpa [pvE, PV.cells, RepL, Value.cells] using k
    · rename_i hu
      obtain ⟨b, h1, h2, _⟩ := DataW.trod_string hu hn
      obtain ⟨b', rfl⟩ := okWide_string hu hval
      simp only [Prod.mk.injEq] at h2
      obtain ⟨rfl, _⟩ := h2
      simpa [pvE, PV.cells, RepL, Value.cells] using k
    · rename_i e hu
      obtain ⟨a, len, cap, rfl⟩ := okWide_slice hu hval
      have hc : ∃ xs, pvE d = .list .foreign xs := by
        rcases DataW.trod_slice hu hn with ⟨_, e⟩ | ⟨a, len, cap, elems, rest, m, hm, _, e, _⟩
        · simp only [Prod.mk.injEq] at e; obtain ⟨rfl, _⟩ := e; exact ⟨_, by rw [pvE]⟩
        · simp only [Prod.mk.injEq] at e; obtain ⟨rfl, _⟩ := e; exact ⟨_, by rw [pvE]⟩
      obtain ⟨xs, hc⟩ := hc
      rw [hc] at k ⊢
      simp only [PV.cells, Value.cells] at k
      have := RepL_cons.1 k
      exact this.1
    · rename_i fs hu
      obtain ⟨cs, rfl, _⟩ := okWide_struct hu hval
      obtain ⟨xs, m, hm, e, _⟩ := DataW.trod_struct hu hn
      simp only [Prod.mk.injEq] at e
      obtain ⟨rfl, _⟩ := e
      simp only [pvE, PV.cells, Value.cells] at k ⊢
      simp only [Rep]
      exact ⟨cs, rfl, k⟩
    · cases hp
end
end Go.Pv

namespace Go.Pv
open Go Go.RowKit Go.WideShapes
set_option linter.unusedSimpArgs false
set_option linter.unusedVariables false
section
variable {G : Type} {P : Program}
/-- Something of this type reads as d. -/
def ShpN (P : Program) (n : Nat) (t : TypeId) (d : DataW G) : Prop :=
  ∃ (ec : TypeId × Value → G) (w : World) (base : Nat) (sp : Nat → Bool) (held : Bool) (cs : List Value) (ps : List MemPlace), DataW.trod ec P w base sp held n t cs = some (d, ps)
theorem ShpN.of {ec : TypeId × Value → G} {w : World} {base : Nat} {sp : Nat → Bool} {held : Bool} {t : TypeId} {v : Value} {d : DataW G} {ps : List MemPlace} (h : DataW.Trod ec P w base sp held t v d ps) : ∃ n, ShpN P n t d := by
  obtain ⟨n, h⟩ := h
  exact ⟨n, ec, w, base, sp, held, _, ps, h⟩
theorem ShpN.int {n : Nat} {t : TypeId} {d : DataW G} {k : IntKind} (hu : P.underlying t = some (.int k)) (h : ShpN P n t d) : ∃ x, pvE d = .scal (.int k x) := by
  obtain ⟨ec, w, base, sp, held, cs, ps, h⟩ := h
  obtain ⟨x, _, e, _⟩ := DataW.trod_int hu h
  simp only [Prod.mk.injEq] at e
  obtain ⟨rfl, _⟩ := e
  exact ⟨x, by rw [pvE]⟩
theorem ShpN.bool {n : Nat} {t : TypeId} {d : DataW G} (hu : P.underlying t = some .bool) (h : ShpN P n t d) : ∃ x, pvE d = .scal (.bool x) := by
  obtain ⟨ec, w, base, sp, held, cs, ps, h⟩ := h
  obtain ⟨x, _, e⟩ := DataW.trod_bool hu h
  simp only [Prod.mk.injEq] at e
  obtain ⟨rfl, _⟩ := e
  exact ⟨x, by rw [pvE]⟩
theorem ShpN.str {n : Nat} {t : TypeId} {d : DataW G} (hu : P.underlying t = some .string) (h : ShpN P n t d) : ∃ s, pvE d = .scal (.string s) := by
  obtain ⟨ec, w, base, sp, held, cs, ps, h⟩ := h
  obtain ⟨s, _, e, _⟩ := DataW.trod_string hu h
  simp only [Prod.mk.injEq] at e
  obtain ⟨rfl, _⟩ := e
  exact ⟨_, by rw [pvE]⟩
theorem ShpN.struct {n : Nat} {t : TypeId} {d : DataW G} {fs : Array Field} (hu : P.underlying t = some (.struct fs)) (h : ShpN P n t d) :
    ∃ (m : Nat) (ys : List (DataW G)), n = m + 1 ∧ pvE d = .agg (pvCs ys) ∧ ys.length = fs.size ∧ ∀ (i : Nat) (f : Field), fs[i]? = some f → ∃ y, ys[i]? = some y ∧ ShpN P m f.type y := by
  obtain ⟨ec, w, base, sp, held, cs, ps, h⟩ := h
  obtain ⟨xs, m, rfl, e, hl, hx, hall⟩ := DataW.trod_struct hu h
  simp only [Prod.mk.injEq] at e
  obtain ⟨rfl, _⟩ := e
  refine ⟨m, _, rfl, by rw [pvE], by simpa using hx, fun i f hf => ?_⟩
  have k := hall i f hf
  obtain ⟨y, hy⟩ : ∃ y, xs[i]? = some y := ⟨_, List.getElem?_eq_getElem (by rw [hx]; exact (Array.getElem?_eq_some_iff.1 hf).1)⟩
  rw [hy] at k
  exact ⟨y.1, by simp [hy], ec, w, base, sp, held, _, y.2, k⟩
theorem ShpN.slice {n : Nat} {t e : TypeId} {d : DataW G} (hu : P.underlying t = some (.slice e)) (h : ShpN P n t d) :
    ∃ (m : Nat) (es : List (DataW G)), n = m + 1 ∧ pvE d = .list .foreign (pvEs es) ∧ ∀ y ∈ es, ShpN P m e y := by
  obtain ⟨ec, w, base, sp, held, cs, ps, h⟩ := h
  cases n with
  | zero => simp [DataW.trod] at h
  | succ n =>
    rcases DataW.trod_slice hu h with ⟨_, e⟩ | ⟨a, len, cap, elems, rest, m, hm, _, e, h1, h2, h3, h4, h5, _, _⟩
    · simp only [Prod.mk.injEq] at e; obtain ⟨rfl, _⟩ := e
      exact ⟨n, [], rfl, by rw [pvE, pvEs], by simp⟩
    · simp only [Prod.mk.injEq] at e; obtain ⟨rfl, _⟩ := e
      refine ⟨n, _, rfl, by rw [pvE], fun y hy => ?_⟩
      obtain ⟨z, hz, rfl⟩ := List.mem_map.1 hy
      obtain ⟨i, hi⟩ := List.mem_iff_getElem?.1 hz
      have k := h5 i (by rw [← h4]; exact (List.getElem?_eq_some_iff.1 hi).1)
      rw [hi, Option.bind_eq_some_iff] at k
      obtain ⟨cs', _, k2⟩ := k
      obtain rfl : n = m := by omega
      exact ⟨ec, w, base, sp, held, cs', z.2, k2⟩
/-- The type of terms. -/
def TermTy (P : Program) (t : TypeId) : Prop := ∃ f0 f1 f2 f3 : Field, P.underlying t = some (.struct #[f0, f1, f2, f3]) ∧ P.underlying f0.type = some (.int .i64) ∧ P.underlying f1.type = some .string ∧ P.underlying f2.type = some (.int .i64) ∧ P.underlying f3.type = some (.slice t)
theorem terms_of : ∀ {es : List (DataW G)}, (∀ y ∈ es, ∃ tm : Term, pvE y = enc tm) → ∃ l : List Term, pvEs es = encL l
  | [], _ => ⟨[], rfl⟩
  | y :: es, h => by
    obtain ⟨t, ht⟩ := h y (by simp)
    obtain ⟨l, hl⟩ := terms_of (es := es) fun z hz => h z (List.mem_cons_of_mem _ hz)
    exact ⟨t :: l, by rw [pvEs, ht, hl, encL]⟩
theorem ints_of : ∀ {es : List (DataW G)}, (∀ y ∈ es, ∃ x, pvE y = .scal (.int .i64 x)) → ∃ l : List Int, pvEs es = ints l
  | [], _ => ⟨[], rfl⟩
  | y :: es, h => by
    obtain ⟨t, ht⟩ := h y (by simp)
    obtain ⟨l, hl⟩ := ints_of (es := es) fun z hz => h z (List.mem_cons_of_mem _ hz)
    exact ⟨t :: l, by rw [pvEs, ht, hl]; rfl⟩
theorem strs_of : ∀ {es : List (DataW G)}, (∀ y ∈ es, ∃ x, pvE y = .scal (.string x)) → ∃ l : List ByteArray, pvEs es = strs l
  | [], _ => ⟨[], rfl⟩
  | y :: es, h => by
    obtain ⟨t, ht⟩ := h y (by simp)
    obtain ⟨l, hl⟩ := strs_of (es := es) fun z hz => h z (List.mem_cons_of_mem _ hz)
    exact ⟨t :: l, by rw [pvEs, ht, hl]; rfl⟩
theorem len4 {α : Type} {l : List α} (h : l.length = 4) : ∃ a b c d, l = [a, b, c, d] := by
  match l, h with
  | [a, b, c, d], _ => exact ⟨a, b, c, d, rfl⟩
theorem len7 {α : Type} {l : List α} (h : l.length = 7) : ∃ a b c d e f g, l = [a, b, c, d, e, f, g] := by
  match l, h with
  | [a, b, c, d, e, f, g], _ => exact ⟨a, b, c, d, e, f, g, rfl⟩
theorem pv_term {t : TypeId} (hT : TermTy P t) : ∀ (n : Nat) (d : DataW G), ShpN P n t d → ∃ tm : Term, pvE d = enc tm := by
  obtain ⟨f0, f1, f2, f3, hu, h0, h1, h2, h3⟩ := hT
  intro n
  induction n using Nat.strongRecOn with
  | _ n ih =>
    intro d h
    obtain ⟨m, ys, rfl, e, hl, hall⟩ := h.struct hu
    obtain ⟨a, b, c, l, rfl⟩ := len4 (l := ys) (by simpa using hl)
    obtain ⟨_, e0, s0⟩ := hall 0 f0 rfl
    obtain ⟨_, e1, s1⟩ := hall 1 f1 rfl
    obtain ⟨_, e2, s2⟩ := hall 2 f2 rfl
    obtain ⟨_, e3, s3⟩ := hall 3 f3 rfl
    simp at e0 e1 e2 e3
    subst e0; subst e1; subst e2; subst e3
    obtain ⟨x0, p0⟩ := s0.int h0
    obtain ⟨x1, p1⟩ := s1.str h1
    obtain ⟨x2, p2⟩ := s2.int h2
    obtain ⟨m', es, rfl, p3, hes⟩ := s3.slice h3
    obtain ⟨ts, hts⟩ := terms_of fun y hy => ih m' (by omega) y (hes y hy)
    refine ⟨.mk x0 x1 x2 ts, ?_⟩
    rw [e]
    simp only [pvCs, p0, p1, p2, p3, hts, PV.cells, enc]
    rfl
/-- The type of what authorises. -/
def AuthTy (P : Program) (t : TypeId) : Prop := ∃ (f0 f1 f2 f3 f4 f5 f6 : Field) (ti ts : TypeId), P.underlying t = some (.struct #[f0, f1, f2, f3, f4, f5, f6]) ∧ P.underlying f0.type = some .string ∧ P.underlying f1.type = some (.slice ti) ∧ P.underlying ti = some (.int .i64) ∧ P.underlying f2.type = some (.int .i64) ∧ P.underlying f3.type = some (.slice ts) ∧ P.underlying ts = some .string ∧ P.underlying f4.type = some .string ∧ P.underlying f5.type = some .bool ∧ P.underlying f6.type = some (.int .i64)
theorem pv_auth {t : TypeId} (hA : AuthTy P t) {n : Nat} {d : DataW G} (h : ShpN P n t d) : ∃ a : Au, pvE d = encA a := by
  obtain ⟨f0, f1, f2, f3, f4, f5, f6, ti, ts, hu, h0, h1, h1i, h2, h3, h3s, h4, h5, h6⟩ := hA
  obtain ⟨m, ys, rfl, e, hl, hall⟩ := h.struct hu
  obtain ⟨a, b, c, d', e', f, g, rfl⟩ := len7 (l := ys) (by simpa using hl)
  obtain ⟨_, e0, s0⟩ := hall 0 f0 rfl
  obtain ⟨_, e1, s1⟩ := hall 1 f1 rfl
  obtain ⟨_, e2, s2⟩ := hall 2 f2 rfl
  obtain ⟨_, e3, s3⟩ := hall 3 f3 rfl
  obtain ⟨_, e4, s4⟩ := hall 4 f4 rfl
  obtain ⟨_, e5, s5⟩ := hall 5 f5 rfl
  obtain ⟨_, e6, s6⟩ := hall 6 f6 rfl
  simp at e0 e1 e2 e3 e4 e5 e6
  subst e0; subst e1; subst e2; subst e3; subst e4; subst e5; subst e6
  obtain ⟨x0, p0⟩ := s0.str h0
  obtain ⟨m1, es1, _, p1, hes1⟩ := s1.slice h1
  obtain ⟨x1, q1⟩ := ints_of fun y hy => (hes1 y hy).int h1i
  obtain ⟨x2, p2⟩ := s2.int h2
  obtain ⟨m3, es3, _, p3, hes3⟩ := s3.slice h3
  obtain ⟨x3, q3⟩ := strs_of fun y hy => (hes3 y hy).str h3s
  obtain ⟨x4, p4⟩ := s4.str h4
  obtain ⟨x5, p5⟩ := s5.bool h5
  obtain ⟨x6, p6⟩ := s6.int h6
  refine ⟨⟨x0, x1, x2, x3, x4, x5, x6⟩, ?_⟩
  rw [e]
  simp only [pvCs, p0, p1, q1, p2, p3, q3, p4, p5, p6, PV.cells, encA]
  rfl
def fldOf (P : Program) (t : TypeId) (i : Nat) : Field := ((match P.underlying t with | some (.struct fs) => fs[i]? | _ => none)).getD ⟨"", 0, 0, false, "", "", 0⟩
end
end Go.Pv

namespace Go.Pv
open Go Go.Proofs Go.RowKit Go.WideShapes
set_option linter.unusedVariables false
section
variable {G : Type}
open Ytlgaolpkeejmdaa.Rows in
theorem bulk_pos : ∀ d : DataW G, 1 ≤ uptoBulk d
  | .lit l => by cases l <;> simp [uptoBulk]
  | .nil => by simp [uptoBulk]
  | .ptr d => by simp [uptoBulk]
  | .slice es sp => by simp [uptoBulk]
  | .agg ps => by simp [uptoBulk]
  | .iface _ d => by simp [uptoBulk]
  | .map es => by simp [uptoBulk]
  | .held _ => by simp [uptoBulk]
open Ytlgaolpkeejmdaa.Rows in
theorem bulk_len : ∀ ds : List (DataW G), ds.length ≤ uptoBulkAll ds
  | [] => by simp
  | d :: ds => by
    have h1 := bulk_pos d
    have h2 := bulk_len ds
    simp only [List.length_cons, uptoBulkAll]; omega
open Ytlgaolpkeejmdaa.Rows in
mutual
theorem fits_of : ∀ d : DataW G, uptoBulk d ≤ 1048576 → fits d = true
  | .lit l, h => by
    cases l <;> simp only [uptoBulk] at h <;> simp only [fits]
    rw [lenB_eq]; exact decide_eq_true (by omega)
  | .nil, _ => by simp only [fits]
  | .ptr _, _ => by simp only [fits]
  | .slice es sp, h => by
    simp only [uptoBulk] at h
    have h1 := bulk_len es
    simp only [fits, Bool.and_eq_true]
    exact ⟨by rw [lenB_eq]; exact decide_eq_true (by omega), fitsL_of es (by omega)⟩
  | .agg ps, h => by
    simp only [uptoBulk] at h
    simp only [fits]
    exact fitsL_of ps (by omega)
  | .iface _ _, _ => by simp only [fits]
  | .map _, _ => by simp only [fits]
  | .held _, _ => by simp only [fits]
theorem fitsL_of : ∀ ds : List (DataW G), uptoBulkAll ds ≤ 1048576 → fitsL ds = true
  | [], _ => rfl
  | d :: ds, h => by
    simp only [uptoBulkAll] at h
    simp only [fitsL, Bool.and_eq_true]
    exact ⟨fits_of d (by omega), fitsL_of ds (by omega)⟩
end
def Small (d : DataW G) : Prop := Ytlgaolpkeejmdaa.Rows.uptoBulk d ≤ 1048576
def eachLe : List (DataW G) → Prop
  | [] => True
  | d :: ds => Small d ∧ eachLe ds
theorem eachLe_of : ∀ ds : List (DataW G), Ytlgaolpkeejmdaa.Rows.uptoBulkAll ds ≤ 1048576 → eachLe ds
  | [], _ => trivial
  | d :: ds, h => by
    simp only [Ytlgaolpkeejmdaa.Rows.uptoBulkAll] at h
    exact ⟨show Ytlgaolpkeejmdaa.Rows.uptoBulk d ≤ _ by omega, eachLe_of ds (by omega)⟩
theorem bulk_parts {ds : List (DataW G)} (h : Ytlgaolpkeejmdaa.Rows.uptoSmall G ds = true) : eachLe ds := eachLe_of ds (of_decide_eq_true h)
end
theorem termTy : TermTy Try.prog 25 := ⟨fldOf Try.prog 25 0, fldOf Try.prog 25 1, fldOf Try.prog 25 2, fldOf Try.prog 25 3, by kernel_rfl, by kernel_rfl, by kernel_rfl, by kernel_rfl, by kernel_rfl⟩
theorem authTy : AuthTy Try.prog 88 := ⟨fldOf Try.prog 88 0, fldOf Try.prog 88 1, fldOf Try.prog 88 2, fldOf Try.prog 88 3, fldOf Try.prog 88 4, fldOf Try.prog 88 5, fldOf Try.prog 88 6, 3, 9, by kernel_rfl, by kernel_rfl, by kernel_rfl, by kernel_rfl, by kernel_rfl, by kernel_rfl, by kernel_rfl, by kernel_rfl, by kernel_rfl, by kernel_rfl⟩
def plTs : List TypeId := [3, 4, 9, 22, 23, 25, 27, 29, 85, 86, 88]
theorem plOk : plB Try.prog plTs = true := by kernel_rfl
theorem laidOk : laidOutB Try.prog = true := by kernel_rfl
section
variable {G : Type} {ec : TypeId × Value → G} {W : World} {base : Nat} {v : Value} {d : DataW G} {ps : List MemPlace}
set_option maxRecDepth 100000 in
theorem arg_term (hval : Value.okWide Try.prog W .any base 25 v) (h : DataW.Trod ec Try.prog W 0 (fun _ => true) true 25 v d ps) (hb : Small d) : ∃ x : Term, Rep (memOf W (hwOf W)) (enc x) v ∧ True := by
  obtain ⟨n, s⟩ := ShpN.of h
  obtain ⟨x, e⟩ := pv_term termTy n d s
  have R := Trod_rep plOk (show _ ∈ plTs by simp [plTs]) hval h (fits_of d hb)
  rw [e] at R
  exact ⟨x, R, trivial⟩
set_option maxRecDepth 100000 in
theorem arg_auth (hval : Value.okWide Try.prog W .any base 88 v) (h : DataW.Trod ec Try.prog W 0 (fun _ => true) true 88 v d ps) (hb : Small d) : ∃ x : Au, Rep (memOf W (hwOf W)) (encA x) v ∧ True := by
  obtain ⟨n, s⟩ := ShpN.of h
  obtain ⟨x, e⟩ := pv_auth authTy s
  have R := Trod_rep plOk (show _ ∈ plTs by simp [plTs]) hval h (fits_of d hb)
  rw [e] at R
  exact ⟨x, R, trivial⟩
set_option maxRecDepth 100000 in
theorem arg_int (hval : Value.okWide Try.prog W .any base 3 v) (h : DataW.Trod ec Try.prog W 0 (fun _ => true) true 3 v d ps) (hb : Small d) : ∃ x : Int, Rep (memOf W (hwOf W)) (.scal (.int .i64 x)) v ∧ (-2 ^ 63 ≤ x ∧ x < 2 ^ 63) := by
  obtain ⟨a, rfl, rfl, rfl, w0⟩ := ChangeShapes.open_int Try.underlying3 hval h
  refine ⟨a, by simp [Rep, atomB], ?_⟩
  have := bounds_i64 w0
  omega
theorem stays_of {t : TypeId} (hr : Try.prog.readableRec t = true) (hrow : t < Try.prog.types.size) {W' : World} (h : DataW.Trod ec Try.prog W 0 (fun _ => true) true t v d ps) (hb : Below W.heap.size W W') (hlt : ∀ x ∈ ps, x.block < W.heap.size) {sp : Nat → Bool} (hsp : ∀ x ∈ ps, sp x.block = true) :
    DataW.Trod ec Try.prog W' 0 sp true t v d ps := WideElems.Trod_stays laidOk hr hrow h (fun x hx => hb.same (hlt x hx)) hsp
theorem stays3 {W' : World} (h : DataW.Trod ec Try.prog W 0 (fun _ => true) true 3 v d ps) (hb : Below W.heap.size W W') (hlt : ∀ x ∈ ps, x.block < W.heap.size) {sp : Nat → Bool} (hsp : ∀ x ∈ ps, sp x.block = true) : DataW.Trod ec Try.prog W' 0 sp true 3 v d ps := stays_of (by kernel_rfl) (of_decide_eq_true (by kernel_rfl)) h hb hlt hsp
theorem stays25 {W' : World} (h : DataW.Trod ec Try.prog W 0 (fun _ => true) true 25 v d ps) (hb : Below W.heap.size W W') (hlt : ∀ x ∈ ps, x.block < W.heap.size) {sp : Nat → Bool} (hsp : ∀ x ∈ ps, sp x.block = true) : DataW.Trod ec Try.prog W' 0 sp true 25 v d ps := stays_of (by kernel_rfl) (of_decide_eq_true (by kernel_rfl)) h hb hlt hsp
end
theorem run_true {f : FuncId} {args : List PV} {vs : List Value} {W : World} (h : PPure Try.prog f args (.scal (.bool true))) (r : RepL (memOf W (hwOf W)) args vs) :
    Calls Try.prog f vs.toArray W fun e w' => e = .returned (.bool true) ∧ Below W.heap.size W w' := by
  refine (h.2 W (hwOf W) vs (WRep.old W) r).mono ?_
  rintro e w' ⟨v, hw', r, H', rfl, hx, hr, hv, rfl⟩
  simp only [Rep] at hv
  exact ⟨by rw [hv.1], ⟨hx.os, hx.tape, hx.output, hx.size, fun k hk => (hx.frame k hk rfl).1⟩⟩
end Go.Pv
namespace Go.Proofs.Ytlgaolpkeejmdaa
open Go.ChangeShapes Go.WideShapes Go.ChangeAt Go.RowKit
set_option linter.unusedVariables false
theorem own : ownKnob Try.prog.godebug = none := by kernel_rfl
theorem post_below {H : Type} {enc : TypeId × Value → H} {P : Program} {f : Func} {s : ChangeSpec} {apart fresh handsOn again : Bool} {W W' : World} {args : Array Value} {v : Value} {ds gs : List (DataW H)} {before pa pv : List MemPlace}
    (hW : DataW.Whole enc P f.params.toList s.vars apart W args.toList ds gs before) (hb : Below W.heap.size W W') (hps : before = pa ++ pv)
    (hres : ∀ (b : Nat) (sp : Nat → Bool) (hd : Bool), DataW.TrodAll enc P W' b sp hd f.resultTypes.toList (v.resultList f.resultTypes.size) (s.fn H (ds ++ gs)).results [])
    (hargs : ∀ sp : Nat → Bool, (∀ p ∈ before, sp p.block = true) → DataW.TrodAll enc P W' 0 sp true f.params.toList args.toList (s.fn H (ds ++ gs)).args pa)
    (hvars : ∀ sp : Nat → Bool, (∀ p ∈ before, sp p.block = true) → DataW.TrodVars enc P W' sp s.vars (s.fn H (ds ++ gs)).vars pv)
    (hok : ∀ (j : Nat) (t : TypeId) (r : Value), f.resultTypes[j]? = some t → (v.resultList f.resultTypes.size)[j]? = some r → Value.okWide P W' .any 0 t r) :
    s.post enc P f apart fresh handsOn again W args v W' := by
  have old : ∀ p ∈ before, p.block < W.heap.size := fun p hp => hW.lt p hp
  have mem : ∀ {p : MemPlace}, p ∈ before ↔ p ∈ [] ++ pa ++ pv := by intro p; rw [hps]; simp
  refine ⟨ds, gs, before, [], pa, pv, hW, hres _ _ _, hargs _ fun p hp => by simpa using old p hp, hvars _ fun p hp => by simpa using old p hp, World.keptBut_mono (fun p hp => ⟨hp, .inr (by rw [hps, List.mem_append] at hp; exact hp)⟩) (hb.frame (· ∈ before)), fun _ => ?_⟩
  obtain ⟨_, _, _, _, _, hz, hn⟩ := hW
  refine ⟨hok, _, _, ([] ++ pa) ++ pv, ⟨[] ++ pa, pv, trodAll_append (hargs _ fun _ _ => rfl) (hres _ _ _), hvars _ fun _ _ => rfl, rfl, fun b off hp => ?_, fun ha => ?_⟩, fun p hp _ => mem.2 hp⟩
  · have hp' := mem.2 hp
    rw [hb.frozen (p := ⟨b, off, none⟩) (old _ hp')]
    exact hz b off hp'
  · have h := hn ha
    rw [hps] at h
    simpa using h
end Go.Proofs.Ytlgaolpkeejmdaa


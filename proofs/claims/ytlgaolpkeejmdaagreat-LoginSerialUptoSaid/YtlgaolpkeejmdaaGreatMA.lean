import Derived.Calls
import Derived.Orders
import Derived.Below
import Derived.Laws.Sem
namespace Go.Pv

inductive Tok where
  | foreign
  | full
  | own (b e tot sz : Nat)

inductive PV where
  | scal (v : Value)
  | agg (cs : List PV)
  | tup (cs : List PV)
  | list (tok : Tok) (xs : List PV)
  | cptr (cs : List PV)
  | ptr (b off : Nat)
  | fn (f : Fn) (first captured : List PV)
  | mapr (b : Nat)
  | iface (t : TypeId) (p : PV)

def PV.cells : PV → List PV
  | .agg cs => cs
  | p => [p]

def lenB : Nat := 2 ^ 40

def atomB : Value → Bool
  | .agg _ => false
  | .string s => decide (s.size ≤ lenB)
  | _ => true

abbrev Mem := Nat → Nat → Option Value

def RepTok (tok : Tok) (a : Option Addr) (len cap : Nat) : Prop :=
  match tok with
  | .foreign => True
  | .full => cap = len
  | .own b e tot sz => a = some ⟨b, 0, none⟩ ∧ len * sz = e ∧ cap * sz ≤ tot

mutual
def Rep (m : Mem) : PV → Value → Prop
  | .scal v, u => u = v ∧ atomB v = true
  | .agg cs, u => ∃ vs, u = .agg vs ∧ RepL m cs vs.toList
  | .tup cs, u => ∃ vs, u = .tuple vs ∧ RepL m cs vs.toList
  | .list tok xs, u => ∃ a len cap sz, u = .slice a len cap ∧ len = xs.length ∧ len ≤ cap ∧ len ≤ lenB ∧ RepTok tok a len cap ∧
      (len ≠ 0 → ∃ b o, a = some ⟨b, o, none⟩ ∧ RepE m xs b o sz)
  | .cptr cs, u => ∃ b o, u = .pointer (some ⟨b, o, none⟩) ∧ RepR m cs b o
  | .ptr b o, u => u = .pointer (some ⟨b, o, none⟩)
  | .fn f a c, u => ∃ va vc, u = .func f va vc ∧ RepL m a va.toList ∧ RepL m c vc.toList
  | .mapr b, u => u = .map (some b)
  | .iface t p, u => ∃ v, u = .iface t v ∧ Rep m p v
def RepL (m : Mem) : List PV → List Value → Prop
  | [], vs => vs = []
  | p :: ps, vs => ∃ v rest, vs = v :: rest ∧ Rep m p v ∧ RepL m ps rest
def RepR (m : Mem) : List PV → Nat → Nat → Prop
  | [], _, _ => True
  | p :: ps, b, o => (∃ v, m b o = some v ∧ Rep m p v) ∧ RepR m ps b (o + 1)
def RepE (m : Mem) : List PV → Nat → Nat → Nat → Prop
  | [], _, _, _ => True
  | .agg cs :: xs, b, o, sz => (cs.length = sz ∧ RepR m cs b o) ∧ RepE m xs b (o + sz) sz
  | p :: xs, b, o, sz => (1 = sz ∧ (∃ v, m b o = some v ∧ Rep m p v)) ∧ RepE m xs b (o + sz) sz
end

theorem RepE_cons {m : Mem} {x : PV} {xs : List PV} {b o sz : Nat} :
    RepE m (x :: xs) b o sz ↔ (x.cells.length = sz ∧ RepR m x.cells b o) ∧ RepE m xs b (o + sz) sz := by
  cases x <;> simp [RepE, PV.cells, RepR]

theorem RepL_length {m : Mem} : ∀ {ps : List PV} {vs : List Value}, RepL m ps vs → vs.length = ps.length
  | [], vs, h => by simp [RepL] at h; simp [h]
  | p :: ps, vs, h => by
    obtain ⟨v, rest, rfl, _, h2⟩ := by simpa [RepL] using h
    simp [RepL_length h2]

theorem RepL_nil {m : Mem} : RepL m [] [] := by simp [RepL]
theorem RepL_cons {m : Mem} {p : PV} {v : Value} {ps : List PV} {vs : List Value} : RepL m (p :: ps) (v :: vs) ↔ Rep m p v ∧ RepL m ps vs := by
  simp only [RepL]
  constructor
  · rintro ⟨_, _, e, h1, h2⟩
    cases e
    exact ⟨h1, h2⟩
  · rintro ⟨h1, h2⟩
    exact ⟨_, _, rfl, h1, h2⟩

theorem RepL_append {m : Mem} : ∀ {ps qs : List PV} {vs us : List Value}, RepL m ps vs → RepL m qs us → RepL m (ps ++ qs) (vs ++ us)
  | [], qs, vs, us, h, k => by simp [RepL] at h; subst h; simpa using k
  | p :: ps, qs, vs, us, h, k => by
    obtain ⟨v, rest, rfl, h1, h2⟩ := by simpa [RepL] using h
    simp only [List.cons_append, RepL_cons]
    exact ⟨h1, RepL_append h2 k⟩

theorem RepL_get {m : Mem} : ∀ {ps : List PV} {vs : List Value}, RepL m ps vs → ∀ {i : Nat} {p : PV}, ps[i]? = some p → ∃ v, vs[i]? = some v ∧ Rep m p v
  | [], _, _, i, p, hi => by simp at hi
  | q :: ps, vs, h, i, p, hi => by
    obtain ⟨v, rest, rfl, h1, h2⟩ := by simpa [RepL] using h
    cases i with
    | zero => simp at hi; subst hi; exact ⟨v, by simp, h1⟩
    | succ i => simp at hi; simpa using RepL_get h2 hi

theorem RepL_set {m : Mem} {p : PV} {v : Value} (hp : Rep m p v) : ∀ {ps : List PV} {vs : List Value} (i : Nat), RepL m ps vs → RepL m (ps.set i p) (vs.set i v)
  | [], vs, i, h => by simp [RepL] at h; subst h; simpa using RepL_nil
  | q :: ps, vs, i, h => by
    obtain ⟨u, rest, rfl, h1, h2⟩ := by simpa [RepL] using h
    cases i with
    | zero => simp only [List.set_cons_zero, RepL_cons]; exact ⟨hp, h2⟩
    | succ i => simp only [List.set_cons_succ, RepL_cons]; exact ⟨h1, RepL_set hp i h2⟩

theorem RepL_take {m : Mem} : ∀ {ps : List PV} {vs : List Value} (n : Nat), RepL m ps vs → RepL m (ps.take n) (vs.take n)
  | _, _, 0, _ => by simpa using RepL_nil
  | [], vs, n + 1, h => by simp [RepL] at h; subst h; simpa using RepL_nil
  | q :: ps, vs, n + 1, h => by
    obtain ⟨u, rest, rfl, h1, h2⟩ := by simpa [RepL] using h
    simp only [List.take_succ_cons, RepL_cons]; exact ⟨h1, RepL_take n h2⟩

theorem RepL_drop {m : Mem} : ∀ {ps : List PV} {vs : List Value} (n : Nat), RepL m ps vs → RepL m (ps.drop n) (vs.drop n)
  | _, _, 0, h => by simpa using h
  | [], vs, n + 1, h => by simp [RepL] at h; subst h; simpa using RepL_nil
  | q :: ps, vs, n + 1, h => by
    obtain ⟨u, rest, rfl, h1, h2⟩ := by simpa [RepL] using h
    simpa using RepL_drop n h2

theorem RepR_drop {m : Mem} {b : Nat} : ∀ {ps : List PV} {o : Nat} (n : Nat), RepR m ps b o → RepR m (ps.drop n) b (o + n)
  | _, _, 0, h => by simpa using h
  | [], o, n + 1, _ => by simp [RepR]
  | q :: ps, o, n + 1, h => by
    obtain ⟨h1, h2⟩ := by simpa only [RepR] using h
    have := RepR_drop n h2
    rwa [show o + 1 + n = o + (n + 1) by omega] at this

theorem RepR_of_RepL {m : Mem} {b : Nat} : ∀ {ps : List PV} {vs : List Value} {o : Nat}, RepL m ps vs → (∀ i v, vs[i]? = some v → m b (o + i) = some v) → RepR m ps b o
  | [], _, _, _, _ => by simp [RepR]
  | q :: ps, vs, o, h, hm => by
    obtain ⟨u, rest, rfl, h1, h2⟩ := by simpa [RepL] using h
    simp only [RepR]
    refine ⟨⟨u, by simpa using hm 0 u (by simp), h1⟩, RepR_of_RepL h2 fun i v hi => ?_⟩
    have := hm (i + 1) v (by simpa using hi)
    rwa [show o + (i + 1) = o + 1 + i by omega] at this

theorem RepR_vals {m : Mem} {b : Nat} : ∀ {ps : List PV} {o : Nat}, RepR m ps b o → ∃ vs, RepL m ps vs ∧ ∀ i v, vs[i]? = some v → m b (o + i) = some v
  | [], _, _ => ⟨[], by simp [RepL], by simp⟩
  | q :: ps, o, h => by
    obtain ⟨⟨v, hv, h1⟩, h2⟩ := by simpa only [RepR] using h
    obtain ⟨vs, h3, h4⟩ := RepR_vals h2
    refine ⟨v :: vs, RepL_cons.2 ⟨h1, h3⟩, fun i u hi => ?_⟩
    cases i with
    | zero => simp at hi; subst hi; simpa using hv
    | succ i => have := h4 i u (by simpa using hi); rwa [show o + 1 + i = o + (i + 1) by omega] at this

def MLe (m m' : Mem) : Prop := ∀ b o v, m b o = some v → m' b o = some v
theorem MLe.refl (m : Mem) : MLe m m := fun _ _ _ h => h
theorem MLe.trans {a b c : Mem} (h : MLe a b) (k : MLe b c) : MLe a c := fun x y v e => k x y v (h x y v e)

mutual
theorem Rep.mono {m m' : Mem} (h : MLe m m') : ∀ (p : PV) {v : Value}, Rep m p v → Rep m' p v
  | .scal u, v, r => by simpa [Rep] using r
  | .agg cs, v, r => by
    simp only [Rep] at r ⊢
    obtain ⟨vs, e, r⟩ := r
    exact ⟨vs, e, RepL.mono h cs r⟩
  | .tup cs, v, r => by
    simp only [Rep] at r ⊢
    obtain ⟨vs, e, r⟩ := r
    exact ⟨vs, e, RepL.mono h cs r⟩
  | .list tok xs, v, r => by
    simp only [Rep] at r ⊢
    obtain ⟨a, len, cap, sz, e, h1, h2, h3, h4, h5⟩ := r
    refine ⟨a, len, cap, sz, e, h1, h2, h3, h4, fun hn => ?_⟩
    obtain ⟨b, o, e2, h6⟩ := h5 hn
    exact ⟨b, o, e2, RepE.mono h xs h6⟩
  | .cptr cs, v, r => by
    simp only [Rep] at r ⊢
    obtain ⟨b, o, e, r⟩ := r
    exact ⟨b, o, e, RepR.mono h cs r⟩
  | .ptr b o, v, r => by simpa [Rep] using r
  | .fn f a c, v, r => by
    simp only [Rep] at r ⊢
    obtain ⟨va, vc, e, r1, r2⟩ := r
    exact ⟨va, vc, e, RepL.mono h a r1, RepL.mono h c r2⟩
  | .mapr b, v, r => by simpa [Rep] using r
  | .iface t p, v, r => by
    simp only [Rep] at r ⊢
    obtain ⟨u, e, r⟩ := r
    exact ⟨u, e, Rep.mono h p r⟩
theorem RepL.mono {m m' : Mem} (h : MLe m m') : ∀ (ps : List PV) {vs : List Value}, RepL m ps vs → RepL m' ps vs
  | [], vs, r => by simpa [RepL] using r
  | p :: ps, vs, r => by
    simp only [RepL] at r ⊢
    obtain ⟨v, rest, e, r1, r2⟩ := r
    exact ⟨v, rest, e, Rep.mono h p r1, RepL.mono h ps r2⟩
theorem RepR.mono {m m' : Mem} (h : MLe m m') : ∀ (ps : List PV) {b o : Nat}, RepR m ps b o → RepR m' ps b o
  | [], b, o, r => by simp [RepR]
  | p :: ps, b, o, r => by
    simp only [RepR] at r ⊢
    obtain ⟨⟨v, e, r1⟩, r2⟩ := r
    exact ⟨⟨v, h _ _ _ e, Rep.mono h p r1⟩, RepR.mono h ps r2⟩
theorem RepE.mono {m m' : Mem} (h : MLe m m') : ∀ (ps : List PV) {b o sz : Nat}, RepE m ps b o sz → RepE m' ps b o sz
  | [], b, o, sz, r => by simp [RepE]
  | .agg cs :: ps, b, o, sz, r => by
    simp only [RepE] at r ⊢
    exact ⟨⟨r.1.1, RepR.mono h cs r.1.2⟩, RepE.mono h ps r.2⟩
  | .scal p :: ps, b, o, sz, r => by
    simp only [RepE] at r ⊢
    obtain ⟨⟨e, v, h1, h2⟩, r2⟩ := r
    exact ⟨⟨e, v, h _ _ _ h1, Rep.mono h _ h2⟩, RepE.mono h ps r2⟩
  | .tup p :: ps, b, o, sz, r => by
    simp only [RepE] at r ⊢
    obtain ⟨⟨e, v, h1, h2⟩, r2⟩ := r
    exact ⟨⟨e, v, h _ _ _ h1, Rep.mono h (.tup p) h2⟩, RepE.mono h ps r2⟩
  | .list t p :: ps, b, o, sz, r => by
    simp only [RepE] at r ⊢
    obtain ⟨⟨e, v, h1, h2⟩, r2⟩ := r
    exact ⟨⟨e, v, h _ _ _ h1, Rep.mono h (.list t p) h2⟩, RepE.mono h ps r2⟩
  | .cptr p :: ps, b, o, sz, r => by
    simp only [RepE] at r ⊢
    obtain ⟨⟨e, v, h1, h2⟩, r2⟩ := r
    exact ⟨⟨e, v, h _ _ _ h1, Rep.mono h (.cptr p) h2⟩, RepE.mono h ps r2⟩
  | .ptr x y :: ps, b, o, sz, r => by
    simp only [RepE] at r ⊢
    obtain ⟨⟨e, v, h1, h2⟩, r2⟩ := r
    exact ⟨⟨e, v, h _ _ _ h1, Rep.mono h (.ptr x y) h2⟩, RepE.mono h ps r2⟩
  | .fn f x y :: ps, b, o, sz, r => by
    simp only [RepE] at r ⊢
    obtain ⟨⟨e, v, h1, h2⟩, r2⟩ := r
    exact ⟨⟨e, v, h _ _ _ h1, Rep.mono h (.fn f x y) h2⟩, RepE.mono h ps r2⟩
  | .mapr x :: ps, b, o, sz, r => by
    simp only [RepE] at r ⊢
    obtain ⟨⟨e, v, h1, h2⟩, r2⟩ := r
    exact ⟨⟨e, v, h _ _ _ h1, Rep.mono h (.mapr x) h2⟩, RepE.mono h ps r2⟩
  | .iface t p :: ps, b, o, sz, r => by
    simp only [RepE] at r ⊢
    obtain ⟨⟨e, v, h1, h2⟩, r2⟩ := r
    exact ⟨⟨e, v, h _ _ _ h1, Rep.mono h (.iface t p) h2⟩, RepE.mono h ps r2⟩
end

end Go.Pv

namespace Go.Pv

def ofCell : Value → Option PV
  | .slice none 0 0 => some (.list .full [])
  | .agg _ => none
  | v => if atomB v = true then some (.scal v) else none
def ofCells : List Value → Option (List PV)
  | [] => some []
  | v :: vs => match ofCell v, ofCells vs with
    | some p, some ps => some (p :: ps)
    | _, _ => none
def ofValue : Value → Option PV
  | .agg cs => (ofCells cs.toList).map .agg
  | v => ofCell v

theorem Rep_ofCell (m : Mem) (v : Value) {p : PV} (h : ofCell v = some p) : Rep m p v := by
  unfold ofCell at h
  split at h
  · cases h
    simp only [Rep]
    exact ⟨none, 0, 0, 0, rfl, rfl, Nat.le_refl _, Nat.zero_le _, rfl, fun h => absurd rfl h⟩
  · cases h
  · split at h
    · rename_i h2
      cases h
      simp only [Rep, true_and]
      exact h2
    · cases h
theorem RepL_ofCells (m : Mem) : ∀ (vs : List Value) {ps : List PV}, ofCells vs = some ps → RepL m ps vs
  | [], ps, h => by simp [ofCells] at h; subst h; exact RepL_nil
  | v :: vs, ps, h => by
    simp only [ofCells] at h
    split at h
    · rename_i h1 h2
      cases h
      exact RepL_cons.2 ⟨Rep_ofCell m v h1, RepL_ofCells m vs h2⟩
    · cases h
theorem Rep_ofValue (m : Mem) (v : Value) {p : PV} (h : ofValue v = some p) : Rep m p v := by
  unfold ofValue at h
  split at h
  · simp only [Option.map_eq_some_iff] at h
    obtain ⟨ps, h1, rfl⟩ := h
    simp only [Rep]; exact ⟨_, rfl, RepL_ofCells m _ h1⟩
  · exact Rep_ofCell m _ h

/-- A value's cells. -/
theorem Rep_cells {m : Mem} {p : PV} {v : Value} (h : Rep m p v) : RepL m p.cells v.cells.toList := by
  cases p with
  | agg cs =>
    simp only [Rep] at h
    obtain ⟨vs, rfl, h⟩ := h
    simpa [PV.cells, Value.cells] using h
  | scal u =>
    have h0 := h
    simp only [Rep] at h
    obtain ⟨rfl, h⟩ := h
    have : v.cells = #[v] := by cases v <;> first | rfl | simp [atomB] at h
    rw [this]
    simp only [PV.cells, RepL]
    exact ⟨_, [], rfl, h0, rfl⟩
  | tup cs =>
    have h0 := h
    simp only [Rep] at h
    obtain ⟨vs, rfl, h⟩ := h
    simp only [PV.cells, Value.cells, RepL]
    exact ⟨_, [], rfl, h0, rfl⟩
  | list t xs =>
    have h0 := h
    simp only [Rep] at h
    obtain ⟨a, len, cap, sz, rfl, h⟩ := h
    simp only [PV.cells, Value.cells, RepL]
    exact ⟨_, [], rfl, h0, rfl⟩
  | cptr cs =>
    have h0 := h
    simp only [Rep] at h
    obtain ⟨a, len, rfl, h⟩ := h
    simp only [PV.cells, Value.cells, RepL]
    exact ⟨_, [], rfl, h0, rfl⟩
  | ptr b o =>
    have h0 := h
    simp only [Rep] at h
    subst h
    simp only [PV.cells, Value.cells, RepL]
    exact ⟨_, [], rfl, h0, rfl⟩
  | fn f a c =>
    have h0 := h
    simp only [Rep] at h
    obtain ⟨va, vc, rfl, h⟩ := h
    simp only [PV.cells, Value.cells, RepL]
    exact ⟨_, [], rfl, h0, rfl⟩
  | mapr b =>
    have h0 := h
    simp only [Rep] at h
    subst h
    simp only [PV.cells, Value.cells, RepL]
    exact ⟨_, [], rfl, h0, rfl⟩
  | iface t p =>
    have h0 := h
    simp only [Rep] at h
    obtain ⟨v, rfl, h⟩ := h
    simp only [PV.cells, Value.cells, RepL]
    exact ⟨_, [], rfl, h0, rfl⟩
end Go.Pv

namespace Go.Pv

inductive PObj where
  | cells (cs : List PV)
  | row (e tot : Nat)
  | map (kk : Option IntKind) (es : List (Value × PV))

/-- A key of a map: a string, or a number of one kind. -/
def keyV : Option IntKind → Value → Bool
  | none, .string _ => true
  | some k, .int k' _ => decide (k' = k)
  | _, _ => false
def keyEq : Value → Value → Bool
  | .string a, .string b => a == b
  | .int _ a, .int _ b => a == b
  | _, _ => false
def mfind (k : Value) : List (Value × PV) → Option PV
  | [] => none
  | (a, p) :: es => if keyEq k a = true then some p else mfind k es
def mput (k : Value) (p : PV) : List (Value × PV) → List (Value × PV)
  | [] => [(k, p)]
  | (a, q) :: es => if keyEq k a = true then (k, p) :: es else (a, q) :: mput k p es

def RepM (m : Mem) (kk : Option IntKind) : List (Value × PV) → List MapEntry → Prop
  | [], es => es = []
  | (k, p) :: ps, es => ∃ e rest, es = e :: rest ∧ e.key = k ∧ keyV kk k = true ∧ Rep m p e.val ∧ RepM m kk ps rest
theorem RepM.mono {m m' : Mem} (h : MLe m m') {kk : Option IntKind} : ∀ {ps : List (Value × PV)} {es : List MapEntry}, RepM m kk ps es → RepM m' kk ps es
  | [], es, r => r
  | (k, p) :: ps, es, r => by
    obtain ⟨e, rest, h1, h2, h3, h4, h5⟩ := r
    exact ⟨e, rest, h1, h2, h3, Rep.mono h p h4, RepM.mono h h5⟩

abbrev PH := List (Nat × PObj)

def PH.get : PH → Nat → Option PObj
  | [], _ => none
  | (b, o) :: H, x => if x = b then some o else PH.get H x
def PH.set (H : PH) (b : Nat) (o : PObj) : PH := (b, o) :: H

@[simp] theorem PH.get_nil (x : Nat) : PH.get [] x = none := rfl
theorem PH.get_cons (b : Nat) (o : PObj) (H : PH) (x : Nat) : PH.get ((b, o) :: H) x = if x = b then some o else PH.get H x := rfl
theorem PH.get_set (H : PH) (b : Nat) (o : PObj) (x : Nat) : PH.get (H.set b o) x = if x = b then some o else H.get x := rfl
theorem PH.get_append : ∀ (F H : PH) (x : Nat), PH.get (F ++ H) x = (F.get x).or (H.get x)
  | [], H, x => by simp
  | (b, o) :: F, H, x => by
    simp only [List.cons_append, PH.get_cons]
    split
    · simp
    · exact PH.get_append F H x
theorem PH.fresh (H : PH) : ∃ b, ∀ x, b ≤ x → H.get x = none := by
  induction H with
  | nil => exact ⟨0, fun _ _ => rfl⟩
  | cons p H ih =>
    obtain ⟨b, hb⟩ := ih
    refine ⟨max b (p.1 + 1), fun x hx => ?_⟩
    obtain ⟨k, o⟩ := p
    rw [PH.get_cons, if_neg (by simp at hx; omega)]
    exact hb x (by omega)

def memOf (w : World) (hw : Nat → Nat) : Mem := fun b o => if o < hw b then w.cell? ⟨b, o, none⟩ else none

theorem cell_of_block {w : World} {b : Nat} {c : Array Value} {el : TypeId} {fz : Nat × Nat} (h : w.heap[b]? = some (.cells c el fz)) (o : Nat) : w.cell? ⟨b, o, none⟩ = c[o]? := by
  simp [World.cell?, h]
theorem frozen_of_block {w : World} {b : Nat} {c : Array Value} {el : TypeId} (h : w.heap[b]? = some (.cells c el (0, 0))) (a : Addr) (ha : a.block = b) : w.frozen? a = false := by
  simp [World.frozen?, ha, h]
theorem cell_same {w w' : World} {b : Nat} (h : w'.heap[b]? = w.heap[b]?) (o : Nat) : w'.cell? ⟨b, o, none⟩ = w.cell? ⟨b, o, none⟩ := by
  simp [World.cell?, h]

def ObjRep (w : World) (hw : Nat → Nat) (b : Nat) : PObj → Prop
  | .cells cs => hw b = 0 ∧ ∃ c el, w.heap[b]? = some (.cells c el (0, 0)) ∧ RepL (memOf w hw) cs c.toList
  | .row e tot => hw b = e ∧ e ≤ tot ∧ ∃ c el, w.heap[b]? = some (.cells c el (0, 0)) ∧ c.size = tot
  | .map kk es => hw b = 0 ∧ ∃ c clk, w.heap[b]? = some (.map c clk) ∧ RepM (memOf w hw) kk es c.toList

structure WRep (w : World) (hw : Nat → Nat) (H : PH) : Prop where
  fin : ∀ b, hw b ≠ 0 → b < w.heap.size
  obj : ∀ b o, H.get b = some o → ObjRep w hw b o

theorem ObjRep.lt {w : World} {hw : Nat → Nat} {b : Nat} {o : PObj} (h : ObjRep w hw b o) : b < w.heap.size := by
  have : ∃ x, w.heap[b]? = some x := by
    cases o with
    | cells cs => obtain ⟨_, c, el, h, _⟩ := h; exact ⟨_, h⟩
    | row e tot => obtain ⟨_, _, c, el, h, _⟩ := h; exact ⟨_, h⟩
    | map kk es => obtain ⟨_, c, clk, h, _⟩ := h; exact ⟨_, h⟩
  obtain ⟨x, hx⟩ := this
  exact (Array.getElem?_eq_some_iff.1 hx).1

structure ExtF (H : PH) (w : World) (hw : Nat → Nat) (w' : World) (hw' : Nat → Nat) (H' : PH) : Prop where
  os : w'.os = w.os
  tape : w'.tape = w.tape
  output : w'.output = w.output
  size : w.heap.size ≤ w'.heap.size
  frame : ∀ b, b < w.heap.size → H.get b = none → w'.heap[b]? = w.heap[b]? ∧ hw' b = hw b
  mono : MLe (memOf w hw) (memOf w' hw')
  dom : ∀ b, H'.get b ≠ none → H.get b ≠ none ∨ w.heap.size ≤ b

theorem ExtF.refl (H : PH) (w : World) (hw : Nat → Nat) : ExtF H w hw w hw H :=
  ⟨rfl, rfl, rfl, Nat.le_refl _, fun _ _ _ => ⟨rfl, rfl⟩, MLe.refl _, fun _ h => .inl h⟩

theorem ExtF.trans {H0 H1 H2 : PH} {w0 w1 w2 : World} {h0 h1 h2 : Nat → Nat} (a : ExtF H0 w0 h0 w1 h1 H1) (b : ExtF H1 w1 h1 w2 h2 H2) : ExtF H0 w0 h0 w2 h2 H2 := by
  refine ⟨b.os.trans a.os, b.tape.trans a.tape, b.output.trans a.output, Nat.le_trans a.size b.size, fun x hx hn => ?_, a.mono.trans b.mono, fun x hx => ?_⟩
  · have hn1 : H1.get x = none := by
      cases e : H1.get x with
      | none => rfl
      | some o => rcases a.dom x (by simp [e]) with h | h
                  · exact absurd hn h
                  · omega
    obtain ⟨p, q⟩ := b.frame x (Nat.lt_of_lt_of_le hx a.size) hn1
    obtain ⟨r, s⟩ := a.frame x hx hn
    exact ⟨p.trans r, q.trans s⟩
  · rcases b.dom x hx with h | h
    · exact a.dom x h
    · exact .inr (Nat.le_trans a.size h)

theorem ObjRep.keep {w w' : World} {hw hw' : Nat → Nat} {b : Nat} {o : PObj} (h : ObjRep w hw b o) (hb : w'.heap[b]? = w.heap[b]?) (hh : hw' b = hw b)
    (hm : MLe (memOf w hw) (memOf w' hw')) : ObjRep w' hw' b o := by
  cases o with
  | cells cs =>
    obtain ⟨h0, c, el, h1, h2⟩ := h
    exact ⟨hh.trans h0, c, el, hb.trans h1, RepL.mono hm _ h2⟩
  | row e tot =>
    obtain ⟨h0, h1, c, el, h2, h3⟩ := h
    exact ⟨hh.trans h0, h1, c, el, hb.trans h2, h3⟩
  | map kk es =>
    obtain ⟨h0, c, clk, h1, h2⟩ := h
    exact ⟨hh.trans h0, c, clk, hb.trans h1, RepM.mono hm h2⟩

/-- What is called with a part of the memory leaves the rest alone. -/
theorem WRep.frame {F H H' : PH} {w w' : World} {hw hw' : Nat → Nat} (h : WRep w hw (F ++ H)) (hd : ∀ b, F.get b ≠ none → H.get b = none)
    (e : ExtF H w hw w' hw' H') (h' : WRep w' hw' H') : WRep w' hw' (F ++ H') ∧ ∀ b, F.get b ≠ none → H'.get b = none := by
  refine ⟨⟨h'.fin, fun b o hb => ?_⟩, fun b hb => ?_⟩
  · rw [PH.get_append] at hb
    cases hf : F.get b with
    | none => rw [hf, Option.none_or] at hb; exact h'.obj b o hb
    | some o2 =>
      rw [hf, Option.some_or] at hb
      cases hb
      have ho := h.obj b o (by rw [PH.get_append, hf]; rfl)
      obtain ⟨p, q⟩ := e.frame b ho.lt (hd b (by simp [hf]))
      exact ho.keep p q e.mono
  · cases hf : F.get b with
    | none => exact absurd hf hb
    | some o2 =>
      have ho := h.obj b o2 (by rw [PH.get_append, hf]; rfl)
      cases hx : H'.get b with
      | none => rfl
      | some o3 => rcases e.dom b (by simp [hx]) with k | k
                   · exact absurd (hd b hb) k
                   · have := ho.lt; omega

theorem WRep.le {w : World} {hw : Nat → Nat} {H H' : PH} (h : WRep w hw H') (hl : ∀ b o, H.get b = some o → H'.get b = some o) : WRep w hw H :=
  ⟨h.fin, fun b o hb => h.obj b o (hl b o hb)⟩

/-! ### a draw -/
theorem memOf_heap {w w' : World} {hw : Nat → Nat} (h : w'.heap = w.heap) : memOf w' hw = memOf w hw := by
  funext b o; simp [memOf, World.cell?, h]
theorem WRep.drawn {w w' : World} {hw : Nat → Nat} {H : PH} (h : WRep w hw H) (e : w'.heap = w.heap) : WRep w' hw H := by
  refine ⟨fun b hb => by rw [e]; exact h.fin b hb, fun b o hb => ?_⟩
  exact (h.obj b o hb).keep (by rw [e]) rfl (by rw [memOf_heap e]; exact MLe.refl _)

/-! ### a new block -/
def World.push (w : World) (o : Obj) : World := { w with heap := w.heap.push o }
theorem push_lt {w : World} {o : Obj} {b : Nat} (h : b < w.heap.size) : (World.push w o).heap[b]? = w.heap[b]? := by
  show (w.heap.push o)[b]? = _
  rw [Array.getElem?_push, if_neg (by omega)]
theorem push_new (w : World) (o : Obj) : (World.push w o).heap[w.heap.size]? = some o := by
  show (w.heap.push o)[w.heap.size]? = _
  simp
theorem push_size (w : World) (o : Obj) : (World.push w o).heap.size = w.heap.size + 1 := by simp [World.push]

def updF (hw : Nat → Nat) (b v : Nat) : Nat → Nat := fun x => if x = b then v else hw x

theorem mle_push {w : World} {hw : Nat → Nat} (fin : ∀ b, hw b ≠ 0 → b < w.heap.size) (o : Obj) (k : Nat) : MLe (memOf w hw) (memOf (World.push w o) (updF hw w.heap.size k)) := by
  intro b x v hv
  simp only [memOf] at hv ⊢
  by_cases h0 : x < hw b
  · rw [if_pos h0] at hv
    have hb := fin b (by omega)
    have hne : b ≠ w.heap.size := by omega
    rw [show updF hw w.heap.size k b = hw b by simp [updF, hne], if_pos h0, cell_same (push_lt hb)]
    exact hv
  · rw [if_neg h0] at hv; cases hv

theorem ext_push {w : World} {hw : Nat → Nat} {H : PH} (fin : ∀ b, hw b ≠ 0 → b < w.heap.size) (o : Obj) (k : Nat) : ExtF H w hw (World.push w o) (updF hw w.heap.size k) H :=
  ⟨rfl, rfl, rfl, by rw [push_size]; omega, fun b hb _ => ⟨push_lt hb, by simp [updF]; omega⟩, mle_push fin o k, fun _ h => .inl h⟩

theorem WRep.push {w : World} {hw : Nat → Nat} {H : PH} (h : WRep w hw H) (o : Obj) (k : Nat) : WRep (World.push w o) (updF hw w.heap.size k) H := by
  refine ⟨fun b hb => ?_, fun b p hb => ?_⟩
  · rw [push_size]
    by_cases e : b = w.heap.size
    · omega
    · have := h.fin b (by simpa [updF, e] using hb); omega
  · have ho := h.obj b p hb
    have hl := ho.lt
    exact ho.keep (push_lt hl) (by simp [updF]; omega) (mle_push h.fin o k)

theorem updF_zero {hw : Nat → Nat} {b : Nat} (h : hw b = 0) : updF hw b 0 = hw := by
  funext x; simp only [updF]; split
  · rename_i e; rw [e, h]
  · rfl
theorem WRep.hw_size {w : World} {hw : Nat → Nat} {H : PH} (h : WRep w hw H) : hw w.heap.size = 0 := by
  by_cases e : hw w.heap.size = 0
  · exact e
  · have := h.fin _ e; omega
theorem WRep.get_size {w : World} {hw : Nat → Nat} {H : PH} (h : WRep w hw H) {b : Nat} (hb : w.heap.size ≤ b) : H.get b = none := by
  cases e : H.get b with
  | none => rfl
  | some o => have := (h.obj _ _ e).lt; omega

/-- A new box. -/
theorem WRep.box {w : World} {hw : Nat → Nat} {H : PH} (h : WRep w hw H) {cs : List PV} {c : Array Value} {el : TypeId} (hc : RepL (memOf w hw) cs c.toList) :
    WRep (World.push w (.cells c el (0, 0))) hw (H.set w.heap.size (.cells cs)) ∧ ExtF H w hw (World.push w (.cells c el (0, 0))) hw (H.set w.heap.size (.cells cs)) := by
  have hz := updF_zero h.hw_size
  have h1 := h.push (.cells c el (0, 0)) 0
  have h2 := ext_push (H := H) h.fin (.cells c el (0, 0)) 0
  rw [hz] at h1 h2
  refine ⟨⟨h1.fin, fun b o hb => ?_⟩, ⟨h2.os, h2.tape, h2.output, h2.size, h2.frame, h2.mono, fun b hb => ?_⟩⟩
  · rw [PH.get_set] at hb
    split at hb
    · rename_i e
      cases hb
      subst e
      exact ⟨h.hw_size, c, el, push_new _ _, RepL.mono h2.mono _ hc⟩
    · exact h1.obj b o hb
  · rw [PH.get_set] at hb
    split at hb
    · rename_i e; exact .inr (by omega)
    · exact .inl hb

/-- A new row, all of it read only from now on. -/
theorem WRep.rowNew {w : World} {hw : Nat → Nat} {H : PH} (h : WRep w hw H) (c : Array Value) (el : TypeId) (k : Nat) (hk : k ≤ c.size) :
    WRep (World.push w (.cells c el (0, 0))) (updF hw w.heap.size k) H ∧ ExtF H w hw (World.push w (.cells c el (0, 0))) (updF hw w.heap.size k) H ∧
    (∀ i v, i < k → c[i]? = some v → memOf (World.push w (.cells c el (0, 0))) (updF hw w.heap.size k) w.heap.size i = some v) ∧
    ObjRep (World.push w (.cells c el (0, 0))) (updF hw w.heap.size k) w.heap.size (.row k c.size) := by
  refine ⟨h.push _ _, ext_push h.fin _ _, fun i v hi hv => ?_, by simp [updF], hk, c, el, push_new _ _, rfl⟩
  simp only [memOf, updF, if_true, hi]
  rw [cell_of_block (push_new w (.cells c el (0, 0)))]
  exact hv

end Go.Pv

set_option linter.unusedSimpArgs false
set_option linter.unusedVariables false
namespace Go.Pv

/-! ### runs -/
section
variable {P : Program}

theorem run_bind {α β : Type} (s : Sem α) (f : α → Sem β) (w : World) :
    (s >>= f).run P w = match s.run P w with | .ok a w' => (f a).run P w' | .halt h w' => .halt h w' := by
  show (Sem.bind s f).run P w = _
  induction s generalizing w with
  | pure a => simp [Sem.bind, Sem.run]
  | load m a k ih =>
    simp only [Sem.bind, Sem.run]
    split
    · exact ih _ _
    · split
      · exact ih _ _
      · rfl
  | store m a v k ih =>
    cases v <;> simp only [Sem.bind, Sem.run] <;> (try rfl) <;>
    (split
     · split
       · rfl
       · exact ih _
     · split
       · exact ih _
       · rfl)
  | new o k ih => simp only [Sem.bind, Sem.run]; exact ih _ _
  | shape r k ih => simp only [Sem.bind, Sem.run]; exact ih _ _
  | freeze a n k ih => simp only [Sem.bind, Sem.run]; exact ih _
  | frozen a k ih => simp only [Sem.bind, Sem.run]; exact ih _ _
  | getObj r k ih =>
    simp only [Sem.bind, Sem.run]
    split
    · rfl
    · exact ih _ _
    · rfl
  | setObj r o k ih =>
    simp only [Sem.bind, Sem.run]
    split
    · rfl
    · exact ih _
    · rfl
  | choose q k ih => simp only [Sem.bind, Sem.run]; split <;> exact ih _ _
  | sys c k ih => simp only [Sem.bind, Sem.run]; exact ih _ _
  | program k ih => simp only [Sem.bind, Sem.run]; exact ih _ _
  | mark m k ih => simp only [Sem.bind, Sem.run]; exact ih _
  | halt h => simp [Sem.bind, Sem.run]

theorem run_bind_ok {α β : Type} {s : Sem α} {f : α → Sem β} {w w' : World} {a : α} (h : s.run P w = .ok a w') : (s >>= f).run P w = (f a).run P w' := by
  rw [run_bind, h]

theorem run_pure' {α : Type} (a : α) (w : World) : (pure a : Sem α).run P w = .ok a w := rfl
theorem run_program (w : World) : (program).run P w = .ok P w := rfl

/-- A run that asks the program alone. -/
def pureP (P : Program) {α : Type} : Sem α → Option α
  | .pure a => some a
  | .program k => pureP P (k P)
  | .mark _ k => pureP P k
  | _ => none
theorem pureP_run {α : Type} : ∀ {s : Sem α} {a : α}, pureP P s = some a → ∀ w, s.run P w = .ok a w
  | .pure _, _, h, w => by simp only [pureP, Option.some.injEq] at h; subst h; rfl
  | .program k, a, h, w => by simp only [pureP] at h; simp only [Sem.run]; exact pureP_run h w
  | .mark _ k, a, h, w => by simp only [pureP] at h; simp only [Sem.run]; exact pureP_run h w
  | .load .., _, h, _ | .store .., _, h, _ | .new .., _, h, _ | .shape .., _, h, _ | .freeze .., _, h, _ | .frozen .., _, h, _ | .getObj .., _, h, _
  | .setObj .., _, h, _ | .choose .., _, h, _ | .sys .., _, h, _ | .halt .., _, h, _ => by simp [pureP] at h
theorem pureP_bind {α β : Type} {s : Sem α} {f : α → Sem β} {a : α} (h : pureP P s = some a) : pureP P (s >>= f) = pureP P (f a) := by
  show pureP P (Sem.bind s f) = _
  induction s with
  | pure b => simp only [pureP, Option.some.injEq] at h; subst h; rfl
  | program k ih => simp only [pureP] at h; simp only [Sem.bind, pureP]; exact ih _ h
  | mark m k ih => simp only [pureP] at h; simp only [Sem.bind, pureP]; exact ih h
  | _ => simp [pureP] at h

def tAgg (P : Program) (t : TypeId) : Option Bool := (P.underlying t).map fun | .struct _ | .array _ _ => true | _ => false
def tSize (P : Program) (t : TypeId) : Option Nat := (P.info? t).map (·.size)
def tBytes (P : Program) (t : TypeId) : Option Nat := (P.info? t).map (·.bytes)
def tZero (P : Program) (t : TypeId) : Option Value := (P.info? t).bind (·.zero)

theorem run_under {t : TypeId} {d : TypeDesc} (h : P.underlying t = some d) (w : World) : (underlying t).run P w = .ok d w := by
  show ((program >>= fun p => match p.underlying t with | some d => pure d | none => stuck "no such type") : Sem TypeDesc).run P w = _
  rw [run_bind_ok (run_program w), h]; rfl
theorem run_agg {t : TypeId} {b : Bool} (h : tAgg P t = some b) (w : World) : (isAgg t).run P w = .ok b w := by
  unfold tAgg at h
  cases hd : P.underlying t with
  | none => simp [hd] at h
  | some d =>
    simp only [hd, Option.map_some, Option.some.injEq] at h
    subst h
    show ((underlying t >>= fun d => match d with | .struct _ | .array _ _ => pure true | _ => pure false) : Sem Bool).run P w = _
    rw [run_bind_ok (run_under hd w)]
    cases d <;> rfl
theorem run_info {t : TypeId} {i : TypeInfo} (h : P.info? t = some i) (w : World) : (typeInfo t).run P w = .ok i w := by
  show ((program >>= fun p => match p.info? t with | some d => pure d | none => stuck "no such type") : Sem TypeInfo).run P w = _
  rw [run_bind_ok (run_program w), h]; rfl
theorem run_sizeOf {t : TypeId} {n : Nat} (h : tSize P t = some n) (w : World) : (sizeOf t).run P w = .ok n w := by
  simp only [tSize, Option.map_eq_some_iff] at h
  obtain ⟨i, hi, rfl⟩ := h
  show ((typeInfo t >>= fun i => pure i.size) : Sem Nat).run P w = _
  rw [run_bind_ok (run_info hi w)]; rfl
theorem run_zero {t : TypeId} {v : Value} (h : tZero P t = some v) (w : World) : (zeroValue t).run P w = .ok v w := by
  simp only [tZero, Option.bind_eq_some_iff] at h
  obtain ⟨i, hi, hv⟩ := h
  show ((typeInfo t >>= fun i => match i.zero with | some v => pure v | none => unsupported (.resourceLimit "a value of more than 2^22 cells")) : Sem Value).run P w = _
  rw [run_bind_ok (run_info hi w), hv]; rfl

theorem addr_add (b o n : Nat) : (⟨b, o, none⟩ : Addr).add n = ⟨b, o + n, none⟩ := by
  unfold Addr.add; split
  · rename_i h; subst h; rfl
  · rfl

theorem run_load {w : World} {a : Addr} {v : Value} (h : w.cell? a = some v) : (load a).run P w = .ok v w := by
  simp [load, Sem.run, h]

theorem run_loadFrom {w : World} {b o : Nat} : ∀ (vs : List Value) (i : Nat) (acc : Array Value), (∀ j v, vs[j]? = some v → w.cell? ⟨b, o + (i + j), none⟩ = some v) →
    (loadCellsFrom ⟨b, o, none⟩ i vs.length acc).run P w = .ok (acc ++ vs.toArray) w
  | [], i, acc, _ => by simp [loadCellsFrom, run_pure']
  | v :: vs, i, acc, h => by
    simp only [List.length_cons, loadCellsFrom]
    have h0 := h 0 v (by simp)
    rw [run_bind_ok (run_load (by rw [addr_add]; simpa using h0))]
    rw [run_loadFrom vs (i + 1) (acc.push v) fun j u hj => by
      have := h (j + 1) u (by simpa using hj)
      rwa [show i + (j + 1) = i + 1 + j by omega] at this]
    simp
theorem run_loadCells {w : World} {b o n : Nat} (vs : List Value) (hn : vs.length = n) (h : ∀ j v, vs[j]? = some v → w.cell? ⟨b, o + j, none⟩ = some v) :
    (loadCells ⟨b, o, none⟩ n).run P w = .ok vs.toArray w := by
  subst hn
  have := run_loadFrom (P := P) (w := w) (b := b) (o := o) vs 0 #[] (fun j v hj => by simpa using h j v hj)
  simpa [loadCells] using this

/-- What a store of these values, one by one, leaves of a row. -/
def splice {α : Type} : List α → Nat → List α → List α
  | cs, _, [] => cs
  | cs, o, v :: vs => splice (cs.set o v) (o + 1) vs
theorem splice_length {α : Type} : ∀ (vs cs : List α) (o : Nat), (splice cs o vs).length = cs.length
  | [], cs, o => rfl
  | v :: vs, cs, o => by simp [splice, splice_length vs]
theorem splice_other {α : Type} : ∀ (vs cs : List α) (o i : Nat), (i < o ∨ o + vs.length ≤ i) → (splice cs o vs)[i]? = cs[i]?
  | [], cs, o, i, _ => rfl
  | v :: vs, cs, o, i, h => by
    rw [splice, splice_other vs _ _ _ (by simp at h; omega), List.getElem?_set_ne (by simp at h; omega)]
theorem splice_in {α : Type} : ∀ (vs cs : List α) (o i : Nat), o + vs.length ≤ cs.length → i < vs.length → (splice cs o vs)[o + i]? = vs[i]?
  | [], cs, o, i, _, h => by simp at h
  | v :: vs, cs, o, 0, h, _ => by
    rw [splice, splice_other vs _ _ _ (by omega)]
    simp only [List.length_cons] at h
    simp only [Nat.add_zero, List.getElem?_cons_zero]
    rw [List.getElem?_set_self (by omega)]
  | v :: vs, cs, o, i + 1, h, hi => by
    rw [splice, show o + (i + 1) = o + 1 + i by omega, splice_in vs _ _ _ (by simp at h ⊢; omega) (by simpa using hi)]
    simp

def cellOk : Value → Bool
  | .agg _ | .tuple _ => false
  | _ => true

theorem run_store {w : World} {a : Addr} {u v : Value} (hc : w.cell? a = some u) (hf : w.frozen? a = false) (hv : cellOk v = true) : (store a v).run P w = .ok () (w.setCell a v) := by
  cases v <;> simp [cellOk] at hv <;> simp [store, Sem.run, hc, hf]

theorem setCell_block {w : World} {b o : Nat} {c : Array Value} {el : TypeId} (h : w.heap[b]? = some (.cells c el (0, 0))) (v : Value) :
    (w.setCell ⟨b, o, none⟩ v).heap[b]? = some (.cells (c.setIfInBounds o v) el (0, 0)) := by
  simp [World.setCell, Array.getElem?_modify, h]
theorem setCell_other {w : World} {b o x : Nat} (v : Value) (h : x ≠ b) : (w.setCell ⟨b, o, none⟩ v).heap[x]? = w.heap[x]? := by
  simp only [World.setCell, Array.getElem?_modify]
  rw [if_neg (by simpa using h.symm)]

theorem run_storeCells {b : Nat} {el : TypeId} : ∀ (vs : List Value) (w : World) (o i : Nat) (c : Array Value), w.heap[b]? = some (.cells c el (0, 0)) → o + i + vs.length ≤ c.size →
    vs.all cellOk = true →
    ∃ w', (storeCells ⟨b, o, none⟩ vs i).run P w = .ok () w' ∧ w'.os = w.os ∧ w'.tape = w.tape ∧ w'.output = w.output ∧ w'.heap.size = w.heap.size ∧
      w'.heap[b]? = some (.cells (splice c.toList (o + i) vs).toArray el (0, 0)) ∧ ∀ x, x ≠ b → w'.heap[x]? = w.heap[x]?
  | [], w, o, i, c, h, _, _ => ⟨w, by simp [storeCells, run_pure'], rfl, rfl, rfl, rfl, by simpa [splice] using h, fun _ _ => rfl⟩
  | v :: vs, w, o, i, c, h, hl, hv => by
    simp only [List.all_cons, Bool.and_eq_true] at hv
    simp only [List.length_cons] at hl
    obtain ⟨w', h1, h2, h3, h4, h5, h6, h7⟩ := run_storeCells vs (w.setCell ⟨b, o + i, none⟩ v) o (i + 1) (c.setIfInBounds (o + i) v) (setCell_block h v) (by simp; omega) hv.2
    refine ⟨w', ?_, h2, h3, h4, by rw [h5]; simp [World.setCell], ?_, fun x hx => (h7 x hx).trans (setCell_other v hx)⟩
    · simp only [storeCells]
      rw [run_bind_ok (run_store (u := c[o + i]'(by omega)) (by rw [addr_add, cell_of_block h]; simp) (frozen_of_block h _ (by rw [addr_add])) hv.1), addr_add]
      exact h1
    · rw [h6]
      simp [splice, Nat.add_assoc]
end

/-! ### a store into a box -/
theorem mle_same {w w' : World} {hw : Nat → Nat} {b : Nat} (hb : hw b = 0) (h : ∀ x, x ≠ b → w'.heap[x]? = w.heap[x]?) : MLe (memOf w hw) (memOf w' hw) := by
  intro x o v hv
  simp only [memOf] at hv ⊢
  by_cases h0 : o < hw x
  · rw [if_pos h0] at hv ⊢
    have hne : x ≠ b := fun e => by subst e; omega
    rw [cell_same (h x hne)]; exact hv
  · rw [if_neg h0] at hv; cases hv

theorem RepL_splice {m : Mem} : ∀ {ps : List PV} {vs : List Value} {cs : List PV} {us : List Value} (o : Nat), RepL m ps vs → RepL m cs us → RepL m (splice cs o ps) (splice us o vs)
  | [], vs, cs, us, o, h, k => by simp [RepL] at h; subst h; exact k
  | p :: ps, vs, cs, us, o, h, k => by
    obtain ⟨v, rest, rfl, h1, h2⟩ := by simpa [RepL] using h
    simp only [splice]
    exact RepL_splice (o + 1) h2 (RepL_set h1 o k)

theorem WRep.stored {w w' : World} {hw : Nat → Nat} {H : PH} (h : WRep w hw H) {b : Nat} {cs : List PV} (hb : H.get b = some (.cells cs)) {cs' : List PV} {c' : Array Value} {el : TypeId}
    (h1 : w'.os = w.os) (h2 : w'.tape = w.tape) (h3 : w'.output = w.output) (h4 : w'.heap.size = w.heap.size)
    (h5 : w'.heap[b]? = some (.cells c' el (0, 0))) (h6 : ∀ x, x ≠ b → w'.heap[x]? = w.heap[x]?) (hc : RepL (memOf w hw) cs' c'.toList) :
    WRep w' hw (H.set b (.cells cs')) ∧ ExtF H w hw w' hw (H.set b (.cells cs')) := by
  have ho := h.obj b _ hb
  have hm := mle_same (w := w) (w' := w') ho.1 h6
  refine ⟨⟨fun x hx => by rw [h4]; exact h.fin x hx, fun x o hx => ?_⟩, ⟨h1, h2, h3, by omega, fun x hx hn => ⟨h6 x (fun e => by subst e; rw [hb] at hn; cases hn), rfl⟩, hm, fun x hx => ?_⟩⟩
  · rw [PH.get_set] at hx
    split at hx
    · rename_i e
      cases hx
      subst e
      exact ⟨ho.1, c', el, h5, RepL.mono hm _ hc⟩
    · rename_i e
      exact (h.obj x o hx).keep (h6 x e) rfl hm
  · rw [PH.get_set] at hx
    split at hx
    · rename_i e; subst e; exact .inl (by simp [hb])
    · exact .inl hx

/-! ### an append in place -/
theorem WRep.grown {w w' : World} {hw : Nat → Nat} {H : PH} (h : WRep w hw H) {b e tot k : Nat} (hb : H.get b = some (.row e tot)) {c' : Array Value} {el : TypeId}
    (h1 : w'.os = w.os) (h2 : w'.tape = w.tape) (h3 : w'.output = w.output) (h4 : w'.heap.size = w.heap.size)
    (h5 : w'.heap[b]? = some (.cells c' el (0, 0))) (h6 : ∀ x, x ≠ b → w'.heap[x]? = w.heap[x]?) (hs : c'.size = tot) (hk : e + k ≤ tot)
    (hsame : ∀ o, o < e → c'[o]? = (w.cell? ⟨b, o, none⟩)) :
    WRep w' (updF hw b (e + k)) (H.set b (.row (e + k) tot)) ∧ ExtF H w hw w' (updF hw b (e + k)) (H.set b (.row (e + k) tot)) ∧
    (∀ i v, i < k → c'[e + i]? = some v → memOf w' (updF hw b (e + k)) b (e + i) = some v) := by
  have ho := h.obj b _ hb
  have hm : MLe (memOf w hw) (memOf w' (updF hw b (e + k))) := by
    intro x o v hv
    simp only [memOf] at hv ⊢
    by_cases h0 : o < hw x
    · rw [if_pos h0] at hv
      by_cases hx : x = b
      · subst hx
        rw [ho.1] at h0
        rw [if_pos (by simp [updF]; omega), cell_of_block h5, hsame o h0]; exact hv
      · rw [if_pos (by simpa [updF, hx] using h0), cell_same (h6 x hx)]; exact hv
    · rw [if_neg h0] at hv; cases hv
  refine ⟨⟨fun x hx => ?_, fun x o hx => ?_⟩, ⟨h1, h2, h3, by omega, fun x hx hn => ?_, hm, fun x hx => ?_⟩, fun i v hi hv => ?_⟩
  · rw [h4]
    by_cases e2 : x = b
    · subst e2; exact ho.lt
    · exact h.fin x (by simpa [updF, e2] using hx)
  · rw [PH.get_set] at hx
    split at hx
    · rename_i e2
      cases hx
      subst e2
      exact ⟨by simp [updF], hk, c', el, h5, hs⟩
    · rename_i e2
      exact (h.obj x o hx).keep (h6 x e2) (by simp [updF, e2]) hm
  · have hne : x ≠ b := fun e2 => by subst e2; rw [hb] at hn; cases hn
    exact ⟨h6 x hne, by simp [updF, hne]⟩
  · rw [PH.get_set] at hx
    split at hx
    · rename_i e2; subst e2; exact .inl (by simp [hb])
    · exact .inl hx
  · simp only [memOf]
    rw [if_pos (by simp [updF]; omega), cell_of_block h5]; exact hv

end Go.Pv

set_option linter.unusedSimpArgs false
set_option linter.unusedVariables false
namespace Go.Pv

/-- A slot's content: a place in one of the call's own variables, or a value. -/
inductive EV where
  | l (i off : Nat)
  | v (p : PV)
inductive RO where
  | t (i : Nat)
  | c (p : PV)

/-- Operations that turn what is no plain value: maps, and slices that are written in place. -/
inductive XOp where
  | appM (sz bytes : Nat)
  | cpy (sz : Nat)
  | mknew (kk : Option IntKind)
  | mset (kk : Option IntKind)

inductive ROp where
  | mov (x : RO)
  | pick (c a b : RO)
  | box (x : RO)
  | boxH (x : RO)
  | alloc (z : List PV)
  | allocH (z : List PV)
  | build (z : List PV) (parts : List (Nat × Nat × RO))
  | mkslice (sz : Nat) (xs : List RO)
  | load1 (x : RO)
  | loadA (n : Nat) (x : RO)
  | store (n : Nat) (a x : RO)
  | nilchk (x : RO)
  | bin (op : BinOp) (t : TypeId) (x y : RO)
  | isnil (neg : Bool) (x : RO)
  | snil (neg : Bool) (x : RO)
  | un (op : UnOp) (x : RO)
  | conv (s d : TypeId) (x : RO)
  | slcS (t : TypeId) (x : RO) (lo hi : Option RO)
  | slc (sz : Nat) (x : RO) (lo hi mx : Option RO)
  | slcA (n sz : Nat) (x : RO) (lo hi mx : Option RO)
  | faddr (off : Nat) (x : RO)
  | fld (agg : Bool) (off sz : Nat) (x : RO)
  | iaddr (sz : Nat) (x i : RO)
  | iaddrA (n sz : Nat) (x i : RO)
  | idxS (t : TypeId) (x i : RO)
  | idxA (agg : Bool) (n sz : Nat) (x i : RO)
  | ext (x : RO) (i : Nat)
  | mkfn (f : Fn) (first cap : List RO)
  | callF (f : FuncId) (args : List RO)
  | callX (f : FuncId) (args : List RO)
  | callV (x : RO) (args : List RO)
  | callP (f : FuncId) (args : List RO)
  | callVP (x : RO) (args : List RO)
  | lenL (x : RO)
  | app (sz bytes : Nat) (keep : Bool) (x y : RO)
  | bi (b : Builtin) (argTypes : Array TypeId) (t : TypeId) (args : List RO)
  | mkif (t : TypeId) (x : RO)
  | dfr (x : RO) (args : List RO)
  | xop (o : XOp) (args : List RO)
  | iaddrM (sz : Nat) (x i : RO)
  | slcM (sz : Nat) (x : RO) (lo hi : Option RO)
  | lenM (x : RO)
  | mgetR (kk : Option IntKind) (z : PV) (ok : Bool) (m k : RO)
  | mlenR (x : RO)

structure RI where
  dst : Option Nat
  guard : Option (Nat × Bool)
  op : ROp

/-- What may be asked of two addresses at a region's start. -/
inductive Cond where
  | ne (a b : Nat)
  | loc (a : Nat)
  deriving DecidableEq
/-- A region that draws its order, where some orders differ: what may come first, step by step. -/
inductive RTree where
  | done
  | one (r : RI) (t : RTree)
  | alt (a b : RTree)
inductive RCode where
  | skip
  | region (draw : Bool) (ops : List RI)
  | dreg (ops : List RI) (ys : List (Option Nat × RO))
  | sreg (cs : List Cond) (ops : List RI)
  | seq (a b : RCode)
  | cond (c : RO) (a b : RCode)
  | block (id : Nat) (a : RCode)
  | loop (a : RCode)
  | exit (id : Nat)
  | scope (a : RCode)
  | label (l : Nat)
  | goto (l : Nat)
  | ret
  | jscope (l : Nat) (a rest : RCode)
  | treg (t : RTree)

def undefE : EV := .v (.scal undef)

/-! ### plain values -/
def PV.val? : PV → Option Value
  | .scal v => some v
  | .ptr b o => some (.pointer (some ⟨b, o, none⟩))
  | _ => none
def vals? : List PV → Option (List Value)
  | [] => some []
  | p :: ps => match p.val?, vals? ps with
    | some v, some vs => some (v :: vs)
    | _, _ => none
def PV.valA? : PV → Option Value
  | .agg cs => (vals? cs).map fun vs => .agg vs.toArray
  | p => p.val?
def valsA? : List PV → Option (List Value)
  | [] => some []
  | p :: ps => match p.valA?, valsA? ps with
    | some v, some vs => some (v :: vs)
    | _, _ => none
def EV.pv? : EV → Option PV
  | .v p => some p
  | .l _ _ => none
def pvs? : List EV → Option (List PV)
  | [] => some []
  | .v p :: es => (pvs? es).map (p :: ·)
  | .l _ _ :: _ => none

def bin2 (P : Program) (op : BinOp) (t : TypeId) (x y : Value) : Option Value :=
  match x, y with
  | .nilIface, .nilIface => none
  | x, y => pureP P (do eqGuard op t (.const x) (.const y) x y; binOp op t x y)

def notAgg : PV → Bool
  | .agg _ => false
  | _ => true
def cellP : PV → Bool
  | .agg _ | .tup _ => false
  | .scal v => cellOk v
  | _ => true

/-! ### memory -/
def cellsAt (e : EV) (L : List (List PV)) (H : PH) : Option (List PV) :=
  match e with
  | .l i off => (L[i]?).map (·.drop off)
  | .v (.ptr b off) => match H.get b with
    | some (.cells cs) => some (cs.drop off)
    | _ => none
  | .v (.cptr cs) => some cs
  | _ => none

def asInt? : EV → Option Int
  | .v (.scal (.int .i64 n)) => some n
  | _ => none
def asList? : EV → Option (Tok × List PV)
  | .v (.list tok xs) => some (tok, xs)
  | _ => none
def optI (ρ : RO → EV) : Option RO → Option (Option Int)
  | none => some none
  | some x => (asInt? (ρ x)).map some

def buildP : List PV → List (Nat × Nat × PV) → Option (List PV)
  | cs, [] => some cs
  | cs, (off, sz, p) :: rest => if p.cells.length = sz ∧ off + sz ≤ cs.length then buildP (splice cs off p.cells) rest else none
def evParts (ρ : RO → EV) : List (Nat × Nat × RO) → Option (List (Nat × Nat × PV))
  | [] => some []
  | (o, s, x) :: rest => match ρ x, evParts ρ rest with
    | .v p, some ps => some ((o, s, p) :: ps)
    | _, _ => none

def flat : List PV → List PV
  | [] => []
  | p :: ps => p.cells ++ flat ps
/-- A slice that is written in place: a value, its cells lie in a box. -/
def mslc (b o len cap : Nat) : PV := .scal (.slice (some ⟨b, o, none⟩) len cap)

def isFull : Tok → Bool
  | .full => true
  | _ => false

/-- A slice of a list: 'xs[l:h]' or 'xs[l:h:h]', both ends inside its length. -/
def sliceL (tok : Tok) (xs : List PV) (lo hi mx : Option Int) : Option PV :=
  if 0 ≤ lo.getD 0 ∧ lo.getD 0 ≤ hi.getD xs.length ∧ hi.getD xs.length ≤ xs.length then
    match mx with
    | none => some (.list (if hi.getD xs.length = xs.length ∧ isFull tok = true then .full else .foreign) ((xs.drop (lo.getD 0).toNat).take (hi.getD xs.length - lo.getD 0).toNat))
    | some m => if m = hi.getD xs.length ∧ hi.isSome = true then some (.list .full ((xs.drop (lo.getD 0).toNat).take (hi.getD xs.length - lo.getD 0).toNat)) else none
  else none

def iadM (sz : Nat) : EV → Option Int → Option EV
  | .v (.scal (.slice (some ⟨b, o, none⟩) len _)), some n => if 0 ≤ n ∧ n < len then some (.v (.ptr b (o + n.toNat * sz))) else none
  | _, _ => none
def slmE (sz : Nat) : EV → Option (Option Int) → Option (Option Int) → Option EV
  | .v (.scal (.slice (some ⟨b, o, none⟩) len cap)), some l, some h =>
    if 0 ≤ l.getD 0 ∧ l.getD 0 ≤ h.getD len ∧ h.getD len ≤ cap then some (.v (mslc b (if cap = (l.getD 0).toNat then o else o + (l.getD 0).toNat * sz) (h.getD len - l.getD 0).toNat (cap - (l.getD 0).toNat))) else none
  | _, _, _ => none
def lenMM : EV → Option EV
  | .v (.scal (.slice (some _) len _)) => some (.v (.scal (.int .i64 len)))
  | .v (.list _ xs) => some (.v (.scal (.int .i64 xs.length)))
  | _ => none
def mgetO (kk : Option IntKind) (z : PV) (ok : Bool) (key : Value) : Option PObj → Option EV
  | some (.map kk' es) => if kk = kk' ∧ keyV kk key = true then some (.v (if ok = true then .tup [(mfind key es).getD z, .scal (.bool (mfind key es).isSome)] else (mfind key es).getD z)) else none
  | _ => none
def mgetV (kk : Option IntKind) (z : PV) (ok : Bool) (m k : EV) (H : PH) : Option EV :=
  match m, k with
  | .v (.mapr b), .v (.scal key) => mgetO kk z ok key (H.get b)
  | _, _ => none
def mlenO : Option PObj → Option EV
  | some (.map _ es) => some (.v (.scal (.int .i64 es.length)))
  | _ => none
def mlenV (m : EV) (H : PH) : Option EV :=
  match m with
  | .v (.mapr b) => mlenO (H.get b)
  | _ => none
/-- The value of an operation that turns nothing. -/
def opVal (P : Program) (op : ROp) (ρ : RO → EV) (L : List (List PV)) (H : PH) : Option EV :=
  match op with
  | .mov x => some (ρ x)
  | .build z parts => (evParts ρ parts).bind fun ps => (buildP z ps).map fun cs => .v (.agg cs)
  | .mkslice sz xs => (pvs? (xs.map ρ)).bind fun ps => if (∀ p ∈ ps, p.cells.length = sz) ∧ ps.length ≤ lenB then some (.v (.list .full ps)) else none
  | .load1 x => (cellsAt (ρ x) L H).bind fun cs => (cs[0]?).map .v
  | .loadA n x => (cellsAt (ρ x) L H).bind fun cs => if n ≤ cs.length then some (.v (.agg (cs.take n))) else none
  | .nilchk x => match ρ x with
    | .l i o => some (.l i o)
    | .v (.ptr b o) => some (.v (.ptr b o))
    | .v (.cptr cs) => some (.v (.cptr cs))
    | _ => none
  | .bin op t x y => match (ρ x).pv?, (ρ y).pv? with
    | some p, some q => match p.valA?, q.valA? with
      | some a, some b => (bin2 P op t a b).bind fun r => if atomB r then some (.v (.scal r)) else none
      | _, _ => none
    | _, _ => none
  | .isnil neg x => match ρ x with
    | .l _ _ | .v (.ptr _ _) | .v (.cptr _) => some (.v (.scal (.bool neg)))
    | .v (.scal (.pointer none)) => some (.v (.scal (.bool !neg)))
    | _ => none
  | .un op x => match ρ x with
    | .v (.scal a) => (pureP P (Op.unary op a)).bind fun r => if atomB r then some (.v (.scal r)) else none
    | _ => none
  | .conv s d x => match ρ x with
    | .v (.scal a) => (pureP P (convert s d a)).bind fun r => if atomB r then some (.v (.scal r)) else none
    | _ => none
  | .slcS t x lo hi => match ρ x, optI ρ lo, optI ρ hi with
    | .v (.scal (.string s)), some l, some h => (pureP P (Instr.sliceAt t (.string s) (l.map (.int .i64 ·)) (h.map (.int .i64 ·)) none)).bind fun r => if atomB r then some (.v (.scal r)) else none
    | _, _, _ => none
  | .slc sz x lo hi mx => match asList? (ρ x), optI ρ lo, optI ρ hi, optI ρ mx with
    | some (tok, xs), some l, some h, some m => if ∀ p ∈ xs, p.cells.length = sz then (sliceL tok xs l h m).map .v else none
    | _, _, _, _ => none
  | .faddr off x => match ρ x with
    | .l i o => some (.l i (o + off))
    | .v (.ptr b o) => some (.v (.ptr b (o + off)))
    | .v (.cptr cs) => some (.v (.cptr (cs.drop off)))
    | _ => none
  | .fld agg off sz x => match ρ x with
    | .v (.agg cs) => if agg then (if off + sz ≤ cs.length then some (.v (.agg ((cs.drop off).take sz))) else none) else (cs[off]?).map .v
    | _ => none
  | .iaddr sz x i => match asList? (ρ x), asInt? (ρ i) with
    | some (_, xs), some n => if 0 ≤ n then (xs[n.toNat]?).bind fun p => if p.cells.length = sz then some (.v (.cptr p.cells)) else none else none
    | _, _ => none
  | .iaddrA len sz x i => match ρ x, asInt? (ρ i) with
    | .l k o, some n => if 0 ≤ n ∧ n < len then some (.l k (o + n.toNat * sz)) else none
    | .v (.ptr b o), some n => if 0 ≤ n ∧ n < len then some (.v (.ptr b (o + n.toNat * sz))) else none
    | _, _ => none
  | .idxS t x i => match ρ x, asInt? (ρ i) with
    | .v (.scal (.string s)), some n => (pureP P (Instr.index t (.string s) (.int .i64 n))).bind fun r => if atomB r then some (.v (.scal r)) else none
    | _, _ => none
  | .idxA agg len sz x i => match ρ x, asInt? (ρ i) with
    | .v (.agg cs), some n => if 0 ≤ n ∧ n < len then
        (if agg then (if n.toNat * sz + sz ≤ cs.length then some (.v (.agg ((cs.drop (n.toNat * sz)).take sz))) else none) else (cs[n.toNat * sz]?).map .v) else none
    | _, _ => none
  | .ext x i => match ρ x with
    | .v (.tup cs) => (cs[i]?).map .v
    | _ => none
  | .mkfn f a c => match pvs? (a.map ρ), pvs? (c.map ρ) with
    | some a, some c => some (.v (.fn f a c))
    | _, _ => none
  | .callX f args => (pvs? (args.map ρ)).bind fun ps => (valsA? ps).bind fun vs =>
      match pureP P (callFunc f vs.toArray) with
      | some (.value r) => if atomB r then some (.v (.scal r)) else none
      | _ => none
  | .lenL x => match ρ x with
    | .v (.list _ xs) => some (.v (.scal (.int .i64 xs.length)))
    | _ => none
  | .app sz bytes false x y => match asList? (ρ x), asList? (ρ y) with
    | some (tok, xs), some (_, ys) =>
      if (∀ p ∈ xs, p.cells.length = sz) ∧ (∀ p ∈ ys, p.cells.length = sz) ∧ ((xs.length + ys.length) + (xs.length + ys.length) / 4 + 256) * bytes ≤ 2 ^ 48 ∧ xs.length + ys.length ≤ lenB then
        match tok with
        | .full => some (.v (.list (if ys.isEmpty = true then .full else .foreign) (xs ++ ys)))
        | _ => none
      else none
    | _, _ => none
  | .bi b ts t args => (pvs? (args.map ρ)).bind fun ps => (valsA? ps).bind fun vs =>
      match pureP P (builtin b ts t #[] vs.toArray) with
      | some (.value r) => if atomB r then some (.v (.scal r)) else none
      | _ => none
  | .mkif t x => match ρ x with
    | .v p => some (.v (.iface t p))
    | _ => none
  | .iaddrM sz x i => iadM sz (ρ x) (asInt? (ρ i))
  | .slcM sz x lo hi => slmE sz (ρ x) (optI ρ lo) (optI ρ hi)
  | .lenM x => lenMM (ρ x)
  | .mgetR kk z ok m k => mgetV kk z ok (ρ m) (ρ k) H
  | .mlenR x => mlenV (ρ x) H
  | _ => none

def storeAt? (n : Nat) (a x : EV) (L : List (List PV)) (H : PH) : Option (List (List PV) × PH) :=
  match x with
  | .l _ _ => none
  | .v p => if p.cells.length = n ∧ p.cells.all cellP then
      match a with
      | .l i off => match L[i]? with
        | some cs => if off + n ≤ cs.length then some (L.set i (splice cs off p.cells), H) else none
        | none => none
      | .v (.ptr b off) => match H.get b with
        | some (.cells cs) => if off + n ≤ cs.length then some (L, H.set b (.cells (splice cs off p.cells))) else none
        | _ => none
      | _ => none
    else none
end Go.Pv

set_option linter.unusedSimpArgs false
set_option linter.unusedVariables false
namespace Go.Pv

mutual
def PV.fg : PV → PV
  | .scal v => .scal v
  | .agg cs => .agg (fgL cs)
  | .tup cs => .tup (fgL cs)
  | .list _ xs => .list .foreign (fgL xs)
  | .cptr cs => .cptr (fgL cs)
  | .ptr b o => .ptr b o
  | .fn f a c => .fn f (fgL a) (fgL c)
  | .mapr b => .mapr b
  | .iface t p => .iface t p.fg
def fgL : List PV → List PV
  | [] => []
  | p :: ps => p.fg :: fgL ps
end

theorem fgL_length : ∀ ps : List PV, (fgL ps).length = ps.length
  | [] => rfl
  | p :: ps => by simp [fgL, fgL_length ps]

mutual
theorem Rep.fg {m : Mem} : ∀ (p : PV) {v : Value}, Rep m p v → Rep m p.fg v
  | .scal u, v, r => by simpa [PV.fg] using r
  | .agg cs, v, r => by
    simp only [Rep, PV.fg] at r ⊢
    obtain ⟨vs, e, r⟩ := r
    exact ⟨vs, e, RepL.fg cs r⟩
  | .tup cs, v, r => by
    simp only [Rep, PV.fg] at r ⊢
    obtain ⟨vs, e, r⟩ := r
    exact ⟨vs, e, RepL.fg cs r⟩
  | .list tok xs, v, r => by
    simp only [Rep, PV.fg] at r ⊢
    obtain ⟨a, len, cap, sz, e, h1, h2, h3, h4, h5⟩ := r
    refine ⟨a, len, cap, sz, e, by rw [fgL_length]; exact h1, h2, h3, trivial, fun hn => ?_⟩
    obtain ⟨b, o, e2, h6⟩ := h5 hn
    exact ⟨b, o, e2, RepE.fg xs h6⟩
  | .cptr cs, v, r => by
    simp only [Rep, PV.fg] at r ⊢
    obtain ⟨b, o, e, r⟩ := r
    exact ⟨b, o, e, RepR.fg cs r⟩
  | .ptr b o, v, r => by simpa [PV.fg] using r
  | .fn f a c, v, r => by
    simp only [Rep, PV.fg] at r ⊢
    obtain ⟨va, vc, e, r1, r2⟩ := r
    exact ⟨va, vc, e, RepL.fg a r1, RepL.fg c r2⟩
  | .mapr b, v, r => by simpa [PV.fg] using r
  | .iface t p, v, r => by
    simp only [Rep, PV.fg] at r ⊢
    obtain ⟨u, e, r⟩ := r
    exact ⟨u, e, Rep.fg p r⟩
theorem RepL.fg {m : Mem} : ∀ (ps : List PV) {vs : List Value}, RepL m ps vs → RepL m (fgL ps) vs
  | [], vs, r => by simpa [RepL, Go.Pv.fgL] using r
  | p :: ps, vs, r => by
    simp only [RepL, Go.Pv.fgL] at r ⊢
    obtain ⟨v, rest, e, r1, r2⟩ := r
    exact ⟨v, rest, e, Rep.fg p r1, RepL.fg ps r2⟩
theorem RepR.fg {m : Mem} : ∀ (ps : List PV) {b o : Nat}, RepR m ps b o → RepR m (fgL ps) b o
  | [], b, o, r => by simp [RepR, Go.Pv.fgL]
  | p :: ps, b, o, r => by
    simp only [RepR, Go.Pv.fgL] at r ⊢
    obtain ⟨⟨v, e, r1⟩, r2⟩ := r
    exact ⟨⟨v, e, Rep.fg p r1⟩, RepR.fg ps r2⟩
theorem RepE.fg {m : Mem} : ∀ (ps : List PV) {b o sz : Nat}, RepE m ps b o sz → RepE m (fgL ps) b o sz
  | [], b, o, sz, r => by simp [RepE, Go.Pv.fgL]
  | .agg cs :: ps, b, o, sz, r => by
    simp only [RepE, Go.Pv.fgL, PV.fg] at r ⊢
    exact ⟨⟨by rw [fgL_length]; exact r.1.1, RepR.fg cs r.1.2⟩, RepE.fg ps r.2⟩
  | .scal p :: ps, b, o, sz, r => by
    simp only [RepE, Go.Pv.fgL, PV.fg] at r ⊢
    exact ⟨r.1, RepE.fg ps r.2⟩
  | .tup p :: ps, b, o, sz, r => by
    have h := fun v => Rep.fg (m := m) (.tup p) (v := v)
    simp only [RepE, Go.Pv.fgL, PV.fg] at r h ⊢
    obtain ⟨⟨e, v, h1, h2⟩, r2⟩ := r
    exact ⟨⟨e, v, h1, h v h2⟩, RepE.fg ps r2⟩
  | .list t p :: ps, b, o, sz, r => by
    have h := fun v => Rep.fg (m := m) (.list t p) (v := v)
    simp only [RepE, Go.Pv.fgL, PV.fg] at r h ⊢
    obtain ⟨⟨e, v, h1, h2⟩, r2⟩ := r
    exact ⟨⟨e, v, h1, h v h2⟩, RepE.fg ps r2⟩
  | .cptr p :: ps, b, o, sz, r => by
    have h := fun v => Rep.fg (m := m) (.cptr p) (v := v)
    simp only [RepE, Go.Pv.fgL, PV.fg] at r h ⊢
    obtain ⟨⟨e, v, h1, h2⟩, r2⟩ := r
    exact ⟨⟨e, v, h1, h v h2⟩, RepE.fg ps r2⟩
  | .ptr x y :: ps, b, o, sz, r => by
    simp only [RepE, Go.Pv.fgL, PV.fg] at r ⊢
    exact ⟨r.1, RepE.fg ps r.2⟩
  | .fn f x y :: ps, b, o, sz, r => by
    have h := fun v => Rep.fg (m := m) (.fn f x y) (v := v)
    simp only [RepE, Go.Pv.fgL, PV.fg] at r h ⊢
    obtain ⟨⟨e, v, h1, h2⟩, r2⟩ := r
    exact ⟨⟨e, v, h1, h v h2⟩, RepE.fg ps r2⟩
  | .mapr x :: ps, b, o, sz, r => by
    simp only [RepE, Go.Pv.fgL, PV.fg] at r ⊢
    exact ⟨r.1, RepE.fg ps r.2⟩
  | .iface t p :: ps, b, o, sz, r => by
    have h := fun v => Rep.fg (m := m) (.iface t p) (v := v)
    simp only [RepE, Go.Pv.fgL, PV.fg] at r h ⊢
    obtain ⟨⟨e, v, h1, h2⟩, r2⟩ := r
    exact ⟨⟨e, v, h1, h v h2⟩, RepE.fg ps r2⟩
end

/-! ### calls -/
def Enters (P : Program) (f : FuncId) : Prop := ∀ args w, (callFunc f args).run P w = .ok (.enter f args) w

def PCalls (P : Program) (f : FuncId) (args : List PV) (H : PH) (K : PV → PH → Prop) : Prop :=
  Enters P f ∧ ∀ w hw vs, WRep w hw H → RepL (memOf w hw) args vs → Calls P f vs.toArray w fun e w' =>
    ∃ v hw' r H', e = .returned v ∧ ExtF H w hw w' hw' H' ∧ WRep w' hw' H' ∧ Rep (memOf w' hw') r v ∧ K r H'

theorem PCalls.mono {P : Program} {f : FuncId} {args : List PV} {H : PH} {K K' : PV → PH → Prop} (h : PCalls P f args H K) (hk : ∀ r H', K r H' → K' r H') : PCalls P f args H K' :=
  ⟨h.1, fun w hw vs h1 h2 => (h.2 w hw vs h1 h2).mono fun _ _ ⟨v, hw', r, H', e1, e2, e3, e4, e5⟩ => ⟨v, hw', r, H', e1, e2, e3, e4, hk _ _ e5⟩⟩

/-- A call that turns nothing, and hands back just that. -/
def PPure (P : Program) (f : FuncId) (args : List PV) (r : PV) : Prop := PCalls P f args [] fun r' _ => r' = r

theorem PPure.calls {P : Program} {f : FuncId} {args : List PV} {r : PV} (h : PPure P f args r) {H : PH} {K : PV → PH → Prop} (hk : K r H) : PCalls P f args H K := by
  refine ⟨h.1, fun w hw vs h1 h2 => (h.2 w hw vs (h1.le (H := []) fun b o hb => by simp at hb) h2).mono ?_⟩
  rintro _ w' ⟨v, hw', r', H', e1, e2, e3, e4, rfl⟩
  have hf := WRep.frame (F := H) (H := []) (by simpa using h1) (fun b _ => rfl) e2 e3
  refine ⟨v, hw', r', H, e1, ⟨e2.os, e2.tape, e2.output, e2.size, fun b hb _ => e2.frame b hb rfl, e2.mono, fun b hb => .inl hb⟩, hf.1.le fun b o hb => ?_, e4, hk⟩
  rw [PH.get_append, hb]; rfl

/-- Keeps simp out of what is not yet decided. -/
inductive Bx (A B : Prop) : Type where
  | mk
def br (b : Bool) (A B : Prop) (_x : Bx A B := .mk) : Prop := if b = true then A else B
@[simp] theorem br_true (A B : Prop) : br true A B = A := by simp [br]
@[simp] theorem br_false (A B : Prop) : br false A B = B := by simp [br]
theorem br_intro {b : Bool} {A B : Prop} (h : b = true → A) (k : b = false → B) : br b A B := by
  cases b
  · simpa using k rfl
  · simpa using h rfl
theorem br_mono {b : Bool} {A B A' B' : Prop} (h : A → A') (k : B → B') (x : br b A B) : br b A' B' := by
  cases b
  · simpa using k (by simpa using x)
  · simpa using h (by simpa using x)
theorem br_congr {b b' : Bool} {A B : Prop} (h : b = b') : br b A B = br b' A B := by rw [h]
attribute [congr] br_congr

def rowBytesOk (n bytes : Nat) : Prop := (n + n / 4 + 256) * bytes ≤ 2 ^ 48

/-- What an operation on maps, or on slices that are written in place, does. -/
def xact (P : Program) (o : XOp) (args : List EV) (H : PH) (k : EV → PH → Prop) : Prop :=
  match o, args with
  | .mknew kk, [] => ∀ b, H.get b = none → k (.v (.mapr b)) (H.set b (.map kk []))
  | .mset kk, [.v (.mapr b), .v (.scal key), .v p] => match H.get b with
    | some (.map kk' es) => kk = kk' ∧ keyV kk key = true ∧ k undefE (H.set b (.map kk (mput key p es)))
    | _ => False
  | .appM sz by_, [x, y] => match asList? y with
    | some (_, ys) => 0 < sz ∧ ys ≠ [] ∧ (∀ p ∈ ys, p.cells.length = sz) ∧ (∀ p ∈ ys, p.cells.all cellP = true) ∧
      match x with
      | .v (.list .full []) => rowBytesOk ys.length by_ ∧ ys.length ≤ lenB ∧ ∀ b cap pad, H.get b = none → ys.length ≤ cap → pad.length = (cap - ys.length) * sz → 
          k (.v (mslc b 0 ys.length cap)) (H.set b (.cells (flat ys ++ pad)))
      | .v (.scal (.slice (some ⟨b, o, none⟩) len cap)) => match H.get b with
        | some (.cells cs) => rowBytesOk (len + ys.length) by_ ∧ len + ys.length ≤ lenB ∧ len ≤ cap ∧ o + cap * sz ≤ cs.length ∧
          (len + ys.length ≤ cap → k (.v (mslc b o (len + ys.length) cap)) (H.set b (.cells (splice cs (o + len * sz) (flat ys))))) ∧
          (cap < len + ys.length → ∀ b' cap' pad, H.get b' = none → len + ys.length ≤ cap' → pad.length = (cap' - (len + ys.length)) * sz → 
            k (.v (mslc b' 0 (len + ys.length) cap')) (H.set b' (.cells ((cs.drop o).take (len * sz) ++ flat ys ++ pad))))
        | _ => False
      | _ => False
    | none => False
  | .cpy sz, [.v (.scal (.slice (some ⟨b, o, none⟩) n _)), .v (.scal (.slice (some ⟨b2, o2, none⟩) n2 _))] => match H.get b, H.get b2 with
    | some (.cells cs), some (.cells cs2) => o + min n2 n * sz ≤ cs.length ∧ o2 + min n2 n * sz ≤ cs2.length ∧ ((cs2.drop o2).take (min n2 n * sz)).all cellP = true ∧
        k (.v (.scal (.int .i64 (min n2 n : Nat)))) (H.set b (.cells (splice cs o ((cs2.drop o2).take (min n2 n * sz)))))
    | _, _ => False
  | _, _ => False

theorem xact_mono {P : Program} {o : XOp} {args : List EV} {H : PH} {k k' : EV → PH → Prop} (h : xact P o args H k) (hk : ∀ e H, k e H → k' e H) : xact P o args H k' := by
  unfold xact at h ⊢
  split at h
  · exact fun b hb => hk _ _ (h b hb)
  · split at h
    · exact ⟨h.1, h.2.1, hk _ _ h.2.2⟩
    · exact h
  · split at h
    · obtain ⟨h1, h2, h3, h4, h⟩ := h
      refine ⟨h1, h2, h3, h4, ?_⟩
      split at h
      · exact ⟨h.1, h.2.1, fun b cap pad a1 a2 a3 => hk _ _ (h.2.2 b cap pad a1 a2 a3)⟩
      · split at h
        · obtain ⟨h5, h6, h7, h8, h9, h10⟩ := h
          exact ⟨h5, h6, h7, h8, fun a => hk _ _ (h9 a), fun a b cap pad a1 a2 a3 => hk _ _ (h10 a b cap pad a1 a2 a3)⟩
        · exact h
      · exact h
    · exact h
  · split at h
    · exact ⟨h.1, h.2.1, h.2.2.1, hk _ _ h.2.2.2⟩
    · exact h
  · exact h

def XOp.fresh : XOp → Bool
  | .appM _ _ | .mknew _ => true
  | _ => false
/-- What makes a new block comes to something. -/
theorem xact_ex {P : Program} {o : XOp} (ho : o.fresh = true) {args : List EV} {H : PH} {k : EV → PH → Prop} (h : xact P o args H k) : ∃ e H', k e H' := by
  obtain ⟨b0, hb0⟩ := PH.fresh H
  have hb := hb0 b0 (Nat.le_refl _)
  unfold xact at h
  split at h
  · exact ⟨_, _, h b0 hb⟩
  · cases ho
  · split at h
    · rename_i ys _
      obtain ⟨h1, h2, h3, h4, h⟩ := h
      split at h
      · exact ⟨_, _, h.2.2 b0 ys.length [] hb (Nat.le_refl _) (by simp)⟩
      · split at h
        · rename_i b o len cap _ cs _
          obtain ⟨h5, h6, h7, h8, h9, h10⟩ := h
          rcases Nat.lt_or_ge cap (len + ys.length) with hlt | hge
          · exact ⟨_, _, h10 hlt b0 (len + ys.length) [] hb (Nat.le_refl _) (by simp)⟩
          · exact ⟨_, _, h9 hge⟩
        · exact h.elim
      · exact h.elim
    · exact h.elim
  · cases ho
  · exact h.elim

/-- What an operation does. -/
def pact (P : Program) (op : ROp) (ρ : RO → EV) (L : List (List PV)) (H : PH) (k : EV → List (List PV) → PH → Prop) : Prop :=
  match op with
  | .pick c a b => match ρ c with
    | .v (.scal (.bool t)) => br t (k (ρ a) L H) (k (ρ b) L H)
    | _ => False
  | .box x => match ρ x with
    | .v p => k (.l L.length 0) (L ++ [p.cells]) H
    | _ => False
  | .boxH x => match ρ x with
    | .v p => ∀ b, H.get b = none → k (.v (.ptr b 0)) L (H.set b (.cells p.cells))
    | _ => False
  | .alloc z => k (.l L.length 0) (L ++ [z]) H
  | .allocH z => ∀ b, H.get b = none → k (.v (.ptr b 0)) L (H.set b (.cells z))
  | .store n a x => match storeAt? n (ρ a) (ρ x) L H with
    | some (L', H') => k undefE L' H'
    | none => False
  | .callF f args => match pvs? (args.map ρ) with
    | some ps => PCalls P f (fgL ps) H fun r H' => k (.v r) L H'
    | none => False
  | .callV x args => match ρ x, pvs? (args.map ρ) with
    | .v (.fn (.func f) a c), some ps => PCalls P f (fgL (a ++ ps ++ c)) H fun r H' => k (.v r) L H'
    | _, _ => False
  | .callP f args => match pvs? (args.map ρ) with
    | some ps => ∃ r, PPure P f (fgL ps) r ∧ k (.v r) L H
    | none => False
  | .callVP x args => match ρ x, pvs? (args.map ρ) with
    | .v (.fn (.func f) a c), some ps => ∃ r, PPure P f (fgL (a ++ ps ++ c)) r ∧ k (.v r) L H
    | _, _ => False
  | .snil neg x => match asList? (ρ x) with
    | some (_, xs) => ∀ b : Bool, (xs ≠ [] → b = false) → k (.v (.scal (.bool (b != neg)))) L H
    | none => False
  | .slcA n sz x none none none => match ρ x with
    | .v (.ptr b 0) => match H.get b with
      | some (.cells cs) => sz = 1 ∧ cs.length = n ∧ n ≤ lenB ∧ (∀ p ∈ cs, notAgg p = true) ∧ k (.v (.list .full cs)) L (H.set b (.row n n))
      | _ => False
    | _ => False
  | .app sz bytes true x y => match asList? (ρ x), asList? (ρ y) with
    | some (tok, xs), some (_, ys) =>
      (∀ p ∈ xs, p.cells.length = sz) ∧ (∀ p ∈ ys, p.cells.length = sz) ∧ rowBytesOk (xs.length + ys.length) bytes ∧ xs.length + ys.length ≤ lenB ∧ (ys = [] → k (.v (.list tok xs)) L H) ∧ (ys ≠ [] → 0 < sz ∧ (∀ p ∈ ys, p.cells.all cellP = true) ∧
      match tok with
      | .full => ∀ b tot, H.get b = none → k (.v (.list (.own b ((xs.length + ys.length) * sz) tot sz) (xs ++ ys))) L (H.set b (.row ((xs.length + ys.length) * sz) tot))
      | .own b0 e t0 s0 => s0 = sz ∧ H.get b0 = some (.row e t0) ∧
        ∀ b tot, (b = b0 ∨ H.get b = none) → k (.v (.list (.own b ((xs.length + ys.length) * sz) tot sz) (xs ++ ys))) L (H.set b (.row ((xs.length + ys.length) * sz) tot))
      | .foreign => False)
    | _, _ => False
  | .xop o args => xact P o (args.map ρ) H fun e H' => k e L H'
  | op => match opVal P op ρ L H with
    | some e => k e L H
    | none => False

/-! ### from the program's operations -/
def rO (n : Nat) : Operand → Option RO
  | .tmp t => if t < n then some (.t t) else none
  | .const v => (ofValue v).map .c
  | .func f => some (.c (.fn (.func f) [] []))
  | .global _ => none
def rOs (n : Nat) : List Operand → Option (List RO)
  | [] => some []
  | x :: xs => match rO n x, rOs n xs with
    | some y, some ys => some (y :: ys)
    | _, _ => none
def rOpt (n : Nat) : Option Operand → Option (Option RO)
  | none => some none
  | some x => (rO n x).map some
def rParts (P : Program) (n : Nat) (fields : Array Field) : List (Nat × Operand) → Option (List (Nat × Nat × RO))
  | [] => some []
  | (i, x) :: rest => match fields[i]?, rO n x, rParts P n fields rest with
    | some f, some y, some ys => (tSize P f.type).map fun s => (f.offset, s, y) :: ys
    | _, _, _ => none

def rPartsA (n size : Nat) : List (Nat × Operand) → Option (List (Nat × Nat × RO))
  | [] => some []
  | (i, x) :: rest => match rO n x, rPartsA n size rest with
    | some y, some ys => some ((i * size, size, y) :: ys)
    | _, _ => none

def plainB : Builtin → Bool
  | .min | .max | .real | .imag | .complex => true
  | _ => false

def rCall (P : Program) (pf : FuncId → Bool) (n : Nat) (hp kp : Bool) (c : Call) (type : TypeId) : Option ROp :=
  match c.callee with
  | .value (.func f) => match P.funcs[f]? with
    | some fn => (rOs n c.args.toList).map fun xs => if fn.body.isSome then (if pf f then .callP f xs else .callF f xs) else .callX f xs
    | none => none
  | .value x => (rO n x).bind fun y => (rOs n c.args.toList).map fun xs => if hp then .callV y xs else .callVP y xs
  | .builtin .len => match c.args.toList with
    | [x] => (c.argTypes[0]?).bind fun t => (rO n x).bind fun y => match P.underlying t with
      | some (.slice _) => some (.lenL y)
      | some .string => some (.bi .len c.argTypes type [y])
      | _ => none
    | _ => none
  | .builtin .append => match c.args.toList with
    | [x, y] => (c.argTypes[0]?).bind fun t => (c.argTypes[1]?).bind fun u => (rO n x).bind fun a => (rO n y).bind fun b => match P.underlying t, P.underlying u with
      | some (.slice el), some (.slice _) => (tSize P el).bind fun s => (tBytes P el).bind fun by_ => (tZero P el).bind fun z => if z.cells.size = s then some (.app s by_ kp a b) else none
      | _, _ => none
    | _ => none
  | .builtin b => if plainB b = true then (rOs n c.args.toList).map fun xs => .bi b c.argTypes type xs else none
  | .invoke _ _ => none

def resolveOp1 (P : Program) (pf : FuncId → Bool) (n : Nat) (hp kp : Bool) (type : TypeId) : Op → Option ROp
  | .move x | .assign x => (rO n x).map .mov
  | .pick c a b => (rO n c).bind fun c => (rO n a).bind fun a => (rO n b).map fun b => .pick c a b
  | .box _ x => (rO n x).map fun y => if hp then .boxH y else .box y
  | .alloc t => (tZero P t).bind fun z => (ofCells z.cells.toList).map fun cs => if hp then .allocH cs else .alloc cs
  | .build t parts => match P.underlying t with
    | some (.struct fields) => if fields.toList.all fun f => (tSize P f.type).isSome then
        (tZero P t).bind fun z => (ofCells z.cells.toList).bind fun cs => (rParts P n fields parts.toList).map fun ps => .build cs ps
      else none
    | some (.array _ el) => (tSize P el).bind fun sz => (tZero P t).bind fun z => (ofCells z.cells.toList).bind fun cs => (rPartsA n sz parts.toList).map fun ps => .build cs ps
    | _ => none
  | .buildSlice t len parts => match P.underlying t with
    | some (.slice el) => (tSize P el).bind fun s => (tZero P el).bind fun _ => (rOs n (parts.toList.map (·.2))).bind fun xs =>
        if parts.toList.map (·.1) = List.range len ∧ len * s ≤ 2 ^ 24 ∧ 0 < s then some (.mkslice s xs) else none
    | _ => none
  | .load t a => (rO n a).bind fun x => (tAgg P t).bind fun g => (tSize P t).map fun s => if g then .loadA s x else .load1 x
  | .store t a v => (rO n a).bind fun x => (rO n v).bind fun y => (tSize P t).map fun s => .store s x y
  | .nilCheck x => (rO n x).map .nilchk
  | .binOp op t x y _ => (rO n x).bind fun a => (rO n y).bind fun b =>
      match op, y, P.underlying t with
      | .eql, .const (.pointer none), some (.pointer _) => some (.isnil false a)
      | .neq, .const (.pointer none), some (.pointer _) => some (.isnil true a)
      | .eql, .const (.slice none 0 0), some (.slice _) => some (.snil false a)
      | .neq, .const (.slice none 0 0), some (.slice _) => some (.snil true a)
      | _, _, _ => some (.bin op t a b)
  | .unOp op _ x => (rO n x).map fun a => .un op a
  | .convert s d x => (rO n x).map fun a => .conv s d a
  | .slice t x lo hi mx => (rO n x).bind fun a => (rOpt n lo).bind fun l => (rOpt n hi).bind fun h => (rOpt n mx).bind fun m => match P.underlying t with
    | some .string => if mx.isNone then some (.slcS t a l h) else none
    | some (.slice el) => (tSize P el).map fun s => .slc s a l h m
    | some (.array len el) => (tSize P el).map fun s => .slcA len s a l h m
    | _ => none
  | .fieldAddr t x f => (rO n x).bind fun a => match P.underlying t with
    | some (.struct fields) => (fields[f]?).bind fun fd => (tSize P fd.type).bind fun s => if s = 0 then none else some (.faddr fd.offset a)
    | _ => none
  | .field t x f => (rO n x).bind fun a => match P.underlying t with
    | some (.struct fields) => (fields[f]?).bind fun fd => (tAgg P fd.type).bind fun g => (tSize P fd.type).map fun s => .fld g fd.offset s a
    | _ => none
  | .indexAddr t x i => (rO n x).bind fun a => (rO n i).bind fun j => match P.underlying t with
    | some (.slice el) => (tSize P el).map fun s => .iaddr s a j
    | some (.array len el) => (tSize P el).map fun s => .iaddrA len s a j
    | _ => none
  | .index t x i => (rO n x).bind fun a => (rO n i).bind fun j => match P.underlying t with
    | some .string => some (.idxS t a j)
    | some (.array len el) => (tAgg P el).bind fun g => (tSize P el).map fun s => .idxA g len s a j
    | _ => none
  | .extract x i => (rO n x).map fun a => .ext a i
  | .makeFunc f a c => (rOs n a.toList).bind fun xs => (rOs n c.toList).map fun ys => .mkfn f xs ys
  | .makeInterface t x => match P.underlying t with
    | some (.interface _) | none => none
    | some _ => (rO n x).map fun a => .mkif t a
  | .call c => rCall P pf n hp kp c type
  | _ => none

def mapKK (P : Program) (t : TypeId) : Option (Option IntKind) :=
  match P.underlying t with
  | some .string => some none
  | some (.int k) => some (some k)
  | _ => none
def resolveX (P : Program) (n : Nat) (hp kp : Bool) : Op → Option ROp
  | .makeMap t none => match P.underlying t with
    | some (.map kt _) => (mapKK P kt).map fun kk => .xop (.mknew kk) []
    | _ => none
  | .makeMap t (some (.const (.int k _))) => match P.underlying t with
    | some (.map kt _) => (mapKK P kt).map fun kk => .xop (.mknew kk) []
    | _ => none
  | .lookup t x i ok => match P.underlying t with
    | some (.map kt el) => (mapKK P kt).bind fun kk => (tZero P el).bind fun z => (ofValue z).bind fun p => (rO n x).bind fun a => (rO n i).map fun b => .mgetR kk p ok a b
    | _ => none
  | .mapUpdate t m i x | .insert t m i x => match P.underlying t with
    | some (.map kt _) => (mapKK P kt).bind fun kk => (rO n m).bind fun a => (rO n i).bind fun b => (rO n x).map fun c => .xop (.mset kk) [a, b, c]
    | _ => none
  | .call ⟨.builtin .len, args, ts⟩ => match args.toList with
    | [x] => (ts[0]?).bind fun t => match P.underlying t with
      | some (.map _ _) => (rO n x).map fun y => .mlenR y
      | some (.slice _) => if hp then (rO n x).map fun y => .lenM y else none
      | _ => none
    | _ => none
  | .call ⟨.builtin .copy, args, ts⟩ => match args.toList with
    | [x, y] => (ts[0]?).bind fun t => (rO n x).bind fun a => (rO n y).bind fun b => match P.underlying t with
      | some (.slice el) => (tSize P el).map fun s => .xop (.cpy s) [a, b]
      | _ => none
    | _ => none
  | .call ⟨.builtin .append, args, ts⟩ => if hp && kp then match args.toList with
      | [x, y] => (ts[0]?).bind fun t => (ts[1]?).bind fun u => (rO n x).bind fun a => (rO n y).bind fun b => match P.underlying t, P.underlying u with
        | some (.slice el), some (.slice _) => (tSize P el).bind fun s => (tBytes P el).bind fun by_ => (tZero P el).bind fun z => if z.cells.size = s ∧ (ofCells z.cells.toList).isSome = true then some (.xop (.appM s by_) [a, b]) else none
        | _, _ => none
      | _ => none
    else none
  | .indexAddr t x i => if hp then match P.underlying t with
      | some (.slice el) => (tSize P el).bind fun s => (rO n x).bind fun a => (rO n i).map fun j => .iaddrM s a j
      | _ => none
    else none
  | .slice t x lo hi none => if hp then match P.underlying t with
      | some (.slice el) => (tSize P el).bind fun s => (rO n x).bind fun a => (rOpt n lo).bind fun l => (rOpt n hi).map fun h => .slcM s a l h
      | _ => none
    else none
  | _ => none
def resolveOp (P : Program) (pf : FuncId → Bool) (n : Nat) (hp kp : Bool) (type : TypeId) (op : Op) : Option ROp :=
  match resolveX P n hp kp op with
  | some r => some r
  | none => resolveOp1 P pf n hp kp type op
end Go.Pv

set_option linter.unusedSimpArgs false
set_option linter.unusedVariables false
namespace Go.Pv

def RepEV (m : Mem) (lam : Nat → Nat) (nL : Nat) : EV → Value → Prop
  | .l i o, v => i < nL ∧ v = .pointer (some ⟨lam i, o, none⟩)
  | .v p, v => Rep m p v

theorem RepEV.mono {m m' : Mem} (h : MLe m m') {lam lam' : Nat → Nat} {n n' : Nat} (hn : n ≤ n') (hl : ∀ i, i < n → lam' i = lam i) {e : EV} {v : Value} (r : RepEV m lam n e v) : RepEV m' lam' n' e v := by
  cases e with
  | l i o => obtain ⟨h1, h2⟩ := r; exact ⟨Nat.lt_of_lt_of_le h1 hn, by rw [hl i h1]; exact h2⟩
  | v p => exact Rep.mono h p r

def locs (lam : Nat → Nat) : Nat → List (List PV) → PH
  | _, [] => []
  | i, cs :: L => (lam i, .cells cs) :: locs lam (i + 1) L

theorem locs_get_none {lam : Nat → Nat} : ∀ {L : List (List PV)} {i b : Nat}, (∀ j, i ≤ j → j < i + L.length → lam j ≠ b) → (locs lam i L).get b = none
  | [], i, b, _ => rfl
  | cs :: L, i, b, h => by
    simp only [locs, PH.get_cons]
    rw [if_neg (fun e => h i (Nat.le_refl _) (by simp) e.symm)]
    exact locs_get_none fun j h1 h2 => h j (by omega) (by simp; omega)
theorem locs_get_some {lam : Nat → Nat} : ∀ {L : List (List PV)} {i b : Nat}, (locs lam i L).get b ≠ none → ∃ j, i ≤ j ∧ j < i + L.length ∧ lam j = b
  | [], i, b, h => absurd rfl h
  | cs :: L, i, b, h => by
    simp only [locs, PH.get_cons] at h
    by_cases e : b = lam i
    · exact ⟨i, Nat.le_refl _, by simp, e.symm⟩
    · rw [if_neg e] at h
      obtain ⟨j, h1, h2, h3⟩ := locs_get_some h
      exact ⟨j, by omega, by simp; omega, h3⟩
theorem locs_get {lam : Nat → Nat} : ∀ {L : List (List PV)} {i k : Nat} {cs : List PV}, (∀ x y, i ≤ x → x < i + L.length → i ≤ y → y < i + L.length → lam x = lam y → x = y) → L[k]? = some cs →
    (locs lam i L).get (lam (i + k)) = some (.cells cs)
  | [], i, k, cs, _, h => by simp at h
  | c :: L, i, 0, cs, _, h => by
    simp at h; subst h
    simp [locs, PH.get_cons]
  | c :: L, i, k + 1, cs, hinj, h => by
    simp at h
    have hk : k < L.length := (List.getElem?_eq_some_iff.1 h).1
    simp only [locs, PH.get_cons]
    rw [if_neg (fun e => by have := hinj (i + (k + 1)) i (by omega) (by simp; omega) (by omega) (by simp) e; omega)]
    have := locs_get (lam := lam) (L := L) (i := i + 1) (k := k) (cs := cs) (fun x y h1 h2 h3 h4 => hinj x y (by omega) (by simp; omega) (by omega) (by simp; omega)) h
    rwa [show i + 1 + k = i + (k + 1) by omega] at this

/-- After one of them is written. -/
theorem locs_set {lam : Nat → Nat} : ∀ {L : List (List PV)} {i k : Nat} {cs : List PV}, (∀ x y, i ≤ x → x < i + L.length → i ≤ y → y < i + L.length → lam x = lam y → x = y) → k < L.length →
    ∀ b, (locs lam i (L.set k cs)).get b = if b = lam (i + k) then some (.cells cs) else (locs lam i L).get b
  | [], i, k, cs, _, h, b => by simp at h
  | c :: L, i, 0, cs, _, h, b => by
    simp only [List.set_cons_zero, locs, PH.get_cons, Nat.add_zero]
    split <;> rfl
  | c :: L, i, k + 1, cs, hinj, h, b => by
    simp at h
    simp only [List.set_cons_succ, locs, PH.get_cons]
    have := locs_set (lam := lam) (L := L) (i := i + 1) (k := k) (cs := cs) (fun x y h1 h2 h3 h4 => hinj x y (by omega) (by simp; omega) (by omega) (by simp; omega)) h b
    rw [this, show i + 1 + k = i + (k + 1) by omega]
    by_cases e : b = lam i
    · rw [if_pos e, if_neg (fun e2 => by have := hinj i (i + (k + 1)) (by omega) (by simp) (by omega) (by simp; omega) (e.symm.trans e2); omega), if_pos e]
    · rw [if_neg e, if_neg e]
theorem locs_append {lam : Nat → Nat} : ∀ (L : List (List PV)) (i : Nat) (cs : List PV) (b : Nat), (locs lam i (L ++ [cs])).get b = ((locs lam i L).get b).or (if b = lam (i + L.length) then some (.cells cs) else none)
  | [], i, cs, b => by simp [locs, PH.get_cons]
  | c :: L, i, cs, b => by
    simp only [List.cons_append, locs, PH.get_cons]
    split
    · simp
    · rw [locs_append L (i + 1) cs b]
      simp only [List.length_cons]
      rw [show i + 1 + L.length = i + (L.length + 1) by omega]
theorem locs_congr {lam lam' : Nat → Nat} : ∀ (L : List (List PV)) (i : Nat), (∀ j, i ≤ j → j < i + L.length → lam' j = lam j) → locs lam' i L = locs lam i L
  | [], i, _ => rfl
  | c :: L, i, h => by
    simp only [locs]
    rw [h i (Nat.le_refl _) (by simp), locs_congr L (i + 1) fun j h1 h2 => h j (by omega) (by simp; omega)]

structure SimB (w0 : World) (hw0 : Nat → Nat) (H0 : PH) (w : World) (hw : Nat → Nat) (lam : Nat → Nat) (L : List (List PV)) (H : PH) : Prop where
  ext : ExtF H0 w0 hw0 w hw H
  rep : WRep w hw (locs lam 0 L ++ H)
  dis : ∀ b, (locs lam 0 L).get b ≠ none → H.get b = none
  inj : ∀ i j, i < L.length → j < L.length → lam i = lam j → i = j
  new : ∀ i, i < L.length → w0.heap.size ≤ lam i

section
variable {P : Program} {w0 w : World} {hw0 hw : Nat → Nat} {H0 H : PH} {lam : Nat → Nat} {L : List (List PV)}

theorem SimB.inj' (s : SimB w0 hw0 H0 w hw lam L H) : ∀ x y, 0 ≤ x → x < 0 + L.length → 0 ≤ y → y < 0 + L.length → lam x = lam y → x = y :=
  fun x y _ h1 _ h2 => s.inj x y (by omega) (by omega)
theorem SimB.wrep (s : SimB w0 hw0 H0 w hw lam L H) : WRep w hw H := s.rep.le fun b o hb => by
  rw [PH.get_append]
  cases e : (locs lam 0 L).get b with
  | none => simpa using hb
  | some o2 => have := s.dis b (by simp [e]); rw [hb] at this; cases this
theorem SimB.loc (s : SimB w0 hw0 H0 w hw lam L H) {i : Nat} {cs : List PV} (h : L[i]? = some cs) : ObjRep w hw (lam i) (.cells cs) := by
  refine s.rep.obj _ _ ?_
  have := locs_get (lam := lam) (i := 0) s.inj' h
  rw [Nat.zero_add] at this
  rw [PH.get_append, this]; rfl
theorem SimB.heap (s : SimB w0 hw0 H0 w hw lam L H) {b : Nat} {o : PObj} (h : H.get b = some o) : ObjRep w hw b o := s.wrep.obj _ _ h

/-- A step that leaves the call's own variables alone. -/
theorem SimB.step (s : SimB w0 hw0 H0 w hw lam L H) {w' : World} {hw' : Nat → Nat} {H' : PH} (e : ExtF H w hw w' hw' H') (h' : WRep w' hw' H') : SimB w0 hw0 H0 w' hw' lam L H' := by
  have hf := WRep.frame s.rep s.dis e h'
  exact ⟨s.ext.trans e, hf.1, hf.2, s.inj, s.new⟩

/-- A new one. -/
theorem SimB.alloc (s : SimB w0 hw0 H0 w hw lam L H) {cs : List PV} {c : Array Value} {el : TypeId} (hc : RepL (memOf w hw) cs c.toList) :
    SimB w0 hw0 H0 (World.push w (.cells c el (0, 0))) hw (updF lam L.length w.heap.size) (L ++ [cs]) H := by
  have hb := s.rep.box (el := el) hc
  have hlt : ∀ i, i < L.length → lam i < w.heap.size := fun i hi => (s.loc (List.getElem?_eq_getElem hi)).lt
  have hcg : locs (updF lam L.length w.heap.size) 0 L = locs lam 0 L := locs_congr L 0 fun j _ h2 => by simp [updF]; omega
  have hget : ∀ b, (locs (updF lam L.length w.heap.size) 0 (L ++ [cs])).get b = ((locs lam 0 L).get b).or (if b = w.heap.size then some (.cells cs) else none) := by
    intro b
    rw [locs_append, hcg]
    simp [updF]
  have hnL : (locs lam 0 L).get w.heap.size = none := locs_get_none fun j _ h2 e => by have := hlt j (by omega); omega
  have hnH : H.get w.heap.size = none := s.wrep.get_size (Nat.le_refl _)
  refine ⟨s.ext.trans ⟨hb.2.os, hb.2.tape, hb.2.output, hb.2.size, fun b h1 _ => ?_, hb.2.mono, fun b h => .inl h⟩, ⟨hb.1.fin, fun b o hbo => hb.1.obj b o ?_⟩, fun b hne => ?_, fun i j hi hj e => ?_, fun i hi => ?_⟩
  · exact ⟨push_lt h1, rfl⟩
  · rw [PH.get_set, PH.get_append]
    rw [PH.get_append, hget] at hbo
    by_cases e : b = w.heap.size
    · rw [if_pos e]
      rw [e, hnL] at hbo
      simpa using hbo
    · rw [if_neg e]
      simpa [e] using hbo
  · rw [hget] at hne
    by_cases e : b = w.heap.size
    · rw [e]; exact hnH
    · exact s.dis b (by simpa [e] using hne)
  · simp only [List.length_append, List.length_singleton] at hi hj
    by_cases e1 : i = L.length <;> by_cases e2 : j = L.length
    · omega
    · rw [show updF lam L.length w.heap.size i = w.heap.size by simp [updF, e1], show updF lam L.length w.heap.size j = lam j by simp [updF, e2]] at e
      have := hlt j (by omega); omega
    · rw [show updF lam L.length w.heap.size i = lam i by simp [updF, e1], show updF lam L.length w.heap.size j = w.heap.size by simp [updF, e2]] at e
      have := hlt i (by omega); omega
    · rw [show updF lam L.length w.heap.size i = lam i by simp [updF, e1], show updF lam L.length w.heap.size j = lam j by simp [updF, e2]] at e
      exact s.inj i j (by omega) (by omega) e
  · simp only [List.length_append, List.length_singleton] at hi
    by_cases e1 : i = L.length
    · simp [updF, e1]; exact s.ext.size
    · simp [updF, e1]; exact s.new i (by omega)

/-- A store into one. -/
theorem SimB.stored (s : SimB w0 hw0 H0 w hw lam L H) {i : Nat} {cs cs' : List PV} (hi : L[i]? = some cs) {w' : World} {c' : Array Value} {el : TypeId}
    (h1 : w'.os = w.os) (h2 : w'.tape = w.tape) (h3 : w'.output = w.output) (h4 : w'.heap.size = w.heap.size)
    (h5 : w'.heap[lam i]? = some (.cells c' el (0, 0))) (h6 : ∀ x, x ≠ lam i → w'.heap[x]? = w.heap[x]?) (hc : RepL (memOf w hw) cs' c'.toList) :
    SimB w0 hw0 H0 w' hw lam (L.set i cs') H ∧ MLe (memOf w hw) (memOf w' hw) := by
  have hlt : i < L.length := (List.getElem?_eq_some_iff.1 hi).1
  have hg := locs_get (lam := lam) (i := 0) s.inj' hi
  rw [Nat.zero_add] at hg
  have hb : (locs lam 0 L ++ H).get (lam i) = some (.cells cs) := by rw [PH.get_append, hg]; rfl
  have hst := s.rep.stored hb h1 h2 h3 h4 h5 h6 hc
  have hset := locs_set (lam := lam) (i := 0) (k := i) (cs := cs') s.inj' hlt
  rw [Nat.zero_add] at hset
  have hn : H.get (lam i) = none := s.dis _ (by simp [hg])
  refine ⟨⟨⟨h1.trans s.ext.os, h2.trans s.ext.tape, h3.trans s.ext.output, by rw [h4]; exact s.ext.size, fun b hb1 hb2 => ?_, s.ext.mono.trans hst.2.mono, s.ext.dom⟩, ⟨hst.1.fin, fun b o hbo => hst.1.obj b o ?_⟩, fun b hne => ?_, by simpa using s.inj, by simpa using s.new⟩, hst.2.mono⟩
  · have hn2 := s.new i hlt
    obtain ⟨p, q⟩ := s.ext.frame b hb1 hb2
    exact ⟨(h6 b (by omega)).trans p, q⟩
  · rw [PH.get_set, PH.get_append]
    rw [PH.get_append, hset] at hbo
    by_cases e : b = lam i
    · rw [if_pos e] at hbo ⊢
      simpa using hbo
    · rw [if_neg e] at hbo ⊢
      exact hbo
  · rw [hset] at hne
    by_cases e : b = lam i
    · rw [e]; exact hn
    · rw [if_neg e] at hne; exact s.dis b hne
end
end Go.Pv

set_option linter.unusedSimpArgs false
set_option linter.unusedVariables false
namespace Go.Pv
section
variable {P : Program} {w0 w : World} {hw0 hw : Nat → Nat} {H0 H : PH} {lam : Nat → Nat} {L : List (List PV)}

theorem memOf_cell {b o : Nat} {v : Value} (h : memOf w hw b o = some v) : w.cell? ⟨b, o, none⟩ = some v := by
  simp only [memOf] at h
  split at h
  · exact h
  · cases h

theorem obj_vals {b off : Nat} {cs : List PV} (h : ObjRep w hw b (.cells cs)) :
    ∃ c el, w.heap[b]? = some (.cells c el (0, 0)) ∧ RepL (memOf w hw) cs c.toList ∧ RepL (memOf w hw) (cs.drop off) (c.toList.drop off) ∧
      ∀ j v, (c.toList.drop off)[j]? = some v → w.cell? ⟨b, off + j, none⟩ = some v := by
  obtain ⟨_, c, el, h1, h2⟩ := h
  refine ⟨c, el, h1, h2, RepL_drop off h2, fun j v hj => ?_⟩
  rw [cell_of_block h1]
  simpa using hj

theorem cellsAt_sound (s : SimB w0 hw0 H0 w hw lam L H) {e : EV} {cs : List PV} {va : Value} (h : cellsAt e L H = some cs) (r : RepEV (memOf w hw) lam L.length e va) :
    ∃ b o vs, va = .pointer (some ⟨b, o, none⟩) ∧ RepL (memOf w hw) cs vs ∧ ∀ j v, vs[j]? = some v → w.cell? ⟨b, o + j, none⟩ = some v := by
  unfold cellsAt at h
  split at h
  · simp only [Option.map_eq_some_iff] at h
    obtain ⟨cs0, h1, rfl⟩ := h
    obtain ⟨_, rfl⟩ := r
    obtain ⟨c, el, _, _, h4, h5⟩ := obj_vals (off := _) (s.loc h1)
    exact ⟨_, _, _, rfl, h4, h5⟩
  · rename_i b off
    split at h
    · rename_i cs0 h1
      cases h
      simp only [RepEV, Rep] at r
      subst r
      obtain ⟨c, el, _, _, h4, h5⟩ := obj_vals (off := off) (s.heap h1)
      exact ⟨_, _, _, rfl, h4, h5⟩
    · cases h
  · cases h
    simp only [RepEV, Rep] at r
    obtain ⟨b, o, rfl, h1⟩ := r
    obtain ⟨vs, h2, h3⟩ := RepR_vals h1
    exact ⟨b, o, vs, rfl, h2, fun j v hj => memOf_cell (h3 j v hj)⟩
  · cases h

theorem run_sure (a : Addr) (w : World) : (Instr.sureAddr (.pointer (some a))).run P w = .ok a w := rfl

theorem s_load1 (s : SimB w0 hw0 H0 w hw lam L H) {e : EV} {cs : List PV} {p : PV} {va : Value} {t : TypeId} (h : cellsAt e L H = some cs) (h0 : cs[0]? = some p) (r : RepEV (memOf w hw) lam L.length e va)
    (ht : tAgg P t = some false) : ∃ v, (Instr.loadAt t va).run P w = .ok v w ∧ Rep (memOf w hw) p v := by
  obtain ⟨b, o, vs, rfl, h1, h2⟩ := cellsAt_sound s h r
  obtain ⟨v, h3, h4⟩ := RepL_get h1 h0
  refine ⟨v, ?_, h4⟩
  have h5 := h2 0 v h3
  show ((Instr.sureAddr (.pointer (some ⟨b, o, none⟩))) >>= loadVar t).run P w = _
  rw [run_bind_ok (run_sure _ w)]
  show (isAgg t >>= fun g => if g then (do pure (.agg (← loadCells ⟨b, o, none⟩ (← sizeOf t)))) else load ⟨b, o, none⟩).run P w = _
  rw [run_bind_ok (run_agg ht w)]
  exact run_load (by simpa using h5)

theorem s_loadA (s : SimB w0 hw0 H0 w hw lam L H) {e : EV} {cs : List PV} {n : Nat} {va : Value} {t : TypeId} (h : cellsAt e L H = some cs) (h0 : n ≤ cs.length) (r : RepEV (memOf w hw) lam L.length e va)
    (ht : tAgg P t = some true) (hs : tSize P t = some n) : ∃ v, (Instr.loadAt t va).run P w = .ok v w ∧ Rep (memOf w hw) (.agg (cs.take n)) v := by
  obtain ⟨b, o, vs, rfl, h1, h2⟩ := cellsAt_sound s h r
  refine ⟨.agg (vs.take n).toArray, ?_, ?_⟩
  · show ((Instr.sureAddr (.pointer (some ⟨b, o, none⟩))) >>= loadVar t).run P w = _
    rw [run_bind_ok (run_sure _ w)]
    show (isAgg t >>= fun g => if g then (do pure (.agg (← loadCells ⟨b, o, none⟩ (← sizeOf t)))) else load ⟨b, o, none⟩).run P w = _
    rw [run_bind_ok (run_agg ht w)]
    show (sizeOf t >>= fun k => loadCells ⟨b, o, none⟩ k >>= fun c => (pure (Value.agg c) : Sem Value)).run P w = _
    rw [run_bind_ok (run_sizeOf hs w)]
    have hl := RepL_length h1
    rw [run_bind_ok (run_loadCells (vs.take n) (by simp; omega) fun j v hj => h2 j v (by
      rw [List.getElem?_take] at hj
      split at hj
      · exact hj
      · cases hj))]
    rfl
  · simp only [Rep]
    exact ⟨_, rfl, by simpa using RepL_take n h1⟩

theorem cellOk_of {m : Mem} {p : PV} {v : Value} (h : cellP p = true) (r : Rep m p v) : cellOk v = true := by
  cases p <;> simp only [cellP] at h <;> simp only [Rep] at r
  · obtain ⟨rfl, _⟩ := r; exact h
  · cases h
  · cases h
  · obtain ⟨_, _, _, _, rfl, _⟩ := r; rfl
  · obtain ⟨_, _, rfl, _⟩ := r; rfl
  · subst r; rfl
  · obtain ⟨_, _, rfl, _⟩ := r; rfl
  · subst r; rfl
  · obtain ⟨_, rfl, _⟩ := r; rfl
theorem cellsOk_of {m : Mem} : ∀ {ps : List PV} {vs : List Value}, ps.all cellP = true → RepL m ps vs → vs.all cellOk = true
  | [], vs, _, r => by simp [RepL] at r; simp [r]
  | p :: ps, vs, h, r => by
    obtain ⟨v, rest, rfl, h1, h2⟩ := by simpa [RepL] using r
    simp only [List.all_cons, Bool.and_eq_true] at h ⊢
    exact ⟨cellOk_of h.1 h1, cellsOk_of h.2 h2⟩

theorem s_store (s : SimB w0 hw0 H0 w hw lam L H) {n : Nat} {e x : EV} {va vx : Value} {t : TypeId} {L' : List (List PV)} {H' : PH} (h : storeAt? n e x L H = some (L', H'))
    (re : RepEV (memOf w hw) lam L.length e va) (rx : RepEV (memOf w hw) lam L.length x vx) (hs : tSize P t = some n) :
    ∃ w', (Instr.storeAt t va vx).run P w = .ok () w' ∧ SimB w0 hw0 H0 w' hw lam L' H' ∧ MLe (memOf w hw) (memOf w' hw) ∧ L'.length = L.length := by
  unfold storeAt? at h
  split at h
  · cases h
  · rename_i p
    have rx' : Rep (memOf w hw) p vx := rx
    have hc := Rep_cells rx'
    split at h
    · rename_i hp
      obtain ⟨hp1, hp2⟩ := hp
      have hlen := RepL_length hc
      have hok := cellsOk_of hp2 hc
      have hrun : ∀ b o, (∃ w', (storeCells ⟨b, o, none⟩ vx.cells.toList 0).run P w = .ok () w') → va = .pointer (some ⟨b, o, none⟩) →
          (Instr.storeAt t va vx).run P w = (storeCells ⟨b, o, none⟩ vx.cells.toList 0).run P w := by
        rintro b o _ rfl
        show ((Instr.sureAddr (.pointer (some ⟨b, o, none⟩))) >>= fun a => storeVar t a vx).run P w = _
        rw [run_bind_ok (run_sure _ w)]
        show (sizeOf t >>= fun k => if vx.cells.size ≠ k then (do stuck "storeVar: the value has not the size of the variable"; storeCells ⟨b, o, none⟩ vx.cells.toList) else (do pure (); storeCells ⟨b, o, none⟩ vx.cells.toList)).run P w = _
        rw [run_bind_ok (run_sizeOf hs w), if_neg (by simp at hlen; omega)]
      split at h
      · rename_i i off
        split at h
        · rename_i cs hL
          split at h
          · rename_i hle
            cases h
            obtain ⟨hi, rfl⟩ := re
            obtain ⟨c, el, h1, h2, _, _⟩ := obj_vals (off := 0) (s.loc hL)
            obtain ⟨w', r1, r2, r3, r4, r5, r6, r7⟩ := run_storeCells (P := P) vx.cells.toList w off 0 c h1 (by have := RepL_length h2; simp at this hlen ⊢; omega) hok
            have := s.stored hL r2 r3 r4 r5 r6 r7 (cs' := splice cs off p.cells) (by simpa using RepL_splice off hc h2)
            exact ⟨w', (hrun _ _ ⟨w', r1⟩ rfl).trans r1, this.1, this.2, by simp⟩
          · cases h
        · cases h
      · rename_i b off
        split at h
        · rename_i cs hH
          split at h
          · rename_i hle
            cases h
            simp only [RepEV, Rep] at re
            subst re
            obtain ⟨c, el, h1, h2, _, _⟩ := obj_vals (off := 0) (s.heap hH)
            obtain ⟨w', r1, r2, r3, r4, r5, r6, r7⟩ := run_storeCells (P := P) vx.cells.toList w off 0 c h1 (by have := RepL_length h2; simp at this hlen ⊢; omega) hok
            have := s.wrep.stored hH r2 r3 r4 r5 r6 r7 (cs' := splice cs off p.cells) (by simpa using RepL_splice off hc h2)
            exact ⟨w', (hrun _ _ ⟨w', r1⟩ rfl).trans r1, s.step this.2 this.1, this.2.mono, rfl⟩
          · cases h
        · cases h
      · cases h
    · cases h

/-! plain values -/
theorem val_rep {m : Mem} {p : PV} {v u : Value} (h : p.val? = some v) (r : Rep m p u) : u = v := by
  cases p <;> simp only [PV.val?] at h <;> try cases h
  · simp only [Rep] at r; exact r.1
  · simpa only [Rep] using r
theorem vals_rep {m : Mem} : ∀ {ps : List PV} {vs us : List Value}, vals? ps = some vs → RepL m ps us → us = vs
  | [], vs, us, h, r => by simp only [vals?, Option.some.injEq] at h; subst h; simpa [RepL] using r
  | p :: ps, vs, us, h, r => by
    simp only [vals?] at h
    split at h
    · rename_i h1 h2
      cases h
      obtain ⟨v, rest, rfl, r1, r2⟩ := by simpa [RepL] using r
      rw [val_rep h1 r1, vals_rep h2 r2]
    · cases h
theorem valA_rep {m : Mem} {p : PV} {v u : Value} (h : p.valA? = some v) (r : Rep m p u) : u = v := by
  cases p with
  | agg cs =>
    simp only [PV.valA?, Option.map_eq_some_iff] at h
    obtain ⟨vs, h1, rfl⟩ := h
    simp only [Rep] at r
    obtain ⟨us, rfl, r⟩ := r
    have := vals_rep h1 r
    rw [← this]
  | _ => exact val_rep (by simpa only [PV.valA?] using h) r
theorem valsA_rep {m : Mem} : ∀ {ps : List PV} {vs us : List Value}, valsA? ps = some vs → RepL m ps us → us = vs
  | [], vs, us, h, r => by simp only [valsA?, Option.some.injEq] at h; subst h; simpa [RepL] using r
  | p :: ps, vs, us, h, r => by
    simp only [valsA?] at h
    split at h
    · rename_i h1 h2
      cases h
      obtain ⟨v, rest, rfl, r1, r2⟩ := by simpa [RepL] using r
      rw [valA_rep h1 r1, valsA_rep h2 r2]
    · cases h
theorem rep_scal {m : Mem} {v : Value} (h : atomB v = true) : Rep m (.scal v) v := by simp [Rep, h]

theorem asInt_rep {m : Mem} {e : EV} {i : Int} {v : Value} {nL : Nat} (h : asInt? e = some i) (r : RepEV m lam nL e v) : v = .int .i64 i := by
  unfold asInt? at h
  split at h
  · cases h; simp only [RepEV, Rep] at r; exact r.1
  · cases h
theorem asList_rep {m : Mem} {e : EV} {tok : Tok} {xs : List PV} {v : Value} {nL : Nat} (h : asList? e = some (tok, xs)) (r : RepEV m lam nL e v) : Rep m (.list tok xs) v := by
  unfold asList? at h
  split at h
  · cases h; exact r
  · cases h

theorem bin2_run {op : BinOp} {t : TypeId} {x y : Operand} {a b r : Value} (h : bin2 P op t a b = some r) (w : World) :
    (do eqGuard op t x y a b; binOp op t a b : Sem Value).run P w = .ok r w := by
  have key : (eqGuard op t x y a b) = eqGuard op t (.const a) (.const b) a b ∨ (a = .nilIface ∧ b = .nilIface) := by
    by_cases hn : a = .nilIface ∧ b = .nilIface
    · exact .inr hn
    · refine .inl ?_
      unfold eqGuard
      cases a <;> cases b <;> first | rfl | exact absurd ⟨rfl, rfl⟩ hn
  rcases key with k | ⟨rfl, rfl⟩
  · rw [k]
    unfold bin2 at h
    split at h
    · cases h
    · exact pureP_run h w
  · simp [bin2] at h

/-! rows -/
theorem elem_at {m : Mem} {b : Nat} : ∀ {xs : List PV} {o sz i : Nat} {p : PV}, RepE m xs b o sz → xs[i]? = some p → RepR m p.cells b (o + i * sz) ∧ p.cells.length = sz
  | [], o, sz, i, p, _, h => by simp at h
  | x :: xs, o, sz, 0, p, r, h => by
    simp at h; subst h
    rw [RepE_cons] at r
    simpa using ⟨r.1.2, r.1.1⟩
  | x :: xs, o, sz, i + 1, p, r, h => by
    simp at h
    rw [RepE_cons] at r
    have := elem_at r.2 h
    rw [Nat.succ_mul, show o + (i * sz + sz) = o + sz + i * sz by omega]
    exact this
theorem RepE_drop {m : Mem} {b : Nat} : ∀ {xs : List PV} {o sz : Nat} (n : Nat), RepE m xs b o sz → RepE m (xs.drop n) b (o + n * sz) sz
  | xs, o, sz, 0, r => by simpa using r
  | [], o, sz, n + 1, r => by simp [RepE]
  | x :: xs, o, sz, n + 1, r => by
    rw [RepE_cons] at r
    have := RepE_drop n r.2
    rw [Nat.succ_mul, show o + (n * sz + sz) = o + sz + n * sz by omega]
    simpa using this
theorem RepE_take {m : Mem} {b : Nat} : ∀ {xs : List PV} {o sz : Nat} (n : Nat), RepE m xs b o sz → RepE m (xs.take n) b o sz
  | xs, o, sz, 0, r => by simp [RepE]
  | [], o, sz, n + 1, r => by simp [RepE]
  | x :: xs, o, sz, n + 1, r => by
    rw [RepE_cons] at r
    simp only [List.take_succ_cons]
    rw [RepE_cons]
    exact ⟨r.1, RepE_take n r.2⟩
theorem RepE_append {m : Mem} {b : Nat} : ∀ {xs ys : List PV} {o sz : Nat}, RepE m xs b o sz → RepE m ys b (o + xs.length * sz) sz → RepE m (xs ++ ys) b o sz
  | [], ys, o, sz, _, r => by simpa using r
  | x :: xs, ys, o, sz, r, k => by
    rw [RepE_cons] at r
    simp only [List.cons_append]
    rw [RepE_cons]
    refine ⟨r.1, RepE_append r.2 ?_⟩
    rw [List.length_cons, Nat.succ_mul, show o + (xs.length * sz + sz) = o + sz + xs.length * sz by omega] at k
    exact k

/-- The cells of a list, one behind the other. -/
theorem flat_length {sz : Nat} : ∀ {xs : List PV}, (∀ p ∈ xs, p.cells.length = sz) → (flat xs).length = xs.length * sz
  | [], _ => by simp [flat]
  | x :: xs, h => by
    rw [flat, List.length_append, h x (by simp), flat_length fun p hp => h p (by simp [hp]), List.length_cons, Nat.succ_mul, Nat.add_comm]
theorem flat_vals {m : Mem} {b : Nat} : ∀ {xs : List PV} {o sz : Nat}, RepE m xs b o sz → ∃ vs, RepL m (flat xs) vs ∧ ∀ i v, vs[i]? = some v → m b (o + i) = some v
  | [], o, sz, _ => ⟨[], by simp [flat, RepL], by simp⟩
  | x :: xs, o, sz, r => by
    rw [RepE_cons] at r
    obtain ⟨vs, h1, h2⟩ := RepR_vals r.1.2
    obtain ⟨us, h3, h4⟩ := flat_vals r.2
    refine ⟨vs ++ us, RepL_append h1 h3, fun i v hi => ?_⟩
    have hl := RepL_length h1
    rw [List.getElem?_append] at hi
    split at hi
    · exact h2 i v hi
    · rename_i hge
      have := h4 _ v hi
      rwa [show o + sz + (i - vs.length) = o + i by omega] at this
theorem RepE_of_flat {m : Mem} {b sz : Nat} : ∀ {xs : List PV} {vs : List Value} {o : Nat}, (∀ p ∈ xs, p.cells.length = sz) → RepL m (flat xs) vs → (∀ i v, vs[i]? = some v → m b (o + i) = some v) → RepE m xs b o sz
  | [], vs, o, _, _, _ => by simp [RepE]
  | x :: xs, vs, o, h, r, hm => by
    rw [RepE_cons]
    have hx := h x (by simp)
    have e : vs = vs.take sz ++ vs.drop sz := (List.take_append_drop _ _).symm
    have r1 : RepL m x.cells (vs.take sz) := by
      have := RepL_take sz r
      rwa [flat, List.take_append_of_le_length (by omega), List.take_of_length_le (by omega)] at this
    have r2 : RepL m (flat xs) (vs.drop sz) := by
      have := RepL_drop sz r
      rwa [flat, List.drop_append_of_le_length (by omega), List.drop_of_length_le (by omega), List.nil_append] at this
    refine ⟨⟨hx, RepR_of_RepL r1 fun i v hi => hm i v ?_⟩, RepE_of_flat (fun p hp => h p (by simp [hp])) r2 fun i v hi => ?_⟩
    · rw [List.getElem?_take] at hi
      split at hi
      · exact hi
      · cases hi
    · have := hm (sz + i) v (by simpa using hi)
      rwa [← Nat.add_assoc] at this
end
end Go.Pv

set_option linter.unusedSimpArgs false
set_option linter.unusedVariables false
namespace Go.Pv
section
variable {P : Program} {w0 w : World} {hw0 hw : Nat → Nat} {H0 H : PH} {lam : Nat → Nat} {L : List (List PV)}

/-- The slots, and what they stand for. -/
def Evals (m : Mem) (lam : Nat → Nat) (nL n : Nat) (ρ : RO → EV) (a : Operand → Value) : Prop := ∀ x y, rO n x = some y → RepEV m lam nL (ρ y) (a x)

theorem evs_rep {m : Mem} {lam : Nat → Nat} {nL n : Nat} {ρ : RO → EV} {a : Operand → Value} (ev : Evals m lam nL n ρ a) : ∀ {xs : List Operand} {ys : List RO} {ps : List PV}, rOs n xs = some ys → pvs? (ys.map ρ) = some ps → RepL m ps (xs.map a)
  | [], ys, ps, h, k => by
    simp only [rOs, Option.some.injEq] at h; subst h
    simp only [List.map_nil, pvs?, Option.some.injEq] at k; subst k
    exact RepL_nil
  | x :: xs, ys, ps, h, k => by
    simp only [rOs] at h
    split at h
    · rename_i y ys' h1 h2
      cases h
      simp only [List.map_cons, pvs?] at k
      have r := ev x y h1
      cases hy : ρ y with
      | l i o => rw [hy] at k; simp [pvs?] at k
      | v p =>
        rw [hy] at k r
        simp only [pvs?, Option.map_eq_some_iff] at k
        obtain ⟨ps', k1, rfl⟩ := k
        simp only [List.map_cons, RepL_cons]
        exact ⟨r, evs_rep ev h2 k1⟩
    · cases h

theorem ev_v {m : Mem} {lam : Nat → Nat} {nL n : Nat} {ρ : RO → EV} {a : Operand → Value} (ev : Evals m lam nL n ρ a) {x : Operand} {y : RO} {p : PV} (h : rO n x = some y) (hy : ρ y = .v p) : Rep m p (a x) := by
  have := ev x y h
  rw [hy] at this
  exact this

def Done (P : Program) (w0 : World) (hw0 : Nat → Nat) (H0 : PH) (w : World) (hw : Nat → Nat) (lam : Nat → Nat) (L : List (List PV)) (H : PH) (s : Sem Value) (e : EV) : Prop :=
  ∃ v w' hw', s.run P w = .ok v w' ∧ SimB w0 hw0 H0 w' hw' lam L H ∧ MLe (memOf w hw) (memOf w' hw') ∧ RepEV (memOf w' hw') lam L.length e v

theorem Done.stay (s : SimB w0 hw0 H0 w hw lam L H) {x : Sem Value} {e : EV} {v : Value} (h : x.run P w = .ok v w) (r : RepEV (memOf w hw) lam L.length e v) : Done P w0 hw0 H0 w hw lam L H x e :=
  ⟨v, w, hw, h, s, MLe.refl _, r⟩

theorem scalD {e : EV} {x : Option Value} (h : (x.bind fun r => if atomB r then some (EV.v (.scal r)) else none) = some e) : ∃ r, x = some r ∧ e = .v (.scal r) ∧ atomB r = true := by
  simp only [Option.bind_eq_some_iff] at h
  obtain ⟨r, h1, h2⟩ := h
  split at h2
  · rename_i h3; cases h2; exact ⟨r, h1, rfl, h3⟩
  · cases h2

/-! bounds of a slice -/
theorem optI_rep {m : Mem} {nL n : Nat} {ρ : RO → EV} {a : Operand → Value} (ev : Evals m lam nL n ρ a) {x : Option Operand} {y : Option RO} {i : Option Int} (h : rOpt n x = some y) (k : optI ρ y = some i) : x.map a = i.map (.int .i64 ·) := by
  cases x with
  | none =>
    simp only [rOpt, Option.some.injEq] at h; subst h
    simp only [optI, Option.some.injEq] at k; subst k; rfl
  | some x =>
    simp only [rOpt, Option.map_eq_some_iff] at h
    obtain ⟨y', h1, rfl⟩ := h
    simp only [optI, Option.map_eq_some_iff] at k
    obtain ⟨j, k1, rfl⟩ := k
    simp only [Option.map_some]
    rw [asInt_rep k1 (ev _ _ h1)]

theorem run_bound {i : Int} {y : Nat} {c : BoundsCode} (h : 0 ≤ i ∧ i ≤ y) (w : World) : (Instr.sliceBound (.int .i64 i) y c).run P w = .ok i.toNat w := by
  show ((pure (IntKind.i64, i) : Sem (IntKind × Int)) >>= fun p => if 0 ≤ p.2 ∧ p.2 ≤ y then pure p.2.toNat else boundsPanic p.1 p.2 y c).run P w = _
  rw [run_bind_ok (run_pure' _ w), if_pos h]
  rfl

theorem run_bounds {len cap : Nat} {lo hi mx : Option Int} (hl : 0 ≤ lo.getD 0) (hh : lo.getD 0 ≤ hi.getD len) (hlen : hi.getD len ≤ len) (hc : len ≤ cap) (hm : ∀ m, mx = some m → m = hi.getD len ∧ hi.isSome = true) (w : World) :
    (Instr.sliceBounds true len cap (lo.map (.int .i64 ·)) (hi.map (.int .i64 ·)) (mx.map (.int .i64 ·))).run P w =
      .ok ((lo.getD 0).toNat, (hi.getD len).toNat, ((mx.map Int.toNat).getD cap)) w := by
  unfold Instr.sliceBounds
  cases mx with
  | none =>
    simp only [Option.map_none]
    rw [run_bind_ok (run_pure' _ w)]
    cases hi with
    | none =>
      simp only [Option.map_none]
      rw [run_bind_ok (run_pure' _ w)]
      cases lo with
      | none => simp only [Option.map_none]; rw [run_bind_ok (run_pure' _ w)]; rfl
      | some l =>
        simp only [Option.map_some, Option.getD_some, Option.getD_none] at hl hh ⊢
        rw [run_bind_ok (run_bound ⟨hl, by omega⟩ w)]; rfl
    | some h =>
      simp only [Option.map_some, Option.getD_some] at hh hlen ⊢
      rw [run_bind_ok (run_bound ⟨by omega, by omega⟩ w)]
      cases lo with
      | none => simp only [Option.map_none]; rw [run_bind_ok (run_pure' _ w)]; rfl
      | some l =>
        simp only [Option.map_some, Option.getD_some] at hl hh ⊢
        rw [run_bind_ok (run_bound ⟨hl, by omega⟩ w)]; rfl
  | some m =>
    obtain ⟨h1, h2⟩ := hm m rfl
    cases hi with
    | none => simp at h2
    | some h =>
      simp only [Option.map_some, Option.getD_some] at h1 hh hlen ⊢
      subst h1
      rw [run_bind_ok (run_bound ⟨by omega, by omega⟩ w)]
      rw [run_bind_ok (run_bound ⟨by omega, by omega⟩ w)]
      cases lo with
      | none => simp only [Option.map_none]; rw [run_bind_ok (run_pure' _ w)]; rfl
      | some l =>
        simp only [Option.map_some, Option.getD_some] at hl hh ⊢
        rw [run_bind_ok (run_bound ⟨hl, by omega⟩ w)]; rfl

theorem s_slice (s : SimB w0 hw0 H0 w hw lam L H) {t el : TypeId} {sz : Nat} (ht : P.underlying t = some (.slice el)) (hs : tSize P el = some sz) {tok : Tok} {xs : List PV} {u : Value} (hr : Rep (memOf w hw) (.list tok xs) u)
    {lo hi mx : Option Int} {p : PV} (hsz : ∀ p ∈ xs, p.cells.length = sz) (h : sliceL tok xs lo hi mx = some p) :
    ∃ v, (Instr.sliceAt t u (lo.map (.int .i64 ·)) (hi.map (.int .i64 ·)) (mx.map (.int .i64 ·))).run P w = .ok v w ∧ Rep (memOf w hw) p v := by
  simp only [Rep] at hr
  obtain ⟨A, len, cap, z, rfl, hlen, hcap, hB, htok, hrow⟩ := hr
  unfold sliceL at h
  split at h
  · rename_i hb
    obtain ⟨h1, h2, h3⟩ := hb
    subst hlen
    have hmx : ∀ m, mx = some m → m = hi.getD xs.length ∧ hi.isSome = true := by
      rintro m rfl
      simp only at h
      split at h
      · assumption
      · cases h
    have hrun : (Instr.sliceAt t (.slice A xs.length cap) (lo.map (.int .i64 ·)) (hi.map (.int .i64 ·)) (mx.map (.int .i64 ·))).run P w =
        .ok (.slice (if ((mx.map Int.toNat).getD cap) = (lo.getD 0).toNat then A else A.map (·.add ((lo.getD 0).toNat * sz))) ((hi.getD xs.length).toNat - (lo.getD 0).toNat)
          (((mx.map Int.toNat).getD cap) - (lo.getD 0).toNat)) w := by
      unfold Instr.sliceAt
      rw [run_bind_ok (run_under ht w)]
      show (Instr.slice t (.slice A xs.length cap) _ _ _).run P w = _
      unfold Instr.slice
      rw [run_bind_ok (run_under ht w)]
      simp only
      rw [run_bind_ok (run_bounds h1 h2 h3 hcap hmx w)]
      simp only
      rw [run_bind_ok (run_sizeOf hs w)]
      rfl
    refine ⟨_, hrun, ?_⟩
    have hlx : ((xs.drop (lo.getD 0).toNat).take (hi.getD xs.length - lo.getD 0).toNat).length = (hi.getD xs.length).toNat - (lo.getD 0).toNat := by
      simp only [List.length_take, List.length_drop]; omega
    have hcap2 : (hi.getD xs.length).toNat ≤ ((mx.map Int.toNat).getD cap) := by
      cases mx with
      | none => simp only [Option.map_none, Option.getD_none]; omega
      | some m => have := (hmx m rfl).1; simp only [Option.map_some, Option.getD_some]; omega
    have hrow' : (hi.getD xs.length).toNat - (lo.getD 0).toNat ≠ 0 → ∃ b o, (if ((mx.map Int.toNat).getD cap) = (lo.getD 0).toNat then A else A.map (·.add ((lo.getD 0).toNat * sz))) = some ⟨b, o, none⟩ ∧
        RepE (memOf w hw) ((xs.drop (lo.getD 0).toNat).take (hi.getD xs.length - lo.getD 0).toNat) b o z := by
      intro hne
      obtain ⟨b, o, rfl, hE⟩ := hrow (by omega)
      have hz : z = sz := by
        cases xs with
        | nil => simp at h3 hne; omega
        | cons x xs => rw [RepE_cons] at hE; rw [← hE.1.1]; exact hsz x (by simp)
      subst hz
      refine ⟨b, o + (lo.getD 0).toNat * z, ?_, RepE_take _ (RepE_drop _ hE)⟩
      rw [if_neg (by omega)]
      simp [addr_add]
    cases mx with
    | none =>
      cases h
      simp only [Rep]
      refine ⟨_, _, _, z, rfl, hlx.symm, by omega, by omega, ?_, hrow'⟩
      split
      · rename_i hf
        cases tok with
        | full => simp only [RepTok, Option.map_none, Option.getD_none] at htok ⊢; omega
        | _ => simp [isFull] at hf
      · trivial
    | some m =>
      simp only at h
      split at h
      · rename_i hm
        cases h
        simp only [Rep]
        exact ⟨_, _, _, z, rfl, hlx.symm, by omega, by omega, by simp only [RepTok, Option.map_some, Option.getD_some]; omega, hrow'⟩
      · cases h
  · cases h

theorem s_iaddr (s : SimB w0 hw0 H0 w hw lam L H) {t el : TypeId} {sz : Nat} (ht : P.underlying t = some (.slice el)) (hs : tSize P el = some sz) {tok : Tok} {xs : List PV} {u : Value} (hr : Rep (memOf w hw) (.list tok xs) u)
    {i : Int} {p : PV} (h0 : 0 ≤ i) (hp : xs[i.toNat]? = some p) (hc : p.cells.length = sz) :
    ∃ v, (Instr.indexAt t u (.int .i64 i)).run P w = .ok v w ∧ Rep (memOf w hw) (.cptr p.cells) v := by
  simp only [Rep] at hr
  obtain ⟨A, len, cap, z, rfl, hlen, hcap, hB, htok, hrow⟩ := hr
  have hlt : i.toNat < xs.length := (List.getElem?_eq_some_iff.1 hp).1
  obtain ⟨b, o, rfl, hE⟩ := hrow (by omega)
  obtain ⟨hR, hz⟩ := elem_at hE hp
  have hzz : z = sz := by omega
  subst hzz
  refine ⟨.pointer (some ⟨b, o + i.toNat * z, none⟩), ?_, by simp only [Rep]; exact ⟨_, _, rfl, hR⟩⟩
  unfold Instr.indexAt
  show ((pure (IntKind.i64, i) : Sem (IntKind × Int)) >>= _).run P w = _
  rw [run_bind_ok (run_pure' _ w)]
  simp only
  rw [run_bind_ok (run_under ht w)]
  simp only
  rw [run_bind_ok (run_pure' _ w), run_bind_ok (run_under ht w)]
  simp only
  rw [if_pos (show 0 ≤ i ∧ i < (len : Int) by omega), run_bind_ok (run_sizeOf hs w), addr_add]
  rfl

/-- A slice that is written in place, and a part of it. -/
theorem run_boundsM {len cap : Nat} {lo hi : Option Int} (hl : 0 ≤ lo.getD 0) (hh : lo.getD 0 ≤ hi.getD len) (hlen : hi.getD len ≤ cap) (w : World) :
    (Instr.sliceBounds true len cap (lo.map (.int .i64 ·)) (hi.map (.int .i64 ·)) none).run P w = .ok ((lo.getD 0).toNat, (hi.getD len).toNat, cap) w := by
  unfold Instr.sliceBounds
  simp only
  rw [run_bind_ok (run_pure' _ w)]
  cases hi with
  | none =>
    simp only [Option.map_none]
    rw [run_bind_ok (run_pure' _ w)]
    cases lo with
    | none => simp only [Option.map_none]; rw [run_bind_ok (run_pure' _ w)]; rfl
    | some l =>
      simp only [Option.map_some, Option.getD_some, Option.getD_none] at hl hh ⊢
      rw [run_bind_ok (run_bound ⟨hl, by omega⟩ w)]; rfl
  | some h =>
    simp only [Option.map_some, Option.getD_some] at hh hlen ⊢
    rw [run_bind_ok (run_bound ⟨by omega, by omega⟩ w)]
    cases lo with
    | none => simp only [Option.map_none]; rw [run_bind_ok (run_pure' _ w)]; rfl
    | some l =>
      simp only [Option.map_some, Option.getD_some] at hl hh ⊢
      rw [run_bind_ok (run_bound ⟨hl, by omega⟩ w)]; rfl

theorem s_sliceM {t el : TypeId} {sz : Nat} (ht : P.underlying t = some (.slice el)) (hs : tSize P el = some sz) {b o len cap : Nat} {lo hi : Option Int} (hl : 0 ≤ lo.getD 0) (hh : lo.getD 0 ≤ hi.getD len) (hlen : hi.getD len ≤ cap) (w : World) :
    (Instr.sliceAt t (.slice (some ⟨b, o, none⟩) len cap) (lo.map (.int .i64 ·)) (hi.map (.int .i64 ·)) none).run P w =
      .ok (.slice (some ⟨b, if cap = (lo.getD 0).toNat then o else o + (lo.getD 0).toNat * sz, none⟩) (hi.getD len - lo.getD 0).toNat (cap - (lo.getD 0).toNat)) w := by
  unfold Instr.sliceAt
  rw [run_bind_ok (run_under ht w)]
  show (Instr.slice t (.slice (some ⟨b, o, none⟩) len cap) _ _ _).run P w = _
  unfold Instr.slice
  rw [run_bind_ok (run_under ht w)]
  simp only
  rw [run_bind_ok (run_boundsM hl hh hlen w)]
  simp only
  rw [run_bind_ok (run_sizeOf hs w)]
  rw [show (hi.getD len - lo.getD 0).toNat = (hi.getD len).toNat - (lo.getD 0).toNat by omega]
  split
  · rfl
  · simp only [Option.map_some, addr_add]; rfl

theorem s_iaddrM {t el : TypeId} {sz : Nat} (ht : P.underlying t = some (.slice el)) (hs : tSize P el = some sz) {b o len cap : Nat} {i : Int} (h0 : 0 ≤ i) (h1 : i < len) (w : World) :
    (Instr.indexAt t (.slice (some ⟨b, o, none⟩) len cap) (.int .i64 i)).run P w = .ok (.pointer (some ⟨b, o + i.toNat * sz, none⟩)) w := by
  unfold Instr.indexAt
  show ((pure (IntKind.i64, i) : Sem (IntKind × Int)) >>= _).run P w = _
  rw [run_bind_ok (run_pure' _ w)]
  simp only
  rw [run_bind_ok (run_under ht w)]
  simp only
  rw [run_bind_ok (run_pure' _ w), run_bind_ok (run_under ht w)]
  simp only
  rw [if_pos (show 0 ≤ i ∧ i < (len : Int) by omega), run_bind_ok (run_sizeOf hs w), addr_add]
  rfl

theorem s_iaddrA {t el : TypeId} {len sz : Nat} (ht : P.underlying t = some (.array len el)) (hs : tSize P el = some sz) {b o : Nat} {i : Int} (h0 : 0 ≤ i) (h1 : i < len) :
    (Instr.indexAt t (.pointer (some ⟨b, o, none⟩)) (.int .i64 i)).run P w = .ok (.pointer (some ⟨b, o + i.toNat * sz, none⟩)) w := by
  unfold Instr.indexAt
  show ((pure (IntKind.i64, i) : Sem (IntKind × Int)) >>= _).run P w = _
  rw [run_bind_ok (run_pure' _ w)]
  simp only
  rw [run_bind_ok (run_under ht w)]
  simp only
  rw [run_bind_ok (run_sure _ w), run_bind_ok (run_pure' _ w), run_bind_ok (run_under ht w)]
  simp only
  rw [if_pos (show 0 ≤ i ∧ i < (len : Int) from ⟨h0, h1⟩), run_bind_ok (run_sizeOf hs w), addr_add]
  rfl

theorem s_faddr {t : TypeId} {fields : Array Field} {f : Nat} {fd : Field} {sz : Nat} (ht : P.underlying t = some (.struct fields)) (hf : fields[f]? = some fd) (hs : tSize P fd.type = some sz) (h0 : sz ≠ 0) {b o : Nat} :
    (Instr.fieldAt t (.pointer (some ⟨b, o, none⟩)) f).run P w = .ok (.pointer (some ⟨b, o + fd.offset, none⟩)) w := by
  unfold Instr.fieldAt
  rw [run_bind_ok (run_under ht w)]
  simp only
  rw [hf]
  simp only
  rw [run_bind_ok (run_sure _ w)]
  rw [run_bind_ok (s := fieldPlace _ _) (w' := w) (a := ⟨b, o + fd.offset, none⟩) (by
    unfold fieldPlace
    rw [run_bind_ok (run_sizeOf hs w), if_neg h0, addr_add]; rfl)]
  rfl

theorem s_part {m : Mem} {t : TypeId} {sz off : Nat} {g : Bool} (hg : tAgg P t = some g) (hs : tSize P t = some sz) {cs : List PV} {vs : Array Value} (r : RepL m cs vs.toList) {p : PV}
    (h : (if g then (if off + sz ≤ cs.length then some (PV.agg ((cs.drop off).take sz)) else none) else cs[off]?) = some p) :
    ∃ v, (part t vs off).run P w = .ok v w ∧ Rep m p v := by
  have hl := RepL_length r
  simp only [Array.length_toList] at hl
  unfold part
  cases g with
  | true =>
    simp only [if_true] at h
    split at h
    · cases h
      refine ⟨_, by rw [run_bind_ok (run_agg hg w), if_pos rfl, run_bind_ok (run_sizeOf hs w)]; rfl, ?_⟩
      simp only [Rep]
      refine ⟨_, rfl, ?_⟩
      have := RepL_take sz (RepL_drop off r)
      rw [Array.toList_extract, List.extract_eq_take_drop]
      rwa [show off + sz - off = sz by omega]
    · cases h
  | false =>
    simp only [Bool.false_eq_true, if_false] at h
    obtain ⟨v, h1, h2⟩ := RepL_get r h
    refine ⟨v, ?_, h2⟩
    rw [run_bind_ok (run_agg hg w), if_neg (by simp)]
    rw [Array.getElem?_toList] at h1
    rw [h1]; rfl

theorem s_fld {m : Mem} {t : TypeId} {fields : Array Field} {f : Nat} {fd : Field} {sz : Nat} {g : Bool} (ht : P.underlying t = some (.struct fields)) (hf : fields[f]? = some fd) (hg : tAgg P fd.type = some g) (hs : tSize P fd.type = some sz)
    {cs : List PV} {u : Value} (r : Rep m (.agg cs) u) {p : PV} (h : (if g then (if fd.offset + sz ≤ cs.length then some (PV.agg ((cs.drop fd.offset).take sz)) else none) else cs[fd.offset]?) = some p) :
    ∃ v, (Instr.field t u f).run P w = .ok v w ∧ Rep m p v := by
  simp only [Rep] at r
  obtain ⟨vs, rfl, r⟩ := r
  obtain ⟨v, h1, h2⟩ := s_part (w := w) hg hs r h
  refine ⟨v, ?_, h2⟩
  unfold Instr.field
  rw [run_bind_ok (run_under ht w)]
  simp only
  rw [hf]
  simp only
  rw [run_bind_ok (s := asAgg (.agg vs)) (a := vs) (w' := w) rfl]
  exact h1

theorem s_idxA {m : Mem} {t el : TypeId} {len sz : Nat} {g : Bool} (ht : P.underlying t = some (.array len el)) (hg : tAgg P el = some g) (hs : tSize P el = some sz)
    {cs : List PV} {u : Value} (r : Rep m (.agg cs) u) {i : Int} (h0 : 0 ≤ i) (h1 : i < len) {p : PV} (h : (if g then (if i.toNat * sz + sz ≤ cs.length then some (PV.agg ((cs.drop (i.toNat * sz)).take sz)) else none) else cs[i.toNat * sz]?) = some p) :
    ∃ v, (Instr.index t u (.int .i64 i)).run P w = .ok v w ∧ Rep m p v := by
  simp only [Rep] at r
  obtain ⟨vs, rfl, r⟩ := r
  obtain ⟨v, h3, h2⟩ := s_part (w := w) hg hs r h
  refine ⟨v, ?_, h2⟩
  unfold Instr.index
  show ((pure (IntKind.i64, i) : Sem (IntKind × Int)) >>= _).run P w = _
  rw [run_bind_ok (run_pure' _ w)]
  simp only
  rw [run_bind_ok (run_under ht w)]
  simp only
  rw [if_pos ⟨h0, h1⟩, run_bind_ok (run_sizeOf hs w)]
  exact h3
end
end Go.Pv

set_option linter.unusedSimpArgs false
set_option linter.unusedVariables false
namespace Go.Pv
section
variable {P : Program} {w0 w : World} {hw0 hw : Nat → Nat} {H0 H : PH} {lam : Nat → Nat} {L : List (List PV)}

/-! build -/
theorem zipIdx_splice : ∀ (vs : List Value) (cs : Array Value) (off k : Nat),
    ((vs.zipIdx k).foldl (fun cs (x : Value × Nat) => cs.setIfInBounds (off + x.2) x.1) cs).toList = splice cs.toList (off + k) vs
  | [], cs, off, k => by simp [splice]
  | v :: vs, cs, off, k => by
    simp only [List.zipIdx_cons, List.foldl_cons]
    rw [zipIdx_splice vs _ off (k + 1)]
    simp [splice, Nat.add_assoc]

def PartsR (m : Mem) (place : Nat → Option (Nat × Nat)) : List (Nat × Nat × PV) → List (Nat × Value) → Prop
  | [], [] => True
  | a :: as, b :: bs => place b.1 = some (a.1, a.2.1) ∧ Rep m a.2.2 b.2 ∧ PartsR m place as bs
  | _, _ => False

theorem fill_rep {m : Mem} {place : Nat → Option (Nat × Nat)} : ∀ {parts : List (Nat × Value)} {ps : List (Nat × Nat × PV)} {cs : List PV} {us : Array Value} {r : List PV},
    PartsR m place ps parts → RepL m cs us.toList → buildP cs ps = some r →
    ∃ vs, Instr.fill place us parts = some vs ∧ RepL m r vs.toList
  | [], ps, cs, us, r, hf, hc, h => by
    cases ps with
    | cons a as => exact hf.elim
    | nil =>
      simp only [buildP, Option.some.injEq] at h
      subst h
      exact ⟨us, rfl, hc⟩
  | (i, v) :: parts, ps, cs, us, r, hf, hc, h => by
    cases ps with
    | nil => exact hf.elim
    | cons a ps' =>
      obtain ⟨off, sz, p⟩ := a
      obtain ⟨hp, hr, h2⟩ := hf
      simp only [buildP] at h
      split at h
      · rename_i hb
        obtain ⟨hb1, hb2⟩ := hb
        have hcells := Rep_cells hr
        have hl := RepL_length hcells
        have hl2 := RepL_length hc
        simp only [Array.length_toList] at hl hl2
        have hs : RepL m (splice cs off p.cells) ((v.cells.zipIdx.foldl (fun cs (x : Value × Nat) => cs.setIfInBounds (off + x.2) x.1) us).toList) := by
          have := zipIdx_splice v.cells.toList us off 0
          rw [← Array.foldl_toList, Array.toList_zipIdx, this]
          simpa using RepL_splice off hcells hc
        obtain ⟨vs, k1, k2⟩ := fill_rep h2 hs h
        refine ⟨vs, ?_, k2⟩
        simp only [Instr.fill]
        simp only at hp
        rw [hp]
        simp only
        rw [if_neg (by simp; omega)]
        exact k1
      · cases h

def placeOf (f : Field) : Sem (Nat × Nat) := do pure (f.offset, ← sizeOf f.type)

theorem run_mapM_places {fields : Array Field} (h : fields.toList.all (fun f => (tSize P f.type).isSome) = true) (w : World) :
    ∃ places : Array (Nat × Nat), (fields.mapM placeOf).run P w = .ok places w ∧
      ∀ (i : Nat) (f : Field) (s : Nat), fields[i]? = some f → tSize P f.type = some s → places[i]? = some (f.offset, s) := by
  have key : ∀ (l : List Field), l.all (fun (f : Field) => (tSize P f.type).isSome) = true → ∃ pl : List (Nat × Nat), (l.mapM placeOf).run P w = .ok pl w ∧
      ∀ (i : Nat) (f : Field) (s : Nat), l[i]? = some f → tSize P f.type = some s → pl[i]? = some (f.offset, s) := by
    intro l
    induction l with
    | nil => intro _; exact ⟨[], by simp [run_pure'], by simp⟩
    | cons f l ih =>
      intro hl
      simp only [List.all_cons, Bool.and_eq_true] at hl
      obtain ⟨s, hs⟩ := Option.isSome_iff_exists.1 hl.1
      obtain ⟨pl, h1, h2⟩ := ih hl.2
      refine ⟨(f.offset, s) :: pl, ?_, ?_⟩
      · rw [List.mapM_cons]
        rw [run_bind_ok (s := placeOf f) (a := (f.offset, s)) (w' := w) (by unfold placeOf; rw [run_bind_ok (run_sizeOf hs w)]; rfl)]
        rw [run_bind_ok h1]; rfl
      · intro i g s' hg hs'
        cases i with
        | zero => simp at hg; subst hg; rw [hs] at hs'; cases hs'; simp
        | succ i => simpa using h2 i g s' (by simpa using hg) hs'
  obtain ⟨pl, h1, h2⟩ := key fields.toList h
  refine ⟨pl.toArray, ?_, fun i f s hi hs => ?_⟩
  · rw [Array.mapM_eq_mapM_toList]
    show (List.toArray <$> _ : Sem (Array (Nat × Nat))).run P w = _
    rw [map_eq_pure_bind, run_bind_ok h1]
    rfl
  · simpa using h2 i f s (by simpa using hi) hs
end
end Go.Pv

set_option linter.unusedSimpArgs false
set_option linter.unusedVariables false
namespace Go.Pv
section
variable {P : Program} {w0 w : World} {hw0 hw : Nat → Nat} {H0 H : PH} {lam : Nat → Nat} {L : List (List PV)}

theorem parts_rep {m : Mem} {nL n : Nat} {ρ : RO → EV} {a : Operand → Value} (ev : Evals m lam nL n ρ a) {fields : Array Field} {places : Array (Nat × Nat)}
    (hp : ∀ (i : Nat) (f : Field) (s : Nat), fields[i]? = some f → tSize P f.type = some s → places[i]? = some (f.offset, s)) :
    ∀ {parts : List (Nat × Operand)} {rs : List (Nat × Nat × RO)} {ps : List (Nat × Nat × PV)}, rParts P n fields parts = some rs → evParts ρ rs = some ps →
      PartsR m (places[·]?) ps (parts.map fun (i, x) => (i, a x))
  | [], rs, ps, h, k => by
    simp only [rParts, Option.some.injEq] at h; subst h
    simp only [evParts, Option.some.injEq] at k; subst k
    trivial
  | (i, x) :: parts, rs, ps, h, k => by
    simp only [rParts] at h
    split at h
    · rename_i f y ys h1 h2 h3
      simp only [Option.map_eq_some_iff] at h
      obtain ⟨s, hs, rfl⟩ := h
      simp only [evParts] at k
      split at k
      · rename_i p ps' k1 k2
        cases k
        exact ⟨hp i f s h1 hs, ev_v ev h2 k1, parts_rep ev hp h3 k2⟩
      · cases k
    · cases h

theorem partsA_rep {m : Mem} {nL n sz : Nat} {ρ : RO → EV} {a : Operand → Value} (ev : Evals m lam nL n ρ a) :
    ∀ {parts : List (Nat × Operand)} {rs : List (Nat × Nat × RO)} {ps : List (Nat × Nat × PV)}, rPartsA n sz parts = some rs → evParts ρ rs = some ps →
      PartsR m (fun i => some (i * sz, sz)) ps (parts.map fun (i, x) => (i, a x))
  | [], rs, ps, h, k => by
    simp only [rPartsA, Option.some.injEq] at h; subst h
    simp only [evParts, Option.some.injEq] at k; subst k
    trivial
  | (i, x) :: parts, rs, ps, h, k => by
    simp only [rPartsA] at h
    split at h
    · rename_i y ys h2 h3
      cases h
      simp only [evParts] at k
      split at k
      · rename_i p ps' k1 k2
        cases k
        exact ⟨rfl, ev_v ev h2 k1, partsA_rep ev h3 k2⟩
      · cases k
    · cases h

theorem s_buildA {m : Mem} {nL n sz len : Nat} {ρ : RO → EV} {a : Operand → Value} (ev : Evals m lam nL n ρ a) {t el : TypeId} {z : Value} {cs : List PV} {parts : Array (Nat × Operand)}
    (ht : P.underlying t = some (.array len el)) (hs : tSize P el = some sz) (hz : tZero P t = some z) (hc : ofCells z.cells.toList = some cs)
    {rs : List (Nat × Nat × RO)} {ps : List (Nat × Nat × PV)} {r : List PV} (h1 : rPartsA n sz parts.toList = some rs) (h2 : evParts ρ rs = some ps) (h3 : buildP cs ps = some r) (w : World) :
    ∃ v, (Instr.build t (parts.map fun (i, x) => (i, a x))).run P w = .ok v w ∧ Rep m (.agg r) v := by
  have hpr := partsA_rep ev h1 h2
  obtain ⟨vs, hv1, hv2⟩ := fill_rep hpr (RepL_ofCells m _ hc) h3
  refine ⟨.agg vs, ?_, by simp only [Rep]; exact ⟨_, rfl, hv2⟩⟩
  unfold Instr.build
  rw [run_bind_ok (run_zero hz w), run_bind_ok (run_under ht w)]
  simp only
  rw [run_bind_ok (run_sizeOf hs w)]
  rw [Array.toList_map, hv1]
  rfl

theorem s_build {m : Mem} {nL n : Nat} {ρ : RO → EV} {a : Operand → Value} (ev : Evals m lam nL n ρ a) {t : TypeId} {fields : Array Field} {z : Value} {cs : List PV} {parts : Array (Nat × Operand)}
    (ht : P.underlying t = some (.struct fields)) (hf : fields.toList.all (fun (f : Field) => (tSize P f.type).isSome) = true) (hz : tZero P t = some z) (hc : ofCells z.cells.toList = some cs)
    {rs : List (Nat × Nat × RO)} {ps : List (Nat × Nat × PV)} {r : List PV} (h1 : rParts P n fields parts.toList = some rs) (h2 : evParts ρ rs = some ps) (h3 : buildP cs ps = some r) (w : World) :
    ∃ v, (Instr.build t (parts.map fun (i, x) => (i, a x))).run P w = .ok v w ∧ Rep m (.agg r) v := by
  obtain ⟨places, hp1, hp2⟩ := run_mapM_places (P := P) hf w
  have hpr := parts_rep (P := P) ev hp2 h1 h2
  obtain ⟨vs, hv1, hv2⟩ := fill_rep hpr (RepL_ofCells m _ hc) h3
  refine ⟨.agg vs, ?_, by simp only [Rep]; exact ⟨_, rfl, hv2⟩⟩
  unfold Instr.build
  rw [run_bind_ok (run_zero hz w), run_bind_ok (run_under ht w)]
  simp only
  have hp1' : (fields.mapM fun (f : Field) => (do pure (f.offset, ← sizeOf f.type) : Sem (Nat × Nat))).run P w = .ok places w := hp1
  rw [run_bind_ok hp1']
  rw [Array.toList_map, hv1]
  rfl

theorem splice_mid {α : Type} : ∀ (vs pre rest : List α), vs.length ≤ rest.length → splice (pre ++ rest) pre.length vs = pre ++ vs ++ rest.drop vs.length
  | [], pre, rest, _ => by simp [splice]
  | v :: vs, pre, [], h => by simp at h
  | v :: vs, pre, r :: rest, h => by
    have := splice_mid vs (pre ++ [v]) rest (by simpa using h)
    simp only [List.length_append, List.length_singleton] at this
    simp only [splice, List.length_cons, List.drop_succ_cons]
    rw [show (pre ++ r :: rest).set pre.length v = pre ++ [v] ++ rest by simp [List.set_append]]
    rw [this]
    simp

theorem fill_row {sz : Nat} : ∀ (vs : List Value) (k : Nat) (pre rest : List Value), (∀ v ∈ vs, v.cells.size = sz) → pre.length = k * sz → rest.length = vs.length * sz →
    Instr.fill (fun i => some (i * sz, sz)) (pre ++ rest).toArray ((List.range' k vs.length).zip vs) = some (pre ++ vs.flatMap (·.cells.toList)).toArray
  | [], k, pre, rest, _, _, h => by
    have : rest = [] := by simpa using h
    simp [Instr.fill, this]
  | v :: vs, k, pre, rest, h1, h2, h3 => by
    have hv := h1 v (by simp)
    simp only [List.length_cons, Nat.succ_mul] at h3
    simp only [List.length_cons, List.range'_succ, List.zip_cons_cons, Instr.fill]
    rw [if_neg (by simp; omega)]
    have hz : (v.cells.zipIdx.foldl (fun cs (x : Value × Nat) => cs.setIfInBounds (k * sz + x.2) x.1) (pre ++ rest).toArray) = (pre ++ v.cells.toList ++ rest.drop sz).toArray := by
      apply Array.ext'
      have := zipIdx_splice v.cells.toList (pre ++ rest).toArray (k * sz) 0
      rw [← Array.foldl_toList, Array.toList_zipIdx, this, Nat.add_zero, ← h2]
      have := splice_mid v.cells.toList pre rest (by simp; omega)
      simp only [Array.length_toList, hv] at this
      simpa using this
    show Instr.fill _ (v.cells.zipIdx.foldl (fun cs (x : Value × Nat) => cs.setIfInBounds (k * sz + x.2) x.1) (pre ++ rest).toArray) _ = _
    rw [hz, fill_row vs (k + 1) (pre ++ v.cells.toList) (rest.drop sz) (fun u hu => h1 u (by simp [hu])) (by simp [Nat.succ_mul]; omega) (by simp; omega)]
    simp

theorem flat_cells {m : Mem} : ∀ {xs : List PV} {vs : List Value}, RepL m xs vs → RepL m (flat xs) (vs.flatMap (·.cells.toList))
  | [], vs, h => by simp [RepL] at h; subst h; simpa [flat] using RepL_nil
  | x :: xs, vs, h => by
    obtain ⟨v, rest, rfl, h1, h2⟩ := by simpa [RepL] using h
    rw [List.flatMap_cons, flat]
    exact RepL_append (Rep_cells h1) (flat_cells h2)
theorem cells_size {m : Mem} {sz : Nat} : ∀ {xs : List PV} {vs : List Value}, RepL m xs vs → (∀ p ∈ xs, p.cells.length = sz) → ∀ v ∈ vs, v.cells.size = sz
  | [], vs, h, _, v, hv => by simp [RepL] at h; subst h; simp at hv
  | x :: xs, vs, h, k, v, hv => by
    obtain ⟨u, rest, rfl, h1, h2⟩ := by simpa [RepL] using h
    rcases List.mem_cons.1 hv with rfl | hv
    · have := RepL_length (Rep_cells h1)
      rw [k x (by simp)] at this
      simpa using this
    · exact cells_size h2 (fun p hp => k p (by simp [hp])) v hv

theorem run_newRow (el : TypeId) (c : Array Value) (w : World) : (newRow el c).run P w = .ok ⟨w.heap.size, 0, none⟩ (World.push w (.cells c el (0, 0))) := rfl

/-- A list in a row of its own. -/
theorem s_row (s : SimB w0 hw0 H0 w hw lam L H) {el : TypeId} {sz : Nat} {xs : List PV} {vs : List Value} {extra : List Value} (hr : RepL (memOf w hw) (flat xs) vs) (hsz : ∀ p ∈ xs, p.cells.length = sz) (hB : xs.length ≤ lenB)
    (cap : Nat) (hcap : xs.length ≤ cap) (tok : Tok) (htok : RepTok tok (some ⟨w.heap.size, 0, none⟩) xs.length cap) :
    let w' := World.push w (.cells (vs ++ extra).toArray el (0, 0))
    let hw' := updF hw w.heap.size (xs.length * sz)
    SimB w0 hw0 H0 w' hw' lam L H ∧ MLe (memOf w hw) (memOf w' hw') ∧ Rep (memOf w' hw') (.list tok xs) (.slice (some ⟨w.heap.size, 0, none⟩) xs.length cap) ∧
      ObjRep w' hw' w.heap.size (.row (xs.length * sz) (vs ++ extra).length) := by
  intro w' hw'
  have hl := RepL_length hr
  rw [flat_length hsz] at hl
  obtain ⟨h1, h2, h3, h4⟩ := s.wrep.rowNew (vs ++ extra).toArray el (xs.length * sz) (by simp; omega)
  refine ⟨s.step h2 h1, h2.mono, ?_, by simpa using h4⟩
  simp only [Rep]
  refine ⟨_, _, _, sz, rfl, rfl, hcap, hB, htok, fun _ => ⟨_, _, rfl, RepE_of_flat hsz (RepL.mono h2.mono _ hr) fun i v hi => ?_⟩⟩
  rw [Nat.zero_add]
  have hlt : i < vs.length := (List.getElem?_eq_some_iff.1 hi).1
  exact h3 i v (by omega) (by simp only [List.getElem?_toArray]; rw [List.getElem?_append_left hlt]; exact hi)

theorem zip_fst_snd (a : Operand → Value) : ∀ l : List (Nat × Operand), (l.map (·.1)).zip ((l.map (·.2)).map a) = l.map fun (p : Nat × Operand) => (p.1, a p.2)
  | [] => rfl
  | p :: l => by simp only [List.map_cons, List.zip_cons_cons, zip_fst_snd a l]

theorem s_mkslice (s : SimB w0 hw0 H0 w hw lam L H) {nL n : Nat} {ρ : RO → EV} {a : Operand → Value} (ev : Evals (memOf w hw) lam nL n ρ a) {t el : TypeId} {sz len : Nat} {z : Value} {parts : Array (Nat × Operand)}
    (ht : P.underlying t = some (.slice el)) (hs : tSize P el = some sz) (hz : tZero P el = some z) {ys : List RO} {xs : List PV} (h1 : rOs n (parts.toList.map (·.2)) = some ys) (h2 : pvs? (ys.map ρ) = some xs)
    (hr : parts.toList.map (·.1) = List.range len) (hbig : len * sz ≤ 2 ^ 24) (h0 : 0 < sz) (hsz : ∀ p ∈ xs, p.cells.length = sz) (hB : xs.length ≤ lenB) :
    ∃ v w' hw', (Instr.buildSlice t len (parts.map fun (i, x) => (i, a x))).run P w = .ok v w' ∧ SimB w0 hw0 H0 w' hw' lam L H ∧ MLe (memOf w hw) (memOf w' hw') ∧ Rep (memOf w' hw') (.list .full xs) v := by
  have hx := evs_rep ev h1 h2
  have hlen : xs.length = len := by
    have e1 := RepL_length hx
    have e2 : parts.toList.length = len := by have := congrArg List.length hr; simpa using this
    simp only [List.length_map] at e1
    omega
  have hflat := flat_cells hx
  have hsize := cells_size hx hsz
  obtain ⟨k1, k2, k3, _⟩ := s_row (el := el) (extra := []) s hflat hsz hB xs.length (Nat.le_refl _) .full rfl
  refine ⟨_, _, _, ?_, k1, k2, k3⟩
  unfold Instr.buildSlice
  rw [run_bind_ok (run_under ht w)]
  simp only
  rw [run_bind_ok (run_sizeOf hs w), if_neg (by omega)]
  have e2 : parts.toList.length = len := by have := congrArg List.length hr; simpa using this
  have hzip : (List.range' 0 ((parts.toList.map (·.2)).map a).length).zip ((parts.toList.map (·.2)).map a) = (parts.map fun (p : Nat × Operand) => (p.1, a p.2)).toList := by
    rw [← List.range_eq_range']
    simp only [List.length_map]
    rw [e2, ← hr]
    rw [Array.toList_map]
    exact zip_fst_snd a parts.toList
  have key : ∀ Z : Array Value, (match Instr.fill (fun i => some (i * sz, sz)) (Array.map (fun x => Z[x % Z.size]!) (Array.range (len * sz))) (parts.map fun (p : Nat × Operand) => (p.1, a p.2)).toList with
      | some cells => do
        let __do_lift ← newRow el cells
        pure (Value.slice (some __do_lift) len len)
      | x => (stuck "buildSlice: a part of the wrong size" : Sem Value)).run P w = .ok (.slice (some ⟨w.heap.size, 0, none⟩) xs.length xs.length)
        (World.push w (.cells ((List.map a (List.map (fun (x : Nat × Operand) => x.snd) parts.toList)).flatMap (fun (x : Value) => x.cells.toList) ++ []).toArray el (0, 0))) := by
    intro Z
    have hfill := fill_row (sz := sz) ((parts.toList.map (·.2)).map a) 0 [] ((Array.range (len * sz)).map fun x => Z[x % Z.size]!).toList hsize (by simp)
      (by
        simp only [Array.length_toList, Array.size_map, Array.size_range, List.length_map]
        rw [Array.length_toList] at e2
        rw [e2])
    rw [hzip] at hfill
    simp only [List.nil_append, Array.toArray_toList] at hfill
    rw [hfill]
    simp only
    rw [run_bind_ok (run_newRow _ _ w), ← hlen]
    simp only [List.append_nil]
    rfl
  split
  · rw [run_bind_ok (run_pure' _ w)]
    exact key _
  · rw [run_bind_ok (run_zero hz w), run_bind_ok (run_pure' _ w)]
    exact key _
end
end Go.Pv

set_option linter.unusedSimpArgs false
set_option linter.unusedVariables false
namespace Go.Pv
section
variable {P : Program} {w0 w : World} {hw0 hw : Nat → Nat} {H0 H : PH} {lam : Nat → Nat} {L : List (List PV)}

theorem run_firstCells {m : Mem} (hm : ∀ b o v, m b o = some v → w.cell? ⟨b, o, none⟩ = some v) {sz : Nat} {tok : Tok} {xs : List PV} {A : Option Addr} {len cap : Nat} (hr : Rep m (.list tok xs) (.slice A len cap)) (hsz : ∀ p ∈ xs, p.cells.length = sz) :
    ∃ vs, RepL m (flat xs) vs ∧ ∀ w' : World, w'.heap = w.heap → (Builtin.firstCells sz len (.slice A len cap)).run P w' = .ok vs.toArray w' := by
  simp only [Rep] at hr
  obtain ⟨A', len', cap', z, e, hlen, hcap, hB, htok, hrow⟩ := hr
  cases e
  by_cases h0 : len = 0
  · have : xs = [] := List.eq_nil_of_length_eq_zero (by omega)
    subst this
    refine ⟨[], by simpa [flat] using RepL_nil, fun w' _ => ?_⟩
    cases A with
    | none => rfl
    | some b => subst h0; simp only [Builtin.firstCells, Nat.zero_mul]; rfl
  · obtain ⟨b, o, rfl, hE⟩ := hrow h0
    have hz : z = sz := by
      cases xs with
      | nil => simp at hlen; omega
      | cons x xs => rw [RepE_cons] at hE; rw [← hE.1.1]; exact hsz x (by simp)
    subst hz
    obtain ⟨vs, h1, h2⟩ := flat_vals hE
    refine ⟨vs, h1, fun w' e => ?_⟩
    have hl := RepL_length h1
    rw [flat_length hsz] at hl
    simp only [Builtin.firstCells]
    exact run_loadCells vs (by rw [hl, hlen]) fun j v hj => by
      have := hm _ _ _ (h2 j v hj)
      simpa [World.cell?, e] using this

theorem next_le (need cap : Nat) (h : cap < need) : Builtin.nextslicecap need cap ≤ need + need / 4 + 256 := by
  have hg : ∀ (r c : Nat), c < need + need / 4 + 256 → Builtin.growBy need r c ≤ need + need / 4 + 256 := by
    intro r
    induction r with
    | zero => intro c hc; simp only [Builtin.growBy]; omega
    | succ r ih =>
      intro c hc
      simp only [Builtin.growBy]
      split
      · omega
      · exact ih _ (by omega)
  unfold Builtin.nextslicecap
  split
  · omega
  · split
    · omega
    · exact hg _ _ (by omega)

theorem run_choose_cap (need old : Nat) (el : TypeId) (w : World) : ∃ k w', (choose (.appendCap need old el)).run P w = .ok (need + k) w' ∧ w'.heap = w.heap ∧ w'.os = w.os ∧ w'.tape = w.tape ∧ w'.output = w.output := by
  refine ⟨w.tape w.drawn (.appendCap need old el) % (2 ^ 63 - need), { w with drawn := w.drawn + 1 }, ?_, rfl, rfl, rfl, rfl⟩
  simp only [choose, Sem.run, Question.forced, Bool.false_eq_true, if_false, Question.cut]

theorem run_askRoom (n : Nat) (w : World) : (askRoom n).run P w = .ok () w := by
  unfold askRoom
  split <;> rfl

theorem zeroCells_mem {z : Array Value} {n : Nat} {v : Value} (h : v ∈ (Builtin.zeroCells z n).toList) : v ∈ z.toList := by
  simp only [Builtin.zeroCells, Array.toList_map, Array.toList_range, List.mem_map, List.mem_range] at h
  obtain ⟨i, hi, rfl⟩ := h
  have hz : 0 < z.size := by
    rcases Nat.eq_zero_or_pos z.size with h | h
    · rw [h] at hi; omega
    · exact h
  have := Nat.mod_lt i hz
  rw [getElem!_pos z _ this]
  simp
theorem zeroCells_size (z : Array Value) (n : Nat) : (Builtin.zeroCells z n).size = n * z.size := by simp [Builtin.zeroCells]

/-- What an append comes to: in place, or in a new row. -/
theorem run_append {ts tx el e2 : TypeId} {sz by_ : Nat} {z : Value} {A B : Option Addr} {len cap n capB : Nat} {argTypes : Array TypeId} {ty : TypeId}
    (h0 : argTypes[0]? = some ts) (h1 : argTypes[1]? = some tx) (ht : P.underlying ts = some (.slice el)) (hx : P.underlying tx = some (.slice e2)) (hs : tSize P el = some sz) (hb : tBytes P el = some by_) (hz : tZero P el = some z)
    (hok : ((len + n) + (len + n) / 4 + 256) * by_ ≤ 2 ^ 48) (hB : len + n ≤ lenB) {us vs : List Value}
    (hold : ∀ w' : World, w'.heap = w.heap → (Builtin.firstCells sz len (.slice A len cap)).run P w' = .ok us.toArray w') (hnew : ∀ w' : World, w'.heap = w.heap → (Builtin.firstCells sz n (.slice B n capB)).run P w' = .ok vs.toArray w') :
    (len + n ≤ cap → (Builtin.append_ argTypes ty #[.slice A len cap, .slice B n capB]).run P w =
      ((match A with | some a => storeCells (a.add (len * sz)) vs | none => pure ()) >>= fun _ => (pure (.slice A (len + n) cap) : Sem Value)).run P w) ∧
    (cap < len + n → ∃ k w1 extra, w1.heap = w.heap ∧ w1.os = w.os ∧ w1.tape = w.tape ∧ w1.output = w.output ∧ (extra.length = k * z.cells.size ∧ ∀ v ∈ extra, v ∈ z.cells.toList) ∧
      (Builtin.append_ argTypes ty #[.slice A len cap, .slice B n capB]).run P w = .ok (.slice (some ⟨w.heap.size, 0, none⟩) (len + n) (len + n + k)) (World.push w1 (.cells (us ++ vs ++ extra).toArray el (0, 0)))) := by
  obtain ⟨i, hi, hbi⟩ : ∃ i, P.info? el = some i ∧ i.bytes = by_ := by
    simp only [tBytes, Option.map_eq_some_iff] at hb; exact hb
  constructor
  · intro hle
    unfold Builtin.append_
    simp only [h0, h1, List.getElem?_toArray, List.getElem?_cons_zero, List.getElem?_cons_succ]
    rw [run_bind_ok (run_under ht w)]
    simp only
    rw [run_bind_ok (run_sizeOf hs w), run_bind_ok (run_under hx w), run_bind_ok (run_pure' _ w)]
    simp only [Bool.false_eq_true, if_false]
    rw [run_bind_ok (s := Builtin.lenOf (.slice B n capB)) (a := n) (w' := w) rfl]
    rw [if_pos hle]
    simp only [Bool.not_false, if_true]
    rw [run_bind_ok (hnew w rfl)]
    cases A <;> rfl
  · intro hlt
    obtain ⟨k, w1, hc, c1, c2, c3, c4⟩ := run_choose_cap (P := P) (len + n) cap el w
    refine ⟨k, w1, (Builtin.zeroCells z.cells k).toList, c1, c2, c3, c4, ⟨by simpa using zeroCells_size z.cells k, fun v hv => zeroCells_mem hv⟩, ?_⟩
    unfold Builtin.append_
    simp only [h0, h1, List.getElem?_toArray, List.getElem?_cons_zero, List.getElem?_cons_succ]
    rw [run_bind_ok (run_under ht w)]
    simp only
    rw [run_bind_ok (run_sizeOf hs w), run_bind_ok (run_under hx w), run_bind_ok (run_pure' _ w)]
    simp only [Bool.false_eq_true, if_false]
    rw [run_bind_ok (s := Builtin.lenOf (.slice B n capB)) (a := n) (w' := w) rfl]
    rw [if_neg (by omega)]
    rw [run_bind_ok (run_info hi w)]
    rw [if_neg (by
      rintro ⟨h, _⟩
      have : IntKind.i64.max = 9223372036854775807 := by decide
      rw [this] at h
      unfold lenB at hB
      omega)]
    rw [run_bind_ok (run_info hi w)]
    rw [if_neg (by
      have h1 := next_le (len + n) cap hlt
      have h2 := Nat.mul_le_mul_right i.bytes h1
      rw [hbi] at h2 ⊢
      omega)]
    rw [run_bind_ok hc, run_bind_ok (run_info hi w1), run_bind_ok (run_askRoom _ w1), run_bind_ok (hold w1 c1)]
    simp only [Bool.not_false, if_true]
    rw [run_bind_ok (hnew w1 c1), run_bind_ok (run_zero hz w1), run_bind_ok (run_newRow _ _ w1), c1]
    rw [show len + n + k - (len + n) = k by omega]
    simp only [List.append_assoc, run_pure']
    congr 2
    simp
end
end Go.Pv

set_option linter.unusedSimpArgs false
set_option linter.unusedVariables false
namespace Go.Pv
section
variable {P : Program} {w0 w : World} {hw0 hw : Nat → Nat} {H0 H : PH} {lam : Nat → Nat} {L : List (List PV)}

theorem ext_drawn {w' : World} (e : w'.heap = w.heap) (e2 : w'.os = w.os) (e3 : w'.tape = w.tape) (e4 : w'.output = w.output) : ExtF H w hw w' hw H :=
  ⟨e2, e3, e4, by rw [e]; exact Nat.le_refl _, fun b _ _ => ⟨by rw [e], rfl⟩, by rw [memOf_heap e]; exact MLe.refl _, fun _ h => .inl h⟩
theorem SimB.drawn (s : SimB w0 hw0 H0 w hw lam L H) {w' : World} (e : w'.heap = w.heap) (e2 : w'.os = w.os) (e3 : w'.tape = w.tape) (e4 : w'.output = w.output) : SimB w0 hw0 H0 w' hw lam L H :=
  s.step (ext_drawn e e2 e3 e4) (s.wrep.drawn e)

theorem append_hyps {sz : Nat} {tok : Tok} {xs : List PV} {u : Value} (hr : Rep (memOf w hw) (.list tok xs) u) (hsz : ∀ p ∈ xs, p.cells.length = sz) :
    ∃ A len cap us, u = .slice A len cap ∧ len = xs.length ∧ len ≤ cap ∧ RepTok tok A len cap ∧ RepL (memOf w hw) (flat xs) us ∧
      ∀ w' : World, w'.heap = w.heap → (Builtin.firstCells sz len (.slice A len cap)).run P w' = .ok us.toArray w' := by
  have hr0 := hr
  simp only [Rep] at hr
  obtain ⟨A, len, cap, z, rfl, hlen, hcap, hB, htok, hrow⟩ := hr
  obtain ⟨us, h1, h2⟩ := run_firstCells (P := P) (w := w) (fun _ _ _ h => memOf_cell h) hr0 hsz
  exact ⟨A, len, cap, us, rfl, hlen, hcap, htok, h1, h2⟩

theorem flat_append : ∀ xs ys : List PV, flat (xs ++ ys) = flat xs ++ flat ys
  | [], ys => rfl
  | x :: xs, ys => by simp [flat, flat_append xs ys]

/-- An append that makes a new row. -/
theorem s_append_new (s : SimB w0 hw0 H0 w hw lam L H) {ts tx el e2 ty : TypeId} {sz by_ : Nat} {z : Value} {argTypes : Array TypeId}
    (h0 : argTypes[0]? = some ts) (h1 : argTypes[1]? = some tx) (ht : P.underlying ts = some (.slice el)) (hx : P.underlying tx = some (.slice e2)) (hs : tSize P el = some sz) (hb : tBytes P el = some by_) (hz : tZero P el = some z) (hzs : z.cells.size = sz)
    {t1 t2 : Tok} {xs ys : List PV} {A B : Option Addr} {len cap n capB : Nat} (hxs : ∀ p ∈ xs, p.cells.length = sz) (hys : ∀ p ∈ ys, p.cells.length = sz)
    (r1 : Rep (memOf w hw) (.list t1 xs) (.slice A len cap)) (r2 : Rep (memOf w hw) (.list t2 ys) (.slice B n capB))
    (hok : rowBytesOk (xs.length + ys.length) by_) (hB : xs.length + ys.length ≤ lenB) (hlt : cap < len + n) :
    ∃ w1 cap' c,
      let w' := World.push w1 (.cells c el (0, 0))
      let hw' := updF hw w.heap.size ((xs.length + ys.length) * sz)
      w1.heap = w.heap ∧ (Builtin.append_ argTypes ty #[.slice A len cap, .slice B n capB]).run P w = .ok (.slice (some ⟨w.heap.size, 0, none⟩) (len + n) cap') w' ∧ SimB w0 hw0 H0 w' hw' lam L H ∧ MLe (memOf w hw) (memOf w' hw') ∧
      xs.length + ys.length ≤ cap' ∧ cap' * sz ≤ c.size ∧
      (∀ tok, RepTok tok (some ⟨w.heap.size, 0, none⟩) (xs.length + ys.length) cap' → Rep (memOf w' hw') (.list tok (xs ++ ys)) (.slice (some ⟨w.heap.size, 0, none⟩) (len + n) cap')) ∧
      ObjRep w' hw' w.heap.size (.row ((xs.length + ys.length) * sz) c.size) := by
  obtain ⟨A', len', cap', us, e1, l1, _, _, ru, hu⟩ := append_hyps (P := P) r1 hxs
  cases e1
  obtain ⟨B', n', capB', vs, e1, l2, _, _, rv, hv⟩ := append_hyps (P := P) r2 hys
  cases e1
  have hok' : ((len + n) + (len + n) / 4 + 256) * by_ ≤ 2 ^ 48 := by rw [l1, l2]; exact hok
  obtain ⟨k, w1, extra, c1, c2, c3, c4, ⟨c5, _⟩, hrun⟩ := (run_append (P := P) (w := w) (ty := ty) h0 h1 ht hx hs hb hz hok' (by omega) hu hv).2 hlt
  have s1 := s.drawn c1 c2 c3 c4
  have rf : RepL (memOf w1 hw) (flat (xs ++ ys)) (us ++ vs) := by
    rw [memOf_heap c1, flat_append]; exact RepL_append ru rv
  have hall : ∀ p ∈ xs ++ ys, p.cells.length = sz := fun p hp => by
    rcases List.mem_append.1 hp with h | h
    · exact hxs p h
    · exact hys p h
  have key := fun tok htok => s_row (el := el) (extra := extra) s1 rf hall (by simpa using hB) (len + n + k) (by simp; omega) tok htok
  have e4 : (xs ++ ys).length = xs.length + ys.length := by simp
  rw [c1, e4] at key
  obtain ⟨k1, k2, _, k4⟩ := key .foreign trivial
  rw [memOf_heap c1] at k2
  refine ⟨w1, len + n + k, _, c1, hrun, k1, k2, by omega, ?_, fun tok htok => ?_, by simpa using k4⟩
  · have e5 := RepL_length rf
    rw [flat_length hall, e4] at e5
    simp only [List.size_toArray, List.length_append, c5, hzs] at e5 ⊢
    rw [e5, l1, l2, ← Nat.add_mul]
    exact Nat.le_refl _
  · have := (key tok htok).2.2.1
    rw [l1, l2] at *
    exact this

/-- An append to a slice that is full. -/
theorem s_append_full (s : SimB w0 hw0 H0 w hw lam L H) {ts tx el e2 ty : TypeId} {sz by_ : Nat} {z : Value} {argTypes : Array TypeId}
    (h0 : argTypes[0]? = some ts) (h1 : argTypes[1]? = some tx) (ht : P.underlying ts = some (.slice el)) (hx : P.underlying tx = some (.slice e2)) (hs : tSize P el = some sz) (hb : tBytes P el = some by_) (hz : tZero P el = some z) (hzs : z.cells.size = sz)
    {t2 : Tok} {xs ys : List PV} {u1 u2 : Value} (hxs : ∀ p ∈ xs, p.cells.length = sz) (hys : ∀ p ∈ ys, p.cells.length = sz)
    (r1 : Rep (memOf w hw) (.list .full xs) u1) (r2 : Rep (memOf w hw) (.list t2 ys) u2)
    (hok : rowBytesOk (xs.length + ys.length) by_) (hB : xs.length + ys.length ≤ lenB) :
    Done P w0 hw0 H0 w hw lam L H (Builtin.append_ argTypes ty #[u1, u2]) (.v (.list (if ys.isEmpty = true then .full else .foreign) (xs ++ ys))) := by
  obtain ⟨A, len, cap, us, rfl, l1, _, htok, ru, hu⟩ := append_hyps (P := P) r1 hxs
  obtain ⟨B, n, capB, vs, rfl, l2, _, _, rv, hv⟩ := append_hyps (P := P) r2 hys
  simp only [RepTok] at htok
  by_cases hlt : cap < len + n
  · obtain ⟨w1, cap', c, h2, h3, h4, h5, h6, h7, h8, h9⟩ := s_append_new s (ty := ty) h0 h1 ht hx hs hb hz hzs hxs hys r1 r2 hok hB hlt
    have hys1 : ys.isEmpty = false := by
      cases ys with
      | nil => simp only [List.length_nil] at l2; omega
      | cons => rfl
    rw [hys1]
    exact ⟨_, _, _, h3, h4, h5, h8 .foreign trivial⟩
  · have hn : n = 0 := by omega
    have hys0 : ys = [] := List.eq_nil_of_length_eq_zero (by omega)
    subst hys0
    have hvs : vs = [] := by simpa [flat, RepL] using rv
    subst hvs
    have hok' : ((len + n) + (len + n) / 4 + 256) * by_ ≤ 2 ^ 48 := by rw [l1, l2]; exact hok
    have := (run_append (P := P) (w := w) (ty := ty) h0 h1 ht hx hs hb hz hok' (by omega) hu hv).1 (by omega)
    refine Done.stay s (v := .slice A (len + n) cap) ?_ ?_
    · rw [this]
      cases A with
      | none => rfl
      | some a => simp only [storeCells]; rfl
    · simp only [RepEV, Rep, List.append_nil] at r1 ⊢
      obtain ⟨A', len', cap', z', e, k1, k2, k3, k4, k5⟩ := r1
      cases e
      exact ⟨A, len + n, cap, z', rfl, by omega, by omega, by omega, show cap = len + n by omega, fun h => k5 (by omega)⟩

/-- An append of nothing. -/
theorem s_append_nil (s : SimB w0 hw0 H0 w hw lam L H) {ts tx el e2 ty : TypeId} {sz by_ : Nat} {z : Value} {argTypes : Array TypeId}
    (h0 : argTypes[0]? = some ts) (h1 : argTypes[1]? = some tx) (ht : P.underlying ts = some (.slice el)) (hx : P.underlying tx = some (.slice e2)) (hs : tSize P el = some sz) (hb : tBytes P el = some by_) (hz : tZero P el = some z) (hzs : z.cells.size = sz)
    {tok t2 : Tok} {xs : List PV} {u1 u2 : Value} (hxs : ∀ p ∈ xs, p.cells.length = sz)
    (r1 : Rep (memOf w hw) (.list tok xs) u1) (r2 : Rep (memOf w hw) (.list t2 []) u2)
    (hok : rowBytesOk (xs.length + 0) by_) (hB : xs.length + 0 ≤ lenB) :
    Done P w0 hw0 H0 w hw lam L H (Builtin.append_ argTypes ty #[u1, u2]) (.v (.list tok xs)) := by
  obtain ⟨A, len, cap, us, rfl, l1, lc, htok, ru, hu⟩ := append_hyps (P := P) r1 hxs
  obtain ⟨B, n, capB, vs, rfl, l2, _, _, rv, hv⟩ := append_hyps (P := P) (sz := sz) (xs := []) r2 (by simp)
  simp only [List.length_nil] at l2
  subst l2
  have hvs : vs = [] := by simpa [flat, RepL] using rv
  subst hvs
  have hok' : ((len + 0) + (len + 0) / 4 + 256) * by_ ≤ 2 ^ 48 := by rw [l1]; exact hok
  have := (run_append (P := P) (w := w) (ty := ty) h0 h1 ht hx hs hb hz hok' (by omega) hu hv).1 (by omega)
  refine Done.stay s (v := .slice A (len + 0) cap) ?_ ?_
  · rw [this]
    cases A with
    | none => rfl
    | some a => simp only [storeCells]; rfl
  · exact r1

/-- An append, in place or not, to a slice that may be appended to again. -/
theorem s_append_own (s : SimB w0 hw0 H0 w hw lam L H) {ts tx el e2 ty : TypeId} {sz by_ : Nat} {z : Value} {argTypes : Array TypeId}
    (h0 : argTypes[0]? = some ts) (h1 : argTypes[1]? = some tx) (ht : P.underlying ts = some (.slice el)) (hx : P.underlying tx = some (.slice e2)) (hs : tSize P el = some sz) (hb : tBytes P el = some by_) (hz : tZero P el = some z) (hzs : z.cells.size = sz)
    {tok t2 : Tok} {xs ys : List PV} {u1 u2 : Value} (hxs : ∀ p ∈ xs, p.cells.length = sz) (hys : ∀ p ∈ ys, p.cells.length = sz)
    (r1 : Rep (memOf w hw) (.list tok xs) u1) (r2 : Rep (memOf w hw) (.list t2 ys) u2)
    (hok : rowBytesOk (xs.length + ys.length) by_) (hB : xs.length + ys.length ≤ lenB) (hne : ys ≠ []) (hcell : ∀ p ∈ ys, p.cells.all cellP = true)
    {ob : Option Nat} (htk : (tok = .full ∧ ob = none) ∨ ∃ b e t, tok = .own b e t sz ∧ H.get b = some (.row e t) ∧ ob = some b) :
    ∃ b tot v w' hw', (some b = ob ∨ H.get b = none) ∧ (Builtin.append_ argTypes ty #[u1, u2]).run P w = .ok v w' ∧
      SimB w0 hw0 H0 w' hw' lam L (H.set b (.row ((xs.length + ys.length) * sz) tot)) ∧ MLe (memOf w hw) (memOf w' hw') ∧ Rep (memOf w' hw') (.list (.own b ((xs.length + ys.length) * sz) tot sz) (xs ++ ys)) v := by
  obtain ⟨A, len, cap, us, rfl, l1, lc, htok, ru, hu⟩ := append_hyps (P := P) r1 hxs
  obtain ⟨B, n, capB, vs, rfl, l2, _, _, rv, hv⟩ := append_hyps (P := P) r2 hys
  have hn0 : n ≠ 0 := by
    intro h; exact hne (List.eq_nil_of_length_eq_zero (by omega))
  by_cases hlt : cap < len + n
  · obtain ⟨w1, cap', c, h2, h3, h4, h5, h6, h7, h8, h9⟩ := s_append_new s (ty := ty) h0 h1 ht hx hs hb hz hzs hxs hys r1 r2 hok hB hlt
    have hfree : H.get w.heap.size = none := s.wrep.get_size (Nat.le_refl _)
    refine ⟨w.heap.size, c.size, _, _, _, .inr hfree, h3, ?_, h5, h8 _ ⟨rfl, rfl, h7⟩⟩
    have hloc : ∀ i, i < L.length → lam i < w.heap.size := fun i hi => (s.loc (List.getElem?_eq_getElem hi)).lt
    refine ⟨⟨h4.ext.os, h4.ext.tape, h4.ext.output, h4.ext.size, h4.ext.frame, h4.ext.mono, fun b hb => ?_⟩, ⟨h4.rep.fin, fun b o hb => ?_⟩, fun b hb => ?_, h4.inj, h4.new⟩
    · rw [PH.get_set] at hb
      split at hb
      · rename_i e; exact .inr (by rw [e]; exact s.ext.size)
      · exact h4.ext.dom b hb
    · rw [PH.get_append, PH.get_set] at hb
      by_cases e : b = w.heap.size
      · subst e
        have hnL : (locs lam 0 L).get w.heap.size = none := locs_get_none fun j _ h2 e => by have := hloc j (by omega); omega
        rw [hnL, if_pos rfl] at hb
        simp only [Option.none_or, Option.some.injEq] at hb
        subst hb
        exact h9
      · rw [if_neg e] at hb
        exact h4.rep.obj b o (by rw [PH.get_append]; exact hb)
    · rw [PH.get_set]
      obtain ⟨j, _, hj, hje⟩ := locs_get_some hb
      have := hloc j (by omega)
      rw [if_neg (by omega)]
      exact h4.dis b hb
  · have hok' : ((len + n) + (len + n) / 4 + 256) * by_ ≤ 2 ^ 48 := by rw [l1, l2]; exact hok
    have hrun := (run_append (P := P) (w := w) (ty := ty) h0 h1 ht hx hs hb hz hok' (by omega) hu hv).1 (by omega)
    rcases htk with ⟨rfl, _⟩ | ⟨b, e, t, rfl, hb', rfl⟩
    · simp only [RepTok] at htok; omega
    · simp only [RepTok] at htok
      obtain ⟨rfl, rfl, hct⟩ := htok
      have ho := s.heap hb'
      obtain ⟨ho1, ho2, c, el2, ho3, ho4⟩ := ho
      have lvs : vs.length = n * sz := by have := RepL_length rv; rw [flat_length hys, ← l2] at this; exact this
      have hvok : vs.all cellOk = true := by
        refine cellsOk_of (m := memOf w hw) (ps := flat ys) ?_ rv
        clear rv hrun hv r2 hne hys hok hB l2
        induction ys with
        | nil => rfl
        | cons y ys ih =>
          rw [flat, List.all_append, hcell y (by simp), Bool.true_and]
          exact ih (fun p hp => hcell p (by simp [hp]))
      have hcap : (len + n) * sz ≤ t := Nat.le_trans (Nat.mul_le_mul_right _ (by omega)) hct
      rw [Nat.add_mul] at hcap
      obtain ⟨w', q1, q2, q3, q4, q5, q6, q7⟩ := run_storeCells (P := P) vs w (len * sz) 0 c ho3 (by omega) hvok
      have hg := s.wrep.grown (k := n * sz) hb' q2 q3 q4 q5 q6 q7 (by simp [splice_length]; omega) hcap (fun o ho => by
        rw [cell_of_block ho3]
        simp only [List.getElem?_toArray, Nat.add_zero]
        rw [splice_other _ _ _ _ (.inl ho)]
        simp)
      obtain ⟨g1, g2, g3⟩ := hg
      rw [← Nat.add_mul] at g1 g2 g3
      refine ⟨b, t, .slice (some ⟨b, 0, none⟩) (len + n) cap, w', _, .inl rfl, ?_, ?_, g2.mono, ?_⟩
      · rw [hrun]
        simp only
        rw [addr_add, Nat.zero_add, run_bind_ok q1]
        rfl
      · rw [← l1, ← l2]
        exact s.step g2 g1
      · rw [← l1, ← l2]
        simp only [Rep] at r1 ⊢
        obtain ⟨A', len', cap', z', e, k1, k2, k3, k4, k5⟩ := r1
        cases e
        refine ⟨_, _, _, sz, rfl, by simp; omega, by omega, by omega, ⟨rfl, rfl, hct⟩, fun _ => ⟨b, 0, rfl, RepE_append ?_ ?_⟩⟩
        · by_cases hl0 : len = 0
          · have : xs = [] := List.eq_nil_of_length_eq_zero (by omega)
            subst this; simp [RepE]
          · obtain ⟨b2, o2, e, hE⟩ := k5 hl0
            cases e
            have hz' : z' = sz := by
              cases xs with
              | nil => simp at k1; omega
              | cons x xs => rw [RepE_cons] at hE; rw [← hE.1.1]; exact hxs x (by simp)
            subst hz'
            exact RepE.mono g2.mono _ hE
        · refine RepE_of_flat hys (RepL.mono g2.mono _ rv) fun i v hi => ?_
          have hlt2 : i < vs.length := (List.getElem?_eq_some_iff.1 hi).1
          rw [Nat.zero_add, ← k1]
          refine g3 i v (by omega) ?_
          simp only [List.getElem?_toArray, Nat.add_zero]
          have lc2 : c.toList.length = t := by simpa using ho4
          rw [splice_in _ _ _ _ (by omega) hlt2]
          exact hi
end
end Go.Pv

set_option linter.unusedSimpArgs false
set_option linter.unusedVariables false
namespace Go.Pv
section
variable {P : Program} {w0 w : World} {hw0 hw : Nat → Nat} {H0 H : PH} {lam : Nat → Nat} {L : List (List PV)}

def NextOk (w0 : World) (hw0 : Nat → Nat) (H0 : PH) (w : World) (hw : Nat → Nat) (lam : Nat → Nat) (L : List (List PV)) (k : EV → List (List PV) → PH → Prop) (put : Value → Act) (next : Act → World → Prop) : Prop :=
  ∀ e L' H' v w' hw' lam', k e L' H' → SimB w0 hw0 H0 w' hw' lam' L' H' → MLe (memOf w hw) (memOf w' hw') → (∀ i, i < L.length → lam' i = lam i) → L.length ≤ L'.length →
    RepEV (memOf w' hw') lam' L'.length e v → next (put v) w'

theorem run_v {x : Sem Value} {v : Value} {w' : World} (h : x.run P w = .ok v w') : ((do pure (Next.value (← x)) : Sem Next)).run P w = .ok (.value v) w' := by
  rw [run_bind_ok h]; rfl

theorem invoke_builtin (ρ : Operand → Value) (dst : Option Nat) (type : TypeId) (pos : String) (after : Array Edge) (guard : Option (Nat × Bool)) (b : Builtin) (args : Array Operand) (ts : Array TypeId) :
    execOp ρ ⟨dst, .call ⟨.builtin b, args, ts⟩, type, pos, after, guard⟩ = builtin b ts type (args.map fun | .const _ => true | _ => false) (args.map ρ) := rfl
theorem invoke_func (ρ : Operand → Value) (dst : Option Nat) (type : TypeId) (pos : String) (after : Array Edge) (guard : Option (Nat × Bool)) (f : FuncId) (args : Array Operand) (ts : Array TypeId) (hρ : ρ (.func f) = .func (.func f) #[] #[]) :
    execOp ρ ⟨dst, .call ⟨.value (.func f), args, ts⟩, type, pos, after, guard⟩ = callFunc f (args.map ρ) := by
  show (do let d ← Deferred.ofValue (ρ (.func f)) (args.map ρ); invoke d.target d.args : Sem Next) = _
  rw [hρ]
  show callFunc f ((#[] ++ args.map ρ) ++ #[]) = _
  simp

theorem call_val {c : Call} {r : ROp} {n : Nat} {a : Act} {ρ : RO → EV} {pf : FuncId → Bool} {hp kp : Bool} {dst : Option Nat} {type : TypeId} {pos : String} {after : Array Edge} {guard : Option (Nat × Bool)}
    (hr : rCall P pf n hp kp c type = some r) (s : SimB w0 hw0 H0 w hw lam L H) (ev : Evals (memOf w hw) lam L.length n ρ a.eval)
    {e : EV} (h : opVal P r ρ L H = some e) :
    ∃ v w' hw', (execOp a.eval ⟨dst, .call c, type, pos, after, guard⟩).run P w = .ok (.value v) w' ∧ SimB w0 hw0 H0 w' hw' lam L H ∧ MLe (memOf w hw) (memOf w' hw') ∧ RepEV (memOf w' hw') lam L.length e v := by
  obtain ⟨callee, args, ts⟩ := c
  have biv : ∀ (b : Builtin) (xs : List RO), (b = .min ∨ b = .max ∨ b = .real ∨ b = .imag ∨ b = .complex ∨ b = .len) → callee = .builtin b → rOs n args.toList = some xs → r = .bi b ts type xs →
      ∃ v w' hw', (execOp a.eval ⟨dst, .call ⟨callee, args, ts⟩, type, pos, after, guard⟩).run P w = .ok (.value v) w' ∧ SimB w0 hw0 H0 w' hw' lam L H ∧ MLe (memOf w hw) (memOf w' hw') ∧ RepEV (memOf w' hw') lam L.length e v := by
    rintro b xs hb rfl hxs rfl
    simp only [opVal, Option.bind_eq_some_iff] at h
    obtain ⟨ps, hps, vs, hvs, h⟩ := h
    split at h
    · rename_i u hu
      split at h
      · rename_i hat
        cases h
        refine ⟨u, w, hw, ?_, s, MLe.refl _, rep_scal (m := memOf w hw) hat⟩
        have hev := valsA_rep hvs (evs_rep ev hxs hps)
        rw [invoke_builtin]
        have hc : builtin b ts type (args.map fun | .const _ => true | _ => false) (args.map a.eval) = builtin b ts type #[] vs.toArray := by
          have : args.map a.eval = vs.toArray := by rw [← hev]; apply Array.ext'; simp
          rw [this]
          rcases hb with rfl | rfl | rfl | rfl | rfl | rfl <;> rfl
        rw [hc]
        exact pureP_run hu w
      · cases h
    · cases h
  unfold rCall at hr
  simp only at hr
  split at hr
  · rename_i f
    split at hr
    · rename_i fn hf
      simp only [Option.map_eq_some_iff] at hr
      obtain ⟨xs, hxs, rfl⟩ := hr
      cases hbody : fn.body.isSome with
      | true => rw [hbody] at h; simp only [if_true] at h; split at h <;> simp [opVal] at h
      | false =>
        rw [hbody] at h
        simp only [Bool.false_eq_true, if_false, opVal, Option.bind_eq_some_iff] at h
        obtain ⟨ps, hps, vs, hvs, h⟩ := h
        split at h
        · rename_i u hu
          split at h
          · rename_i hat
            cases h
            refine ⟨u, w, hw, ?_, s, MLe.refl _, rep_scal (m := memOf w hw) hat⟩
            have hev := valsA_rep hvs (evs_rep ev hxs hps)
            rw [invoke_func _ _ _ _ _ _ _ _ _ rfl]
            have : args.map a.eval = vs.toArray := by rw [← hev]; apply Array.ext'; simp
            rw [this]
            exact pureP_run hu w
          · cases h
        · cases h
    · cases hr
  · simp only [Option.bind_eq_some_iff, Option.map_eq_some_iff] at hr
    obtain ⟨_, _, _, _, rfl⟩ := hr
    split at h <;> simp [opVal] at h
  · split at hr
    · rename_i x hargs
      simp only [Option.bind_eq_some_iff] at hr
      obtain ⟨t, ht, y, hy, hr⟩ := hr
      split at hr
      · rename_i el hu
        cases hr
        simp only [opVal] at h
        split at h
        · rename_i tok xs e1
          cases h
          have r := ev_v ev hy e1
          have r0 := r
          simp only [Rep] at r
          obtain ⟨A, len, cap, z, r1, r2, _⟩ := r
          refine ⟨.int .i64 xs.length, w, hw, ?_, s, MLe.refl _, by simp [RepEV, Rep, atomB]⟩
          rw [invoke_builtin]
          have ha : args.map a.eval = #[.slice A len cap] := by
            apply Array.ext'
            simp [hargs, r1]
          show (do pure (Next.value (← Builtin.len_ ts type (args.map a.eval))) : Sem Next).run P w = _
          rw [ha]
          refine run_v ?_
          unfold Builtin.len_
          simp only [ht, List.getElem?_toArray, List.getElem?_cons_zero]
          rw [run_bind_ok (run_under hu w), ← r2]
          rfl
        · cases h
      · cases hr
        exact biv .len [y] (by simp) rfl (by simp [hargs, rOs, hy]) rfl
      · cases hr
    · cases hr
  · split at hr
    · rename_i x y hargs
      simp only [Option.bind_eq_some_iff] at hr
      obtain ⟨t, ht, u, hu, xa, hx, ya, hy, hr⟩ := hr
      split at hr
      · rename_i el e2 hut huu
        simp only [Option.bind_eq_some_iff] at hr
        obtain ⟨sz, hs, by_, hb, z, hz, hr⟩ := hr
        split at hr
        · rename_i hzs
          cases hr
          cases kp with
          | true => simp [opVal] at h
          | false =>
            simp only [opVal] at h
            split at h
            · rename_i tok xs tok2 ys e1 e2'
              split at h
              · rename_i hc
                obtain ⟨hc1, hc2, hc3, hc4⟩ := hc
                split at h
                · cases h
                  have r1 := asList_rep e1 (ev _ _ hx)
                  have r2 := asList_rep e2' (ev _ _ hy)
                  obtain ⟨v, w', hw', h1, h2, h3, h4⟩ := s_append_full s (ty := type) ht hu hut huu hs hb hz hzs hc1 hc2 r1 r2 hc3 hc4
                  refine ⟨v, w', hw', ?_, h2, h3, h4⟩
                  rw [invoke_builtin]
                  have ha : args.map a.eval = #[a.eval x, a.eval y] := by
                    apply Array.ext'
                    simp [hargs]
                  show (do pure (Next.value (← Builtin.append_ ts type (args.map a.eval))) : Sem Next).run P w = _
                  rw [ha]
                  exact run_v h1
                · cases h
              · cases h
            · cases h
        · cases hr
      · cases hr
    · cases hr
  · rename_i b hb1 hb2
    split at hr
    · rename_i hm
      simp only [Option.map_eq_some_iff] at hr
      obtain ⟨xs, hxs, rfl⟩ := hr
      refine biv b xs ?_ rfl hxs rfl
      cases b <;> simp [plainB] at hm <;> simp
    · cases hr
  · cases hr

/-- The value of an operation, where the operation is one that turns nothing. -/
theorem val_sound {o : Oper} {r : ROp} {n : Nat} {a : Act} {ρ : RO → EV} {pf : FuncId → Bool} {hp kp : Bool} (hr : resolveOp1 P pf n hp kp o.type o.op = some r) (s : SimB w0 hw0 H0 w hw lam L H) (ev : Evals (memOf w hw) lam L.length n ρ a.eval)
    {e : EV} (h : opVal P r ρ L H = some e) :
    ∃ v w' hw', (execOp a.eval o).run P w = .ok (.value v) w' ∧ SimB w0 hw0 H0 w' hw' lam L H ∧ MLe (memOf w hw) (memOf w' hw') ∧ RepEV (memOf w' hw') lam L.length e v := by
  have fin : ∀ {x : Sem Value}, execOp a.eval o = (do pure (Next.value (← x))) → Done P w0 hw0 H0 w hw lam L H x e →
      ∃ v w' hw', (execOp a.eval o).run P w = .ok (.value v) w' ∧ SimB w0 hw0 H0 w' hw' lam L H ∧ MLe (memOf w hw) (memOf w' hw') ∧ RepEV (memOf w' hw') lam L.length e v := by
    rintro x hx ⟨v, w', hw', h1, h2, h3, h4⟩
    exact ⟨v, w', hw', by rw [hx, run_v h1], h2, h3, h4⟩
  obtain ⟨dst, op, type, pos, after, guard⟩ := o
  simp only at hr fin ⊢
  cases op with
  | move x =>
    simp only [resolveOp1, Option.map_eq_some_iff] at hr
    obtain ⟨y, h1, rfl⟩ := hr
    simp only [opVal, Option.some.injEq] at h
    subst h
    exact ⟨_, w, hw, rfl, s, MLe.refl _, ev x y h1⟩
  | assign x =>
    simp only [resolveOp1, Option.map_eq_some_iff] at hr
    obtain ⟨y, h1, rfl⟩ := hr
    simp only [opVal, Option.some.injEq] at h
    subst h
    exact ⟨_, w, hw, rfl, s, MLe.refl _, ev x y h1⟩
  | pick c x y =>
    simp only [resolveOp1, Option.bind_eq_some_iff, Option.map_eq_some_iff] at hr
    obtain ⟨_, _, _, _, _, _, rfl⟩ := hr
    simp [opVal] at h
  | alloc t =>
    simp only [resolveOp1, Option.bind_eq_some_iff, Option.map_eq_some_iff] at hr
    obtain ⟨_, _, _, _, rfl⟩ := hr
    cases hp <;> simp [opVal] at h
  | box t x =>
    simp only [resolveOp1, Option.map_eq_some_iff] at hr
    obtain ⟨_, _, rfl⟩ := hr
    cases hp <;> simp [opVal] at h
  | build t parts =>
    simp only [resolveOp1] at hr
    split at hr
    · rename_i fields ht
      split at hr
      · rename_i hf
        simp only [Option.bind_eq_some_iff, Option.map_eq_some_iff] at hr
        obtain ⟨z, hz, cs, hc, ps, hps, rfl⟩ := hr
        simp only [opVal, Option.bind_eq_some_iff, Option.map_eq_some_iff] at h
        obtain ⟨qs, hq, r, hb, rfl⟩ := h
        obtain ⟨v, h1, h2⟩ := s_build ev ht hf hz hc hps hq hb w
        exact fin rfl (.stay s h1 h2)
      · cases hr
    · rename_i len el ht
      simp only [Option.bind_eq_some_iff, Option.map_eq_some_iff] at hr
      obtain ⟨sz, hs, z, hz, cs, hc, ps, hps, rfl⟩ := hr
      simp only [opVal, Option.bind_eq_some_iff, Option.map_eq_some_iff] at h
      obtain ⟨qs, hq, r, hb, rfl⟩ := h
      obtain ⟨v, h1, h2⟩ := s_buildA ev ht hs hz hc hps hq hb w
      exact fin rfl (.stay s h1 h2)
    · cases hr
  | buildSlice t len parts =>
    simp only [resolveOp1] at hr
    split at hr
    · rename_i el ht
      simp only [Option.bind_eq_some_iff] at hr
      obtain ⟨sz, hs, z, hz, xs, hxs, hr⟩ := hr
      split at hr
      · rename_i hb
        cases hr
        simp only [opVal, Option.bind_eq_some_iff] at h
        obtain ⟨ps, hps, h⟩ := h
        split at h
        · rename_i hsz
          cases h
          obtain ⟨v, w', hw', h1, h2, h3, h4⟩ := s_mkslice s ev ht hs hz hxs hps hb.1 hb.2.1 hb.2.2 hsz.1 hsz.2
          exact fin rfl ⟨v, w', hw', h1, h2, h3, h4⟩
        · cases h
      · cases hr
    · cases hr
  | load t x =>
    simp only [resolveOp1, Option.bind_eq_some_iff, Option.map_eq_some_iff] at hr
    obtain ⟨y, hy, g, hg, sz, hs, rfl⟩ := hr
    cases g with
    | true =>
      simp only [if_true, opVal, Option.bind_eq_some_iff] at h
      obtain ⟨cs, hc, h⟩ := h
      split at h
      · rename_i hle
        cases h
        obtain ⟨v, h1, h2⟩ := s_loadA (P := P) s hc hle (ev x y hy) hg hs
        exact fin rfl (.stay s h1 h2)
      · cases h
    | false =>
      simp only [Bool.false_eq_true, if_false, opVal, Option.bind_eq_some_iff, Option.map_eq_some_iff] at h
      obtain ⟨cs, hc, p, hp, rfl⟩ := h
      obtain ⟨v, h1, h2⟩ := s_load1 (P := P) s hc hp (ev x y hy) hg
      exact fin rfl (.stay s h1 h2)
  | store t x v =>
    simp only [resolveOp1, Option.bind_eq_some_iff, Option.map_eq_some_iff] at hr
    obtain ⟨_, _, _, _, _, _, rfl⟩ := hr
    simp [opVal] at h
  | nilCheck x =>
    simp only [resolveOp1, Option.map_eq_some_iff] at hr
    obtain ⟨y, hy, rfl⟩ := hr
    have r := ev x y hy
    simp only [opVal] at h
    split at h
    · rename_i e1
      cases h
      rw [e1] at r
      obtain ⟨r1, r2⟩ := r
      refine ⟨_, w, hw, ?_, s, MLe.refl _, ⟨r1, r2⟩⟩
      simp only [execOp, r2]; rfl
    · rename_i e1
      cases h
      rw [e1] at r
      have r2 : a.eval x = _ := r
      refine ⟨_, w, hw, ?_, s, MLe.refl _, r⟩
      simp only [execOp, r2]; rfl
    · rename_i e1
      cases h
      rw [e1] at r
      simp only [RepEV, Rep] at r
      obtain ⟨b, o, r2, r3⟩ := r
      refine ⟨_, w, hw, ?_, s, MLe.refl _, ⟨b, o, r2, r3⟩⟩
      simp only [execOp, r2]; rfl
    · cases h
  | binOp op t x y yt =>
    simp only [resolveOp1, Option.bind_eq_some_iff] at hr
    obtain ⟨x', hx, y', hy, hr⟩ := hr
    have nilv : ∀ neg : Bool, y = .const (.pointer none) → (∃ el, P.underlying t = some (.pointer el)) → op = (if neg then .neq else .eql) → r = .isnil neg x' → 
        ∃ v w' hw', (execOp a.eval ⟨dst, .binOp op t x y yt, type, pos, after, guard⟩).run P w = .ok (.value v) w' ∧ SimB w0 hw0 H0 w' hw' lam L H ∧ MLe (memOf w hw) (memOf w' hw') ∧ RepEV (memOf w' hw') lam L.length e v := by
      rintro neg rfl ⟨el, ht⟩ rfl rfl
      have r := ev x x' hx
      have run1 : ∀ u : Option Addr, (do eqGuard (if neg then BinOp.neq else .eql) t x (.const (.pointer none)) (.pointer u) (.pointer none); binOp (if neg then BinOp.neq else .eql) t (.pointer u) (.pointer none) : Sem Value).run P w = .ok (.bool (if neg then u.isSome else u.isNone)) w := by
        intro u
        have hg : (eqGuard (if neg then BinOp.neq else .eql) t x (.const (.pointer none)) (.pointer u) (.pointer none)).run P w = .ok () w := by
          cases neg <;> rfl
        rw [run_bind_ok hg]
        have he : (Op.equal t (.pointer u) (.pointer none)).run P w = .ok u.isNone w := by
          unfold Op.equal Op.maxDepth
          show (Op.equalIn (9999 + 1) t _ _).run P w = _
          unfold Op.equalIn
          rw [run_bind_ok (run_under ht w)]
          cases u <;> rfl
        cases neg with
        | true =>
          show (Op.equal t (.pointer u) (.pointer none) >>= fun b => (pure (.bool !b) : Sem Value)).run P w = _
          rw [run_bind_ok he]
          cases u <;> rfl
        | false =>
          show (Op.equal t (.pointer u) (.pointer none) >>= fun b => (pure (.bool b) : Sem Value)).run P w = _
          rw [run_bind_ok he]; rfl
      simp only [opVal] at h
      split at h
      · rename_i e1
        cases h
        rw [e1] at r
        obtain ⟨_, r2⟩ := r
        refine fin (x := (do eqGuard (if neg then BinOp.neq else .eql) t x (.const (.pointer none)) (a.eval x) (.pointer none); binOp (if neg then BinOp.neq else .eql) t (a.eval x) (.pointer none) : Sem Value)) rfl (.stay s (v := .bool neg) (by rw [r2, run1]; cases neg <;> rfl) (by simp [RepEV, Rep, atomB]))
      · rename_i e1
        cases h
        rw [e1] at r
        have r2 : a.eval x = _ := r
        refine fin (x := (do eqGuard (if neg then BinOp.neq else .eql) t x (.const (.pointer none)) (a.eval x) (.pointer none); binOp (if neg then BinOp.neq else .eql) t (a.eval x) (.pointer none) : Sem Value)) rfl (.stay s (v := .bool neg) (by rw [r2, run1]; cases neg <;> rfl) (by simp [RepEV, Rep, atomB]))
      · rename_i e1
        cases h
        rw [e1] at r
        simp only [RepEV, Rep] at r
        obtain ⟨_, _, r2, _⟩ := r
        refine fin (x := (do eqGuard (if neg then BinOp.neq else .eql) t x (.const (.pointer none)) (a.eval x) (.pointer none); binOp (if neg then BinOp.neq else .eql) t (a.eval x) (.pointer none) : Sem Value)) rfl (.stay s (v := .bool neg) (by rw [r2, run1]; cases neg <;> rfl) (by simp [RepEV, Rep, atomB]))
      · rename_i e1
        cases h
        rw [e1] at r
        simp only [RepEV, Rep] at r
        obtain ⟨r2, _⟩ := r
        refine fin (x := (do eqGuard (if neg then BinOp.neq else .eql) t x (.const (.pointer none)) (a.eval x) (.pointer none); binOp (if neg then BinOp.neq else .eql) t (a.eval x) (.pointer none) : Sem Value)) rfl (.stay s (v := .bool (!neg)) (by rw [r2, run1]; cases neg <;> rfl) (by simp [RepEV, Rep, atomB]))
      · cases h
    have binv : r = .bin op t x' y' → ∃ v w' hw', (execOp a.eval ⟨dst, .binOp op t x y yt, type, pos, after, guard⟩).run P w = .ok (.value v) w' ∧ SimB w0 hw0 H0 w' hw' lam L H ∧ MLe (memOf w hw) (memOf w' hw') ∧ RepEV (memOf w' hw') lam L.length e v := by
      rintro rfl
      simp only [opVal] at h
      split at h
      · rename_i p q e1 e2
        split at h
        · rename_i u v e3 e4
          obtain ⟨r, k1, rfl, k2⟩ := scalD h
          have hx' : a.eval x = u := by
            have := ev x x' hx
            cases hρ : ρ x' with
            | l i o => rw [hρ] at e1; cases e1
            | v p' => rw [hρ] at e1 this; cases e1; exact valA_rep e3 this
          have hy' : a.eval y = v := by
            have := ev y y' hy
            cases hρ : ρ y' with
            | l i o => rw [hρ] at e2; cases e2
            | v p' => rw [hρ] at e2 this; cases e2; exact valA_rep e4 this
          refine fin (x := (do eqGuard op t x y (a.eval x) (a.eval y); binOp op t (a.eval x) (a.eval y) : Sem Value)) rfl (.stay s (v := r) ?_ (rep_scal (m := memOf w hw) k2))
          rw [hx', hy']
          exact bin2_run k1 w
        · cases h
      · cases h
    split at hr
    · rename_i ht
      cases hr
      exact nilv false rfl ⟨_, ht⟩ rfl rfl
    · rename_i ht
      cases hr
      exact nilv true rfl ⟨_, ht⟩ rfl rfl
    · cases hr; simp [opVal] at h
    · cases hr; simp [opVal] at h
    · exact binv (by cases hr; rfl)
  | unOp op t x =>
    simp only [resolveOp1, Option.map_eq_some_iff] at hr
    obtain ⟨y, hy, rfl⟩ := hr
    simp only [opVal] at h
    split at h
    · rename_i u e1
      obtain ⟨r, k1, rfl, k2⟩ := scalD h
      have hx : a.eval x = u := (ev_v ev hy e1).1
      refine fin (x := Op.unary op (a.eval x)) rfl (.stay s (v := r) ?_ (rep_scal (m := memOf w hw) k2))
      rw [hx]; exact pureP_run k1 w
    · cases h
  | convert sT dT x =>
    simp only [resolveOp1, Option.map_eq_some_iff] at hr
    obtain ⟨y, hy, rfl⟩ := hr
    simp only [opVal] at h
    split at h
    · rename_i u e1
      obtain ⟨r, k1, rfl, k2⟩ := scalD h
      have hx : a.eval x = u := (ev_v ev hy e1).1
      refine fin (x := convert sT dT (a.eval x)) rfl (.stay s (v := r) ?_ (rep_scal (m := memOf w hw) k2))
      rw [hx]; exact pureP_run k1 w
    · cases h
  | slice t x lo hi mx =>
    simp only [resolveOp1, Option.bind_eq_some_iff] at hr
    obtain ⟨x', hx, lo', hlo, hi', hhi, mx', hmx, hr⟩ := hr
    split at hr
    · rename_i ht
      split at hr
      · rename_i hn
        cases hr
        simp only [opVal] at h
        split at h
        · rename_i str l hh e1 e2 e3
          obtain ⟨r, k1, rfl, k2⟩ := scalD h
          have hxv : a.eval x = .string str := (ev_v ev hx e1).1
          refine fin (x := Instr.sliceAt t (a.eval x) (lo.map a.eval) (hi.map a.eval) (mx.map a.eval)) rfl (.stay s (v := r) ?_ (rep_scal (m := memOf w hw) k2))
          have hmn : mx = none := by cases mx <;> simp_all
          rw [hxv, optI_rep ev hlo e2, optI_rep ev hhi e3, hmn]
          exact pureP_run k1 w
        · cases h
      · cases hr
    · rename_i el ht
      simp only [Option.map_eq_some_iff] at hr
      obtain ⟨sz, hs, rfl⟩ := hr
      simp only [opVal] at h
      split at h
      · rename_i tok xs l hh m e1 e2 e3 e4
        split at h
        · rename_i hsz
          simp only [Option.map_eq_some_iff] at h
          obtain ⟨p, hp, rfl⟩ := h
          obtain ⟨v, h1, h2⟩ := s_slice s ht hs (asList_rep e1 (ev x x' hx)) hsz hp
          refine fin (x := Instr.sliceAt t (a.eval x) (lo.map a.eval) (hi.map a.eval) (mx.map a.eval)) rfl (.stay s (v := v) ?_ h2)
          rw [optI_rep ev hlo e2, optI_rep ev hhi e3, optI_rep ev hmx e4]
          exact h1
        · cases h
      · cases h
    · simp only [Option.map_eq_some_iff] at hr
      obtain ⟨sz, hs, rfl⟩ := hr
      simp [opVal] at h
    · cases hr
  | fieldAddr t x f =>
    simp only [resolveOp1, Option.bind_eq_some_iff] at hr
    obtain ⟨x', hx, hr⟩ := hr
    split at hr
    · rename_i fields ht
      simp only [Option.bind_eq_some_iff] at hr
      obtain ⟨fd, hf, sz, hs, hr⟩ := hr
      split at hr
      · cases hr
      · rename_i h0
        cases hr
        have r := ev x x' hx
        simp only [opVal] at h
        split at h
        · rename_i e1
          cases h
          rw [e1] at r
          obtain ⟨r1, r2⟩ := r
          refine fin (x := Instr.fieldAt t (a.eval x) f) rfl (.stay s (by rw [r2]; exact s_faddr ht hf hs h0) ⟨r1, rfl⟩)
        · rename_i e1
          cases h
          rw [e1] at r
          have r2 : a.eval x = _ := r
          refine fin (x := Instr.fieldAt t (a.eval x) f) rfl (.stay s (by rw [r2]; exact s_faddr ht hf hs h0) (by simp [RepEV, Rep]))
        · rename_i e1
          cases h
          rw [e1] at r
          simp only [RepEV, Rep] at r
          obtain ⟨b, o, r2, r3⟩ := r
          refine fin (x := Instr.fieldAt t (a.eval x) f) rfl (.stay s (by rw [r2]; exact s_faddr ht hf hs h0) ?_)
          simp only [RepEV, Rep]
          exact ⟨_, _, rfl, RepR_drop _ r3⟩
        · cases h
    · cases hr
  | field t x f =>
    simp only [resolveOp1, Option.bind_eq_some_iff] at hr
    obtain ⟨x', hx, hr⟩ := hr
    split at hr
    · rename_i fields ht
      simp only [Option.bind_eq_some_iff, Option.map_eq_some_iff] at hr
      obtain ⟨fd, hf, g, hg, sz, hs, rfl⟩ := hr
      simp only [opVal] at h
      split at h
      · rename_i cs e1
        have r := ev_v ev hx e1
        have hh : ∃ p, (if g then (if fd.offset + sz ≤ cs.length then some (PV.agg ((cs.drop fd.offset).take sz)) else none) else cs[fd.offset]?) = some p ∧ e = .v p := by
          cases g with
          | true =>
            simp only [if_true] at h ⊢
            split at h
            · cases h; rename_i hle; exact ⟨_, by rw [if_pos hle], rfl⟩
            · cases h
          | false =>
            simp only [Bool.false_eq_true, if_false, Option.map_eq_some_iff] at h ⊢
            obtain ⟨p, hp, rfl⟩ := h
            exact ⟨p, hp, rfl⟩
        obtain ⟨p, hp, rfl⟩ := hh
        obtain ⟨v, h1, h2⟩ := s_fld (w := w) ht hf hg hs r hp
        exact fin (x := Instr.field t (a.eval x) f) rfl (.stay s h1 h2)
      · cases h
    · cases hr
  | indexAddr t x i =>
    simp only [resolveOp1, Option.bind_eq_some_iff] at hr
    obtain ⟨x', hx, i', hi, hr⟩ := hr
    split at hr
    · rename_i el ht
      simp only [Option.map_eq_some_iff] at hr
      obtain ⟨sz, hs, rfl⟩ := hr
      simp only [opVal] at h
      split at h
      · rename_i tok xs n e1 e2
        split at h
        · rename_i h0
          simp only [Option.bind_eq_some_iff] at h
          obtain ⟨p, hp, h⟩ := h
          split at h
          · rename_i hc
            cases h
            obtain ⟨v, h1, h2⟩ := s_iaddr s ht hs (asList_rep e1 (ev x x' hx)) h0 hp hc
            refine fin (x := Instr.indexAt t (a.eval x) (a.eval i)) rfl (.stay s (v := v) ?_ h2)
            rw [asInt_rep e2 (ev i i' hi)]; exact h1
          · cases h
        · cases h
      · cases h
    · rename_i len el ht
      simp only [Option.map_eq_some_iff] at hr
      obtain ⟨sz, hs, rfl⟩ := hr
      have r := ev x x' hx
      simp only [opVal] at h
      split at h
      · rename_i e1 e2
        split at h
        · rename_i h0
          cases h
          rw [e1] at r
          obtain ⟨r1, r2⟩ := r
          refine fin (x := Instr.indexAt t (a.eval x) (a.eval i)) rfl (.stay s ?_ ⟨r1, rfl⟩)
          rw [asInt_rep e2 (ev i i' hi), r2]; exact s_iaddrA ht hs h0.1 h0.2
        · cases h
      · rename_i b o m e1 e2
        split at h
        · rename_i h0
          cases h
          rw [e1] at r
          have r2 : a.eval x = _ := r
          refine fin (x := Instr.indexAt t (a.eval x) (a.eval i)) rfl (.stay s (v := .pointer (some ⟨b, o + m.toNat * sz, none⟩)) ?_ (by simp [RepEV, Rep]))
          rw [asInt_rep e2 (ev i i' hi), r2]; exact s_iaddrA ht hs h0.1 h0.2
        · cases h
      · cases h
    · cases hr
  | index t x i =>
    simp only [resolveOp1, Option.bind_eq_some_iff] at hr
    obtain ⟨x', hx, i', hi, hr⟩ := hr
    split at hr
    · cases hr
      simp only [opVal] at h
      split at h
      · rename_i str n e1 e2
        obtain ⟨r, k1, rfl, k2⟩ := scalD h
        have hxv : a.eval x = .string str := (ev_v ev hx e1).1
        refine fin (x := Instr.index t (a.eval x) (a.eval i)) rfl (.stay s (v := r) ?_ (rep_scal (m := memOf w hw) k2))
        rw [hxv, asInt_rep e2 (ev i i' hi)]; exact pureP_run k1 w
      · cases h
    · rename_i len el ht
      simp only [Option.bind_eq_some_iff, Option.map_eq_some_iff] at hr
      obtain ⟨g, hg, sz, hs, rfl⟩ := hr
      simp only [opVal] at h
      split at h
      · rename_i cs n e1 e2
        split at h
        · rename_i h0
          have r := ev_v ev hx e1
          have hh : ∃ p, (if g then (if n.toNat * sz + sz ≤ cs.length then some (PV.agg ((cs.drop (n.toNat * sz)).take sz)) else none) else cs[n.toNat * sz]?) = some p ∧ e = .v p := by
            cases g with
            | true =>
              simp only [if_true] at h ⊢
              split at h
              · cases h; rename_i hle; exact ⟨_, by rw [if_pos hle], rfl⟩
              · cases h
            | false =>
              simp only [Bool.false_eq_true, if_false, Option.map_eq_some_iff] at h ⊢
              obtain ⟨p, hp, rfl⟩ := h
              exact ⟨p, hp, rfl⟩
          obtain ⟨p, hp, rfl⟩ := hh
          obtain ⟨v, h1, h2⟩ := s_idxA (w := w) ht hg hs r h0.1 h0.2 hp
          refine fin (x := Instr.index t (a.eval x) (a.eval i)) rfl (.stay s (v := v) ?_ h2)
          rw [asInt_rep e2 (ev i i' hi)]; exact h1
        · cases h
      · cases h
    · cases hr
  | extract x i =>
    simp only [resolveOp1, Option.map_eq_some_iff] at hr
    obtain ⟨y, hy, rfl⟩ := hr
    simp only [opVal] at h
    split at h
    · rename_i cs e1
      simp only [Option.map_eq_some_iff] at h
      obtain ⟨p, hp, rfl⟩ := h
      have r := ev_v ev hy e1
      simp only [Rep] at r
      obtain ⟨vs, r1, r2⟩ := r
      obtain ⟨v, h1, h2⟩ := RepL_get r2 hp
      refine fin (x := Instr.extract (a.eval x) i) rfl (.stay s (v := v) ?_ h2)
      rw [r1]
      rw [Array.getElem?_toList] at h1
      simp only [Instr.extract, h1]; rfl
    · cases h
  | makeFunc f fi ca =>
    simp only [resolveOp1, Option.bind_eq_some_iff, Option.map_eq_some_iff] at hr
    obtain ⟨xs, hxs, ys, hys, rfl⟩ := hr
    simp only [opVal] at h
    split at h
    · rename_i ps qs e1 e2
      cases h
      have r1 := evs_rep ev hxs e1
      have r2 := evs_rep ev hys e2
      refine fin (x := Instr.makeFunc f (fi.map a.eval) (ca.map a.eval)) rfl (.stay s (v := .func f (fi.map a.eval) (ca.map a.eval)) rfl ?_)
      simp only [RepEV, Rep]
      exact ⟨_, _, rfl, by simpa using r1, by simpa using r2⟩
    · cases h
  | makeInterface t x =>
    simp only [resolveOp1] at hr
    split at hr
    · cases hr
    · cases hr
    · rename_i d hni ht
      simp only [Option.map_eq_some_iff] at hr
      obtain ⟨y, hy, rfl⟩ := hr
      simp only [opVal] at h
      split at h
      · rename_i p e1
        cases h
        refine fin (x := Instr.makeInterface t (a.eval x)) rfl (.stay s (v := .iface t (a.eval x)) ?_ ?_)
        · unfold Instr.makeInterface
          rw [run_bind_ok (run_under ht w)]
          cases d <;> first | rfl | exact (hni _ rfl).elim
        · simp only [RepEV, Rep]
          exact ⟨_, rfl, ev_v ev hy e1⟩
      · cases h
  | call c =>
    simp only [resolveOp1] at hr
    exact call_val hr s ev h
  | _ => simp [resolveOp1] at hr
end
end Go.Pv

set_option linter.unusedSimpArgs false
set_option linter.unusedVariables false
namespace Go.Pv
section
variable {P : Program} {w0 w : World} {hw0 hw : Nat → Nat} {H0 H : PH} {lam : Nat → Nat} {L : List (List PV)}

theorem wp_value {o : Oper} {a : Act} {v : Value} {w' : World} {next : Act → World → Prop} {Q : Exit → Act → World → Prop} (h : (execOp a.eval o).run P w = .ok (.value v) w') (k : next (a.put o.dst v) w') : o.wp P a w next Q := by
  unfold Oper.wp
  rw [h, Oper.upon_value]
  exact k

theorem pact_val {o : Oper} {r : ROp} {n : Nat} {a : Act} {ρ : RO → EV} {pf : FuncId → Bool} {hp kp : Bool} (hr : resolveOp1 P pf n hp kp o.type o.op = some r) (s : SimB w0 hw0 H0 w hw lam L H) (ev : Evals (memOf w hw) lam L.length n ρ a.eval)
    {k : EV → List (List PV) → PH → Prop} (h : match opVal P r ρ L H with | some e => k e L H | none => False) {next : Act → World → Prop} {Q : Exit → Act → World → Prop} (hk : NextOk w0 hw0 H0 w hw lam L k (a.put o.dst) next) : o.wp P a w next Q := by
  cases hv : opVal P r ρ L H with
  | none => rw [hv] at h; exact h.elim
  | some e =>
    rw [hv] at h
    obtain ⟨v, w', hw', h1, h2, h3, h4⟩ := val_sound hr s ev hv
    exact wp_value h1 (hk e L H v w' hw' lam h h2 h3 (fun _ _ => rfl) (Nat.le_refl _) h4)

/-- A call, by what is known of it. -/
theorem call_wp {o : Oper} {a : Act} {f : FuncId} {args : List PV} {vs : List Value} {k : EV → List (List PV) → PH → Prop} (s : SimB w0 hw0 H0 w hw lam L H)
    (hx : execOp a.eval o = callFunc f vs.toArray) (hargs : RepL (memOf w hw) args vs) (h : PCalls P f (fgL args) H fun r H' => k (.v r) L H')
    {next : Act → World → Prop} {Q : Exit → Act → World → Prop} (hk : NextOk w0 hw0 H0 w hw lam L k (a.put o.dst) next) : o.wp P a w next Q := by
  unfold Oper.wp
  rw [hx, h.1, Oper.upon_enter]
  refine (h.2 w hw vs s.wrep (RepL.fg args hargs)).mono ?_
  rintro _ w' ⟨v, hw', r, H', rfl, e2, e3, e4, e5⟩
  exact hk (.v r) L H' v w' hw' lam e5 (s.step e2 e3) e2.mono (fun _ _ => rfl) (Nat.le_refl _) e4

theorem SimB.boxH (s : SimB w0 hw0 H0 w hw lam L H) {cs : List PV} {c : Array Value} {el : TypeId} (hc : RepL (memOf w hw) cs c.toList) :
    SimB w0 hw0 H0 (World.push w (.cells c el (0, 0))) hw lam L (H.set w.heap.size (.cells cs)) := by
  have hb := s.wrep.box (el := el) hc
  exact s.step hb.2 hb.1

theorem pact_sound1 {o : Oper} {r : ROp} {n : Nat} {a : Act} {ρ : RO → EV} {pf : FuncId → Bool} {hp kp : Bool} (hr : resolveOp1 P pf n hp kp o.type o.op = some r) (s : SimB w0 hw0 H0 w hw lam L H) (ev : Evals (memOf w hw) lam L.length n ρ a.eval)
    {k : EV → List (List PV) → PH → Prop} (h : pact P r ρ L H k) {next : Act → World → Prop} {Q : Exit → Act → World → Prop} (hk : NextOk w0 hw0 H0 w hw lam L k (a.put o.dst) next) : o.wp P a w next Q := by
  have hr0 := hr
  have newbox : ∀ (t : TypeId) (v : Value) (cs : List PV), RepL (memOf w hw) cs v.cells.toList → (execOp a.eval o = (do pure (Next.value (.pointer (some (← newVar t v)))))) →
      (k (.l L.length 0) (L ++ [cs]) H ∨ ∀ b, H.get b = none → k (.v (.ptr b 0)) L (H.set b (.cells cs))) → o.wp P a w next Q := by
    intro t v cs hc hx hkk
    refine wp_value (v := .pointer (some ⟨w.heap.size, 0, none⟩)) (w' := World.push w (.cells v.cells t (0, 0))) (by rw [hx]; rfl) ?_
    rcases hkk with hkk | hkk
    · have s' := s.alloc (el := t) hc
      refine hk _ _ _ _ _ _ (updF lam L.length w.heap.size) hkk s' ?_ (fun i hi => by simp [updF]; omega) (by simp) ⟨by simp, by simp [updF]⟩
      exact (s.rep.box (el := t) hc).2.mono
    · have s' := s.boxH (el := t) hc
      refine hk _ _ _ _ _ _ lam (hkk _ (s.wrep.get_size (Nat.le_refl _))) s' (s.wrep.box (el := t) hc).2.mono (fun _ _ => rfl) (Nat.le_refl _) (by simp [RepEV, Rep])
  obtain ⟨dst, op, type, pos, after, guard⟩ := o
  simp only at hr hk
  cases op with
  | pick c x y =>
    simp only [resolveOp1, Option.bind_eq_some_iff, Option.map_eq_some_iff] at hr
    obtain ⟨c', hc, x', hx, y', hy, rfl⟩ := hr
    simp only [pact] at h
    split at h
    · rename_i t e1
      have hcv : a.eval c = .bool t := (ev_v ev hc e1).1
      cases t with
      | true =>
        rw [br_true] at h
        refine wp_value (v := a.eval x) (w' := w) ?_ (hk _ _ _ _ w hw lam h s (MLe.refl _) (fun _ _ => rfl) (Nat.le_refl _) (ev x x' hx))
        simp only [execOp, hcv]; rfl
      | false =>
        rw [br_false] at h
        refine wp_value (v := a.eval y) (w' := w) ?_ (hk _ _ _ _ w hw lam h s (MLe.refl _) (fun _ _ => rfl) (Nat.le_refl _) (ev y y' hy))
        simp only [execOp, hcv]; rfl
    · exact h.elim
  | box t x =>
    simp only [resolveOp1, Option.map_eq_some_iff] at hr
    obtain ⟨x', hx, rfl⟩ := hr
    cases hp with
    | true =>
      simp only [if_true, pact] at h
      split at h
      · rename_i p e1
        exact newbox t (a.eval x) p.cells (Rep_cells (ev_v ev hx e1)) rfl (.inr h)
      · exact h.elim
    | false =>
      simp only [Bool.false_eq_true, if_false, pact] at h
      split at h
      · rename_i p e1
        exact newbox t (a.eval x) p.cells (Rep_cells (ev_v ev hx e1)) rfl (.inl h)
      · exact h.elim
  | alloc t =>
    simp only [resolveOp1, Option.bind_eq_some_iff, Option.map_eq_some_iff] at hr
    obtain ⟨z, hz, cs, hcs, rfl⟩ := hr
    have hx : ∀ w', (execOp a.eval ⟨dst, .alloc t, type, pos, after, guard⟩).run P w' = (do pure (Next.value (.pointer (some (← newVar t z)))) : Sem Next).run P w' := by
      intro w'
      show (do pure (Next.value (← Instr.alloc t true (.tuple #[]))) : Sem Next).run P w' = _
      rw [run_bind]
      have : (Instr.alloc t true (.tuple #[])).run P w' = (do pure (Value.pointer (some (← newVar t z))) : Sem Value).run P w' := by
        unfold Instr.alloc
        rw [run_bind_ok (run_zero hz w')]
      rw [this]
      rfl
    have key : ∀ (cs : List PV), RepL (memOf w hw) cs z.cells.toList → (k (.l L.length 0) (L ++ [cs]) H ∨ ∀ b, H.get b = none → k (.v (.ptr b 0)) L (H.set b (.cells cs))) → Oper.wp P ⟨dst, .alloc t, type, pos, after, guard⟩ a w next Q := by
      intro cs hc hkk
      refine wp_value (v := .pointer (some ⟨w.heap.size, 0, none⟩)) (w' := World.push w (.cells z.cells t (0, 0))) (by rw [hx]; rfl) ?_
      rcases hkk with hkk | hkk
      · have s' := s.alloc (el := t) hc
        refine hk _ _ _ _ _ _ (updF lam L.length w.heap.size) hkk s' ?_ (fun i hi => by simp [updF]; omega) (by simp) ⟨by simp, by simp [updF]⟩
        exact (s.rep.box (el := t) hc).2.mono
      · have s' := s.boxH (el := t) hc
        refine hk _ _ _ _ _ _ lam (hkk _ (s.wrep.get_size (Nat.le_refl _))) s' (s.wrep.box (el := t) hc).2.mono (fun _ _ => rfl) (Nat.le_refl _) (by simp [RepEV, Rep])
    cases hp with
    | true => exact key cs (RepL_ofCells _ _ hcs) (.inr (by simpa only [if_true, pact] using h))
    | false => exact key cs (RepL_ofCells _ _ hcs) (.inl (by simpa only [Bool.false_eq_true, if_false, pact] using h))
  | store t x v =>
    simp only [resolveOp1, Option.bind_eq_some_iff, Option.map_eq_some_iff] at hr
    obtain ⟨x', hx, v', hv, sz, hs, rfl⟩ := hr
    simp only [pact] at h
    split at h
    · rename_i L' H' hst
      obtain ⟨w', h1, h2, h3, h4⟩ := s_store (P := P) s hst (ev x x' hx) (ev v v' hv) hs
      unfold Oper.wp
      have : (execOp a.eval ⟨dst, .store t x v, type, pos, after, guard⟩).run P w = .ok .skip w' := by
        show (Instr.storeAt t (a.eval x) (a.eval v) >>= fun _ => (pure Next.skip : Sem Next)).run P w = _
        rw [run_bind_ok h1]; rfl
      rw [this, Oper.upon_skip]
      exact hk _ _ _ _ _ _ lam h h2 h3 (fun _ _ => rfl) (by omega) (by simp [undefE, RepEV, Rep, undef, atomB])
    · exact h.elim
  | slice t x lo hi mx =>
    have hrv := hr
    simp only [resolveOp1, Option.bind_eq_some_iff] at hr
    obtain ⟨x', hx, lo', hlo, hi', hhi, mx', hmx, hr⟩ := hr
    split at hr
    · split at hr
      · cases hr; exact pact_val hr0 s ev h hk
      · cases hr
    · simp only [Option.map_eq_some_iff] at hr
      obtain ⟨sz, hs, rfl⟩ := hr
      exact pact_val hr0 s ev h hk
    · rename_i len el ht
      simp only [Option.map_eq_some_iff] at hr
      obtain ⟨sz, hs, rfl⟩ := hr
      cases lo' with
      | some _ => exact pact_val hr0 s ev h hk
      | none =>
        cases hi' with
        | some _ => exact pact_val hr0 s ev h hk
        | none =>
          cases mx' with
          | some _ => exact pact_val hr0 s ev h hk
          | none =>
            have n1 : lo = none := by cases lo with | none => rfl | some _ => simp [rOpt] at hlo
            have n2 : hi = none := by cases hi with | none => rfl | some _ => simp [rOpt] at hhi
            have n3 : mx = none := by cases mx with | none => rfl | some _ => simp [rOpt] at hmx
            subst n1 n2 n3
            simp only [pact] at h
            split at h
            · rename_i b e1
              split at h
              · rename_i cs hb
                obtain ⟨rfl, hlen, hB, hna, h⟩ := h
                have hxv : a.eval x = .pointer (some ⟨b, 0, none⟩) := by
                  have := ev x x' hx; rw [e1] at this; exact this
                obtain ⟨o1, c, el2, o2, o3⟩ := s.heap hb
                have hsz : c.size = len := by have := RepL_length o3; simp at this; omega
                -- the box becomes a row that is only read
                have hg : WRep w (updF hw b len) (H.set b (.row len len)) ∧ ExtF H w hw w (updF hw b len) (H.set b (.row len len)) ∧ ∀ i v, i < len → c[i]? = some v → memOf w (updF hw b len) b i = some v := by
                  have hm : MLe (memOf w hw) (memOf w (updF hw b len)) := by
                    intro x o v hv
                    simp only [memOf] at hv ⊢
                    by_cases h0 : o < hw x
                    · rw [if_pos h0] at hv
                      by_cases hx : x = b
                      · subst hx; omega
                      · rw [if_pos (by simpa [updF, hx] using h0)]; exact hv
                    · rw [if_neg h0] at hv; cases hv
                  refine ⟨⟨fun y hy => ?_, fun y o hy => ?_⟩, ⟨rfl, rfl, rfl, Nat.le_refl _, fun y hy hn => ⟨rfl, ?_⟩, hm, fun y hy => ?_⟩, fun i v hi hv => ?_⟩
                  · by_cases e : y = b
                    · subst e; exact (s.heap hb).lt
                    · exact s.wrep.fin y (by simpa [updF, e] using hy)
                  · rw [PH.get_set] at hy
                    split at hy
                    · rename_i e; cases hy; subst e
                      exact ⟨by simp [updF], Nat.le_refl _, c, el2, o2, hsz⟩
                    · rename_i e; exact (s.heap hy).keep rfl (by simp [updF, e]) hm
                  · have : y ≠ b := fun e => by subst e; rw [hb] at hn; cases hn
                    simp [updF, this]
                  · rw [PH.get_set] at hy
                    split at hy
                    · rename_i e; subst e; exact .inl (by simp [hb])
                    · exact .inl hy
                  · simp only [memOf, updF, if_true, if_pos hi]
                    rw [cell_of_block o2]; exact hv
                obtain ⟨g1, g2, g3⟩ := hg
                refine wp_value (v := .slice (some ⟨b, 0, none⟩) len len) (w' := w) ?_ (hk _ _ _ _ w _ lam h (s.step g2 g1) g2.mono (fun _ _ => rfl) (Nat.le_refl _) ?_)
                · show (do pure (Next.value (← Instr.sliceAt t (a.eval x) none none none)) : Sem Next).run P w = _
                  refine run_v ?_
                  rw [hxv]
                  unfold Instr.sliceAt
                  rw [run_bind_ok (run_under ht w)]
                  simp only
                  rw [run_bind_ok (run_sure _ w)]
                  rw [run_bind_ok (s := Instr.sliceBounds false len len none none none) (a := (0, len, len)) (w' := w) rfl]
                  simp only
                  rw [run_bind_ok (run_sizeOf hs w)]
                  simp only [Nat.zero_mul, Nat.sub_zero, addr_add, Nat.add_zero, ite_self]
                  rfl
                · simp only [RepEV, Rep]
                  refine ⟨_, _, _, 1, rfl, hlen.symm, Nat.le_refl _, hB, rfl, fun _ => ⟨b, 0, rfl, ?_⟩⟩
                  have hfl : flat cs = cs := by
                    clear hb o3 hlen h
                    induction cs with
                    | nil => rfl
                    | cons p cs ih =>
                      have h1 := hna p (by simp)
                      rw [flat, ih fun q hq => hna q (by simp [hq])]
                      cases p <;> first | rfl | simp [notAgg] at h1
                  refine RepE_of_flat (vs := c.toList) (fun p hp => ?_) (by rw [hfl]; exact RepL.mono g2.mono _ o3) fun i v hi => ?_
                  · have h1 := hna p hp
                    cases p <;> first | rfl | simp [notAgg] at h1
                  · rw [Nat.zero_add]
                    have hlt : i < c.toList.length := (List.getElem?_eq_some_iff.1 hi).1
                    exact g3 i v (by simp at hlt; omega) (by simpa using hi)
              · exact h.elim
            · exact h.elim
    · cases hr
  | call c =>
    obtain ⟨callee, args, ts⟩ := c
    have hr1 := hr
    simp only [resolveOp1] at hr
    unfold rCall at hr
    simp only at hr
    split at hr
    · rename_i f
      split at hr
      · rename_i fn hf
        simp only [Option.map_eq_some_iff] at hr
        obtain ⟨xs, hxs, rfl⟩ := hr
        cases hbody : fn.body.isSome with
        | false =>
          rw [hbody] at h hr0
          exact pact_val hr0 s ev h hk
        | true =>
          rw [hbody] at h
          have hfin : ∀ ps, pvs? (xs.map ρ) = some ps → (PCalls P f (fgL ps) H fun r H' => k (.v r) L H') → Oper.wp P ⟨dst, .call ⟨.value (.func f), args, ts⟩, type, pos, after, guard⟩ a w next Q := by
            intro ps hps h
            refine call_wp s (vs := args.toList.map a.eval) ?_ (evs_rep ev hxs hps) h hk
            rw [invoke_func _ _ _ _ _ _ _ _ _ rfl]
            congr 1
            apply Array.ext'; simp
          simp only [if_true] at h
          split at h
          · simp only [pact] at h
            split at h
            · rename_i ps hps
              obtain ⟨r, h1, h2⟩ := h
              exact hfin ps hps (h1.calls h2)
            · exact h.elim
          · simp only [pact] at h
            split at h
            · rename_i ps hps
              exact hfin ps hps h
            · exact h.elim
      · cases hr
    · rename_i x hx
      simp only [Option.bind_eq_some_iff, Option.map_eq_some_iff] at hr
      obtain ⟨y, hy, xs, hxs, rfl⟩ := hr
      have hfin : ∀ f fa ca ps, ρ y = .v (.fn (.func f) fa ca) → pvs? (xs.map ρ) = some ps → (PCalls P f (fgL (fa ++ ps ++ ca)) H fun r H' => k (.v r) L H') → Oper.wp P ⟨dst, .call ⟨.value x, args, ts⟩, type, pos, after, guard⟩ a w next Q := by
        intro f fa ca ps e1 hps h
        have r := ev_v ev hy e1
        simp only [Rep] at r
        obtain ⟨va, vc, r1, r2, r3⟩ := r
        have r4 := evs_rep ev hxs hps
        refine call_wp s (vs := va.toList ++ args.toList.map a.eval ++ vc.toList) ?_ (RepL_append (RepL_append r2 r4) r3) h hk
        show (do let d ← Deferred.ofValue (a.eval x) (args.map a.eval); invoke d.target d.args : Sem Next) = _
        rw [r1]
        show callFunc f ((va ++ args.map a.eval) ++ vc) = _
        congr 1
        apply Array.ext'; simp
      split at h
      · simp only [pact] at h
        split at h
        · rename_i f fa ca ps e1 hps
          exact hfin f fa ca ps e1 hps h
        · exact h.elim
      · simp only [pact] at h
        split at h
        · rename_i f fa ca ps e1 hps
          obtain ⟨r, h1, h2⟩ := h
          exact hfin f fa ca ps e1 hps (h1.calls h2)
        · exact h.elim
    · split at hr
      · simp only [Option.bind_eq_some_iff] at hr
        obtain ⟨t, ht, y, hy, hr⟩ := hr
        split at hr <;> cases hr <;> exact pact_val hr0 s ev h hk
      · cases hr
    · split at hr
      · rename_i x y hargs
        simp only [Option.bind_eq_some_iff] at hr
        obtain ⟨t, ht, u, hu, xa, hx, ya, hy, hr⟩ := hr
        split at hr
        · rename_i el e2 hut huu
          simp only [Option.bind_eq_some_iff] at hr
          obtain ⟨sz, hs, by_, hb, z, hz, hr⟩ := hr
          split at hr
          · rename_i hzs
            cases hr
            cases kp with
            | false => exact pact_val hr0 s ev h hk
            | true =>
              simp only [pact] at h
              split at h
              · rename_i tok xs tok2 ys e1 e2'
                obtain ⟨hc1, hc2, hc3, hc4, hc0, h⟩ := h
                have r1 := asList_rep e1 (ev _ _ hx)
                have r2 := asList_rep e2' (ev _ _ hy)
                have hxe : ∀ v w', (Builtin.append_ ts type #[a.eval x, a.eval y]).run P w = .ok v w' → (execOp a.eval ⟨dst, .call ⟨.builtin .append, args, ts⟩, type, pos, after, guard⟩).run P w = .ok (.value v) w' := by
                  intro v w' h1
                  rw [invoke_builtin]
                  have ha : args.map a.eval = #[a.eval x, a.eval y] := by
                    apply Array.ext'
                    simp [hargs]
                  show (do pure (Next.value (← Builtin.append_ ts type (args.map a.eval))) : Sem Next).run P w = _
                  rw [ha]
                  exact run_v h1
                by_cases hc5 : ys = []
                · subst hc5
                  obtain ⟨v, w', hw', q2, q3, q4, q5⟩ := s_append_nil s (ty := type) ht hu hut huu hs hb hz hzs hc1 r1 r2 hc3 hc4
                  exact wp_value (hxe v w' q2) (hk _ _ _ _ _ _ lam (hc0 rfl) q3 q4 (fun _ _ => rfl) (Nat.le_refl _) q5)
                obtain ⟨hc6, hc7, h⟩ := h hc5
                cases tok with
                | foreign => exact h.elim
                | full =>
                  obtain ⟨b, tot, v, w', hw', q1, q2, q3, q4, q5⟩ := s_append_own s (ty := type) ht hu hut huu hs hb hz hzs hc1 hc2 r1 r2 hc3 hc4 hc5 hc7 (ob := none) (.inl ⟨rfl, rfl⟩)
                  have hfree : H.get b = none := q1.resolve_left (by simp)
                  exact wp_value (hxe v w' q2) (hk _ _ _ _ _ _ lam (h b tot hfree) q3 q4 (fun _ _ => rfl) (Nat.le_refl _) q5)
                | own b0 e0 t0 s0 =>
                  obtain ⟨rfl, hb0, h⟩ := h
                  obtain ⟨b, tot, v, w', hw', q1, q2, q3, q4, q5⟩ := s_append_own s (ty := type) ht hu hut huu hs hb hz hzs hc1 hc2 r1 r2 hc3 hc4 hc5 hc7 (ob := some b0) (.inr ⟨b0, e0, t0, rfl, hb0, rfl⟩)
                  exact wp_value (hxe v w' q2) (hk _ _ _ _ _ _ lam (h b tot (q1.imp (fun e => by cases e; rfl) id)) q3 q4 (fun _ _ => rfl) (Nat.le_refl _) q5)
              · exact h.elim
          · cases hr
        · cases hr
      · cases hr
    · split at hr
      · simp only [Option.map_eq_some_iff] at hr
        obtain ⟨xs, hxs, rfl⟩ := hr
        exact pact_val hr0 s ev h hk
      · cases hr
    · cases hr
  | move x =>
    simp only [resolveOp1, Option.map_eq_some_iff] at hr
    obtain ⟨y, h1, rfl⟩ := hr
    exact pact_val hr0 s ev h hk
  | assign x =>
    simp only [resolveOp1, Option.map_eq_some_iff] at hr
    obtain ⟨y, h1, rfl⟩ := hr
    exact pact_val hr0 s ev h hk
  | build t parts =>
    simp only [resolveOp1] at hr
    split at hr
    · split at hr
      · simp only [Option.bind_eq_some_iff, Option.map_eq_some_iff] at hr
        obtain ⟨z, hz, cs, hc, ps, hps, rfl⟩ := hr
        exact pact_val hr0 s ev h hk
      · cases hr
    · simp only [Option.bind_eq_some_iff, Option.map_eq_some_iff] at hr
      obtain ⟨sz, hs, z, hz, cs, hc, ps, hps, rfl⟩ := hr
      exact pact_val hr0 s ev h hk
    · cases hr
  | buildSlice t len parts =>
    simp only [resolveOp1] at hr
    split at hr
    · simp only [Option.bind_eq_some_iff] at hr
      obtain ⟨sz, hs, z, hz, xs, hxs, hr⟩ := hr
      split at hr
      · cases hr
        exact pact_val hr0 s ev h hk
      · cases hr
    · cases hr
  | load t x =>
    simp only [resolveOp1, Option.bind_eq_some_iff, Option.map_eq_some_iff] at hr
    obtain ⟨y, hy, g, hg, sz, hs, rfl⟩ := hr
    cases g <;> exact pact_val hr0 s ev h hk
  | nilCheck x =>
    simp only [resolveOp1, Option.map_eq_some_iff] at hr
    obtain ⟨y, hy, rfl⟩ := hr
    exact pact_val hr0 s ev h hk
  | binOp op t x y yt =>
    simp only [resolveOp1, Option.bind_eq_some_iff] at hr
    obtain ⟨x', hx, y', hy, hr⟩ := hr
    have nilv : ∀ neg : Bool, y = .const (.slice none 0 0) → (∃ el, P.underlying t = some (.slice el)) → op = (if neg then .neq else .eql) → r = .snil neg x' →
        Oper.wp P ⟨dst, .binOp op t x y yt, type, pos, after, guard⟩ a w next Q := by
      rintro neg rfl ⟨el, ht⟩ rfl rfl
      have r := ev x x' hx
      simp only [pact] at h
      split at h
      · rename_i tok xs hl
        obtain ⟨A, len, cap, e1, e2⟩ : ∃ A len cap, a.eval x = .slice A len cap ∧ (xs ≠ [] → A ≠ none) := by
          have r := asList_rep hl r
          simp only [Rep] at r
          obtain ⟨A, len, cap, sz, e, h1, _, _, _, h5⟩ := r
          refine ⟨A, len, cap, e, fun hne => ?_⟩
          obtain ⟨b, o, e3, _⟩ := h5 (by rw [h1]; intro h0; exact hne (List.eq_nil_of_length_eq_zero h0))
          rw [e3]; simp
        have hval : (execOp a.eval ⟨dst, .binOp (if neg then BinOp.neq else .eql) t x (.const (.slice none 0 0)) yt, type, pos, after, guard⟩).run P w = .ok (.value (.bool (A.isNone != neg))) w := by
          have run1 : (do eqGuard (if neg then BinOp.neq else .eql) t x (.const (.slice none 0 0)) (.slice A len cap) (.slice none 0 0); binOp (if neg then BinOp.neq else .eql) t (.slice A len cap) (.slice none 0 0) : Sem Value).run P w = .ok (.bool (A.isNone != neg)) w := by
            have hg : (eqGuard (if neg then BinOp.neq else .eql) t x (.const (.slice none 0 0)) (.slice A len cap) (.slice none 0 0)).run P w = .ok () w := by
              cases neg <;> rfl
            rw [run_bind_ok hg]
            have he : (Op.equal t (.slice A len cap) (.slice none 0 0)).run P w = .ok A.isNone w := by
              unfold Op.equal Op.maxDepth
              show (Op.equalIn (9999 + 1) t _ _).run P w = _
              unfold Op.equalIn
              rw [run_bind_ok (run_under ht w)]
              cases A <;> rfl
            cases neg with
            | true =>
              show (Op.equal t (.slice A len cap) (.slice none 0 0) >>= fun b => (pure (.bool !b) : Sem Value)).run P w = _
              rw [run_bind_ok he]
              cases A <;> rfl
            | false =>
              show (Op.equal t (.slice A len cap) (.slice none 0 0) >>= fun b => (pure (.bool b) : Sem Value)).run P w = _
              rw [run_bind_ok he]
              cases A <;> rfl
          show (do pure (Next.value (← (do eqGuard (if neg then BinOp.neq else .eql) t x (.const (.slice none 0 0)) (a.eval x) (.slice none 0 0); binOp (if neg then BinOp.neq else .eql) t (a.eval x) (.slice none 0 0) : Sem Value))) : Sem Next).run P w = _
          rw [e1]
          exact run_v run1
        refine wp_value hval (hk _ _ _ _ _ _ lam (h A.isNone ?_) s (MLe.refl _) (fun _ _ => rfl) (Nat.le_refl _) (by simp [RepEV, Rep, atomB]))
        intro hne
        cases hA : A with
        | none => exact absurd hA (e2 hne)
        | some _ => rfl
      · exact h.elim
    split at hr
    · cases hr; exact pact_val hr0 s ev h hk
    · cases hr; exact pact_val hr0 s ev h hk
    · rename_i ht
      cases hr
      exact nilv false rfl ⟨_, ht⟩ rfl rfl
    · rename_i ht
      cases hr
      exact nilv true rfl ⟨_, ht⟩ rfl rfl
    · cases hr; exact pact_val hr0 s ev h hk
  | unOp op t x =>
    simp only [resolveOp1, Option.map_eq_some_iff] at hr
    obtain ⟨y, hy, rfl⟩ := hr
    exact pact_val hr0 s ev h hk
  | convert sT dT x =>
    simp only [resolveOp1, Option.map_eq_some_iff] at hr
    obtain ⟨y, hy, rfl⟩ := hr
    exact pact_val hr0 s ev h hk
  | fieldAddr t x f =>
    simp only [resolveOp1, Option.bind_eq_some_iff] at hr
    obtain ⟨x', hx, hr⟩ := hr
    split at hr
    · simp only [Option.bind_eq_some_iff] at hr
      obtain ⟨fd, hf, sz, hs, hr⟩ := hr
      split at hr
      · cases hr
      · cases hr
        exact pact_val hr0 s ev h hk
    · cases hr
  | field t x f =>
    simp only [resolveOp1, Option.bind_eq_some_iff] at hr
    obtain ⟨x', hx, hr⟩ := hr
    split at hr
    · simp only [Option.bind_eq_some_iff, Option.map_eq_some_iff] at hr
      obtain ⟨fd, hf, g, hg, sz, hs, rfl⟩ := hr
      exact pact_val hr0 s ev h hk
    · cases hr
  | indexAddr t x i =>
    simp only [resolveOp1, Option.bind_eq_some_iff] at hr
    obtain ⟨x', hx, i', hi, hr⟩ := hr
    split at hr
    · simp only [Option.map_eq_some_iff] at hr
      obtain ⟨sz, hs, rfl⟩ := hr
      exact pact_val hr0 s ev h hk
    · simp only [Option.map_eq_some_iff] at hr
      obtain ⟨sz, hs, rfl⟩ := hr
      exact pact_val hr0 s ev h hk
    · cases hr
  | index t x i =>
    simp only [resolveOp1, Option.bind_eq_some_iff] at hr
    obtain ⟨x', hx, i', hi, hr⟩ := hr
    split at hr
    · cases hr
      exact pact_val hr0 s ev h hk
    · simp only [Option.bind_eq_some_iff, Option.map_eq_some_iff] at hr
      obtain ⟨g, hg, sz, hs, rfl⟩ := hr
      exact pact_val hr0 s ev h hk
    · cases hr
  | extract x i =>
    simp only [resolveOp1, Option.map_eq_some_iff] at hr
    obtain ⟨y, hy, rfl⟩ := hr
    exact pact_val hr0 s ev h hk
  | makeFunc f fi ca =>
    simp only [resolveOp1, Option.bind_eq_some_iff, Option.map_eq_some_iff] at hr
    obtain ⟨xs, hxs, ys, hys, rfl⟩ := hr
    exact pact_val hr0 s ev h hk
  | makeInterface t x =>
    simp only [resolveOp1] at hr
    split at hr
    · cases hr
    · cases hr
    · simp only [Option.map_eq_some_iff] at hr
      obtain ⟨y, hy, rfl⟩ := hr
      exact pact_val hr0 s ev h hk
  | _ => simp [resolveOp1] at hr
end
end Go.Pv

set_option linter.unusedSimpArgs false
set_option linter.unusedVariables false
namespace Go.Pv
section
variable {P : Program} {w0 w : World} {hw0 hw : Nat → Nat} {H0 H : PH} {lam : Nat → Nat} {L : List (List PV)}

theorem bytes_eq {a b : ByteArray} (h : (a == b) = true) : a = b := by
  cases a; cases b
  have h : (_ == _) = true := h
  congr 1
  exact eq_of_beq h
/-! ### maps -/
theorem run_getMap {b : Nat} {c : Array MapEntry} {clk : Nat} (h : w.heap[b]? = some (.map c clk)) : (getObj b).run P w = .ok (.map c clk) w := by
  show (Sem.getObj b Sem.pure).run P w = _
  simp only [Sem.run, h]
theorem run_setMap {b : Nat} {c : Array MapEntry} {clk : Nat} (h : w.heap[b]? = some (.map c clk)) (o : Obj) : (setObj b o).run P w = .ok () { w with heap := w.heap.setIfInBounds b o } := by
  show (Sem.setObj b o (Sem.pure ())).run P w = _
  simp only [Sem.run, h]

/-- A map's block turned. -/
theorem WRep.mapSet (h : WRep w hw H) {b : Nat} {kk : Option IntKind} {es es' : List (Value × PV)} (hb : H.get b = some (.map kk es)) {c : Array MapEntry} {clk : Nat} (hc : RepM (memOf w hw) kk es' c.toList) :
    WRep { w with heap := w.heap.setIfInBounds b (.map c clk) } hw (H.set b (.map kk es')) ∧ ExtF H w hw { w with heap := w.heap.setIfInBounds b (.map c clk) } hw (H.set b (.map kk es')) := by
  have ho := h.obj b _ hb
  have hlt := ho.lt
  have h6 : ∀ x, x ≠ b → ({ w with heap := w.heap.setIfInBounds b (.map c clk) } : World).heap[x]? = w.heap[x]? := by
    intro x hx
    show (w.heap.setIfInBounds b (.map c clk))[x]? = _
    rw [Array.getElem?_setIfInBounds_ne (by omega)]
  have hm := mle_same (w := w) (w' := { w with heap := w.heap.setIfInBounds b (.map c clk) }) ho.1 h6
  have hs : ({ w with heap := w.heap.setIfInBounds b (.map c clk) } : World).heap.size = w.heap.size := by simp
  refine ⟨⟨fun x hx => by rw [hs]; exact h.fin x hx, fun x o hx => ?_⟩, ⟨rfl, rfl, rfl, by omega, fun x hx hn => ⟨h6 x (fun e => by subst e; rw [hb] at hn; cases hn), rfl⟩, hm, fun x hx => ?_⟩⟩
  · rw [PH.get_set] at hx
    split at hx
    · rename_i e
      cases hx
      subst e
      exact ⟨ho.1, c, clk, by show (w.heap.setIfInBounds x (.map c clk))[x]? = _; rw [Array.getElem?_setIfInBounds_self_of_lt hlt], RepM.mono hm hc⟩
    · rename_i e
      exact (h.obj x o hx).keep (h6 x e) rfl hm
  · rw [PH.get_set] at hx
    split at hx
    · rename_i e; subst e; exact .inl (by simp [hb])
    · exact .inl hx
theorem WRep.mapNew (h : WRep w hw H) (kk : Option IntKind) :
    WRep (World.push w (.map #[] 0)) hw (H.set w.heap.size (.map kk [])) ∧ ExtF H w hw (World.push w (.map #[] 0)) hw (H.set w.heap.size (.map kk [])) := by
  have hz := updF_zero h.hw_size
  have h1 := h.push (.map #[] 0) 0
  have h2 := ext_push (H := H) h.fin (.map #[] 0) 0
  rw [hz] at h1 h2
  refine ⟨⟨h1.fin, fun b o hb => ?_⟩, ⟨h2.os, h2.tape, h2.output, h2.size, h2.frame, h2.mono, fun b hb => ?_⟩⟩
  · rw [PH.get_set] at hb
    split at hb
    · rename_i e
      cases hb
      subst e
      exact ⟨h.hw_size, #[], 0, push_new _ _, rfl⟩
    · exact h1.obj b o hb
  · rw [PH.get_set] at hb
    split at hb
    · rename_i e; exact .inr (by omega)
    · exact .inl hb

def kkT : Option IntKind → TypeDesc
  | none => .string
  | some k => .int k
def KKof (P : Program) (t : TypeId) (kk : Option IntKind) : Prop := P.underlying t = some (kkT kk)
theorem mapKK_of {t : TypeId} {kk : Option IntKind} (h : mapKK P t = some kk) : KKof P t kk := by
  unfold mapKK at h
  split at h
  · rename_i e; cases h; exact e
  · rename_i e; cases h; exact e
  · cases h

theorem run_checkKey {t : TypeId} {kk : Option IntKind} (ht : KKof P t kk) (e : Bool) {key : Value} (hk : keyV kk key = true) (w : World) : (Instr.checkKey e 10000 t key).run P w = .ok () w := by
  show (Instr.checkKey e (9999 + 1) t key).run P w = _
  unfold Instr.checkKey
  rw [run_bind_ok (run_under ht w)]
  cases kk with
  | none => cases key <;> first | rfl | simp [keyV] at hk
  | some k => cases key <;> first | rfl | simp [keyV] at hk

theorem sameNow_eq {kk : Option IntKind} {a b : Value} (ha : keyV kk a = true) (hb : keyV kk b = true) : Instr.sameNow (kkT kk) a b = some (keyEq a b) := by
  cases kk with
  | none =>
    cases a <;> simp [keyV] at ha
    cases b <;> simp [keyV] at hb
    rfl
  | some k =>
    cases a <;> simp [keyV] at ha
    cases b <;> simp [keyV] at hb
    subst ha hb
    simp [kkT, Instr.sameNow, keyEq]

/-- Where a key lies. -/
theorem findNow_rep {m : Mem} {kk : Option IntKind} {key : Value} (hk : keyV kk key = true) : ∀ {es : List (Value × PV)} {c : List MapEntry} (i : Nat), RepM m kk es c →
    (mfind key es = none ∧ Instr.findNow (kkT kk) key c i = some none) ∨
    (∃ j e p, mfind key es = some p ∧ Instr.findNow (kkT kk) key c i = some (some (i + j, e.val)) ∧ c[j]? = some e ∧ Rep m p e.val ∧ keyEq key e.key = true ∧ keyV kk e.key = true)
  | [], c, i, h => by
    simp only [RepM] at h; subst h
    exact .inl ⟨rfl, rfl⟩
  | (k, p) :: es, c, i, h => by
    obtain ⟨e, rest, rfl, he, hv, hr, hrest⟩ := h
    subst he
    simp only [Instr.findNow, sameNow_eq hk hv, mfind]
    cases heq : keyEq key e.key with
    | true =>
      refine .inr ⟨0, e, p, by simp, by simp, by simp, hr, heq, hv⟩
    | false =>
      rcases findNow_rep hk (i + 1) hrest with ⟨h1, h2⟩ | ⟨j, e', p', h1, h2, h3, h4, h5, h6⟩
      · exact .inl ⟨by simpa using h1, h2⟩
      · exact .inr ⟨j + 1, e', p', by simpa using h1, by rw [show i + (j + 1) = i + 1 + j by omega]; exact h2, by simpa using h3, h4, h5, h6⟩

theorem run_findKey {t : TypeId} {kk : Option IntKind} (ht : KKof P t kk) {key : Value} {c : List MapEntry} {r : Option (Nat × Value)}
    (h : Instr.findNow (kkT kk) key c 0 = some r) (w : World) : (Instr.findKey t key c).run P w = .ok r w := by
  unfold Instr.findKey
  rw [run_bind_ok (run_under ht w), h]
  rfl

theorem sameBits_of {kk : Option IntKind} {a b : Value} (ha : keyV kk a = true) (hb : keyV kk b = true) (h : keyEq a b = true) : Instr.sameBits 10000 b a = true ∧ a = b := by
  cases kk with
  | none =>
    cases a <;> simp [keyV] at ha
    cases b <;> simp [keyV] at hb
    rename_i x y
    have h' : (x == y) = true := h
    have : x = y := bytes_eq h'
    subst this
    refine ⟨?_, rfl⟩
    show (x == x) = true
    exact h'
  | some k =>
    cases a <;> simp [keyV] at ha
    cases b <;> simp [keyV] at hb
    subst ha hb
    simp only [keyEq, beq_iff_eq] at h
    subst h
    simp [Instr.sameBits]

/-- What a map has behind an update. -/
theorem RepM_put {m : Mem} {kk : Option IntKind} {key : Value} (hk : keyV kk key = true) {p : PV} {v : Value} (hp : Rep m p v) : ∀ {es : List (Value × PV)} {c : List MapEntry}, RepM m kk es c →
    (mfind key es = none → ∀ clk, RepM m kk (mput key p es) (c ++ [{ key, val := v, born := clk }])) ∧
    (∀ j e, c[j]? = some e → (∀ i e', i < j → c[i]? = some e' → keyEq key e'.key = false) → keyEq key e.key = true → RepM m kk (mput key p es) (c.modify j fun e => { e with key, val := v }))
  | [], c, h => by
    simp only [RepM] at h; subst h
    exact ⟨fun _ clk => ⟨_, [], rfl, rfl, hk, hp, rfl⟩, fun j e he => by simp at he⟩
  | (k, q) :: es, c, h => by
    obtain ⟨e0, rest, rfl, he, hv, hr, hrest⟩ := h
    subst he
    have ih := RepM_put hk hp hrest
    refine ⟨fun hn clk => ?_, fun j e hj hlow heq => ?_⟩
    · simp only [mfind] at hn
      cases h0 : keyEq key e0.key with
      | true => simp [h0] at hn
      | false =>
        simp only [h0, Bool.false_eq_true, if_false] at hn
        simp only [mput, h0, Bool.false_eq_true, if_false]
        exact ⟨e0, _, rfl, rfl, hv, hr, ih.1 hn clk⟩
    · cases j with
      | zero =>
        simp only [List.getElem?_cons_zero, Option.some.injEq] at hj
        subst hj
        simp only [mput, heq, if_true]
        exact ⟨_, rest, rfl, rfl, hk, hp, hrest⟩
      | succ j =>
        have h0 : keyEq key e0.key = false := hlow 0 e0 (by omega) (by simp)
        simp only [mput, h0, Bool.false_eq_true, if_false]
        refine ⟨e0, _, rfl, rfl, hv, hr, ih.2 j e (by simpa using hj) (fun i e' hi he' => hlow (i + 1) e' (by omega) (by simpa using he')) heq⟩

theorem findNow_low {kk : Option IntKind} {m : Mem} {key : Value} (hk : keyV kk key = true) : ∀ {es : List (Value × PV)} {c : List MapEntry} (i : Nat) {n : Nat} {v : Value}, RepM m kk es c →
    Instr.findNow (kkT kk) key c i = some (some (n, v)) → i ≤ n ∧ ∀ j e', j < n - i → c[j]? = some e' → keyEq key e'.key = false
  | [], c, i, n, v, h, hf => by
    simp only [RepM] at h; subst h
    simp [Instr.findNow] at hf
  | (k, q) :: es, c, i, n, v, h, hf => by
    obtain ⟨e0, rest, rfl, he, hv, hr, hrest⟩ := h
    subst he
    simp only [Instr.findNow, sameNow_eq hk hv] at hf
    cases h0 : keyEq key e0.key with
    | true =>
      simp only [h0, Option.some.injEq, Prod.mk.injEq] at hf
      exact ⟨by omega, fun j e' hj => by omega⟩
    | false =>
      simp only [h0] at hf
      obtain ⟨h1, h2⟩ := findNow_low hk (i + 1) hrest hf
      refine ⟨by omega, fun j e' hj he' => ?_⟩
      cases j with
      | zero => simp at he'; subst he'; exact h0
      | succ j => exact h2 j e' (by omega) (by simpa using he')

/-! ### slices that are written in place -/
theorem pads {m : Mem} {zs : List PV} {vz : List Value} (h : RepL m zs vz) : ∀ {extra : List Value}, (∀ v ∈ extra, v ∈ vz) → ∃ pad, RepL m pad extra ∧ pad.length = extra.length
  | [], _ => ⟨[], RepL_nil, rfl⟩
  | v :: extra, hm => by
    obtain ⟨pad, h1, h2⟩ := pads h (extra := extra) fun u hu => hm u (List.mem_cons_of_mem _ hu)
    have hv := hm v (by simp)
    obtain ⟨i, hi⟩ := List.getElem?_of_mem hv
    have hl := RepL_length h
    have hlt : i < zs.length := by have := (List.getElem?_eq_some_iff.1 hi).1; omega
    obtain ⟨u, hu, hr⟩ := RepL_get h (List.getElem?_eq_getElem hlt)
    rw [hi] at hu
    cases hu
    exact ⟨_ :: pad, RepL_cons.2 ⟨hr, h1⟩, by simp [h2]⟩

theorem cells_of_box {b : Nat} {cs : List PV} (h : ObjRep w hw b (.cells cs)) : ∃ c el, hw b = 0 ∧ w.heap[b]? = some (.cells c el (0, 0)) ∧ RepL (memOf w hw) cs c.toList ∧ c.size = cs.length := by
  obtain ⟨h0, c, el, h1, h2⟩ := h
  exact ⟨c, el, h0, h1, h2, by have := RepL_length h2; simpa using this⟩

theorem firstCells_box {b o sz n len cap : Nat} {c : Array Value} {el : TypeId} (h : w.heap[b]? = some (.cells c el (0, 0))) (hle : o + n * sz ≤ c.size) {w' : World} (hw' : w'.heap = w.heap) :
    (Builtin.firstCells sz n (.slice (some ⟨b, o, none⟩) len cap)).run P w' = .ok ((c.toList.drop o).take (n * sz)).toArray w' := by
  show (loadCells ⟨b, o, none⟩ (n * sz)).run P w' = _
  refine run_loadCells _ (by simp; omega) fun j v hj => ?_
  rw [cell_of_block (by rw [hw']; exact h)]
  have hlt : j < n * sz := by
    have := (List.getElem?_eq_some_iff.1 hj).1
    simp at this; omega
  rw [List.getElem?_take_of_lt hlt, List.getElem?_drop] at hj
  simpa using hj

theorem allCell_flat : ∀ {ys : List PV}, (∀ p ∈ ys, p.cells.all cellP = true) → (flat ys).all cellP = true
  | [], _ => rfl
  | y :: ys, h => by
    rw [flat, List.all_append, h y (by simp), Bool.true_and]
    exact allCell_flat fun p hp => h p (by simp [hp])

/-- An append that makes a box of its own. -/
theorem s_appM_new (s : SimB w0 hw0 H0 w hw lam L H) {ts tx el e2 ty : TypeId} {sz by_ : Nat} {z : Value} {argTypes : Array TypeId}
    (h0 : argTypes[0]? = some ts) (h1 : argTypes[1]? = some tx) (ht : P.underlying ts = some (.slice el)) (hx : P.underlying tx = some (.slice e2)) (hs : tSize P el = some sz) (hb : tBytes P el = some by_) (hz : tZero P el = some z) (hzs : z.cells.size = sz)
    {zs : List PV} (hzc : ofCells z.cells.toList = some zs) {A B : Option Addr} {len cap n capB : Nat} {ps qs : List PV} {us vs : List Value}
    (hold : ∀ w' : World, w'.heap = w.heap → (Builtin.firstCells sz len (.slice A len cap)).run P w' = .ok us.toArray w') (hnew : ∀ w' : World, w'.heap = w.heap → (Builtin.firstCells sz n (.slice B n capB)).run P w' = .ok vs.toArray w')
    (ru : RepL (memOf w hw) ps us) (rv : RepL (memOf w hw) qs vs) (hok : rowBytesOk (len + n) by_) (hB : len + n ≤ lenB) (hlt : cap < len + n) :
    ∃ cap' pad w', len + n ≤ cap' ∧ pad.length = (cap' - (len + n)) * sz ∧ (Builtin.append_ argTypes ty #[.slice A len cap, .slice B n capB]).run P w = .ok (.slice (some ⟨w.heap.size, 0, none⟩) (len + n) cap') w' ∧
      SimB w0 hw0 H0 w' hw lam L (H.set w.heap.size (.cells (ps ++ qs ++ pad))) ∧ MLe (memOf w hw) (memOf w' hw) := by
  obtain ⟨k, w1, extra, c1, c2, c3, c4, ⟨c5, c6⟩, hrun⟩ := (run_append (P := P) (w := w) (ty := ty) h0 h1 ht hx hs hb hz hok hB hold hnew).2 hlt
  have s1 := s.drawn c1 c2 c3 c4
  obtain ⟨pad, hp1, hp2⟩ := pads (RepL_ofCells (memOf w1 hw) _ hzc) c6
  have hc : RepL (memOf w1 hw) (ps ++ qs ++ pad) (us ++ vs ++ extra).toArray.toList := by
    have e := memOf_heap (hw := hw) c1
    rw [← e] at ru rv
    exact RepL_append (RepL_append ru rv) hp1
  have s2 := s1.boxH (el := el) hc
  refine ⟨len + n + k, pad, _, by omega, by rw [hp2, c5, hzs]; congr 1; omega, hrun, ?_, ?_⟩
  · rw [c1] at s2
    exact s2
  · have := (s1.wrep.box (el := el) hc).2.mono
    rw [memOf_heap c1] at this
    exact this

theorem s_appM_in (s : SimB w0 hw0 H0 w hw lam L H) {ts tx el e2 ty : TypeId} {sz by_ : Nat} {z : Value} {argTypes : Array TypeId}
    (h0 : argTypes[0]? = some ts) (h1 : argTypes[1]? = some tx) (ht : P.underlying ts = some (.slice el)) (hx : P.underlying tx = some (.slice e2)) (hs : tSize P el = some sz) (hb : tBytes P el = some by_) (hz : tZero P el = some z)
    {b o len cap : Nat} {B : Option Addr} {n capB : Nat} {cs qs : List PV} {vs : List Value} (hbx : H.get b = some (.cells cs)) (hcap : o + cap * sz ≤ cs.length) (hle : len ≤ cap)
    (hnew : ∀ w' : World, w'.heap = w.heap → (Builtin.firstCells sz n (.slice B n capB)).run P w' = .ok vs.toArray w')
    (rv : RepL (memOf w hw) qs vs) (hql : qs.length = n * sz) (hcell : qs.all cellP = true) (hok : rowBytesOk (len + n) by_) (hB : len + n ≤ lenB) (hlt : len + n ≤ cap) :
    ∃ w', (Builtin.append_ argTypes ty #[.slice (some ⟨b, o, none⟩) len cap, .slice B n capB]).run P w = .ok (.slice (some ⟨b, o, none⟩) (len + n) cap) w' ∧
      SimB w0 hw0 H0 w' hw lam L (H.set b (.cells (splice cs (o + len * sz) qs))) ∧ MLe (memOf w hw) (memOf w' hw) := by
  obtain ⟨c, el2, hb0, hb1, hb2, hb3⟩ := cells_of_box (s.heap hbx)
  have hle2 : len * sz ≤ cap * sz := Nat.mul_le_mul_right _ hle
  have hle3 : (len + n) * sz ≤ cap * sz := Nat.mul_le_mul_right _ hlt
  rw [Nat.add_mul] at hle3
  have hold : ∀ w' : World, w'.heap = w.heap → (Builtin.firstCells sz len (.slice (some ⟨b, o, none⟩) len cap)).run P w' = .ok ((c.toList.drop o).take (len * sz)).toArray w' := fun w' hw' => firstCells_box hb1 (by omega) hw'
  have hrun := (run_append (P := P) (w := w) (ty := ty) h0 h1 ht hx hs hb hz hok hB hold hnew).1 hlt
  have hvl : vs.length = n * sz := by have := RepL_length rv; omega
  obtain ⟨w', q1, q2, q3, q4, q5, q6, q7⟩ := run_storeCells (P := P) vs w (o + len * sz) 0 c hb1 (by omega) (cellsOk_of hcell rv)
  have hst := s.wrep.stored hbx q2 q3 q4 q5 q6 q7 (cs' := splice cs (o + len * sz) qs) (by
    simp only [Nat.add_zero]
    exact RepL_splice _ rv hb2)
  refine ⟨w', ?_, s.step hst.2 hst.1, hst.2.mono⟩
  rw [hrun]
  simp only [addr_add]
  rw [run_bind_ok q1]
  rfl

theorem s_cpy (s : SimB w0 hw0 H0 w hw lam L H) {t el ty : TypeId} {sz : Nat} {ts : Array TypeId} (h0 : ts[0]? = some t) (ht : P.underlying t = some (.slice el)) (hs : tSize P el = some sz)
    {b o n c0 b2 o2 n2 c2 : Nat} {cs cs2 : List PV} (hb : H.get b = some (.cells cs)) (hb2 : H.get b2 = some (.cells cs2)) (h1 : o + min n2 n * sz ≤ cs.length) (h2 : o2 + min n2 n * sz ≤ cs2.length)
    (hc : ((cs2.drop o2).take (min n2 n * sz)).all cellP = true) :
    ∃ w', (Builtin.copy_ ts ty #[.slice (some ⟨b, o, none⟩) n c0, .slice (some ⟨b2, o2, none⟩) n2 c2]).run P w = .ok (.int .i64 (min n2 n : Nat)) w' ∧
      SimB w0 hw0 H0 w' hw lam L (H.set b (.cells (splice cs o ((cs2.drop o2).take (min n2 n * sz))))) ∧ MLe (memOf w hw) (memOf w' hw) := by
  obtain ⟨c, el1, k0, k1, k2, k3⟩ := cells_of_box (s.heap hb)
  obtain ⟨d, el2, j0, j1, j2, j3⟩ := cells_of_box (s.heap hb2)
  have rv : RepL (memOf w hw) ((cs2.drop o2).take (min n2 n * sz)) ((d.toList.drop o2).take (min n2 n * sz)) := RepL_take _ (RepL_drop _ j2)
  have hvl : ((d.toList.drop o2).take (min n2 n * sz)).length = min n2 n * sz := by simp; omega
  obtain ⟨w', q1, q2, q3, q4, q5, q6, q7⟩ := run_storeCells (P := P) ((d.toList.drop o2).take (min n2 n * sz)) w o 0 c k1 (by omega) (cellsOk_of hc rv)
  have hst := s.wrep.stored hb q2 q3 q4 q5 q6 q7 (cs' := splice cs o ((cs2.drop o2).take (min n2 n * sz))) (by
    simp only [Nat.add_zero]
    exact RepL_splice _ rv k2)
  refine ⟨w', ?_, s.step hst.2 hst.1, hst.2.mono⟩
  unfold Builtin.copy_
  simp only [h0, List.getElem?_toArray, List.getElem?_cons_zero, List.getElem?_cons_succ]
  rw [run_bind_ok (run_under ht w)]
  simp only
  rw [run_bind_ok (s := Builtin.lenOf (.slice (some ⟨b2, o2, none⟩) n2 c2)) (a := n2) (w' := w) rfl, run_bind_ok (run_sizeOf hs w)]
  rw [show Nat.min n2 n = min n2 n from rfl, run_bind_ok (firstCells_box j1 (by omega) rfl)]
  rw [run_bind_ok q1]
  rfl

theorem xact_mset {kk : Option IntKind} {e1 e2 e3 : EV} {k : EV → PH → Prop} (h : xact P (.mset kk) [e1, e2, e3] H k) :
    ∃ b key p es, e1 = .v (.mapr b) ∧ e2 = .v (.scal key) ∧ e3 = .v p ∧ H.get b = some (.map kk es) ∧ keyV kk key = true ∧ k undefE (H.set b (.map kk (mput key p es))) := by
  cases e1 with
  | l i o => exact False.elim h
  | v p1 => cases p1 with
    | mapr b => cases e2 with
      | l i o => exact False.elim h
      | v p2 => cases p2 with
        | scal key => cases e3 with
          | l i o => exact False.elim h
          | v p =>
            have h' : (match H.get b with | some (.map kk' es) => kk = kk' ∧ keyV kk key = true ∧ k undefE (H.set b (.map kk (mput key p es))) | _ => False) := h
            split at h'
            · rename_i kk' es hb
              obtain ⟨rfl, h1, h2⟩ := h'
              exact ⟨b, key, p, es, rfl, rfl, rfl, hb, h1, h2⟩
            · exact h'.elim
        | _ => exact False.elim h
    | _ => exact False.elim h
theorem xact_cpy {sz : Nat} {e1 e2 : EV} {k : EV → PH → Prop} (h : xact P (.cpy sz) [e1, e2] H k) :
    ∃ b o n c b2 o2 n2 c2 cs cs2, e1 = .v (mslc b o n c) ∧ e2 = .v (mslc b2 o2 n2 c2) ∧ H.get b = some (.cells cs) ∧ H.get b2 = some (.cells cs2) ∧ o + min n2 n * sz ≤ cs.length ∧ o2 + min n2 n * sz ≤ cs2.length ∧ ((cs2.drop o2).take (min n2 n * sz)).all cellP = true ∧
        k (.v (.scal (.int .i64 (min n2 n : Nat)))) (H.set b (.cells (splice cs o ((cs2.drop o2).take (min n2 n * sz))))) := by
  unfold xact at h
  split at h <;> first | (exfalso; assumption) | skip
  all_goals first
    | (rename_i h1 h2; cases h1; done)
    | (rename_i h1 h2; simp only [List.cons.injEq, reduceCtorEq, and_false, false_and] at h2; done)
    | skip
  rename_i b o n c b2 o2 n2 c2 h1 h2
  cases h1
  simp only [List.cons.injEq, and_true] at h2
  obtain ⟨rfl, rfl⟩ := h2
  split at h
  · rename_i cs cs2 k1 k2
    exact ⟨b, o, n, c, b2, o2, n2, c2, cs, cs2, rfl, rfl, k1, k2, h⟩
  · exact h.elim

theorem asList_args {e : EV} {tok : Tok} {ys : List PV} {v : Value} {nL : Nat} {sz : Nat} (h : asList? e = some (tok, ys)) (r : RepEV (memOf w hw) lam nL e v) (hsz : ∀ p ∈ ys, p.cells.length = sz) :
    ∃ B n capB vs, v = .slice B n capB ∧ n = ys.length ∧ RepL (memOf w hw) (flat ys) vs ∧ ∀ w' : World, w'.heap = w.heap → (Builtin.firstCells sz n (.slice B n capB)).run P w' = .ok vs.toArray w' := by
  obtain ⟨B, n, capB, vs, h1, h2, _, _, h5, h6⟩ := append_hyps (P := P) (asList_rep h r) hsz
  exact ⟨B, n, capB, vs, h1, h2, h5, h6⟩

/-- **What an operation does, is done.** -/
theorem pact_sound {o : Oper} {r : ROp} {n : Nat} {a : Act} {ρ : RO → EV} {pf : FuncId → Bool} {hp kp : Bool} (hr : resolveOp P pf n hp kp o.type o.op = some r) (s : SimB w0 hw0 H0 w hw lam L H) (ev : Evals (memOf w hw) lam L.length n ρ a.eval)
    {k : EV → List (List PV) → PH → Prop} (h : pact P r ρ L H k) {next : Act → World → Prop} {Q : Exit → Act → World → Prop} (hk : NextOk w0 hw0 H0 w hw lam L k (a.put o.dst) next) : o.wp P a w next Q := by
  unfold resolveOp at hr
  split at hr
  rotate_left
  · exact pact_sound1 hr s ev h hk
  rename_i r' hx
  cases hr
  obtain ⟨dst, op, type, pos, after, guard⟩ := o
  simp only at hx hk
  have mkmap : ∀ (t : TypeId) (rsv : Option Operand) (kk : Option IntKind), op = .makeMap t rsv → r = .xop (.mknew kk) [] → (∀ w', (Instr.makeMap t (rsv.map a.eval)).run P w' = .ok (.map (some w'.heap.size)) (World.push w' (.map #[] 0))) →
      Oper.wp P ⟨dst, op, type, pos, after, guard⟩ a w next Q := by
    rintro t rsv kk rfl rfl hrun
    have h : ∀ b, H.get b = none → k (.v (.mapr b)) L (H.set b (.map kk [])) := h
    have hm := s.wrep.mapNew kk
    refine wp_value (v := .map (some w.heap.size)) (w' := World.push w (.map #[] 0)) ?_ (hk _ _ _ _ _ _ lam (h w.heap.size (s.wrep.get_size (Nat.le_refl _))) (s.step hm.2 hm.1) hm.2.mono (fun _ _ => rfl) (Nat.le_refl _) (by simp [RepEV, Rep]))
    show (do pure (Next.value (← Instr.makeMap t (rsv.map a.eval))) : Sem Next).run P w = _
    exact run_v (hrun w)
  have mset : ∀ (t : TypeId) (m i x : Operand) (r : ROp), (match P.underlying t with
      | some (.map kt _) => (mapKK P kt).bind fun kk => (rO n m).bind fun a => (rO n i).bind fun b => (rO n x).map fun c => ROp.xop (.mset kk) [a, b, c]
      | _ => none) = some r → execOp a.eval ⟨dst, op, type, pos, after, guard⟩ = (Instr.mapUpdate t (a.eval m) (a.eval i) (a.eval x) >>= fun _ => (pure Next.skip : Sem Next)) → pact P r ρ L H k → Oper.wp P ⟨dst, op, type, pos, after, guard⟩ a w next Q := by
    intro t m i x r hx hex h
    split at hx
    · rename_i kt el hu
      simp only [Option.bind_eq_some_iff, Option.map_eq_some_iff] at hx
      obtain ⟨kk, hkk, m', hm, i', hi, x', hx, rfl⟩ := hx
      have hkk := mapKK_of hkk
      obtain ⟨b, key, p, es, e1, e2, e3, hb, hkey, hkn⟩ := xact_mset (P := P) (k := fun e H' => k e L H') h
      have v1 : a.eval m = .map (some b) := ev_v ev hm e1
      have v2 : a.eval i = key := (ev_v ev hi e2).1
      have v3 := ev_v ev hx e3
      obtain ⟨h0, c, clk, hc1, hc2⟩ := s.heap hb
      have key_run : ∃ c' clk', (Instr.mapUpdate t (a.eval m) (a.eval i) (a.eval x)).run P w = .ok () { w with heap := w.heap.setIfInBounds b (.map c' clk') } ∧ RepM (memOf w hw) kk (mput key p es) c'.toList := by
        unfold Instr.mapUpdate
        rw [run_bind_ok (run_under hu w), v1, v2]
        simp only
        rw [run_bind_ok (run_getMap hc1)]
        simp only
        rw [run_bind_ok (run_checkKey hkk false hkey w)]
        rcases findNow_rep hkey 0 hc2 with ⟨f1, f2⟩ | ⟨j, e, q, f1, f2, f3, f4, f5, f6⟩
        · rw [run_bind_ok (run_findKey hkk f2 w)]
          refine ⟨c.push { key, val := a.eval x, born := clk }, clk + 1, ?_, ?_⟩
          · exact run_setMap hc1 _
          · rw [Array.toList_push]; exact (RepM_put hkey v3 hc2).1 f1 clk
        · rw [run_bind_ok (run_findKey hkk f2 w)]
          simp only [Nat.zero_add]
          rw [Nat.zero_add] at f2
          have hlow := (findNow_low hkey 0 hc2 f2).2
          have hce : c[j]? = some e := by simpa using f3
          obtain ⟨sb1, sb2⟩ := sameBits_of hkey f6 f5
          refine ⟨c.modify j fun e => { e with key := key, val := a.eval x }, clk, ?_, ?_⟩
          · rw [hce]
            simp only [Option.map_some, Option.getD_some]
            rw [run_bind_ok (s := Instr.keyThatStays e.key key) (a := key) (w' := w) (by unfold Instr.keyThatStays; rw [if_pos sb1]; rfl)]
            exact run_setMap hc1 _
          · rw [Array.toList_modify]
            exact (RepM_put hkey v3 hc2).2 j e f3 (fun i' e' hi' he' => hlow i' e' (by omega) he') f5
      obtain ⟨c', clk', hrun, hrep⟩ := key_run
      have hm' := s.wrep.mapSet hb (c := c') (clk := clk') hrep
      unfold Oper.wp
      have : (execOp a.eval ⟨dst, op, type, pos, after, guard⟩).run P w = .ok .skip { w with heap := w.heap.setIfInBounds b (.map c' clk') } := by
        rw [hex, run_bind_ok hrun]; rfl
      rw [this, Oper.upon_skip]
      exact hk _ _ _ _ _ _ lam hkn (s.step hm'.2 hm'.1) hm'.2.mono (fun _ _ => rfl) (Nat.le_refl _) (by simp [undefE, RepEV, Rep, undef, atomB])
    · cases hx
  have valv : ∀ {e : EV} {v : Value}, k e L H → (execOp a.eval ⟨dst, op, type, pos, after, guard⟩).run P w = .ok (.value v) w → RepEV (memOf w hw) lam L.length e v → Oper.wp P ⟨dst, op, type, pos, after, guard⟩ a w next Q := fun h1 h2 h3 =>
    wp_value h2 (hk _ _ _ _ _ _ lam h1 s (MLe.refl _) (fun _ _ => rfl) (Nat.le_refl _) h3)
  unfold resolveX at hx
  split at hx
  · -- makeMap
    split at hx
    · simp only [Option.map_eq_some_iff] at hx
      obtain ⟨kk, _, rfl⟩ := hx
      exact mkmap _ none kk rfl rfl fun w' => rfl
    · cases hx
  · split at hx
    · rename_i hu
      simp only [Option.map_eq_some_iff] at hx
      obtain ⟨kk, _, rfl⟩ := hx
      refine mkmap _ _ kk rfl rfl fun w' => ?_
      unfold Instr.makeMap
      simp only [Option.map_some]
      rw [run_bind_ok (s := underlying _) (run_under hu w')]
      rfl
    · cases hx
  · -- lookup
    rename_i t x i ok
    split at hx
    · rename_i kt el hu
      simp only [Option.bind_eq_some_iff, Option.map_eq_some_iff] at hx
      obtain ⟨kk, hkk, z, hz, pz, hpz, x', hx, i', hi, rfl⟩ := hx
      have hkk := mapKK_of hkk
      have h : (match mgetV kk pz ok (ρ x') (ρ i') H with | some e => k e L H | none => False) := h
      obtain ⟨b, key, es, e1, e2, hb, hkey, hkn⟩ : ∃ b key es, ρ x' = .v (.mapr b) ∧ ρ i' = .v (.scal key) ∧ H.get b = some (.map kk es) ∧ keyV kk key = true ∧
          k (.v (if ok = true then .tup [(mfind key es).getD pz, .scal (.bool (mfind key es).isSome)] else (mfind key es).getD pz)) L H := by
        unfold mgetV at h
        split at h
        · rename_i e hm
          split at hm
          · rename_i b key e1 e2
            unfold mgetO at hm
            split at hm
            · rename_i kk' es hb
              split at hm
              · rename_i hc
                cases hm
                obtain ⟨rfl, hc⟩ := hc
                exact ⟨b, key, es, e1, e2, hb, hc, h⟩
              · cases hm
            · cases hm
          · cases hm
        · exact h.elim
      have v1 : a.eval x = .map (some b) := ev_v ev hx e1
      have v2 : a.eval i = key := (ev_v ev hi e2).1
      obtain ⟨h0, c, clk, hc1, hc2⟩ := s.heap hb
      obtain ⟨v, okv, hr1, hr2, hr3⟩ : ∃ v okv, (Instr.lookup t (a.eval x) (a.eval i) ok).run P w = .ok (if ok then .tuple #[v, .bool okv] else v) w ∧ Rep (memOf w hw) ((mfind key es).getD pz) v ∧ okv = (mfind key es).isSome := by
        unfold Instr.lookup
        rw [run_bind_ok (run_under hu w), v1, v2]
        simp only
        rw [run_bind_ok (run_getMap hc1)]
        simp only
        rw [run_bind_ok (run_pure' _ w)]
        rw [run_bind_ok (run_checkKey hkk _ hkey w)]
        rcases findNow_rep hkey 0 hc2 with ⟨f1, f2⟩ | ⟨j, e, q, f1, f2, f3, f4, f5, f6⟩
        · rw [run_bind_ok (run_findKey hkk f2 w)]
          refine ⟨z, false, ?_, by rw [f1]; exact Rep_ofValue _ _ hpz, by rw [f1]; rfl⟩
          simp only
          rw [run_bind_ok (run_zero hz w)]
          rfl
        · rw [run_bind_ok (run_findKey hkk f2 w)]
          refine ⟨e.val, true, ?_, by rw [f1]; exact f4, by rw [f1]; rfl⟩
          rfl
      refine valv hkn (v := if ok then .tuple #[v, .bool okv] else v) (by
        show (do pure (Next.value (← Instr.lookup t (a.eval x) (a.eval i) ok)) : Sem Next).run P w = _
        exact run_v hr1) ?_
      cases ok with
      | false => exact hr2
      | true =>
        simp only [if_true, RepEV, Rep]
        exact ⟨_, rfl, RepL_cons.2 ⟨hr2, RepL_cons.2 ⟨by rw [hr3]; exact rep_scal rfl, RepL_nil⟩⟩⟩
    · cases hx
  · exact mset _ _ _ _ _ hx rfl h
  · exact mset _ _ _ _ _ hx rfl h
  · -- len
    rename_i args ts
    split at hx
    · rename_i x hargs
      simp only [Option.bind_eq_some_iff] at hx
      obtain ⟨t, ht, hx⟩ := hx
      have ha : args.map a.eval = #[a.eval x] := by
        apply Array.ext'
        simp [hargs]
      split at hx
      · rename_i hu
        simp only [Option.map_eq_some_iff] at hx
        obtain ⟨y, hy, rfl⟩ := hx
        have h : (match mlenV (ρ y) H with | some e => k e L H | none => False) := h
        obtain ⟨b, kk, es, e1, hb, hkn⟩ : ∃ b kk es, ρ y = .v (.mapr b) ∧ H.get b = some (.map kk es) ∧ k (.v (.scal (.int .i64 es.length))) L H := by
          unfold mlenV at h
          split at h
          · rename_i e hm
            split at hm
            · rename_i b e1
              unfold mlenO at hm
              split at hm
              · rename_i kk es hb
                cases hm
                exact ⟨b, kk, es, e1, hb, h⟩
              · cases hm
            · cases hm
          · exact h.elim
        have v1 : a.eval x = .map (some b) := ev_v ev hy e1
        obtain ⟨h0, c, clk, hc1, hc2⟩ := s.heap hb
        have hlen : ∀ {es : List (Value × PV)} {c : List MapEntry}, RepM (memOf w hw) kk es c → c.length = es.length := by
          intro es
          induction es with
          | nil => intro c h; simp only [RepM] at h; simp [h]
          | cons e es ih => intro c h; obtain ⟨_, _, rfl, _, _, _, h⟩ := h; simp [ih h]
        have hl := hlen hc2
        refine valv hkn (v := .int .i64 es.length) ?_ (rep_scal (m := memOf w hw) rfl)
        rw [invoke_builtin]
        show (do pure (Next.value (← Builtin.len_ ts type (args.map a.eval))) : Sem Next).run P w = _
        rw [ha, v1]
        refine run_v ?_
        unfold Builtin.len_
        simp only [ht, List.getElem?_toArray, List.getElem?_cons_zero]
        rw [run_bind_ok (run_under hu w)]
        simp only
        rw [run_bind_ok (run_getMap hc1), ← hl]
        rfl
      · rename_i hu
        split at hx
        · simp only [Option.map_eq_some_iff] at hx
          obtain ⟨y, hy, rfl⟩ := hx
          simp only [pact, opVal] at h
          have r := ev x y hy
          have fin : ∀ (A : Option Addr) (len cap : Nat), a.eval x = .slice A len cap → (execOp a.eval ⟨dst, .call ⟨.builtin .len, args, ts⟩, type, pos, after, guard⟩).run P w = .ok (.value (.int .i64 len)) w := by
            intro A len cap e1
            rw [invoke_builtin]
            show (do pure (Next.value (← Builtin.len_ ts type (args.map a.eval))) : Sem Next).run P w = _
            rw [ha, e1]
            refine run_v ?_
            unfold Builtin.len_
            simp only [ht, List.getElem?_toArray, List.getElem?_cons_zero]
            rw [run_bind_ok (run_under hu w)]
            rfl
          cases hρ : ρ y with
          | l i o => rw [hρ] at h; exact False.elim h
          | v p =>
            rw [hρ] at h r
            cases p with
            | list tok xs =>
              obtain ⟨A, len, cap, z, e1, e2, _⟩ := r
              rw [e2] at e1
              exact valv h (fin _ _ _ e1) (rep_scal (m := memOf w hw) rfl)
            | scal u =>
              have e1 : a.eval x = u := r.1
              cases u with
              | slice A len cap =>
                cases A with
                | none => exact False.elim h
                | some A => exact valv h (fin _ _ _ e1) (rep_scal (m := memOf w hw) rfl)
              | _ => exact False.elim h
            | _ => exact False.elim h
        · cases hx
      · cases hx
    · cases hx
  · -- copy
    rename_i args ts
    split at hx
    · rename_i x y hargs
      simp only [Option.bind_eq_some_iff] at hx
      obtain ⟨t, ht, x', hx', y', hy', hx⟩ := hx
      split at hx
      · rename_i el hu
        simp only [Option.map_eq_some_iff] at hx
        obtain ⟨sz, hs, rfl⟩ := hx
        obtain ⟨b, o, n, c, b2, o2, n2, c2, cs, cs2, e1, e2, hb, hb2, h1, h2, h3, hkn⟩ := xact_cpy (P := P) (k := fun e H' => k e L H') h
        have v1 : a.eval x = .slice (some ⟨b, o, none⟩) n c := (ev_v ev hx' e1).1
        have v2 : a.eval y = .slice (some ⟨b2, o2, none⟩) n2 c2 := (ev_v ev hy' e2).1
        obtain ⟨w', q1, q2, q3⟩ := s_cpy (P := P) s (ty := type) ht hu hs (n := n) (c0 := c) (n2 := n2) (c2 := c2) hb hb2 h1 h2 h3
        refine wp_value (v := .int .i64 (min n2 n : Nat)) (w' := w') ?_ (hk _ _ _ _ _ _ lam hkn q2 q3 (fun _ _ => rfl) (Nat.le_refl _) (rep_scal (m := memOf w' hw) rfl))
        rw [invoke_builtin]
        have ha : args.map a.eval = #[.slice (some ⟨b, o, none⟩) n c, .slice (some ⟨b2, o2, none⟩) n2 c2] := by
          apply Array.ext'
          simp [hargs, v1, v2]
        show (do pure (Next.value (← Builtin.copy_ ts type (args.map a.eval))) : Sem Next).run P w = _
        rw [ha]
        exact run_v q1
      · cases hx
    · cases hx
  · -- append
    rename_i args ts
    split at hx
    · split at hx
      · rename_i x y hargs
        simp only [Option.bind_eq_some_iff] at hx
        obtain ⟨t, ht, u, hu, x', hx', y', hy', hx⟩ := hx
        split at hx
        · rename_i el e2 hut huu
          simp only [Option.bind_eq_some_iff] at hx
          obtain ⟨sz, hs, by_, hb, z, hz, hx⟩ := hx
          split at hx
          · rename_i hzz
            obtain ⟨hzs, hzc⟩ := hzz
            cases hx
            obtain ⟨zs, hzs'⟩ := Option.isSome_iff_exists.1 hzc
            have hxe : ∀ v w', (Builtin.append_ ts type #[a.eval x, a.eval y]).run P w = .ok v w' → (execOp a.eval ⟨dst, .call ⟨.builtin .append, args, ts⟩, type, pos, after, guard⟩).run P w = .ok (.value v) w' := by
              intro v w' h1
              rw [invoke_builtin]
              have ha : args.map a.eval = #[a.eval x, a.eval y] := by
                apply Array.ext'
                simp [hargs]
              show (do pure (Next.value (← Builtin.append_ ts type (args.map a.eval))) : Sem Next).run P w = _
              rw [ha]
              exact run_v h1
            have h : (match asList? (ρ y') with
              | some (_, ys) => 0 < sz ∧ ys ≠ [] ∧ (∀ p ∈ ys, p.cells.length = sz) ∧ (∀ p ∈ ys, p.cells.all cellP = true) ∧
                match ρ x' with
                | .v (.list .full []) => rowBytesOk ys.length by_ ∧ ys.length ≤ lenB ∧ ∀ b cap pad, H.get b = none → ys.length ≤ cap → pad.length = (cap - ys.length) * sz → 
                    k (.v (mslc b 0 ys.length cap)) L (H.set b (.cells (flat ys ++ pad)))
                | .v (.scal (.slice (some ⟨b, o, none⟩) len cap)) => match H.get b with
                  | some (.cells cs) => rowBytesOk (len + ys.length) by_ ∧ len + ys.length ≤ lenB ∧ len ≤ cap ∧ o + cap * sz ≤ cs.length ∧
                    (len + ys.length ≤ cap → k (.v (mslc b o (len + ys.length) cap)) L (H.set b (.cells (splice cs (o + len * sz) (flat ys))))) ∧
                    (cap < len + ys.length → ∀ b' cap' pad, H.get b' = none → len + ys.length ≤ cap' → pad.length = (cap' - (len + ys.length)) * sz → 
                      k (.v (mslc b' 0 (len + ys.length) cap')) L (H.set b' (.cells ((cs.drop o).take (len * sz) ++ flat ys ++ pad))))
                  | _ => False
                | _ => False
              | none => False) := h
            split at h
            · rename_i tok ys hl
              obtain ⟨h1, h2, h3, h4, h⟩ := h
              obtain ⟨B, n, capB, vs, v2, hn, rv, hnew⟩ := asList_args (P := P) (w := w) (hw := hw) hl (ev y y' hy') h3
              have hyl : 0 < ys.length := List.length_pos_iff.2 h2
              have hfree : H.get w.heap.size = none := s.wrep.get_size (Nat.le_refl _)
              split at h
              · rename_i e1
                obtain ⟨g1, g2, g3⟩ := h
                have r := ev_v ev hx' e1
                obtain ⟨A, len, cap, us, v1, l1, _, htok, ru, hold⟩ := append_hyps (P := P) (sz := sz) r (by simp)
                simp only [RepTok] at htok
                simp only [List.length_nil] at l1
                subst l1
                subst htok
                obtain ⟨cap', pad, w', q1, q2, q3, q4, q5⟩ := s_appM_new (P := P) s (ty := type) ht hu hut huu hs hb hz hzs hzs' hold hnew ru rv (by rw [hn, Nat.zero_add]; exact g1) (by omega) (by omega)
                have he : a.eval x = .slice A 0 0 := v1
                refine wp_value (hxe _ w' (by rw [he, v2]; exact q3)) (hk _ _ _ _ _ _ lam (g3 w.heap.size cap' pad hfree (by omega) (by rw [q2, hn, Nat.zero_add])) ?_ q5 (fun _ _ => rfl) (Nat.le_refl _) ?_)
                · simpa [flat] using q4
                · rw [hn, Nat.zero_add]; exact rep_scal (m := memOf w' hw) rfl
              · rename_i b o len cap e1
                have v1 : a.eval x = .slice (some ⟨b, o, none⟩) len cap := (ev_v ev hx' e1).1
                split at h
                · rename_i cs hbx
                  obtain ⟨g1, g2, g3, g4, g5, g6⟩ := h
                  obtain ⟨c, el2, hb0, hb1, hb2, hb3⟩ := cells_of_box (s.heap hbx)
                  have hle2 : len * sz ≤ cap * sz := Nat.mul_le_mul_right _ g3
                  rcases Nat.lt_or_ge cap (len + ys.length) with hlt | hge
                  · have hold : ∀ w' : World, w'.heap = w.heap → (Builtin.firstCells sz len (.slice (some ⟨b, o, none⟩) len cap)).run P w' = .ok ((c.toList.drop o).take (len * sz)).toArray w' := fun w' hw' => firstCells_box hb1 (by omega) hw'
                    obtain ⟨cap', pad, w', q1, q2, q3, q4, q5⟩ := s_appM_new (P := P) s (ty := type) ht hu hut huu hs hb hz hzs hzs' hold hnew (RepL_take (len * sz) (RepL_drop o hb2)) rv (by rw [hn]; exact g1) (by omega) (by omega)
                    refine wp_value (hxe _ w' (by rw [v1, v2]; exact q3)) (hk _ _ _ _ _ _ lam (g6 hlt w.heap.size cap' pad hfree (by omega) (by rw [q2, hn])) ?_ q5 (fun _ _ => rfl) (Nat.le_refl _) ?_)
                    · exact q4
                    · rw [hn]; exact rep_scal (m := memOf w' hw) rfl
                  · obtain ⟨w', q3, q4, q5⟩ := s_appM_in (P := P) s (ty := type) ht hu hut huu hs hb hz hbx g4 g3 hnew rv (by rw [flat_length h3, hn]) (allCell_flat h4) (by rw [hn]; exact g1) (by omega) (by omega)
                    refine wp_value (hxe _ w' (by rw [v1, v2]; exact q3)) (hk _ _ _ _ _ _ lam (g5 hge) ?_ q5 (fun _ _ => rfl) (Nat.le_refl _) ?_)
                    · exact q4
                    · rw [hn]; exact rep_scal (m := memOf w' hw) rfl
                · exact h.elim
              · exact h.elim
            · exact h.elim
          · cases hx
        · cases hx
      · cases hx
    · cases hx
  · -- indexAddr
    rename_i t x i
    split at hx
    · split at hx
      · rename_i el hu
        simp only [Option.bind_eq_some_iff, Option.map_eq_some_iff] at hx
        obtain ⟨sz, hs, x', hx', i', hi', rfl⟩ := hx
        have h : (match iadM sz (ρ x') (asInt? (ρ i')) with | some e => k e L H | none => False) := h
        unfold iadM at h
        split at h
        · rename_i e hm
          split at hm
          · rename_i b o len cap m e1 e2
            split at hm
            · rename_i hc
              cases hm
              have v1 : a.eval x = .slice (some ⟨b, o, none⟩) len cap := (ev_v ev hx' e1).1
              refine valv h (v := .pointer (some ⟨b, o + m.toNat * sz, none⟩)) ?_ (by simp [RepEV, Rep])
              show (do pure (Next.value (← Instr.indexAt t (a.eval x) (a.eval i))) : Sem Next).run P w = _
              rw [asInt_rep e2 (ev i i' hi'), v1]
              exact run_v (s_iaddrM hu hs hc.1 hc.2 w)
            · cases hm
          · cases hm
        · exact h.elim
      · cases hx
    · cases hx
  · -- slice
    rename_i t x lo hi
    split at hx
    · split at hx
      · rename_i el hu
        simp only [Option.bind_eq_some_iff, Option.map_eq_some_iff] at hx
        obtain ⟨sz, hs, x', hx', lo', hlo, hi', hhi, rfl⟩ := hx
        have h : (match slmE sz (ρ x') (optI ρ lo') (optI ρ hi') with | some e => k e L H | none => False) := h
        unfold slmE at h
        split at h
        · rename_i e hm
          split at hm
          · rename_i b o len cap l hh e1 e2 e3
            split at hm
            · rename_i hc
              cases hm
              have v1 : a.eval x = .slice (some ⟨b, o, none⟩) len cap := (ev_v ev hx' e1).1
              refine valv h (v := .slice _ _ _) ?_ (rep_scal (m := memOf w hw) rfl)
              show (do pure (Next.value (← Instr.sliceAt t (a.eval x) (lo.map a.eval) (hi.map a.eval) none)) : Sem Next).run P w = _
              rw [optI_rep ev hlo e2, optI_rep ev hhi e3, v1]
              exact run_v (s_sliceM hu hs hc.1 hc.2.1 hc.2.2 w)
            · cases hm
          · cases hm
        · exact h.elim
      · cases hx
    · cases hx
  · cases hx
end
end Go.Pv


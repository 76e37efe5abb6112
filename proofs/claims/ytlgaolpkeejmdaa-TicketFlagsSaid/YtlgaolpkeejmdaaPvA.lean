import Derived.Calls
import Derived.Orders
import Derived.Below
namespace Go.Pv

inductive Tok where
  | foreign
  | full
  | own (b e tot sz : Nat)

inductive PV where
  | scal (v : Value)
  | agg (cs : List PV)
  | tup (cs : List PV)
  | list (tok : Tok) (xs : List PV)
  | cptr (cs : List PV)
  | ptr (b off : Nat)
  | fn (f : Fn) (first captured : List PV)
  | mapr (b : Nat)
  | iface (t : TypeId) (p : PV)

def PV.cells : PV → List PV
  | .agg cs => cs
  | p => [p]

def lenB : Nat := 2 ^ 40

def atomB : Value → Bool
  | .agg _ => false
  | .string s => decide (s.size ≤ lenB)
  | _ => true

abbrev Mem := Nat → Nat → Option Value

def RepTok (tok : Tok) (a : Option Addr) (len cap : Nat) : Prop :=
  match tok with
  | .foreign => True
  | .full => cap = len
  | .own b e tot sz => a = some ⟨b, 0, none⟩ ∧ len * sz = e ∧ cap * sz ≤ tot

mutual
def Rep (m : Mem) : PV → Value → Prop
  | .scal v, u => u = v ∧ atomB v = true
  | .agg cs, u => ∃ vs, u = .agg vs ∧ RepL m cs vs.toList
  | .tup cs, u => ∃ vs, u = .tuple vs ∧ RepL m cs vs.toList
  | .list tok xs, u => ∃ a len cap sz, u = .slice a len cap ∧ len = xs.length ∧ len ≤ cap ∧ len ≤ lenB ∧ RepTok tok a len cap ∧
      (len ≠ 0 → ∃ b o, a = some ⟨b, o, none⟩ ∧ RepE m xs b o sz)
  | .cptr cs, u => ∃ b o, u = .pointer (some ⟨b, o, none⟩) ∧ RepR m cs b o
  | .ptr b o, u => u = .pointer (some ⟨b, o, none⟩)
  | .fn f a c, u => ∃ va vc, u = .func f va vc ∧ RepL m a va.toList ∧ RepL m c vc.toList
  | .mapr b, u => u = .map (some b)
  | .iface t p, u => ∃ v, u = .iface t v ∧ Rep m p v
def RepL (m : Mem) : List PV → List Value → Prop
  | [], vs => vs = []
  | p :: ps, vs => ∃ v rest, vs = v :: rest ∧ Rep m p v ∧ RepL m ps rest
def RepR (m : Mem) : List PV → Nat → Nat → Prop
  | [], _, _ => True
  | p :: ps, b, o => (∃ v, m b o = some v ∧ Rep m p v) ∧ RepR m ps b (o + 1)
def RepE (m : Mem) : List PV → Nat → Nat → Nat → Prop
  | [], _, _, _ => True
  | .agg cs :: xs, b, o, sz => (cs.length = sz ∧ RepR m cs b o) ∧ RepE m xs b (o + sz) sz
  | p :: xs, b, o, sz => (1 = sz ∧ (∃ v, m b o = some v ∧ Rep m p v)) ∧ RepE m xs b (o + sz) sz
end

theorem RepE_cons {m : Mem} {x : PV} {xs : List PV} {b o sz : Nat} :
    RepE m (x :: xs) b o sz ↔ (x.cells.length = sz ∧ RepR m x.cells b o) ∧ RepE m xs b (o + sz) sz := by
  cases x <;> simp [RepE, PV.cells, RepR]

theorem RepL_length {m : Mem} : ∀ {ps : List PV} {vs : List Value}, RepL m ps vs → vs.length = ps.length
  | [], vs, h => by simp [RepL] at h; simp [h]
  | p :: ps, vs, h => by
    obtain ⟨v, rest, rfl, _, h2⟩ := by simpa [RepL] using h
    simp [RepL_length h2]

theorem RepL_nil {m : Mem} : RepL m [] [] := by simp [RepL]
theorem RepL_cons {m : Mem} {p : PV} {v : Value} {ps : List PV} {vs : List Value} : RepL m (p :: ps) (v :: vs) ↔ Rep m p v ∧ RepL m ps vs := by
  simp only [RepL]
  constructor
  · rintro ⟨_, _, e, h1, h2⟩
    cases e
    exact ⟨h1, h2⟩
  · rintro ⟨h1, h2⟩
    exact ⟨_, _, rfl, h1, h2⟩

theorem RepL_append {m : Mem} : ∀ {ps qs : List PV} {vs us : List Value}, RepL m ps vs → RepL m qs us → RepL m (ps ++ qs) (vs ++ us)
  | [], qs, vs, us, h, k => by simp [RepL] at h; subst h; simpa using k
  | p :: ps, qs, vs, us, h, k => by
    obtain ⟨v, rest, rfl, h1, h2⟩ := by simpa [RepL] using h
    simp only [List.cons_append, RepL_cons]
    exact ⟨h1, RepL_append h2 k⟩

theorem RepL_get {m : Mem} : ∀ {ps : List PV} {vs : List Value}, RepL m ps vs → ∀ {i : Nat} {p : PV}, ps[i]? = some p → ∃ v, vs[i]? = some v ∧ Rep m p v
  | [], _, _, i, p, hi => by simp at hi
  | q :: ps, vs, h, i, p, hi => by
    obtain ⟨v, rest, rfl, h1, h2⟩ := by simpa [RepL] using h
    cases i with
    | zero => simp at hi; subst hi; exact ⟨v, by simp, h1⟩
    | succ i => simp at hi; simpa using RepL_get h2 hi

theorem RepL_set {m : Mem} {p : PV} {v : Value} (hp : Rep m p v) : ∀ {ps : List PV} {vs : List Value} (i : Nat), RepL m ps vs → RepL m (ps.set i p) (vs.set i v)
  | [], vs, i, h => by simp [RepL] at h; subst h; simpa using RepL_nil
  | q :: ps, vs, i, h => by
    obtain ⟨u, rest, rfl, h1, h2⟩ := by simpa [RepL] using h
    cases i with
    | zero => simp only [List.set_cons_zero, RepL_cons]; exact ⟨hp, h2⟩
    | succ i => simp only [List.set_cons_succ, RepL_cons]; exact ⟨h1, RepL_set hp i h2⟩

theorem RepL_take {m : Mem} : ∀ {ps : List PV} {vs : List Value} (n : Nat), RepL m ps vs → RepL m (ps.take n) (vs.take n)
  | _, _, 0, _ => by simpa using RepL_nil
  | [], vs, n + 1, h => by simp [RepL] at h; subst h; simpa using RepL_nil
  | q :: ps, vs, n + 1, h => by
    obtain ⟨u, rest, rfl, h1, h2⟩ := by simpa [RepL] using h
    simp only [List.take_succ_cons, RepL_cons]; exact ⟨h1, RepL_take n h2⟩

theorem RepL_drop {m : Mem} : ∀ {ps : List PV} {vs : List Value} (n : Nat), RepL m ps vs → RepL m (ps.drop n) (vs.drop n)
  | _, _, 0, h => by simpa using h
  | [], vs, n + 1, h => by simp [RepL] at h; subst h; simpa using RepL_nil
  | q :: ps, vs, n + 1, h => by
    obtain ⟨u, rest, rfl, h1, h2⟩ := by simpa [RepL] using h
    simpa using RepL_drop n h2

theorem RepR_get {m : Mem} {b : Nat} : ∀ {ps : List PV} {o : Nat}, RepR m ps b o → ∀ {i : Nat} {p : PV}, ps[i]? = some p → ∃ v, m b (o + i) = some v ∧ Rep m p v
  | [], _, _, i, p, hi => by simp at hi
  | q :: ps, o, h, i, p, hi => by
    obtain ⟨h1, h2⟩ := by simpa only [RepR] using h
    cases i with
    | zero => simp at hi; subst hi; simpa using h1
    | succ i =>
      simp at hi
      have := RepR_get h2 hi
      rwa [show o + 1 + i = o + (i + 1) by omega] at this

theorem RepR_drop {m : Mem} {b : Nat} : ∀ {ps : List PV} {o : Nat} (n : Nat), RepR m ps b o → RepR m (ps.drop n) b (o + n)
  | _, _, 0, h => by simpa using h
  | [], o, n + 1, _ => by simp [RepR]
  | q :: ps, o, n + 1, h => by
    obtain ⟨h1, h2⟩ := by simpa only [RepR] using h
    have := RepR_drop n h2
    rwa [show o + 1 + n = o + (n + 1) by omega] at this

theorem RepR_of_RepL {m : Mem} {b : Nat} : ∀ {ps : List PV} {vs : List Value} {o : Nat}, RepL m ps vs → (∀ i v, vs[i]? = some v → m b (o + i) = some v) → RepR m ps b o
  | [], _, _, _, _ => by simp [RepR]
  | q :: ps, vs, o, h, hm => by
    obtain ⟨u, rest, rfl, h1, h2⟩ := by simpa [RepL] using h
    simp only [RepR]
    refine ⟨⟨u, by simpa using hm 0 u (by simp), h1⟩, RepR_of_RepL h2 fun i v hi => ?_⟩
    have := hm (i + 1) v (by simpa using hi)
    rwa [show o + (i + 1) = o + 1 + i by omega] at this

theorem RepR_vals {m : Mem} {b : Nat} : ∀ {ps : List PV} {o : Nat}, RepR m ps b o → ∃ vs, RepL m ps vs ∧ ∀ i v, vs[i]? = some v → m b (o + i) = some v
  | [], _, _ => ⟨[], by simp [RepL], by simp⟩
  | q :: ps, o, h => by
    obtain ⟨⟨v, hv, h1⟩, h2⟩ := by simpa only [RepR] using h
    obtain ⟨vs, h3, h4⟩ := RepR_vals h2
    refine ⟨v :: vs, RepL_cons.2 ⟨h1, h3⟩, fun i u hi => ?_⟩
    cases i with
    | zero => simp at hi; subst hi; simpa using hv
    | succ i => have := h4 i u (by simpa using hi); rwa [show o + 1 + i = o + (i + 1) by omega] at this

def MLe (m m' : Mem) : Prop := ∀ b o v, m b o = some v → m' b o = some v
theorem MLe.refl (m : Mem) : MLe m m := fun _ _ _ h => h
theorem MLe.trans {a b c : Mem} (h : MLe a b) (k : MLe b c) : MLe a c := fun x y v e => k x y v (h x y v e)

mutual
theorem Rep.mono {m m' : Mem} (h : MLe m m') : ∀ (p : PV) {v : Value}, Rep m p v → Rep m' p v
  | .scal u, v, r => by simpa [Rep] using r
  | .agg cs, v, r => by
    simp only [Rep] at r ⊢
    obtain ⟨vs, e, r⟩ := r
    exact ⟨vs, e, RepL.mono h cs r⟩
  | .tup cs, v, r => by
    simp only [Rep] at r ⊢
    obtain ⟨vs, e, r⟩ := r
    exact ⟨vs, e, RepL.mono h cs r⟩
  | .list tok xs, v, r => by
    simp only [Rep] at r ⊢
    obtain ⟨a, len, cap, sz, e, h1, h2, h3, h4, h5⟩ := r
    refine ⟨a, len, cap, sz, e, h1, h2, h3, h4, fun hn => ?_⟩
    obtain ⟨b, o, e2, h6⟩ := h5 hn
    exact ⟨b, o, e2, RepE.mono h xs h6⟩
  | .cptr cs, v, r => by
    simp only [Rep] at r ⊢
    obtain ⟨b, o, e, r⟩ := r
    exact ⟨b, o, e, RepR.mono h cs r⟩
  | .ptr b o, v, r => by simpa [Rep] using r
  | .fn f a c, v, r => by
    simp only [Rep] at r ⊢
    obtain ⟨va, vc, e, r1, r2⟩ := r
    exact ⟨va, vc, e, RepL.mono h a r1, RepL.mono h c r2⟩
  | .mapr b, v, r => by simpa [Rep] using r
  | .iface t p, v, r => by
    simp only [Rep] at r ⊢
    obtain ⟨u, e, r⟩ := r
    exact ⟨u, e, Rep.mono h p r⟩
theorem RepL.mono {m m' : Mem} (h : MLe m m') : ∀ (ps : List PV) {vs : List Value}, RepL m ps vs → RepL m' ps vs
  | [], vs, r => by simpa [RepL] using r
  | p :: ps, vs, r => by
    simp only [RepL] at r ⊢
    obtain ⟨v, rest, e, r1, r2⟩ := r
    exact ⟨v, rest, e, Rep.mono h p r1, RepL.mono h ps r2⟩
theorem RepR.mono {m m' : Mem} (h : MLe m m') : ∀ (ps : List PV) {b o : Nat}, RepR m ps b o → RepR m' ps b o
  | [], b, o, r => by simp [RepR]
  | p :: ps, b, o, r => by
    simp only [RepR] at r ⊢
    obtain ⟨⟨v, e, r1⟩, r2⟩ := r
    exact ⟨⟨v, h _ _ _ e, Rep.mono h p r1⟩, RepR.mono h ps r2⟩
theorem RepE.mono {m m' : Mem} (h : MLe m m') : ∀ (ps : List PV) {b o sz : Nat}, RepE m ps b o sz → RepE m' ps b o sz
  | [], b, o, sz, r => by simp [RepE]
  | .agg cs :: ps, b, o, sz, r => by
    simp only [RepE] at r ⊢
    exact ⟨⟨r.1.1, RepR.mono h cs r.1.2⟩, RepE.mono h ps r.2⟩
  | .scal p :: ps, b, o, sz, r => by
    simp only [RepE] at r ⊢
    obtain ⟨⟨e, v, h1, h2⟩, r2⟩ := r
    exact ⟨⟨e, v, h _ _ _ h1, Rep.mono h _ h2⟩, RepE.mono h ps r2⟩
  | .tup p :: ps, b, o, sz, r => by
    simp only [RepE] at r ⊢
    obtain ⟨⟨e, v, h1, h2⟩, r2⟩ := r
    exact ⟨⟨e, v, h _ _ _ h1, Rep.mono h (.tup p) h2⟩, RepE.mono h ps r2⟩
  | .list t p :: ps, b, o, sz, r => by
    simp only [RepE] at r ⊢
    obtain ⟨⟨e, v, h1, h2⟩, r2⟩ := r
    exact ⟨⟨e, v, h _ _ _ h1, Rep.mono h (.list t p) h2⟩, RepE.mono h ps r2⟩
  | .cptr p :: ps, b, o, sz, r => by
    simp only [RepE] at r ⊢
    obtain ⟨⟨e, v, h1, h2⟩, r2⟩ := r
    exact ⟨⟨e, v, h _ _ _ h1, Rep.mono h (.cptr p) h2⟩, RepE.mono h ps r2⟩
  | .ptr x y :: ps, b, o, sz, r => by
    simp only [RepE] at r ⊢
    obtain ⟨⟨e, v, h1, h2⟩, r2⟩ := r
    exact ⟨⟨e, v, h _ _ _ h1, Rep.mono h (.ptr x y) h2⟩, RepE.mono h ps r2⟩
  | .fn f x y :: ps, b, o, sz, r => by
    simp only [RepE] at r ⊢
    obtain ⟨⟨e, v, h1, h2⟩, r2⟩ := r
    exact ⟨⟨e, v, h _ _ _ h1, Rep.mono h (.fn f x y) h2⟩, RepE.mono h ps r2⟩
  | .mapr x :: ps, b, o, sz, r => by
    simp only [RepE] at r ⊢
    obtain ⟨⟨e, v, h1, h2⟩, r2⟩ := r
    exact ⟨⟨e, v, h _ _ _ h1, Rep.mono h (.mapr x) h2⟩, RepE.mono h ps r2⟩
  | .iface t p :: ps, b, o, sz, r => by
    simp only [RepE] at r ⊢
    obtain ⟨⟨e, v, h1, h2⟩, r2⟩ := r
    exact ⟨⟨e, v, h _ _ _ h1, Rep.mono h (.iface t p) h2⟩, RepE.mono h ps r2⟩
end

end Go.Pv

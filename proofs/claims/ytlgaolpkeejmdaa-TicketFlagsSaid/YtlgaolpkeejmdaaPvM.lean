import Derived.Test.YtlgaolpkeejmdaaPvL
set_option linter.unusedSimpArgs false
set_option linter.unusedVariables false
namespace Go.Pv
section
variable {P : Program} {w0 w : World} {hw0 hw : Nat → Nat} {H0 H : PH} {lam : Nat → Nat} {L : List (List PV)}

theorem ext_drawn {w' : World} (e : w'.heap = w.heap) (e2 : w'.os = w.os) (e3 : w'.tape = w.tape) (e4 : w'.output = w.output) : ExtF H w hw w' hw H :=
  ⟨e2, e3, e4, by rw [e]; exact Nat.le_refl _, fun b _ _ => ⟨by rw [e], rfl⟩, by rw [memOf_heap e]; exact MLe.refl _, fun _ h => .inl h⟩
theorem SimB.drawn (s : SimB w0 hw0 H0 w hw lam L H) {w' : World} (e : w'.heap = w.heap) (e2 : w'.os = w.os) (e3 : w'.tape = w.tape) (e4 : w'.output = w.output) : SimB w0 hw0 H0 w' hw lam L H :=
  s.step (ext_drawn e e2 e3 e4) (s.wrep.drawn e)

theorem append_hyps {sz : Nat} {tok : Tok} {xs : List PV} {u : Value} (hr : Rep (memOf w hw) (.list tok xs) u) (hsz : ∀ p ∈ xs, p.cells.length = sz) :
    ∃ A len cap us, u = .slice A len cap ∧ len = xs.length ∧ len ≤ cap ∧ RepTok tok A len cap ∧ RepL (memOf w hw) (flat xs) us ∧
      ∀ w' : World, w'.heap = w.heap → (Builtin.firstCells sz len (.slice A len cap)).run P w' = .ok us.toArray w' := by
  have hr0 := hr
  simp only [Rep] at hr
  obtain ⟨A, len, cap, z, rfl, hlen, hcap, hB, htok, hrow⟩ := hr
  obtain ⟨us, h1, h2⟩ := run_firstCells (P := P) (w := w) (fun _ _ _ h => memOf_cell h) hr0 hsz
  exact ⟨A, len, cap, us, rfl, hlen, hcap, htok, h1, h2⟩

theorem flat_append : ∀ xs ys : List PV, flat (xs ++ ys) = flat xs ++ flat ys
  | [], ys => rfl
  | x :: xs, ys => by simp [flat, flat_append xs ys]

/-- An append that makes a new row. -/
theorem s_append_new (s : SimB w0 hw0 H0 w hw lam L H) {ts tx el e2 ty : TypeId} {sz by_ : Nat} {z : Value} {argTypes : Array TypeId}
    (h0 : argTypes[0]? = some ts) (h1 : argTypes[1]? = some tx) (ht : P.underlying ts = some (.slice el)) (hx : P.underlying tx = some (.slice e2)) (hs : tSize P el = some sz) (hb : tBytes P el = some by_) (hz : tZero P el = some z) (hzs : z.cells.size = sz)
    {t1 t2 : Tok} {xs ys : List PV} {A B : Option Addr} {len cap n capB : Nat} (hxs : ∀ p ∈ xs, p.cells.length = sz) (hys : ∀ p ∈ ys, p.cells.length = sz)
    (r1 : Rep (memOf w hw) (.list t1 xs) (.slice A len cap)) (r2 : Rep (memOf w hw) (.list t2 ys) (.slice B n capB))
    (hok : rowBytesOk (xs.length + ys.length) by_) (hB : xs.length + ys.length ≤ lenB) (hlt : cap < len + n) :
    ∃ w1 cap' c,
      let w' := World.push w1 (.cells c el (0, 0))
      let hw' := updF hw w.heap.size ((xs.length + ys.length) * sz)
      w1.heap = w.heap ∧ (Builtin.append_ argTypes ty #[.slice A len cap, .slice B n capB]).run P w = .ok (.slice (some ⟨w.heap.size, 0, none⟩) (len + n) cap') w' ∧ SimB w0 hw0 H0 w' hw' lam L H ∧ MLe (memOf w hw) (memOf w' hw') ∧
      xs.length + ys.length ≤ cap' ∧ cap' * sz ≤ c.size ∧
      (∀ tok, RepTok tok (some ⟨w.heap.size, 0, none⟩) (xs.length + ys.length) cap' → Rep (memOf w' hw') (.list tok (xs ++ ys)) (.slice (some ⟨w.heap.size, 0, none⟩) (len + n) cap')) ∧
      ObjRep w' hw' w.heap.size (.row ((xs.length + ys.length) * sz) c.size) := by
  obtain ⟨A', len', cap', us, e1, l1, _, _, ru, hu⟩ := append_hyps (P := P) r1 hxs
  cases e1
  obtain ⟨B', n', capB', vs, e1, l2, _, _, rv, hv⟩ := append_hyps (P := P) r2 hys
  cases e1
  have hok' : ((len + n) + (len + n) / 4 + 256) * by_ ≤ 2 ^ 48 := by rw [l1, l2]; exact hok
  obtain ⟨k, w1, extra, c1, c2, c3, c4, c5, hrun⟩ := (run_append (P := P) (w := w) (ty := ty) h0 h1 ht hx hs hb hz hok' (by omega) hu hv).2 hlt
  have s1 := s.drawn c1 c2 c3 c4
  have rf : RepL (memOf w1 hw) (flat (xs ++ ys)) (us ++ vs) := by
    rw [memOf_heap c1, flat_append]; exact RepL_append ru rv
  have hall : ∀ p ∈ xs ++ ys, p.cells.length = sz := fun p hp => by
    rcases List.mem_append.1 hp with h | h
    · exact hxs p h
    · exact hys p h
  have key := fun tok htok => s_row (el := el) (extra := extra) s1 rf hall (by simpa using hB) (len + n + k) (by simp; omega) tok htok
  have e4 : (xs ++ ys).length = xs.length + ys.length := by simp
  rw [c1, e4] at key
  obtain ⟨k1, k2, _, k4⟩ := key .foreign trivial
  rw [memOf_heap c1] at k2
  refine ⟨w1, len + n + k, _, c1, hrun, k1, k2, by omega, ?_, fun tok htok => ?_, by simpa using k4⟩
  · have e5 := RepL_length rf
    rw [flat_length hall, e4] at e5
    simp only [List.size_toArray, List.length_append, c5, hzs] at e5 ⊢
    rw [e5, l1, l2, ← Nat.add_mul]
    exact Nat.le_refl _
  · have := (key tok htok).2.2.1
    rw [l1, l2] at *
    exact this

/-- An append to a slice that is full. -/
theorem s_append_full (s : SimB w0 hw0 H0 w hw lam L H) {ts tx el e2 ty : TypeId} {sz by_ : Nat} {z : Value} {argTypes : Array TypeId}
    (h0 : argTypes[0]? = some ts) (h1 : argTypes[1]? = some tx) (ht : P.underlying ts = some (.slice el)) (hx : P.underlying tx = some (.slice e2)) (hs : tSize P el = some sz) (hb : tBytes P el = some by_) (hz : tZero P el = some z) (hzs : z.cells.size = sz)
    {t2 : Tok} {xs ys : List PV} {u1 u2 : Value} (hxs : ∀ p ∈ xs, p.cells.length = sz) (hys : ∀ p ∈ ys, p.cells.length = sz)
    (r1 : Rep (memOf w hw) (.list .full xs) u1) (r2 : Rep (memOf w hw) (.list t2 ys) u2)
    (hok : rowBytesOk (xs.length + ys.length) by_) (hB : xs.length + ys.length ≤ lenB) :
    Done P w0 hw0 H0 w hw lam L H (Builtin.append_ argTypes ty #[u1, u2]) (.v (.list (if ys.isEmpty = true then .full else .foreign) (xs ++ ys))) := by
  obtain ⟨A, len, cap, us, rfl, l1, _, htok, ru, hu⟩ := append_hyps (P := P) r1 hxs
  obtain ⟨B, n, capB, vs, rfl, l2, _, _, rv, hv⟩ := append_hyps (P := P) r2 hys
  simp only [RepTok] at htok
  by_cases hlt : cap < len + n
  · obtain ⟨w1, cap', c, h2, h3, h4, h5, h6, h7, h8, h9⟩ := s_append_new s (ty := ty) h0 h1 ht hx hs hb hz hzs hxs hys r1 r2 hok hB hlt
    have hys1 : ys.isEmpty = false := by
      cases ys with
      | nil => simp only [List.length_nil] at l2; omega
      | cons => rfl
    rw [hys1]
    exact ⟨_, _, _, h3, h4, h5, h8 .foreign trivial⟩
  · have hn : n = 0 := by omega
    have hys0 : ys = [] := List.eq_nil_of_length_eq_zero (by omega)
    subst hys0
    have hvs : vs = [] := by simpa [flat, RepL] using rv
    subst hvs
    have hok' : ((len + n) + (len + n) / 4 + 256) * by_ ≤ 2 ^ 48 := by rw [l1, l2]; exact hok
    have := (run_append (P := P) (w := w) (ty := ty) h0 h1 ht hx hs hb hz hok' (by omega) hu hv).1 (by omega)
    refine Done.stay s (v := .slice A (len + n) cap) ?_ ?_
    · rw [this]
      cases A with
      | none => rfl
      | some a => simp only [storeCells]; rfl
    · simp only [RepEV, Rep, List.append_nil] at r1 ⊢
      obtain ⟨A', len', cap', z', e, k1, k2, k3, k4, k5⟩ := r1
      cases e
      exact ⟨A, len + n, cap, z', rfl, by omega, by omega, by omega, show cap = len + n by omega, fun h => k5 (by omega)⟩

/-- An append, in place or not, to a slice that may be appended to again. -/
theorem s_append_own (s : SimB w0 hw0 H0 w hw lam L H) {ts tx el e2 ty : TypeId} {sz by_ : Nat} {z : Value} {argTypes : Array TypeId}
    (h0 : argTypes[0]? = some ts) (h1 : argTypes[1]? = some tx) (ht : P.underlying ts = some (.slice el)) (hx : P.underlying tx = some (.slice e2)) (hs : tSize P el = some sz) (hb : tBytes P el = some by_) (hz : tZero P el = some z) (hzs : z.cells.size = sz)
    {tok t2 : Tok} {xs ys : List PV} {u1 u2 : Value} (hxs : ∀ p ∈ xs, p.cells.length = sz) (hys : ∀ p ∈ ys, p.cells.length = sz)
    (r1 : Rep (memOf w hw) (.list tok xs) u1) (r2 : Rep (memOf w hw) (.list t2 ys) u2)
    (hok : rowBytesOk (xs.length + ys.length) by_) (hB : xs.length + ys.length ≤ lenB) (hne : ys ≠ []) (hcell : ∀ p ∈ ys, p.cells.all cellP = true)
    {ob : Option Nat} (htk : (tok = .full ∧ ob = none) ∨ ∃ b e t, tok = .own b e t sz ∧ H.get b = some (.row e t) ∧ ob = some b) :
    ∃ b tot v w' hw', (some b = ob ∨ H.get b = none) ∧ (Builtin.append_ argTypes ty #[u1, u2]).run P w = .ok v w' ∧
      SimB w0 hw0 H0 w' hw' lam L (H.set b (.row ((xs.length + ys.length) * sz) tot)) ∧ MLe (memOf w hw) (memOf w' hw') ∧ Rep (memOf w' hw') (.list (.own b ((xs.length + ys.length) * sz) tot sz) (xs ++ ys)) v := by
  obtain ⟨A, len, cap, us, rfl, l1, lc, htok, ru, hu⟩ := append_hyps (P := P) r1 hxs
  obtain ⟨B, n, capB, vs, rfl, l2, _, _, rv, hv⟩ := append_hyps (P := P) r2 hys
  have hn0 : n ≠ 0 := by
    intro h; exact hne (List.eq_nil_of_length_eq_zero (by omega))
  by_cases hlt : cap < len + n
  · obtain ⟨w1, cap', c, h2, h3, h4, h5, h6, h7, h8, h9⟩ := s_append_new s (ty := ty) h0 h1 ht hx hs hb hz hzs hxs hys r1 r2 hok hB hlt
    have hfree : H.get w.heap.size = none := s.wrep.get_size (Nat.le_refl _)
    refine ⟨w.heap.size, c.size, _, _, _, .inr hfree, h3, ?_, h5, h8 _ ⟨rfl, rfl, h7⟩⟩
    have hloc : ∀ i, i < L.length → lam i < w.heap.size := fun i hi => (s.loc (List.getElem?_eq_getElem hi)).lt
    refine ⟨⟨h4.ext.os, h4.ext.tape, h4.ext.output, h4.ext.size, h4.ext.frame, h4.ext.mono, fun b hb => ?_⟩, ⟨h4.rep.fin, fun b o hb => ?_⟩, fun b hb => ?_, h4.inj, h4.new⟩
    · rw [PH.get_set] at hb
      split at hb
      · rename_i e; exact .inr (by rw [e]; exact s.ext.size)
      · exact h4.ext.dom b hb
    · rw [PH.get_append, PH.get_set] at hb
      by_cases e : b = w.heap.size
      · subst e
        have hnL : (locs lam 0 L).get w.heap.size = none := locs_get_none fun j _ h2 e => by have := hloc j (by omega); omega
        rw [hnL, if_pos rfl] at hb
        simp only [Option.none_or, Option.some.injEq] at hb
        subst hb
        exact h9
      · rw [if_neg e] at hb
        exact h4.rep.obj b o (by rw [PH.get_append]; exact hb)
    · rw [PH.get_set]
      obtain ⟨j, _, hj, hje⟩ := locs_get_some hb
      have := hloc j (by omega)
      rw [if_neg (by omega)]
      exact h4.dis b hb
  · have hok' : ((len + n) + (len + n) / 4 + 256) * by_ ≤ 2 ^ 48 := by rw [l1, l2]; exact hok
    have hrun := (run_append (P := P) (w := w) (ty := ty) h0 h1 ht hx hs hb hz hok' (by omega) hu hv).1 (by omega)
    rcases htk with ⟨rfl, _⟩ | ⟨b, e, t, rfl, hb', rfl⟩
    · simp only [RepTok] at htok; omega
    · simp only [RepTok] at htok
      obtain ⟨rfl, rfl, hct⟩ := htok
      have ho := s.heap hb'
      obtain ⟨ho1, ho2, c, el2, ho3, ho4⟩ := ho
      have lvs : vs.length = n * sz := by have := RepL_length rv; rw [flat_length hys, ← l2] at this; exact this
      have hvok : vs.all cellOk = true := by
        refine cellsOk_of (m := memOf w hw) (ps := flat ys) ?_ rv
        clear rv hrun hv r2 hne hys hok hB l2
        induction ys with
        | nil => rfl
        | cons y ys ih =>
          rw [flat, List.all_append, hcell y (by simp), Bool.true_and]
          exact ih (fun p hp => hcell p (by simp [hp]))
      have hcap : (len + n) * sz ≤ t := Nat.le_trans (Nat.mul_le_mul_right _ (by omega)) hct
      rw [Nat.add_mul] at hcap
      obtain ⟨w', q1, q2, q3, q4, q5, q6, q7⟩ := run_storeCells (P := P) vs w (len * sz) 0 c ho3 (by omega) hvok
      have hg := s.wrep.grown (k := n * sz) hb' q2 q3 q4 q5 q6 q7 (by simp [splice_length]; omega) hcap (fun o ho => by
        rw [cell_of_block ho3]
        simp only [List.getElem?_toArray, Nat.add_zero]
        rw [splice_other _ _ _ _ (.inl ho)]
        simp)
      obtain ⟨g1, g2, g3⟩ := hg
      rw [← Nat.add_mul] at g1 g2 g3
      refine ⟨b, t, .slice (some ⟨b, 0, none⟩) (len + n) cap, w', _, .inl rfl, ?_, ?_, g2.mono, ?_⟩
      · rw [hrun]
        simp only
        rw [addr_add, Nat.zero_add, run_bind_ok q1]
        rfl
      · rw [← l1, ← l2]
        exact s.step g2 g1
      · rw [← l1, ← l2]
        simp only [Rep] at r1 ⊢
        obtain ⟨A', len', cap', z', e, k1, k2, k3, k4, k5⟩ := r1
        cases e
        refine ⟨_, _, _, sz, rfl, by simp; omega, by omega, by omega, ⟨rfl, rfl, hct⟩, fun _ => ⟨b, 0, rfl, RepE_append ?_ ?_⟩⟩
        · by_cases hl0 : len = 0
          · have : xs = [] := List.eq_nil_of_length_eq_zero (by omega)
            subst this; simp [RepE]
          · obtain ⟨b2, o2, e, hE⟩ := k5 hl0
            cases e
            have hz' : z' = sz := by
              cases xs with
              | nil => simp at k1; omega
              | cons x xs => rw [RepE_cons] at hE; rw [← hE.1.1]; exact hxs x (by simp)
            subst hz'
            exact RepE.mono g2.mono _ hE
        · refine RepE_of_flat hys (RepL.mono g2.mono _ rv) fun i v hi => ?_
          have hlt2 : i < vs.length := (List.getElem?_eq_some_iff.1 hi).1
          rw [Nat.zero_add, ← k1]
          refine g3 i v (by omega) ?_
          simp only [List.getElem?_toArray, Nat.add_zero]
          have lc2 : c.toList.length = t := by simpa using ho4
          rw [splice_in _ _ _ _ (by omega) hlt2]
          exact hi
end
end Go.Pv

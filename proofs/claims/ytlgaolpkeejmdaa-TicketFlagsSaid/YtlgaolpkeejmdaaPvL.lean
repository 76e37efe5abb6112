import Derived.Test.YtlgaolpkeejmdaaPvK
set_option linter.unusedSimpArgs false
set_option linter.unusedVariables false
namespace Go.Pv
section
variable {P : Program} {w0 w : World} {hw0 hw : Nat → Nat} {H0 H : PH} {lam : Nat → Nat} {L : List (List PV)}

theorem memOf_same {w w' : World} {b : Nat} (e : w'.heap[b]? = w.heap[b]?) (o : Nat) : w'.cell? ⟨b, o, none⟩ = w.cell? ⟨b, o, none⟩ := cell_same e o

theorem run_firstCells {m : Mem} (hm : ∀ b o v, m b o = some v → w.cell? ⟨b, o, none⟩ = some v) {sz : Nat} {tok : Tok} {xs : List PV} {A : Option Addr} {len cap : Nat} (hr : Rep m (.list tok xs) (.slice A len cap)) (hsz : ∀ p ∈ xs, p.cells.length = sz) :
    ∃ vs, RepL m (flat xs) vs ∧ ∀ w' : World, w'.heap = w.heap → (Builtin.firstCells sz len (.slice A len cap)).run P w' = .ok vs.toArray w' := by
  simp only [Rep] at hr
  obtain ⟨A', len', cap', z, e, hlen, hcap, hB, htok, hrow⟩ := hr
  cases e
  by_cases h0 : len = 0
  · have : xs = [] := List.eq_nil_of_length_eq_zero (by omega)
    subst this
    refine ⟨[], by simpa [flat] using RepL_nil, fun w' _ => ?_⟩
    cases A with
    | none => rfl
    | some b => subst h0; simp only [Builtin.firstCells, Nat.zero_mul]; rfl
  · obtain ⟨b, o, rfl, hE⟩ := hrow h0
    have hz : z = sz := by
      cases xs with
      | nil => simp at hlen; omega
      | cons x xs => rw [RepE_cons] at hE; rw [← hE.1.1]; exact hsz x (by simp)
    subst hz
    obtain ⟨vs, h1, h2⟩ := flat_vals hE
    refine ⟨vs, h1, fun w' e => ?_⟩
    have hl := RepL_length h1
    rw [flat_length hsz] at hl
    simp only [Builtin.firstCells]
    exact run_loadCells vs (by rw [hl, hlen]) fun j v hj => by
      have := hm _ _ _ (h2 j v hj)
      simpa [World.cell?, e] using this

theorem next_le (need cap : Nat) (h : cap < need) : Builtin.nextslicecap need cap ≤ need + need / 4 + 256 := by
  have hg : ∀ (r c : Nat), c < need + need / 4 + 256 → Builtin.growBy need r c ≤ need + need / 4 + 256 := by
    intro r
    induction r with
    | zero => intro c hc; simp only [Builtin.growBy]; omega
    | succ r ih =>
      intro c hc
      simp only [Builtin.growBy]
      split
      · omega
      · exact ih _ (by omega)
  unfold Builtin.nextslicecap
  split
  · omega
  · split
    · omega
    · exact hg _ _ (by omega)

theorem run_choose_cap (need old : Nat) (el : TypeId) (w : World) : ∃ k w', (choose (.appendCap need old el)).run P w = .ok (need + k) w' ∧ w'.heap = w.heap ∧ w'.os = w.os ∧ w'.tape = w.tape ∧ w'.output = w.output := by
  refine ⟨w.tape w.drawn (.appendCap need old el) % (2 ^ 63 - need), { w with drawn := w.drawn + 1 }, ?_, rfl, rfl, rfl, rfl⟩
  simp only [choose, Sem.run, Question.forced, Bool.false_eq_true, if_false, Question.cut]

theorem run_askRoom (n : Nat) (w : World) : (askRoom n).run P w = .ok () w := by
  unfold askRoom
  split <;> rfl

theorem zeroCells_size (z : Array Value) (n : Nat) : (Builtin.zeroCells z n).size = n * z.size := by simp [Builtin.zeroCells]

/-- What an append comes to: in place, or in a new row. -/
theorem run_append {ts tx el e2 : TypeId} {sz by_ : Nat} {z : Value} {A B : Option Addr} {len cap n capB : Nat} {argTypes : Array TypeId} {ty : TypeId}
    (h0 : argTypes[0]? = some ts) (h1 : argTypes[1]? = some tx) (ht : P.underlying ts = some (.slice el)) (hx : P.underlying tx = some (.slice e2)) (hs : tSize P el = some sz) (hb : tBytes P el = some by_) (hz : tZero P el = some z)
    (hok : ((len + n) + (len + n) / 4 + 256) * by_ ≤ 2 ^ 48) (hB : len + n ≤ lenB) {us vs : List Value}
    (hold : ∀ w' : World, w'.heap = w.heap → (Builtin.firstCells sz len (.slice A len cap)).run P w' = .ok us.toArray w') (hnew : ∀ w' : World, w'.heap = w.heap → (Builtin.firstCells sz n (.slice B n capB)).run P w' = .ok vs.toArray w') :
    (len + n ≤ cap → (Builtin.append_ argTypes ty #[.slice A len cap, .slice B n capB]).run P w =
      ((match A with | some a => storeCells (a.add (len * sz)) vs | none => pure ()) >>= fun _ => (pure (.slice A (len + n) cap) : Sem Value)).run P w) ∧
    (cap < len + n → ∃ k w1 extra, w1.heap = w.heap ∧ w1.os = w.os ∧ w1.tape = w.tape ∧ w1.output = w.output ∧ extra.length = k * z.cells.size ∧
      (Builtin.append_ argTypes ty #[.slice A len cap, .slice B n capB]).run P w = .ok (.slice (some ⟨w.heap.size, 0, none⟩) (len + n) (len + n + k)) (World.push w1 (.cells (us ++ vs ++ extra).toArray el (0, 0)))) := by
  obtain ⟨i, hi, hbi⟩ : ∃ i, P.info? el = some i ∧ i.bytes = by_ := by
    simp only [tBytes, Option.map_eq_some_iff] at hb; exact hb
  constructor
  · intro hle
    unfold Builtin.append_
    simp only [h0, h1, List.getElem?_toArray, List.getElem?_cons_zero, List.getElem?_cons_succ]
    rw [run_bind_ok (run_under ht w)]
    simp only
    rw [run_bind_ok (run_sizeOf hs w), run_bind_ok (run_under hx w), run_bind_ok (run_pure' _ w)]
    simp only [Bool.false_eq_true, if_false]
    rw [run_bind_ok (s := Builtin.lenOf (.slice B n capB)) (a := n) (w' := w) rfl]
    rw [if_pos hle]
    simp only [Bool.not_false, if_true]
    rw [run_bind_ok (hnew w rfl)]
    cases A <;> rfl
  · intro hlt
    obtain ⟨k, w1, hc, c1, c2, c3, c4⟩ := run_choose_cap (P := P) (len + n) cap el w
    refine ⟨k, w1, (Builtin.zeroCells z.cells k).toList, c1, c2, c3, c4, by simpa using zeroCells_size z.cells k, ?_⟩
    unfold Builtin.append_
    simp only [h0, h1, List.getElem?_toArray, List.getElem?_cons_zero, List.getElem?_cons_succ]
    rw [run_bind_ok (run_under ht w)]
    simp only
    rw [run_bind_ok (run_sizeOf hs w), run_bind_ok (run_under hx w), run_bind_ok (run_pure' _ w)]
    simp only [Bool.false_eq_true, if_false]
    rw [run_bind_ok (s := Builtin.lenOf (.slice B n capB)) (a := n) (w' := w) rfl]
    rw [if_neg (by omega)]
    rw [run_bind_ok (run_info hi w)]
    rw [if_neg (by
      rintro ⟨h, _⟩
      have : IntKind.i64.max = 9223372036854775807 := by decide
      rw [this] at h
      unfold lenB at hB
      omega)]
    rw [run_bind_ok (run_info hi w)]
    rw [if_neg (by
      have h1 := next_le (len + n) cap hlt
      have h2 := Nat.mul_le_mul_right i.bytes h1
      rw [hbi] at h2 ⊢
      omega)]
    rw [run_bind_ok hc, run_bind_ok (run_info hi w1), run_bind_ok (run_askRoom _ w1), run_bind_ok (hold w1 c1)]
    simp only [Bool.not_false, if_true]
    rw [run_bind_ok (hnew w1 c1), run_bind_ok (run_zero hz w1), run_bind_ok (run_newRow _ _ w1), c1]
    rw [show len + n + k - (len + n) = k by omega]
    simp only [List.append_assoc, run_pure']
    congr 2
    simp
end
end Go.Pv

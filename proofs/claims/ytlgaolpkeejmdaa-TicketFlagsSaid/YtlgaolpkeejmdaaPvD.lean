import Derived.Test.YtlgaolpkeejmdaaPvC
set_option linter.unusedSimpArgs false
set_option linter.unusedVariables false
namespace Go.Pv

/-! ### runs -/
section
variable {P : Program}

theorem run_bind {α β : Type} (s : Sem α) (f : α → Sem β) (w : World) :
    (s >>= f).run P w = match s.run P w with | .ok a w' => (f a).run P w' | .halt h w' => .halt h w' := by
  show (Sem.bind s f).run P w = _
  induction s generalizing w with
  | pure a => simp [Sem.bind, Sem.run]
  | load m a k ih =>
    simp only [Sem.bind, Sem.run]
    split
    · exact ih _ _
    · split
      · exact ih _ _
      · rfl
  | store m a v k ih =>
    cases v <;> simp only [Sem.bind, Sem.run] <;> (try rfl) <;>
    (split
     · split
       · rfl
       · exact ih _
     · split
       · exact ih _
       · rfl)
  | new o k ih => simp only [Sem.bind, Sem.run]; exact ih _ _
  | shape r k ih => simp only [Sem.bind, Sem.run]; exact ih _ _
  | freeze a n k ih => simp only [Sem.bind, Sem.run]; exact ih _
  | frozen a k ih => simp only [Sem.bind, Sem.run]; exact ih _ _
  | getObj r k ih =>
    simp only [Sem.bind, Sem.run]
    split
    · rfl
    · exact ih _ _
    · rfl
  | setObj r o k ih =>
    simp only [Sem.bind, Sem.run]
    split
    · rfl
    · exact ih _
    · rfl
  | choose q k ih => simp only [Sem.bind, Sem.run]; split <;> exact ih _ _
  | sys c k ih => simp only [Sem.bind, Sem.run]; exact ih _ _
  | program k ih => simp only [Sem.bind, Sem.run]; exact ih _ _
  | mark m k ih => simp only [Sem.bind, Sem.run]; exact ih _
  | halt h => simp [Sem.bind, Sem.run]

theorem run_bind_ok {α β : Type} {s : Sem α} {f : α → Sem β} {w w' : World} {a : α} (h : s.run P w = .ok a w') : (s >>= f).run P w = (f a).run P w' := by
  rw [run_bind, h]

theorem run_pure' {α : Type} (a : α) (w : World) : (pure a : Sem α).run P w = .ok a w := rfl
theorem run_program (w : World) : (program).run P w = .ok P w := rfl

/-- A run that asks the program alone. -/
def pureP (P : Program) {α : Type} : Sem α → Option α
  | .pure a => some a
  | .program k => pureP P (k P)
  | .mark _ k => pureP P k
  | _ => none
theorem pureP_run {α : Type} : ∀ {s : Sem α} {a : α}, pureP P s = some a → ∀ w, s.run P w = .ok a w
  | .pure _, _, h, w => by simp only [pureP, Option.some.injEq] at h; subst h; rfl
  | .program k, a, h, w => by simp only [pureP] at h; simp only [Sem.run]; exact pureP_run h w
  | .mark _ k, a, h, w => by simp only [pureP] at h; simp only [Sem.run]; exact pureP_run h w
  | .load .., _, h, _ | .store .., _, h, _ | .new .., _, h, _ | .shape .., _, h, _ | .freeze .., _, h, _ | .frozen .., _, h, _ | .getObj .., _, h, _
  | .setObj .., _, h, _ | .choose .., _, h, _ | .sys .., _, h, _ | .halt .., _, h, _ => by simp [pureP] at h
theorem pureP_bind {α β : Type} {s : Sem α} {f : α → Sem β} {a : α} (h : pureP P s = some a) : pureP P (s >>= f) = pureP P (f a) := by
  show pureP P (Sem.bind s f) = _
  induction s with
  | pure b => simp only [pureP, Option.some.injEq] at h; subst h; rfl
  | program k ih => simp only [pureP] at h; simp only [Sem.bind, pureP]; exact ih _ h
  | mark m k ih => simp only [pureP] at h; simp only [Sem.bind, pureP]; exact ih h
  | _ => simp [pureP] at h

def tUnder (P : Program) (t : TypeId) : Option TypeDesc := P.underlying t
def tAgg (P : Program) (t : TypeId) : Option Bool := (P.underlying t).map fun | .struct _ | .array _ _ => true | _ => false
def tSize (P : Program) (t : TypeId) : Option Nat := (P.info? t).map (·.size)
def tBytes (P : Program) (t : TypeId) : Option Nat := (P.info? t).map (·.bytes)
def tZero (P : Program) (t : TypeId) : Option Value := (P.info? t).bind (·.zero)

theorem run_under {t : TypeId} {d : TypeDesc} (h : P.underlying t = some d) (w : World) : (underlying t).run P w = .ok d w := by
  show ((program >>= fun p => match p.underlying t with | some d => pure d | none => stuck "no such type") : Sem TypeDesc).run P w = _
  rw [run_bind_ok (run_program w), h]; rfl
theorem run_agg {t : TypeId} {b : Bool} (h : tAgg P t = some b) (w : World) : (isAgg t).run P w = .ok b w := by
  unfold tAgg at h
  cases hd : P.underlying t with
  | none => simp [hd] at h
  | some d =>
    simp only [hd, Option.map_some, Option.some.injEq] at h
    subst h
    show ((underlying t >>= fun d => match d with | .struct _ | .array _ _ => pure true | _ => pure false) : Sem Bool).run P w = _
    rw [run_bind_ok (run_under hd w)]
    cases d <;> rfl
theorem run_info {t : TypeId} {i : TypeInfo} (h : P.info? t = some i) (w : World) : (typeInfo t).run P w = .ok i w := by
  show ((program >>= fun p => match p.info? t with | some d => pure d | none => stuck "no such type") : Sem TypeInfo).run P w = _
  rw [run_bind_ok (run_program w), h]; rfl
theorem run_sizeOf {t : TypeId} {n : Nat} (h : tSize P t = some n) (w : World) : (sizeOf t).run P w = .ok n w := by
  simp only [tSize, Option.map_eq_some_iff] at h
  obtain ⟨i, hi, rfl⟩ := h
  show ((typeInfo t >>= fun i => pure i.size) : Sem Nat).run P w = _
  rw [run_bind_ok (run_info hi w)]; rfl
theorem run_zero {t : TypeId} {v : Value} (h : tZero P t = some v) (w : World) : (zeroValue t).run P w = .ok v w := by
  simp only [tZero, Option.bind_eq_some_iff] at h
  obtain ⟨i, hi, hv⟩ := h
  show ((typeInfo t >>= fun i => match i.zero with | some v => pure v | none => unsupported (.resourceLimit "a value of more than 2^22 cells")) : Sem Value).run P w = _
  rw [run_bind_ok (run_info hi w), hv]; rfl

theorem addr_add (b o n : Nat) : (⟨b, o, none⟩ : Addr).add n = ⟨b, o + n, none⟩ := by
  unfold Addr.add; split
  · rename_i h; subst h; rfl
  · rfl

theorem run_load {w : World} {a : Addr} {v : Value} (h : w.cell? a = some v) : (load a).run P w = .ok v w := by
  simp [load, Sem.run, h]

theorem run_loadFrom {w : World} {b o : Nat} : ∀ (vs : List Value) (i : Nat) (acc : Array Value), (∀ j v, vs[j]? = some v → w.cell? ⟨b, o + (i + j), none⟩ = some v) →
    (loadCellsFrom ⟨b, o, none⟩ i vs.length acc).run P w = .ok (acc ++ vs.toArray) w
  | [], i, acc, _ => by simp [loadCellsFrom, run_pure']
  | v :: vs, i, acc, h => by
    simp only [List.length_cons, loadCellsFrom]
    have h0 := h 0 v (by simp)
    rw [run_bind_ok (run_load (by rw [addr_add]; simpa using h0))]
    rw [run_loadFrom vs (i + 1) (acc.push v) fun j u hj => by
      have := h (j + 1) u (by simpa using hj)
      rwa [show i + (j + 1) = i + 1 + j by omega] at this]
    simp
theorem run_loadCells {w : World} {b o n : Nat} (vs : List Value) (hn : vs.length = n) (h : ∀ j v, vs[j]? = some v → w.cell? ⟨b, o + j, none⟩ = some v) :
    (loadCells ⟨b, o, none⟩ n).run P w = .ok vs.toArray w := by
  subst hn
  have := run_loadFrom (P := P) (w := w) (b := b) (o := o) vs 0 #[] (fun j v hj => by simpa using h j v hj)
  simpa [loadCells] using this

/-- What a store of these values, one by one, leaves of a row. -/
def splice {α : Type} : List α → Nat → List α → List α
  | cs, _, [] => cs
  | cs, o, v :: vs => splice (cs.set o v) (o + 1) vs
theorem splice_length {α : Type} : ∀ (vs cs : List α) (o : Nat), (splice cs o vs).length = cs.length
  | [], cs, o => rfl
  | v :: vs, cs, o => by simp [splice, splice_length vs]
theorem splice_other {α : Type} : ∀ (vs cs : List α) (o i : Nat), (i < o ∨ o + vs.length ≤ i) → (splice cs o vs)[i]? = cs[i]?
  | [], cs, o, i, _ => rfl
  | v :: vs, cs, o, i, h => by
    rw [splice, splice_other vs _ _ _ (by simp at h; omega), List.getElem?_set_ne (by simp at h; omega)]
theorem splice_in {α : Type} : ∀ (vs cs : List α) (o i : Nat), o + vs.length ≤ cs.length → i < vs.length → (splice cs o vs)[o + i]? = vs[i]?
  | [], cs, o, i, _, h => by simp at h
  | v :: vs, cs, o, 0, h, _ => by
    rw [splice, splice_other vs _ _ _ (by omega)]
    simp only [List.length_cons] at h
    simp only [Nat.add_zero, List.getElem?_cons_zero]
    rw [List.getElem?_set_self (by omega)]
  | v :: vs, cs, o, i + 1, h, hi => by
    rw [splice, show o + (i + 1) = o + 1 + i by omega, splice_in vs _ _ _ (by simp at h ⊢; omega) (by simpa using hi)]
    simp

def cellOk : Value → Bool
  | .agg _ | .tuple _ => false
  | _ => true

theorem run_store {w : World} {a : Addr} {u v : Value} (hc : w.cell? a = some u) (hf : w.frozen? a = false) (hv : cellOk v = true) : (store a v).run P w = .ok () (w.setCell a v) := by
  cases v <;> simp [cellOk] at hv <;> simp [store, Sem.run, hc, hf]

theorem setCell_block {w : World} {b o : Nat} {c : Array Value} {el : TypeId} (h : w.heap[b]? = some (.cells c el (0, 0))) (v : Value) :
    (w.setCell ⟨b, o, none⟩ v).heap[b]? = some (.cells (c.setIfInBounds o v) el (0, 0)) := by
  simp [World.setCell, Array.getElem?_modify, h]
theorem setCell_other {w : World} {b o x : Nat} (v : Value) (h : x ≠ b) : (w.setCell ⟨b, o, none⟩ v).heap[x]? = w.heap[x]? := by
  simp only [World.setCell, Array.getElem?_modify]
  rw [if_neg (by simpa using h.symm)]

theorem run_storeCells {b : Nat} {el : TypeId} : ∀ (vs : List Value) (w : World) (o i : Nat) (c : Array Value), w.heap[b]? = some (.cells c el (0, 0)) → o + i + vs.length ≤ c.size →
    vs.all cellOk = true →
    ∃ w', (storeCells ⟨b, o, none⟩ vs i).run P w = .ok () w' ∧ w'.os = w.os ∧ w'.tape = w.tape ∧ w'.output = w.output ∧ w'.heap.size = w.heap.size ∧
      w'.heap[b]? = some (.cells (splice c.toList (o + i) vs).toArray el (0, 0)) ∧ ∀ x, x ≠ b → w'.heap[x]? = w.heap[x]?
  | [], w, o, i, c, h, _, _ => ⟨w, by simp [storeCells, run_pure'], rfl, rfl, rfl, rfl, by simpa [splice] using h, fun _ _ => rfl⟩
  | v :: vs, w, o, i, c, h, hl, hv => by
    simp only [List.all_cons, Bool.and_eq_true] at hv
    simp only [List.length_cons] at hl
    obtain ⟨w', h1, h2, h3, h4, h5, h6, h7⟩ := run_storeCells vs (w.setCell ⟨b, o + i, none⟩ v) o (i + 1) (c.setIfInBounds (o + i) v) (setCell_block h v) (by simp; omega) hv.2
    refine ⟨w', ?_, h2, h3, h4, by rw [h5]; simp [World.setCell], ?_, fun x hx => (h7 x hx).trans (setCell_other v hx)⟩
    · simp only [storeCells]
      rw [run_bind_ok (run_store (u := c[o + i]'(by omega)) (by rw [addr_add, cell_of_block h]; simp) (frozen_of_block h _ (by rw [addr_add])) hv.1), addr_add]
      exact h1
    · rw [h6]
      simp [splice, Nat.add_assoc]
end

/-! ### a store into a box -/
theorem mle_same {w w' : World} {hw : Nat → Nat} {b : Nat} (hb : hw b = 0) (h : ∀ x, x ≠ b → w'.heap[x]? = w.heap[x]?) : MLe (memOf w hw) (memOf w' hw) := by
  intro x o v hv
  simp only [memOf] at hv ⊢
  by_cases h0 : o < hw x
  · rw [if_pos h0] at hv ⊢
    have hne : x ≠ b := fun e => by subst e; omega
    rw [cell_same (h x hne)]; exact hv
  · rw [if_neg h0] at hv; cases hv

theorem RepL_splice {m : Mem} : ∀ {ps : List PV} {vs : List Value} {cs : List PV} {us : List Value} (o : Nat), RepL m ps vs → RepL m cs us → RepL m (splice cs o ps) (splice us o vs)
  | [], vs, cs, us, o, h, k => by simp [RepL] at h; subst h; exact k
  | p :: ps, vs, cs, us, o, h, k => by
    obtain ⟨v, rest, rfl, h1, h2⟩ := by simpa [RepL] using h
    simp only [splice]
    exact RepL_splice (o + 1) h2 (RepL_set h1 o k)

theorem WRep.stored {w w' : World} {hw : Nat → Nat} {H : PH} (h : WRep w hw H) {b : Nat} {cs : List PV} (hb : H.get b = some (.cells cs)) {cs' : List PV} {c' : Array Value} {el : TypeId}
    (h1 : w'.os = w.os) (h2 : w'.tape = w.tape) (h3 : w'.output = w.output) (h4 : w'.heap.size = w.heap.size)
    (h5 : w'.heap[b]? = some (.cells c' el (0, 0))) (h6 : ∀ x, x ≠ b → w'.heap[x]? = w.heap[x]?) (hc : RepL (memOf w hw) cs' c'.toList) :
    WRep w' hw (H.set b (.cells cs')) ∧ ExtF H w hw w' hw (H.set b (.cells cs')) := by
  have ho := h.obj b _ hb
  have hm := mle_same (w := w) (w' := w') ho.1 h6
  refine ⟨⟨fun x hx => by rw [h4]; exact h.fin x hx, fun x o hx => ?_⟩, ⟨h1, h2, h3, by omega, fun x hx hn => ⟨h6 x (fun e => by subst e; rw [hb] at hn; cases hn), rfl⟩, hm, fun x hx => ?_⟩⟩
  · rw [PH.get_set] at hx
    split at hx
    · rename_i e
      cases hx
      subst e
      exact ⟨ho.1, c', el, h5, RepL.mono hm _ hc⟩
    · rename_i e
      exact (h.obj x o hx).keep (h6 x e) rfl hm
  · rw [PH.get_set] at hx
    split at hx
    · rename_i e; subst e; exact .inl (by simp [hb])
    · exact .inl hx

/-! ### an append in place -/
theorem WRep.grown {w w' : World} {hw : Nat → Nat} {H : PH} (h : WRep w hw H) {b e tot k : Nat} (hb : H.get b = some (.row e tot)) {c' : Array Value} {el : TypeId}
    (h1 : w'.os = w.os) (h2 : w'.tape = w.tape) (h3 : w'.output = w.output) (h4 : w'.heap.size = w.heap.size)
    (h5 : w'.heap[b]? = some (.cells c' el (0, 0))) (h6 : ∀ x, x ≠ b → w'.heap[x]? = w.heap[x]?) (hs : c'.size = tot) (hk : e + k ≤ tot)
    (hsame : ∀ o, o < e → c'[o]? = (w.cell? ⟨b, o, none⟩)) :
    WRep w' (updF hw b (e + k)) (H.set b (.row (e + k) tot)) ∧ ExtF H w hw w' (updF hw b (e + k)) (H.set b (.row (e + k) tot)) ∧
    (∀ i v, i < k → c'[e + i]? = some v → memOf w' (updF hw b (e + k)) b (e + i) = some v) := by
  have ho := h.obj b _ hb
  have hm : MLe (memOf w hw) (memOf w' (updF hw b (e + k))) := by
    intro x o v hv
    simp only [memOf] at hv ⊢
    by_cases h0 : o < hw x
    · rw [if_pos h0] at hv
      by_cases hx : x = b
      · subst hx
        rw [ho.1] at h0
        rw [if_pos (by simp [updF]; omega), cell_of_block h5, hsame o h0]; exact hv
      · rw [if_pos (by simpa [updF, hx] using h0), cell_same (h6 x hx)]; exact hv
    · rw [if_neg h0] at hv; cases hv
  refine ⟨⟨fun x hx => ?_, fun x o hx => ?_⟩, ⟨h1, h2, h3, by omega, fun x hx hn => ?_, hm, fun x hx => ?_⟩, fun i v hi hv => ?_⟩
  · rw [h4]
    by_cases e2 : x = b
    · subst e2; exact ho.lt
    · exact h.fin x (by simpa [updF, e2] using hx)
  · rw [PH.get_set] at hx
    split at hx
    · rename_i e2
      cases hx
      subst e2
      exact ⟨by simp [updF], hk, c', el, h5, hs⟩
    · rename_i e2
      exact (h.obj x o hx).keep (h6 x e2) (by simp [updF, e2]) hm
  · have hne : x ≠ b := fun e2 => by subst e2; rw [hb] at hn; cases hn
    exact ⟨h6 x hne, by simp [updF, hne]⟩
  · rw [PH.get_set] at hx
    split at hx
    · rename_i e2; subst e2; exact .inl (by simp [hb])
    · exact .inl hx
  · simp only [memOf]
    rw [if_pos (by simp [updF]; omega), cell_of_block h5]; exact hv

end Go.Pv

import Derived.Test.YtlgaolpkeejmdaaPvB
namespace Go.Pv

inductive PObj where
  | cells (cs : List PV)
  | row (e tot : Nat)

abbrev PH := List (Nat × PObj)

def PH.get : PH → Nat → Option PObj
  | [], _ => none
  | (b, o) :: H, x => if x = b then some o else PH.get H x
def PH.set (H : PH) (b : Nat) (o : PObj) : PH := (b, o) :: H

@[simp] theorem PH.get_nil (x : Nat) : PH.get [] x = none := rfl
theorem PH.get_cons (b : Nat) (o : PObj) (H : PH) (x : Nat) : PH.get ((b, o) :: H) x = if x = b then some o else PH.get H x := rfl
theorem PH.get_set (H : PH) (b : Nat) (o : PObj) (x : Nat) : PH.get (H.set b o) x = if x = b then some o else H.get x := rfl
theorem PH.get_append : ∀ (F H : PH) (x : Nat), PH.get (F ++ H) x = (F.get x).or (H.get x)
  | [], H, x => by simp
  | (b, o) :: F, H, x => by
    simp only [List.cons_append, PH.get_cons]
    split
    · simp
    · exact PH.get_append F H x
theorem PH.fresh (H : PH) : ∃ b, ∀ x, b ≤ x → H.get x = none := by
  induction H with
  | nil => exact ⟨0, fun _ _ => rfl⟩
  | cons p H ih =>
    obtain ⟨b, hb⟩ := ih
    refine ⟨max b (p.1 + 1), fun x hx => ?_⟩
    obtain ⟨k, o⟩ := p
    rw [PH.get_cons, if_neg (by simp at hx; omega)]
    exact hb x (by omega)

def memOf (w : World) (hw : Nat → Nat) : Mem := fun b o => if o < hw b then w.cell? ⟨b, o, none⟩ else none

theorem cell_of_block {w : World} {b : Nat} {c : Array Value} {el : TypeId} {fz : Nat × Nat} (h : w.heap[b]? = some (.cells c el fz)) (o : Nat) : w.cell? ⟨b, o, none⟩ = c[o]? := by
  simp [World.cell?, h]
theorem frozen_of_block {w : World} {b : Nat} {c : Array Value} {el : TypeId} (h : w.heap[b]? = some (.cells c el (0, 0))) (a : Addr) (ha : a.block = b) : w.frozen? a = false := by
  simp [World.frozen?, ha, h]
theorem cell_same {w w' : World} {b : Nat} (h : w'.heap[b]? = w.heap[b]?) (o : Nat) : w'.cell? ⟨b, o, none⟩ = w.cell? ⟨b, o, none⟩ := by
  simp [World.cell?, h]

def ObjRep (w : World) (hw : Nat → Nat) (b : Nat) : PObj → Prop
  | .cells cs => hw b = 0 ∧ ∃ c el, w.heap[b]? = some (.cells c el (0, 0)) ∧ RepL (memOf w hw) cs c.toList
  | .row e tot => hw b = e ∧ e ≤ tot ∧ ∃ c el, w.heap[b]? = some (.cells c el (0, 0)) ∧ c.size = tot

structure WRep (w : World) (hw : Nat → Nat) (H : PH) : Prop where
  fin : ∀ b, hw b ≠ 0 → b < w.heap.size
  obj : ∀ b o, H.get b = some o → ObjRep w hw b o

theorem ObjRep.lt {w : World} {hw : Nat → Nat} {b : Nat} {o : PObj} (h : ObjRep w hw b o) : b < w.heap.size := by
  have : ∃ x, w.heap[b]? = some x := by
    cases o with
    | cells cs => obtain ⟨_, c, el, h, _⟩ := h; exact ⟨_, h⟩
    | row e tot => obtain ⟨_, _, c, el, h, _⟩ := h; exact ⟨_, h⟩
  obtain ⟨x, hx⟩ := this
  exact (Array.getElem?_eq_some_iff.1 hx).1

structure ExtF (H : PH) (w : World) (hw : Nat → Nat) (w' : World) (hw' : Nat → Nat) (H' : PH) : Prop where
  os : w'.os = w.os
  tape : w'.tape = w.tape
  output : w'.output = w.output
  size : w.heap.size ≤ w'.heap.size
  frame : ∀ b, b < w.heap.size → H.get b = none → w'.heap[b]? = w.heap[b]? ∧ hw' b = hw b
  mono : MLe (memOf w hw) (memOf w' hw')
  dom : ∀ b, H'.get b ≠ none → H.get b ≠ none ∨ w.heap.size ≤ b

theorem ExtF.refl (H : PH) (w : World) (hw : Nat → Nat) : ExtF H w hw w hw H :=
  ⟨rfl, rfl, rfl, Nat.le_refl _, fun _ _ _ => ⟨rfl, rfl⟩, MLe.refl _, fun _ h => .inl h⟩

theorem ExtF.trans {H0 H1 H2 : PH} {w0 w1 w2 : World} {h0 h1 h2 : Nat → Nat} (a : ExtF H0 w0 h0 w1 h1 H1) (b : ExtF H1 w1 h1 w2 h2 H2) : ExtF H0 w0 h0 w2 h2 H2 := by
  refine ⟨b.os.trans a.os, b.tape.trans a.tape, b.output.trans a.output, Nat.le_trans a.size b.size, fun x hx hn => ?_, a.mono.trans b.mono, fun x hx => ?_⟩
  · have hn1 : H1.get x = none := by
      cases e : H1.get x with
      | none => rfl
      | some o => rcases a.dom x (by simp [e]) with h | h
                  · exact absurd hn h
                  · omega
    obtain ⟨p, q⟩ := b.frame x (Nat.lt_of_lt_of_le hx a.size) hn1
    obtain ⟨r, s⟩ := a.frame x hx hn
    exact ⟨p.trans r, q.trans s⟩
  · rcases b.dom x hx with h | h
    · exact a.dom x h
    · exact .inr (Nat.le_trans a.size h)

theorem ObjRep.keep {w w' : World} {hw hw' : Nat → Nat} {b : Nat} {o : PObj} (h : ObjRep w hw b o) (hb : w'.heap[b]? = w.heap[b]?) (hh : hw' b = hw b)
    (hm : MLe (memOf w hw) (memOf w' hw')) : ObjRep w' hw' b o := by
  cases o with
  | cells cs =>
    obtain ⟨h0, c, el, h1, h2⟩ := h
    exact ⟨hh.trans h0, c, el, hb.trans h1, RepL.mono hm _ h2⟩
  | row e tot =>
    obtain ⟨h0, h1, c, el, h2, h3⟩ := h
    exact ⟨hh.trans h0, h1, c, el, hb.trans h2, h3⟩

/-- What is called with a part of the memory leaves the rest alone. -/
theorem WRep.frame {F H H' : PH} {w w' : World} {hw hw' : Nat → Nat} (h : WRep w hw (F ++ H)) (hd : ∀ b, F.get b ≠ none → H.get b = none)
    (e : ExtF H w hw w' hw' H') (h' : WRep w' hw' H') : WRep w' hw' (F ++ H') ∧ ∀ b, F.get b ≠ none → H'.get b = none := by
  refine ⟨⟨h'.fin, fun b o hb => ?_⟩, fun b hb => ?_⟩
  · rw [PH.get_append] at hb
    cases hf : F.get b with
    | none => rw [hf, Option.none_or] at hb; exact h'.obj b o hb
    | some o2 =>
      rw [hf, Option.some_or] at hb
      cases hb
      have ho := h.obj b o (by rw [PH.get_append, hf]; rfl)
      obtain ⟨p, q⟩ := e.frame b ho.lt (hd b (by simp [hf]))
      exact ho.keep p q e.mono
  · cases hf : F.get b with
    | none => exact absurd hf hb
    | some o2 =>
      have ho := h.obj b o2 (by rw [PH.get_append, hf]; rfl)
      cases hx : H'.get b with
      | none => rfl
      | some o3 => rcases e.dom b (by simp [hx]) with k | k
                   · exact absurd (hd b hb) k
                   · have := ho.lt; omega

theorem WRep.le {w : World} {hw : Nat → Nat} {H H' : PH} (h : WRep w hw H') (hl : ∀ b o, H.get b = some o → H'.get b = some o) : WRep w hw H :=
  ⟨h.fin, fun b o hb => h.obj b o (hl b o hb)⟩

/-! ### a draw -/
theorem memOf_heap {w w' : World} {hw : Nat → Nat} (h : w'.heap = w.heap) : memOf w' hw = memOf w hw := by
  funext b o; simp [memOf, World.cell?, h]
theorem WRep.drawn {w w' : World} {hw : Nat → Nat} {H : PH} (h : WRep w hw H) (e : w'.heap = w.heap) : WRep w' hw H := by
  refine ⟨fun b hb => by rw [e]; exact h.fin b hb, fun b o hb => ?_⟩
  exact (h.obj b o hb).keep (by rw [e]) rfl (by rw [memOf_heap e]; exact MLe.refl _)

/-! ### a new block -/
def World.push (w : World) (o : Obj) : World := { w with heap := w.heap.push o }
theorem push_lt {w : World} {o : Obj} {b : Nat} (h : b < w.heap.size) : (World.push w o).heap[b]? = w.heap[b]? := by
  show (w.heap.push o)[b]? = _
  rw [Array.getElem?_push, if_neg (by omega)]
theorem push_new (w : World) (o : Obj) : (World.push w o).heap[w.heap.size]? = some o := by
  show (w.heap.push o)[w.heap.size]? = _
  simp
theorem push_size (w : World) (o : Obj) : (World.push w o).heap.size = w.heap.size + 1 := by simp [World.push]

def updF (hw : Nat → Nat) (b v : Nat) : Nat → Nat := fun x => if x = b then v else hw x

theorem mle_push {w : World} {hw : Nat → Nat} (fin : ∀ b, hw b ≠ 0 → b < w.heap.size) (o : Obj) (k : Nat) : MLe (memOf w hw) (memOf (World.push w o) (updF hw w.heap.size k)) := by
  intro b x v hv
  simp only [memOf] at hv ⊢
  by_cases h0 : x < hw b
  · rw [if_pos h0] at hv
    have hb := fin b (by omega)
    have hne : b ≠ w.heap.size := by omega
    rw [show updF hw w.heap.size k b = hw b by simp [updF, hne], if_pos h0, cell_same (push_lt hb)]
    exact hv
  · rw [if_neg h0] at hv; cases hv

theorem ext_push {w : World} {hw : Nat → Nat} {H : PH} (fin : ∀ b, hw b ≠ 0 → b < w.heap.size) (o : Obj) (k : Nat) : ExtF H w hw (World.push w o) (updF hw w.heap.size k) H :=
  ⟨rfl, rfl, rfl, by rw [push_size]; omega, fun b hb _ => ⟨push_lt hb, by simp [updF]; omega⟩, mle_push fin o k, fun _ h => .inl h⟩

theorem WRep.push {w : World} {hw : Nat → Nat} {H : PH} (h : WRep w hw H) (o : Obj) (k : Nat) : WRep (World.push w o) (updF hw w.heap.size k) H := by
  refine ⟨fun b hb => ?_, fun b p hb => ?_⟩
  · rw [push_size]
    by_cases e : b = w.heap.size
    · omega
    · have := h.fin b (by simpa [updF, e] using hb); omega
  · have ho := h.obj b p hb
    have hl := ho.lt
    exact ho.keep (push_lt hl) (by simp [updF]; omega) (mle_push h.fin o k)

theorem updF_zero {hw : Nat → Nat} {b : Nat} (h : hw b = 0) : updF hw b 0 = hw := by
  funext x; simp only [updF]; split
  · rename_i e; rw [e, h]
  · rfl
theorem WRep.hw_size {w : World} {hw : Nat → Nat} {H : PH} (h : WRep w hw H) : hw w.heap.size = 0 := by
  by_cases e : hw w.heap.size = 0
  · exact e
  · have := h.fin _ e; omega
theorem WRep.get_size {w : World} {hw : Nat → Nat} {H : PH} (h : WRep w hw H) {b : Nat} (hb : w.heap.size ≤ b) : H.get b = none := by
  cases e : H.get b with
  | none => rfl
  | some o => have := (h.obj _ _ e).lt; omega

/-- A new box. -/
theorem WRep.box {w : World} {hw : Nat → Nat} {H : PH} (h : WRep w hw H) {cs : List PV} {c : Array Value} {el : TypeId} (hc : RepL (memOf w hw) cs c.toList) :
    WRep (World.push w (.cells c el (0, 0))) hw (H.set w.heap.size (.cells cs)) ∧ ExtF H w hw (World.push w (.cells c el (0, 0))) hw (H.set w.heap.size (.cells cs)) := by
  have hz := updF_zero h.hw_size
  have h1 := h.push (.cells c el (0, 0)) 0
  have h2 := ext_push (H := H) h.fin (.cells c el (0, 0)) 0
  rw [hz] at h1 h2
  refine ⟨⟨h1.fin, fun b o hb => ?_⟩, ⟨h2.os, h2.tape, h2.output, h2.size, h2.frame, h2.mono, fun b hb => ?_⟩⟩
  · rw [PH.get_set] at hb
    split at hb
    · rename_i e
      cases hb
      subst e
      exact ⟨h.hw_size, c, el, push_new _ _, RepL.mono h2.mono _ hc⟩
    · exact h1.obj b o hb
  · rw [PH.get_set] at hb
    split at hb
    · rename_i e; exact .inr (by omega)
    · exact .inl hb

/-- A new row, all of it read only from now on. -/
theorem WRep.rowNew {w : World} {hw : Nat → Nat} {H : PH} (h : WRep w hw H) (c : Array Value) (el : TypeId) (k : Nat) (hk : k ≤ c.size) :
    WRep (World.push w (.cells c el (0, 0))) (updF hw w.heap.size k) H ∧ ExtF H w hw (World.push w (.cells c el (0, 0))) (updF hw w.heap.size k) H ∧
    (∀ i v, i < k → c[i]? = some v → memOf (World.push w (.cells c el (0, 0))) (updF hw w.heap.size k) w.heap.size i = some v) ∧
    ObjRep (World.push w (.cells c el (0, 0))) (updF hw w.heap.size k) w.heap.size (.row k c.size) := by
  refine ⟨h.push _ _, ext_push h.fin _ _, fun i v hi hv => ?_, by simp [updF], hk, c, el, push_new _ _, rfl⟩
  simp only [memOf, updF, if_true, hi]
  rw [cell_of_block (push_new w (.cells c el (0, 0)))]
  exact hv

end Go.Pv

import Derived.Test.YtlgaolpkeejmdaaPvF
set_option linter.unusedSimpArgs false
set_option linter.unusedVariables false
namespace Go.Pv

def RepEV (m : Mem) (lam : Nat → Nat) (nL : Nat) : EV → Value → Prop
  | .l i o, v => i < nL ∧ v = .pointer (some ⟨lam i, o, none⟩)
  | .v p, v => Rep m p v

theorem RepEV.mono {m m' : Mem} (h : MLe m m') {lam lam' : Nat → Nat} {n n' : Nat} (hn : n ≤ n') (hl : ∀ i, i < n → lam' i = lam i) {e : EV} {v : Value} (r : RepEV m lam n e v) : RepEV m' lam' n' e v := by
  cases e with
  | l i o => obtain ⟨h1, h2⟩ := r; exact ⟨Nat.lt_of_lt_of_le h1 hn, by rw [hl i h1]; exact h2⟩
  | v p => exact Rep.mono h p r

def locs (lam : Nat → Nat) : Nat → List (List PV) → PH
  | _, [] => []
  | i, cs :: L => (lam i, .cells cs) :: locs lam (i + 1) L

theorem locs_get_none {lam : Nat → Nat} : ∀ {L : List (List PV)} {i b : Nat}, (∀ j, i ≤ j → j < i + L.length → lam j ≠ b) → (locs lam i L).get b = none
  | [], i, b, _ => rfl
  | cs :: L, i, b, h => by
    simp only [locs, PH.get_cons]
    rw [if_neg (fun e => h i (Nat.le_refl _) (by simp) e.symm)]
    exact locs_get_none fun j h1 h2 => h j (by omega) (by simp; omega)
theorem locs_get_some {lam : Nat → Nat} : ∀ {L : List (List PV)} {i b : Nat}, (locs lam i L).get b ≠ none → ∃ j, i ≤ j ∧ j < i + L.length ∧ lam j = b
  | [], i, b, h => absurd rfl h
  | cs :: L, i, b, h => by
    simp only [locs, PH.get_cons] at h
    by_cases e : b = lam i
    · exact ⟨i, Nat.le_refl _, by simp, e.symm⟩
    · rw [if_neg e] at h
      obtain ⟨j, h1, h2, h3⟩ := locs_get_some h
      exact ⟨j, by omega, by simp; omega, h3⟩
theorem locs_get {lam : Nat → Nat} : ∀ {L : List (List PV)} {i k : Nat} {cs : List PV}, (∀ x y, i ≤ x → x < i + L.length → i ≤ y → y < i + L.length → lam x = lam y → x = y) → L[k]? = some cs →
    (locs lam i L).get (lam (i + k)) = some (.cells cs)
  | [], i, k, cs, _, h => by simp at h
  | c :: L, i, 0, cs, _, h => by
    simp at h; subst h
    simp [locs, PH.get_cons]
  | c :: L, i, k + 1, cs, hinj, h => by
    simp at h
    have hk : k < L.length := (List.getElem?_eq_some_iff.1 h).1
    simp only [locs, PH.get_cons]
    rw [if_neg (fun e => by have := hinj (i + (k + 1)) i (by omega) (by simp; omega) (by omega) (by simp) e; omega)]
    have := locs_get (lam := lam) (L := L) (i := i + 1) (k := k) (cs := cs) (fun x y h1 h2 h3 h4 => hinj x y (by omega) (by simp; omega) (by omega) (by simp; omega)) h
    rwa [show i + 1 + k = i + (k + 1) by omega] at this

/-- After one of them is written. -/
theorem locs_set {lam : Nat → Nat} : ∀ {L : List (List PV)} {i k : Nat} {cs : List PV}, (∀ x y, i ≤ x → x < i + L.length → i ≤ y → y < i + L.length → lam x = lam y → x = y) → k < L.length →
    ∀ b, (locs lam i (L.set k cs)).get b = if b = lam (i + k) then some (.cells cs) else (locs lam i L).get b
  | [], i, k, cs, _, h, b => by simp at h
  | c :: L, i, 0, cs, _, h, b => by
    simp only [List.set_cons_zero, locs, PH.get_cons, Nat.add_zero]
    split <;> rfl
  | c :: L, i, k + 1, cs, hinj, h, b => by
    simp at h
    simp only [List.set_cons_succ, locs, PH.get_cons]
    have := locs_set (lam := lam) (L := L) (i := i + 1) (k := k) (cs := cs) (fun x y h1 h2 h3 h4 => hinj x y (by omega) (by simp; omega) (by omega) (by simp; omega)) h b
    rw [this, show i + 1 + k = i + (k + 1) by omega]
    by_cases e : b = lam i
    · rw [if_pos e, if_neg (fun e2 => by have := hinj i (i + (k + 1)) (by omega) (by simp) (by omega) (by simp; omega) (e.symm.trans e2); omega), if_pos e]
    · rw [if_neg e, if_neg e]
theorem locs_append {lam : Nat → Nat} : ∀ (L : List (List PV)) (i : Nat) (cs : List PV) (b : Nat), (locs lam i (L ++ [cs])).get b = ((locs lam i L).get b).or (if b = lam (i + L.length) then some (.cells cs) else none)
  | [], i, cs, b => by simp [locs, PH.get_cons]
  | c :: L, i, cs, b => by
    simp only [List.cons_append, locs, PH.get_cons]
    split
    · simp
    · rw [locs_append L (i + 1) cs b]
      simp only [List.length_cons]
      rw [show i + 1 + L.length = i + (L.length + 1) by omega]
theorem locs_congr {lam lam' : Nat → Nat} : ∀ (L : List (List PV)) (i : Nat), (∀ j, i ≤ j → j < i + L.length → lam' j = lam j) → locs lam' i L = locs lam i L
  | [], i, _ => rfl
  | c :: L, i, h => by
    simp only [locs]
    rw [h i (Nat.le_refl _) (by simp), locs_congr L (i + 1) fun j h1 h2 => h j (by omega) (by simp; omega)]

structure SimB (w0 : World) (hw0 : Nat → Nat) (H0 : PH) (w : World) (hw : Nat → Nat) (lam : Nat → Nat) (L : List (List PV)) (H : PH) : Prop where
  ext : ExtF H0 w0 hw0 w hw H
  rep : WRep w hw (locs lam 0 L ++ H)
  dis : ∀ b, (locs lam 0 L).get b ≠ none → H.get b = none
  inj : ∀ i j, i < L.length → j < L.length → lam i = lam j → i = j
  new : ∀ i, i < L.length → w0.heap.size ≤ lam i

section
variable {P : Program} {w0 w : World} {hw0 hw : Nat → Nat} {H0 H : PH} {lam : Nat → Nat} {L : List (List PV)}

theorem SimB.inj' (s : SimB w0 hw0 H0 w hw lam L H) : ∀ x y, 0 ≤ x → x < 0 + L.length → 0 ≤ y → y < 0 + L.length → lam x = lam y → x = y :=
  fun x y _ h1 _ h2 => s.inj x y (by omega) (by omega)
theorem SimB.wrep (s : SimB w0 hw0 H0 w hw lam L H) : WRep w hw H := s.rep.le fun b o hb => by
  rw [PH.get_append]
  cases e : (locs lam 0 L).get b with
  | none => simpa using hb
  | some o2 => have := s.dis b (by simp [e]); rw [hb] at this; cases this
theorem SimB.loc (s : SimB w0 hw0 H0 w hw lam L H) {i : Nat} {cs : List PV} (h : L[i]? = some cs) : ObjRep w hw (lam i) (.cells cs) := by
  refine s.rep.obj _ _ ?_
  have := locs_get (lam := lam) (i := 0) s.inj' h
  rw [Nat.zero_add] at this
  rw [PH.get_append, this]; rfl
theorem SimB.heap (s : SimB w0 hw0 H0 w hw lam L H) {b : Nat} {o : PObj} (h : H.get b = some o) : ObjRep w hw b o := s.wrep.obj _ _ h

/-- A step that leaves the call's own variables alone. -/
theorem SimB.step (s : SimB w0 hw0 H0 w hw lam L H) {w' : World} {hw' : Nat → Nat} {H' : PH} (e : ExtF H w hw w' hw' H') (h' : WRep w' hw' H') : SimB w0 hw0 H0 w' hw' lam L H' := by
  have hf := WRep.frame s.rep s.dis e h'
  exact ⟨s.ext.trans e, hf.1, hf.2, s.inj, s.new⟩

/-- A new one. -/
theorem SimB.alloc (s : SimB w0 hw0 H0 w hw lam L H) {cs : List PV} {c : Array Value} {el : TypeId} (hc : RepL (memOf w hw) cs c.toList) :
    SimB w0 hw0 H0 (World.push w (.cells c el (0, 0))) hw (updF lam L.length w.heap.size) (L ++ [cs]) H := by
  have hb := s.rep.box (el := el) hc
  have hlt : ∀ i, i < L.length → lam i < w.heap.size := fun i hi => (s.loc (List.getElem?_eq_getElem hi)).lt
  have hcg : locs (updF lam L.length w.heap.size) 0 L = locs lam 0 L := locs_congr L 0 fun j _ h2 => by simp [updF]; omega
  have hget : ∀ b, (locs (updF lam L.length w.heap.size) 0 (L ++ [cs])).get b = ((locs lam 0 L).get b).or (if b = w.heap.size then some (.cells cs) else none) := by
    intro b
    rw [locs_append, hcg]
    simp [updF]
  have hnL : (locs lam 0 L).get w.heap.size = none := locs_get_none fun j _ h2 e => by have := hlt j (by omega); omega
  have hnH : H.get w.heap.size = none := s.wrep.get_size (Nat.le_refl _)
  refine ⟨s.ext.trans ⟨hb.2.os, hb.2.tape, hb.2.output, hb.2.size, fun b h1 _ => ?_, hb.2.mono, fun b h => .inl h⟩, ⟨hb.1.fin, fun b o hbo => hb.1.obj b o ?_⟩, fun b hne => ?_, fun i j hi hj e => ?_, fun i hi => ?_⟩
  · exact ⟨push_lt h1, rfl⟩
  · rw [PH.get_set, PH.get_append]
    rw [PH.get_append, hget] at hbo
    by_cases e : b = w.heap.size
    · rw [if_pos e]
      rw [e, hnL] at hbo
      simpa using hbo
    · rw [if_neg e]
      simpa [e] using hbo
  · rw [hget] at hne
    by_cases e : b = w.heap.size
    · rw [e]; exact hnH
    · exact s.dis b (by simpa [e] using hne)
  · simp only [List.length_append, List.length_singleton] at hi hj
    by_cases e1 : i = L.length <;> by_cases e2 : j = L.length
    · omega
    · rw [show updF lam L.length w.heap.size i = w.heap.size by simp [updF, e1], show updF lam L.length w.heap.size j = lam j by simp [updF, e2]] at e
      have := hlt j (by omega); omega
    · rw [show updF lam L.length w.heap.size i = lam i by simp [updF, e1], show updF lam L.length w.heap.size j = w.heap.size by simp [updF, e2]] at e
      have := hlt i (by omega); omega
    · rw [show updF lam L.length w.heap.size i = lam i by simp [updF, e1], show updF lam L.length w.heap.size j = lam j by simp [updF, e2]] at e
      exact s.inj i j (by omega) (by omega) e
  · simp only [List.length_append, List.length_singleton] at hi
    by_cases e1 : i = L.length
    · simp [updF, e1]; exact s.ext.size
    · simp [updF, e1]; exact s.new i (by omega)

/-- A store into one. -/
theorem SimB.stored (s : SimB w0 hw0 H0 w hw lam L H) {i : Nat} {cs cs' : List PV} (hi : L[i]? = some cs) {w' : World} {c' : Array Value} {el : TypeId}
    (h1 : w'.os = w.os) (h2 : w'.tape = w.tape) (h3 : w'.output = w.output) (h4 : w'.heap.size = w.heap.size)
    (h5 : w'.heap[lam i]? = some (.cells c' el (0, 0))) (h6 : ∀ x, x ≠ lam i → w'.heap[x]? = w.heap[x]?) (hc : RepL (memOf w hw) cs' c'.toList) :
    SimB w0 hw0 H0 w' hw lam (L.set i cs') H ∧ MLe (memOf w hw) (memOf w' hw) := by
  have hlt : i < L.length := (List.getElem?_eq_some_iff.1 hi).1
  have hg := locs_get (lam := lam) (i := 0) s.inj' hi
  rw [Nat.zero_add] at hg
  have hb : (locs lam 0 L ++ H).get (lam i) = some (.cells cs) := by rw [PH.get_append, hg]; rfl
  have hst := s.rep.stored hb h1 h2 h3 h4 h5 h6 hc
  have hset := locs_set (lam := lam) (i := 0) (k := i) (cs := cs') s.inj' hlt
  rw [Nat.zero_add] at hset
  have hn : H.get (lam i) = none := s.dis _ (by simp [hg])
  refine ⟨⟨⟨h1.trans s.ext.os, h2.trans s.ext.tape, h3.trans s.ext.output, by rw [h4]; exact s.ext.size, fun b hb1 hb2 => ?_, s.ext.mono.trans hst.2.mono, s.ext.dom⟩, ⟨hst.1.fin, fun b o hbo => hst.1.obj b o ?_⟩, fun b hne => ?_, by simpa using s.inj, by simpa using s.new⟩, hst.2.mono⟩
  · have hn2 := s.new i hlt
    obtain ⟨p, q⟩ := s.ext.frame b hb1 hb2
    exact ⟨(h6 b (by omega)).trans p, q⟩
  · rw [PH.get_set, PH.get_append]
    rw [PH.get_append, hset] at hbo
    by_cases e : b = lam i
    · rw [if_pos e] at hbo ⊢
      simpa using hbo
    · rw [if_neg e] at hbo ⊢
      exact hbo
  · rw [hset] at hne
    by_cases e : b = lam i
    · rw [e]; exact hn
    · rw [if_neg e] at hne; exact s.dis b hne
end
end Go.Pv

import Derived.Test.YtlgaolpkeejmdaaPvE
set_option linter.unusedSimpArgs false
set_option linter.unusedVariables false
namespace Go.Pv

mutual
def PV.fg : PV → PV
  | .scal v => .scal v
  | .agg cs => .agg (fgL cs)
  | .tup cs => .tup (fgL cs)
  | .list _ xs => .list .foreign (fgL xs)
  | .cptr cs => .cptr (fgL cs)
  | .ptr b o => .ptr b o
  | .fn f a c => .fn f (fgL a) (fgL c)
  | .mapr b => .mapr b
  | .iface t p => .iface t p.fg
def fgL : List PV → List PV
  | [] => []
  | p :: ps => p.fg :: fgL ps
end

theorem fgL_length : ∀ ps : List PV, (fgL ps).length = ps.length
  | [] => rfl
  | p :: ps => by simp [fgL, fgL_length ps]

mutual
theorem Rep.fg {m : Mem} : ∀ (p : PV) {v : Value}, Rep m p v → Rep m p.fg v
  | .scal u, v, r => by simpa [PV.fg] using r
  | .agg cs, v, r => by
    simp only [Rep, PV.fg] at r ⊢
    obtain ⟨vs, e, r⟩ := r
    exact ⟨vs, e, RepL.fg cs r⟩
  | .tup cs, v, r => by
    simp only [Rep, PV.fg] at r ⊢
    obtain ⟨vs, e, r⟩ := r
    exact ⟨vs, e, RepL.fg cs r⟩
  | .list tok xs, v, r => by
    simp only [Rep, PV.fg] at r ⊢
    obtain ⟨a, len, cap, sz, e, h1, h2, h3, h4, h5⟩ := r
    refine ⟨a, len, cap, sz, e, by rw [fgL_length]; exact h1, h2, h3, trivial, fun hn => ?_⟩
    obtain ⟨b, o, e2, h6⟩ := h5 hn
    exact ⟨b, o, e2, RepE.fg xs h6⟩
  | .cptr cs, v, r => by
    simp only [Rep, PV.fg] at r ⊢
    obtain ⟨b, o, e, r⟩ := r
    exact ⟨b, o, e, RepR.fg cs r⟩
  | .ptr b o, v, r => by simpa [PV.fg] using r
  | .fn f a c, v, r => by
    simp only [Rep, PV.fg] at r ⊢
    obtain ⟨va, vc, e, r1, r2⟩ := r
    exact ⟨va, vc, e, RepL.fg a r1, RepL.fg c r2⟩
  | .mapr b, v, r => by simpa [PV.fg] using r
  | .iface t p, v, r => by
    simp only [Rep, PV.fg] at r ⊢
    obtain ⟨u, e, r⟩ := r
    exact ⟨u, e, Rep.fg p r⟩
theorem RepL.fg {m : Mem} : ∀ (ps : List PV) {vs : List Value}, RepL m ps vs → RepL m (fgL ps) vs
  | [], vs, r => by simpa [RepL, Go.Pv.fgL] using r
  | p :: ps, vs, r => by
    simp only [RepL, Go.Pv.fgL] at r ⊢
    obtain ⟨v, rest, e, r1, r2⟩ := r
    exact ⟨v, rest, e, Rep.fg p r1, RepL.fg ps r2⟩
theorem RepR.fg {m : Mem} : ∀ (ps : List PV) {b o : Nat}, RepR m ps b o → RepR m (fgL ps) b o
  | [], b, o, r => by simp [RepR, Go.Pv.fgL]
  | p :: ps, b, o, r => by
    simp only [RepR, Go.Pv.fgL] at r ⊢
    obtain ⟨⟨v, e, r1⟩, r2⟩ := r
    exact ⟨⟨v, e, Rep.fg p r1⟩, RepR.fg ps r2⟩
theorem RepE.fg {m : Mem} : ∀ (ps : List PV) {b o sz : Nat}, RepE m ps b o sz → RepE m (fgL ps) b o sz
  | [], b, o, sz, r => by simp [RepE, Go.Pv.fgL]
  | .agg cs :: ps, b, o, sz, r => by
    simp only [RepE, Go.Pv.fgL, PV.fg] at r ⊢
    exact ⟨⟨by rw [fgL_length]; exact r.1.1, RepR.fg cs r.1.2⟩, RepE.fg ps r.2⟩
  | .scal p :: ps, b, o, sz, r => by
    simp only [RepE, Go.Pv.fgL, PV.fg] at r ⊢
    exact ⟨r.1, RepE.fg ps r.2⟩
  | .tup p :: ps, b, o, sz, r => by
    have h := fun v => Rep.fg (m := m) (.tup p) (v := v)
    simp only [RepE, Go.Pv.fgL, PV.fg] at r h ⊢
    obtain ⟨⟨e, v, h1, h2⟩, r2⟩ := r
    exact ⟨⟨e, v, h1, h v h2⟩, RepE.fg ps r2⟩
  | .list t p :: ps, b, o, sz, r => by
    have h := fun v => Rep.fg (m := m) (.list t p) (v := v)
    simp only [RepE, Go.Pv.fgL, PV.fg] at r h ⊢
    obtain ⟨⟨e, v, h1, h2⟩, r2⟩ := r
    exact ⟨⟨e, v, h1, h v h2⟩, RepE.fg ps r2⟩
  | .cptr p :: ps, b, o, sz, r => by
    have h := fun v => Rep.fg (m := m) (.cptr p) (v := v)
    simp only [RepE, Go.Pv.fgL, PV.fg] at r h ⊢
    obtain ⟨⟨e, v, h1, h2⟩, r2⟩ := r
    exact ⟨⟨e, v, h1, h v h2⟩, RepE.fg ps r2⟩
  | .ptr x y :: ps, b, o, sz, r => by
    simp only [RepE, Go.Pv.fgL, PV.fg] at r ⊢
    exact ⟨r.1, RepE.fg ps r.2⟩
  | .fn f x y :: ps, b, o, sz, r => by
    have h := fun v => Rep.fg (m := m) (.fn f x y) (v := v)
    simp only [RepE, Go.Pv.fgL, PV.fg] at r h ⊢
    obtain ⟨⟨e, v, h1, h2⟩, r2⟩ := r
    exact ⟨⟨e, v, h1, h v h2⟩, RepE.fg ps r2⟩
  | .mapr x :: ps, b, o, sz, r => by
    simp only [RepE, Go.Pv.fgL, PV.fg] at r ⊢
    exact ⟨r.1, RepE.fg ps r.2⟩
  | .iface t p :: ps, b, o, sz, r => by
    have h := fun v => Rep.fg (m := m) (.iface t p) (v := v)
    simp only [RepE, Go.Pv.fgL, PV.fg] at r h ⊢
    obtain ⟨⟨e, v, h1, h2⟩, r2⟩ := r
    exact ⟨⟨e, v, h1, h v h2⟩, RepE.fg ps r2⟩
end

/-! ### calls -/
def Enters (P : Program) (f : FuncId) : Prop := ∀ args w, (callFunc f args).run P w = .ok (.enter f args) w

def PCalls (P : Program) (f : FuncId) (args : List PV) (H : PH) (K : PV → PH → Prop) : Prop :=
  Enters P f ∧ ∀ w hw vs, WRep w hw H → RepL (memOf w hw) args vs → Calls P f vs.toArray w fun e w' =>
    ∃ v hw' r H', e = .returned v ∧ ExtF H w hw w' hw' H' ∧ WRep w' hw' H' ∧ Rep (memOf w' hw') r v ∧ K r H'

theorem PCalls.mono {P : Program} {f : FuncId} {args : List PV} {H : PH} {K K' : PV → PH → Prop} (h : PCalls P f args H K) (hk : ∀ r H', K r H' → K' r H') : PCalls P f args H K' :=
  ⟨h.1, fun w hw vs h1 h2 => (h.2 w hw vs h1 h2).mono fun _ _ ⟨v, hw', r, H', e1, e2, e3, e4, e5⟩ => ⟨v, hw', r, H', e1, e2, e3, e4, hk _ _ e5⟩⟩

/-- A call that turns nothing, and hands back just that. -/
def PPure (P : Program) (f : FuncId) (args : List PV) (r : PV) : Prop := PCalls P f args [] fun r' _ => r' = r

theorem PH.get_append_nil (H : PH) : H ++ [] = H := List.append_nil H

theorem PPure.calls {P : Program} {f : FuncId} {args : List PV} {r : PV} (h : PPure P f args r) {H : PH} {K : PV → PH → Prop} (hk : K r H) : PCalls P f args H K := by
  refine ⟨h.1, fun w hw vs h1 h2 => (h.2 w hw vs (h1.le (H := []) fun b o hb => by simp at hb) h2).mono ?_⟩
  rintro _ w' ⟨v, hw', r', H', e1, e2, e3, e4, rfl⟩
  have hf := WRep.frame (F := H) (H := []) (by simpa using h1) (fun b _ => rfl) e2 e3
  refine ⟨v, hw', r', H, e1, ⟨e2.os, e2.tape, e2.output, e2.size, fun b hb _ => e2.frame b hb rfl, e2.mono, fun b hb => .inl hb⟩, hf.1.le fun b o hb => ?_, e4, hk⟩
  rw [PH.get_append, hb]; rfl

/-- Keeps simp out of what is not yet decided. -/
inductive Bx (A B : Prop) : Type where
  | mk
def br (b : Bool) (A B : Prop) (_x : Bx A B := .mk) : Prop := if b = true then A else B
@[simp] theorem br_true (A B : Prop) : br true A B = A := by simp [br]
@[simp] theorem br_false (A B : Prop) : br false A B = B := by simp [br]
theorem br_intro {b : Bool} {A B : Prop} (h : b = true → A) (k : b = false → B) : br b A B := by
  cases b
  · simpa using k rfl
  · simpa using h rfl
theorem br_mono {b : Bool} {A B A' B' : Prop} (h : A → A') (k : B → B') (x : br b A B) : br b A' B' := by
  cases b
  · simpa using k (by simpa using x)
  · simpa using h (by simpa using x)
theorem br_congr {b b' : Bool} {A B : Prop} (h : b = b') : br b A B = br b' A B := by rw [h]
attribute [congr] br_congr

def rowBytesOk (n bytes : Nat) : Prop := (n + n / 4 + 256) * bytes ≤ 2 ^ 48

/-- What an operation does. -/
def pact (P : Program) (op : ROp) (ρ : RO → EV) (L : List (List PV)) (H : PH) (k : EV → List (List PV) → PH → Prop) : Prop :=
  match op with
  | .pick c a b => match ρ c with
    | .v (.scal (.bool t)) => br t (k (ρ a) L H) (k (ρ b) L H)
    | _ => False
  | .box x => match ρ x with
    | .v p => k (.l L.length 0) (L ++ [p.cells]) H
    | _ => False
  | .boxH x => match ρ x with
    | .v p => ∀ b, H.get b = none → k (.v (.ptr b 0)) L (H.set b (.cells p.cells))
    | _ => False
  | .alloc z => k (.l L.length 0) (L ++ [z]) H
  | .allocH z => ∀ b, H.get b = none → k (.v (.ptr b 0)) L (H.set b (.cells z))
  | .store n a x => match storeAt? n (ρ a) (ρ x) L H with
    | some (L', H') => k undefE L' H'
    | none => False
  | .callF f args => match pvs? (args.map ρ) with
    | some ps => PCalls P f (fgL ps) H fun r H' => k (.v r) L H'
    | none => False
  | .callV x args => match ρ x, pvs? (args.map ρ) with
    | .v (.fn (.func f) a c), some ps => PCalls P f (fgL (a ++ ps ++ c)) H fun r H' => k (.v r) L H'
    | _, _ => False
  | .callP f args => match pvs? (args.map ρ) with
    | some ps => ∃ r, PPure P f (fgL ps) r ∧ k (.v r) L H
    | none => False
  | .callVP x args => match ρ x, pvs? (args.map ρ) with
    | .v (.fn (.func f) a c), some ps => ∃ r, PPure P f (fgL (a ++ ps ++ c)) r ∧ k (.v r) L H
    | _, _ => False
  | .snil neg x => match asList? (ρ x) with
    | some (_, xs) => ∀ b : Bool, (xs ≠ [] → b = false) → k (.v (.scal (.bool (b != neg)))) L H
    | none => False
  | .slcA n sz x none none none => match ρ x with
    | .v (.ptr b 0) => match H.get b with
      | some (.cells cs) => sz = 1 ∧ cs.length = n ∧ n ≤ lenB ∧ (∀ p ∈ cs, notAgg p = true) ∧ k (.v (.list .full cs)) L (H.set b (.row n n))
      | _ => False
    | _ => False
  | .app sz bytes true x y => match asList? (ρ x), asList? (ρ y) with
    | some (tok, xs), some (_, ys) =>
      (∀ p ∈ xs, p.cells.length = sz) ∧ (∀ p ∈ ys, p.cells.length = sz) ∧ rowBytesOk (xs.length + ys.length) bytes ∧ xs.length + ys.length ≤ lenB ∧ ys ≠ [] ∧ 0 < sz ∧ (∀ p ∈ ys, p.cells.all cellP = true) ∧
      match tok with
      | .full => ∀ b tot, H.get b = none → k (.v (.list (.own b ((xs.length + ys.length) * sz) tot sz) (xs ++ ys))) L (H.set b (.row ((xs.length + ys.length) * sz) tot))
      | .own b0 e t0 s0 => s0 = sz ∧ H.get b0 = some (.row e t0) ∧
        ∀ b tot, (b = b0 ∨ H.get b = none) → k (.v (.list (.own b ((xs.length + ys.length) * sz) tot sz) (xs ++ ys))) L (H.set b (.row ((xs.length + ys.length) * sz) tot))
      | .foreign => False
    | _, _ => False
  | op => match opVal P op ρ L H with
    | some e => k e L H
    | none => False

/-! ### from the program's operations -/
def rO (n : Nat) : Operand → Option RO
  | .tmp t => if t < n then some (.t t) else none
  | .const v => (ofValue v).map .c
  | .func f => some (.c (.fn (.func f) [] []))
  | .global _ => none
def rOs (n : Nat) : List Operand → Option (List RO)
  | [] => some []
  | x :: xs => match rO n x, rOs n xs with
    | some y, some ys => some (y :: ys)
    | _, _ => none
def rOpt (n : Nat) : Option Operand → Option (Option RO)
  | none => some none
  | some x => (rO n x).map some
def rParts (P : Program) (n : Nat) (fields : Array Field) : List (Nat × Operand) → Option (List (Nat × Nat × RO))
  | [] => some []
  | (i, x) :: rest => match fields[i]?, rO n x, rParts P n fields rest with
    | some f, some y, some ys => (tSize P f.type).map fun s => (f.offset, s, y) :: ys
    | _, _, _ => none

def rPartsA (n size : Nat) : List (Nat × Operand) → Option (List (Nat × Nat × RO))
  | [] => some []
  | (i, x) :: rest => match rO n x, rPartsA n size rest with
    | some y, some ys => some ((i * size, size, y) :: ys)
    | _, _ => none

def plainB : Builtin → Bool
  | .min | .max | .real | .imag | .complex => true
  | _ => false

def rCall (P : Program) (pf : FuncId → Bool) (n : Nat) (hp kp : Bool) (c : Call) (type : TypeId) : Option ROp :=
  match c.callee with
  | .value (.func f) => match P.funcs[f]? with
    | some fn => (rOs n c.args.toList).map fun xs => if fn.body.isSome then (if pf f then .callP f xs else .callF f xs) else .callX f xs
    | none => none
  | .value x => (rO n x).bind fun y => (rOs n c.args.toList).map fun xs => if hp then .callV y xs else .callVP y xs
  | .builtin .len => match c.args.toList with
    | [x] => (c.argTypes[0]?).bind fun t => (rO n x).bind fun y => match P.underlying t with
      | some (.slice _) => some (.lenL y)
      | some .string => some (.bi .len c.argTypes type [y])
      | _ => none
    | _ => none
  | .builtin .append => match c.args.toList with
    | [x, y] => (c.argTypes[0]?).bind fun t => (c.argTypes[1]?).bind fun u => (rO n x).bind fun a => (rO n y).bind fun b => match P.underlying t, P.underlying u with
      | some (.slice el), some (.slice _) => (tSize P el).bind fun s => (tBytes P el).bind fun by_ => (tZero P el).bind fun z => if z.cells.size = s then some (.app s by_ kp a b) else none
      | _, _ => none
    | _ => none
  | .builtin b => if plainB b = true then (rOs n c.args.toList).map fun xs => .bi b c.argTypes type xs else none
  | .invoke _ _ => none

def resolveOp (P : Program) (pf : FuncId → Bool) (n : Nat) (hp kp : Bool) (type : TypeId) : Op → Option ROp
  | .move x | .assign x => (rO n x).map .mov
  | .pick c a b => (rO n c).bind fun c => (rO n a).bind fun a => (rO n b).map fun b => .pick c a b
  | .box _ x => (rO n x).map fun y => if hp then .boxH y else .box y
  | .alloc t => (tZero P t).bind fun z => (ofCells z.cells.toList).map fun cs => if hp then .allocH cs else .alloc cs
  | .build t parts => match P.underlying t with
    | some (.struct fields) => if fields.toList.all fun f => (tSize P f.type).isSome then
        (tZero P t).bind fun z => (ofCells z.cells.toList).bind fun cs => (rParts P n fields parts.toList).map fun ps => .build cs ps
      else none
    | some (.array _ el) => (tSize P el).bind fun sz => (tZero P t).bind fun z => (ofCells z.cells.toList).bind fun cs => (rPartsA n sz parts.toList).map fun ps => .build cs ps
    | _ => none
  | .buildSlice t len parts => match P.underlying t with
    | some (.slice el) => (tSize P el).bind fun s => (tZero P el).bind fun _ => (rOs n (parts.toList.map (·.2))).bind fun xs =>
        if parts.toList.map (·.1) = List.range len ∧ len * s ≤ 2 ^ 24 ∧ 0 < s then some (.mkslice s xs) else none
    | _ => none
  | .load t a => (rO n a).bind fun x => (tAgg P t).bind fun g => (tSize P t).map fun s => if g then .loadA s x else .load1 x
  | .store t a v => (rO n a).bind fun x => (rO n v).bind fun y => (tSize P t).map fun s => .store s x y
  | .nilCheck x => (rO n x).map .nilchk
  | .binOp op t x y _ => (rO n x).bind fun a => (rO n y).bind fun b =>
      match op, y, P.underlying t with
      | .eql, .const (.pointer none), some (.pointer _) => some (.isnil false a)
      | .neq, .const (.pointer none), some (.pointer _) => some (.isnil true a)
      | .eql, .const (.slice none 0 0), some (.slice _) => some (.snil false a)
      | .neq, .const (.slice none 0 0), some (.slice _) => some (.snil true a)
      | _, _, _ => some (.bin op t a b)
  | .unOp op _ x => (rO n x).map fun a => .un op a
  | .convert s d x => (rO n x).map fun a => .conv s d a
  | .slice t x lo hi mx => (rO n x).bind fun a => (rOpt n lo).bind fun l => (rOpt n hi).bind fun h => (rOpt n mx).bind fun m => match P.underlying t with
    | some .string => if mx.isNone then some (.slcS t a l h) else none
    | some (.slice el) => (tSize P el).map fun s => .slc s a l h m
    | some (.array len el) => (tSize P el).map fun s => .slcA len s a l h m
    | _ => none
  | .fieldAddr t x f => (rO n x).bind fun a => match P.underlying t with
    | some (.struct fields) => (fields[f]?).bind fun fd => (tSize P fd.type).bind fun s => if s = 0 then none else some (.faddr fd.offset a)
    | _ => none
  | .field t x f => (rO n x).bind fun a => match P.underlying t with
    | some (.struct fields) => (fields[f]?).bind fun fd => (tAgg P fd.type).bind fun g => (tSize P fd.type).map fun s => .fld g fd.offset s a
    | _ => none
  | .indexAddr t x i => (rO n x).bind fun a => (rO n i).bind fun j => match P.underlying t with
    | some (.slice el) => (tSize P el).map fun s => .iaddr s a j
    | some (.array len el) => (tSize P el).map fun s => .iaddrA len s a j
    | _ => none
  | .index t x i => (rO n x).bind fun a => (rO n i).bind fun j => match P.underlying t with
    | some .string => some (.idxS t a j)
    | some (.array len el) => (tAgg P el).bind fun g => (tSize P el).map fun s => .idxA g len s a j
    | _ => none
  | .extract x i => (rO n x).map fun a => .ext a i
  | .makeFunc f a c => (rOs n a.toList).bind fun xs => (rOs n c.toList).map fun ys => .mkfn f xs ys
  | .makeInterface t x => match P.underlying t with
    | some (.interface _) | none => none
    | some _ => (rO n x).map fun a => .mkif t a
  | .call c => rCall P pf n hp kp c type
  | _ => none
end Go.Pv

import Derived.Test.YtlgaolpkeejmdaaPvD
set_option linter.unusedSimpArgs false
set_option linter.unusedVariables false
namespace Go.Pv

/-- A slot's content: a place in one of the call's own variables, or a value. -/
inductive EV where
  | l (i off : Nat)
  | v (p : PV)
inductive RO where
  | t (i : Nat)
  | c (p : PV)

inductive ROp where
  | mov (x : RO)
  | pick (c a b : RO)
  | box (x : RO)
  | boxH (x : RO)
  | alloc (z : List PV)
  | allocH (z : List PV)
  | build (z : List PV) (parts : List (Nat × Nat × RO))
  | mkslice (sz : Nat) (xs : List RO)
  | load1 (x : RO)
  | loadA (n : Nat) (x : RO)
  | store (n : Nat) (a x : RO)
  | nilchk (x : RO)
  | bin (op : BinOp) (t : TypeId) (x y : RO)
  | isnil (neg : Bool) (x : RO)
  | snil (neg : Bool) (x : RO)
  | un (op : UnOp) (x : RO)
  | conv (s d : TypeId) (x : RO)
  | slcS (t : TypeId) (x : RO) (lo hi : Option RO)
  | slc (sz : Nat) (x : RO) (lo hi mx : Option RO)
  | slcA (n sz : Nat) (x : RO) (lo hi mx : Option RO)
  | faddr (off : Nat) (x : RO)
  | fld (agg : Bool) (off sz : Nat) (x : RO)
  | iaddr (sz : Nat) (x i : RO)
  | iaddrA (n sz : Nat) (x i : RO)
  | idxS (t : TypeId) (x i : RO)
  | idxA (agg : Bool) (n sz : Nat) (x i : RO)
  | ext (x : RO) (i : Nat)
  | mkfn (f : Fn) (first cap : List RO)
  | callF (f : FuncId) (args : List RO)
  | callX (f : FuncId) (args : List RO)
  | callV (x : RO) (args : List RO)
  | callP (f : FuncId) (args : List RO)
  | callVP (x : RO) (args : List RO)
  | lenL (x : RO)
  | app (sz bytes : Nat) (keep : Bool) (x y : RO)
  | bi (b : Builtin) (argTypes : Array TypeId) (t : TypeId) (args : List RO)
  | mkif (t : TypeId) (x : RO)
  | dfr (x : RO) (args : List RO)

structure RI where
  dst : Option Nat
  guard : Option (Nat × Bool)
  op : ROp

inductive RCode where
  | skip
  | region (draw : Bool) (ops : List RI)
  | seq (a b : RCode)
  | cond (c : RO) (a b : RCode)
  | block (id : Nat) (a : RCode)
  | loop (a : RCode)
  | exit (id : Nat)
  | scope (a : RCode)
  | label (l : Nat)
  | goto (l : Nat)
  | ret

def undefE : EV := .v (.scal undef)

/-! ### plain values -/
def PV.val? : PV → Option Value
  | .scal v => some v
  | .ptr b o => some (.pointer (some ⟨b, o, none⟩))
  | _ => none
def vals? : List PV → Option (List Value)
  | [] => some []
  | p :: ps => match p.val?, vals? ps with
    | some v, some vs => some (v :: vs)
    | _, _ => none
def PV.valA? : PV → Option Value
  | .agg cs => (vals? cs).map fun vs => .agg vs.toArray
  | p => p.val?
def valsA? : List PV → Option (List Value)
  | [] => some []
  | p :: ps => match p.valA?, valsA? ps with
    | some v, some vs => some (v :: vs)
    | _, _ => none
def EV.pv? : EV → Option PV
  | .v p => some p
  | .l _ _ => none
def pvs? : List EV → Option (List PV)
  | [] => some []
  | .v p :: es => (pvs? es).map (p :: ·)
  | .l _ _ :: _ => none

def bin2 (P : Program) (op : BinOp) (t : TypeId) (x y : Value) : Option Value :=
  match x, y with
  | .nilIface, .nilIface => none
  | x, y => pureP P (do eqGuard op t (.const x) (.const y) x y; binOp op t x y)

def notAgg : PV → Bool
  | .agg _ => false
  | _ => true
def cellP : PV → Bool
  | .agg _ | .tup _ => false
  | .scal v => cellOk v
  | _ => true

/-! ### memory -/
def cellsAt (e : EV) (L : List (List PV)) (H : PH) : Option (List PV) :=
  match e with
  | .l i off => (L[i]?).map (·.drop off)
  | .v (.ptr b off) => match H.get b with
    | some (.cells cs) => some (cs.drop off)
    | _ => none
  | .v (.cptr cs) => some cs
  | _ => none

def asInt? : EV → Option Int
  | .v (.scal (.int .i64 n)) => some n
  | _ => none
def asList? : EV → Option (Tok × List PV)
  | .v (.list tok xs) => some (tok, xs)
  | _ => none
def optI (ρ : RO → EV) : Option RO → Option (Option Int)
  | none => some none
  | some x => (asInt? (ρ x)).map some

def buildP : List PV → List (Nat × Nat × PV) → Option (List PV)
  | cs, [] => some cs
  | cs, (off, sz, p) :: rest => if p.cells.length = sz ∧ off + sz ≤ cs.length then buildP (splice cs off p.cells) rest else none
def evParts (ρ : RO → EV) : List (Nat × Nat × RO) → Option (List (Nat × Nat × PV))
  | [] => some []
  | (o, s, x) :: rest => match ρ x, evParts ρ rest with
    | .v p, some ps => some ((o, s, p) :: ps)
    | _, _ => none

def isFull : Tok → Bool
  | .full => true
  | _ => false

/-- A slice of a list: 'xs[l:h]' or 'xs[l:h:h]', both ends inside its length. -/
def sliceL (tok : Tok) (xs : List PV) (lo hi mx : Option Int) : Option PV :=
  if 0 ≤ lo.getD 0 ∧ lo.getD 0 ≤ hi.getD xs.length ∧ hi.getD xs.length ≤ xs.length then
    match mx with
    | none => some (.list (if hi.getD xs.length = xs.length ∧ isFull tok = true then .full else .foreign) ((xs.drop (lo.getD 0).toNat).take (hi.getD xs.length - lo.getD 0).toNat))
    | some m => if m = hi.getD xs.length ∧ hi.isSome = true then some (.list .full ((xs.drop (lo.getD 0).toNat).take (hi.getD xs.length - lo.getD 0).toNat)) else none
  else none

/-- The value of an operation that turns nothing. -/
def opVal (P : Program) (op : ROp) (ρ : RO → EV) (L : List (List PV)) (H : PH) : Option EV :=
  match op with
  | .mov x => some (ρ x)
  | .build z parts => (evParts ρ parts).bind fun ps => (buildP z ps).map fun cs => .v (.agg cs)
  | .mkslice sz xs => (pvs? (xs.map ρ)).bind fun ps => if (∀ p ∈ ps, p.cells.length = sz) ∧ ps.length ≤ lenB then some (.v (.list .full ps)) else none
  | .load1 x => (cellsAt (ρ x) L H).bind fun cs => (cs[0]?).map .v
  | .loadA n x => (cellsAt (ρ x) L H).bind fun cs => if n ≤ cs.length then some (.v (.agg (cs.take n))) else none
  | .nilchk x => match ρ x with
    | .l i o => some (.l i o)
    | .v (.ptr b o) => some (.v (.ptr b o))
    | .v (.cptr cs) => some (.v (.cptr cs))
    | _ => none
  | .bin op t x y => match (ρ x).pv?, (ρ y).pv? with
    | some p, some q => match p.valA?, q.valA? with
      | some a, some b => (bin2 P op t a b).bind fun r => if atomB r then some (.v (.scal r)) else none
      | _, _ => none
    | _, _ => none
  | .isnil neg x => match ρ x with
    | .l _ _ | .v (.ptr _ _) | .v (.cptr _) => some (.v (.scal (.bool neg)))
    | .v (.scal (.pointer none)) => some (.v (.scal (.bool !neg)))
    | _ => none
  | .un op x => match ρ x with
    | .v (.scal a) => (pureP P (Op.unary op a)).bind fun r => if atomB r then some (.v (.scal r)) else none
    | _ => none
  | .conv s d x => match ρ x with
    | .v (.scal a) => (pureP P (convert s d a)).bind fun r => if atomB r then some (.v (.scal r)) else none
    | _ => none
  | .slcS t x lo hi => match ρ x, optI ρ lo, optI ρ hi with
    | .v (.scal (.string s)), some l, some h => (pureP P (Instr.sliceAt t (.string s) (l.map (.int .i64 ·)) (h.map (.int .i64 ·)) none)).bind fun r => if atomB r then some (.v (.scal r)) else none
    | _, _, _ => none
  | .slc sz x lo hi mx => match asList? (ρ x), optI ρ lo, optI ρ hi, optI ρ mx with
    | some (tok, xs), some l, some h, some m => if ∀ p ∈ xs, p.cells.length = sz then (sliceL tok xs l h m).map .v else none
    | _, _, _, _ => none
  | .faddr off x => match ρ x with
    | .l i o => some (.l i (o + off))
    | .v (.ptr b o) => some (.v (.ptr b (o + off)))
    | .v (.cptr cs) => some (.v (.cptr (cs.drop off)))
    | _ => none
  | .fld agg off sz x => match ρ x with
    | .v (.agg cs) => if agg then (if off + sz ≤ cs.length then some (.v (.agg ((cs.drop off).take sz))) else none) else (cs[off]?).map .v
    | _ => none
  | .iaddr sz x i => match asList? (ρ x), asInt? (ρ i) with
    | some (_, xs), some n => if 0 ≤ n then (xs[n.toNat]?).bind fun p => if p.cells.length = sz then some (.v (.cptr p.cells)) else none else none
    | _, _ => none
  | .iaddrA len sz x i => match ρ x, asInt? (ρ i) with
    | .l k o, some n => if 0 ≤ n ∧ n < len then some (.l k (o + n.toNat * sz)) else none
    | .v (.ptr b o), some n => if 0 ≤ n ∧ n < len then some (.v (.ptr b (o + n.toNat * sz))) else none
    | _, _ => none
  | .idxS t x i => match ρ x, asInt? (ρ i) with
    | .v (.scal (.string s)), some n => (pureP P (Instr.index t (.string s) (.int .i64 n))).bind fun r => if atomB r then some (.v (.scal r)) else none
    | _, _ => none
  | .idxA agg len sz x i => match ρ x, asInt? (ρ i) with
    | .v (.agg cs), some n => if 0 ≤ n ∧ n < len then
        (if agg then (if n.toNat * sz + sz ≤ cs.length then some (.v (.agg ((cs.drop (n.toNat * sz)).take sz))) else none) else (cs[n.toNat * sz]?).map .v) else none
    | _, _ => none
  | .ext x i => match ρ x with
    | .v (.tup cs) => (cs[i]?).map .v
    | _ => none
  | .mkfn f a c => match pvs? (a.map ρ), pvs? (c.map ρ) with
    | some a, some c => some (.v (.fn f a c))
    | _, _ => none
  | .callX f args => (pvs? (args.map ρ)).bind fun ps => (valsA? ps).bind fun vs =>
      match pureP P (callFunc f vs.toArray) with
      | some (.value r) => if atomB r then some (.v (.scal r)) else none
      | _ => none
  | .lenL x => match ρ x with
    | .v (.list _ xs) => some (.v (.scal (.int .i64 xs.length)))
    | _ => none
  | .app sz bytes false x y => match asList? (ρ x), asList? (ρ y) with
    | some (tok, xs), some (_, ys) =>
      if (∀ p ∈ xs, p.cells.length = sz) ∧ (∀ p ∈ ys, p.cells.length = sz) ∧ ((xs.length + ys.length) + (xs.length + ys.length) / 4 + 256) * bytes ≤ 2 ^ 48 ∧ xs.length + ys.length ≤ lenB then
        match tok with
        | .full => some (.v (.list (if ys.isEmpty = true then .full else .foreign) (xs ++ ys)))
        | _ => none
      else none
    | _, _ => none
  | .bi b ts t args => (pvs? (args.map ρ)).bind fun ps => (valsA? ps).bind fun vs =>
      match pureP P (builtin b ts t #[] vs.toArray) with
      | some (.value r) => if atomB r then some (.v (.scal r)) else none
      | _ => none
  | .mkif t x => match ρ x with
    | .v p => some (.v (.iface t p))
    | _ => none
  | _ => none

def storeAt? (n : Nat) (a x : EV) (L : List (List PV)) (H : PH) : Option (List (List PV) × PH) :=
  match x with
  | .l _ _ => none
  | .v p => if p.cells.length = n ∧ p.cells.all cellP then
      match a with
      | .l i off => match L[i]? with
        | some cs => if off + n ≤ cs.length then some (L.set i (splice cs off p.cells), H) else none
        | none => none
      | .v (.ptr b off) => match H.get b with
        | some (.cells cs) => if off + n ≤ cs.length then some (L, H.set b (.cells (splice cs off p.cells))) else none
        | _ => none
      | _ => none
    else none
end Go.Pv

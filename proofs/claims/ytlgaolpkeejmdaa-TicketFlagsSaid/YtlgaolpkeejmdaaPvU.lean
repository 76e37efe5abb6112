import Derived.Test.YtlgaolpkeejmdaaPvT
set_option linter.unusedSimpArgs false
set_option linter.unusedVariables false
namespace Go.Pv

/-! ### the words of a walk -/
theorem zzdj (env : Nat → EV) (i : Nat) : evalE env (.t i) = env i := nr rfl
theorem zzdi (env : Nat → EV) (p : PV) : evalE env (.c p) = .v p := nr rfl
theorem zzjj (env : Nat → EV) (d : Nat) (e : EV) (i : Nat) : upd env d e i = if i = d then e else env i := nr rfl
theorem zzgp (env : Nat → EV) (d : Nat) (e : EV) : putE env (some d) e = upd env d e := nr rfl
theorem zzgo (env : Nat → EV) (e : EV) : putE env none e = env := nr rfl
theorem zzfl (p : PV) (ps : List PV) (i : Nat) : initE (p :: ps) i = if i = 0 then .v p else initE ps (i - 1) := nr rfl

def nth {α : Type} (xs : List α) (i : Nat) : Option α := xs[i]?
theorem zzgg {α : Type} (i : Nat) : nth ([] : List α) i = none := nr rfl
theorem zzgd {α : Type} (x : α) (xs : List α) (i : Nat) : nth (x :: xs) i = if i = 0 then some x else nth xs (i - 1) := by
  cases i <;> simp [nth]
theorem zzge {α : Type} (xs : List α) (n i : Nat) : nth (xs.drop n) i = nth xs (n + i) := by simp [nth]
def sub {α : Type} (cs : List α) (off n : Nat) : Option (List α) := if off + n ≤ cs.length then some ((cs.drop off).take n) else none
/-- A list's part, of lists that stand written out. -/
def takeN {α : Type} (n : Nat) (xs : List α) : Option (List α) := if n ≤ xs.length then some (xs.take n) else none
theorem zzjg {α : Type} (xs : List α) : takeN 0 xs = some [] := by simp [takeN]
def consO {α : Type} (x : α) : Option (List α) → Option (List α)
  | some xs => some (x :: xs)
  | none => none
theorem zzcc {α : Type} (x : α) (xs : List α) : consO x (some xs) = some (x :: xs) := nr rfl
theorem zzjf {α : Type} (n : Nat) (x : α) (xs : List α) : takeN n (x :: xs) = if n = 0 then some [] else consO x (takeN (n - 1) xs) := by
  cases n with
  | zero => simp [takeN]
  | succ n =>
    simp only [takeN, List.length_cons, Nat.add_one_ne_zero, if_false, Nat.add_sub_cancel, List.take_succ_cons]
    by_cases h : n ≤ xs.length
    · rw [if_pos h, if_pos (by omega)]; rfl
    · rw [if_neg h, if_neg (by omega)]; rfl
theorem zzjc {α : Type} (x : α) (xs : List α) (off n : Nat) : sub (x :: xs) off n = if off = 0 then takeN n (x :: xs) else sub xs (off - 1) n := by
  cases off with
  | zero => simp [sub, takeN]
  | succ o =>
    simp only [sub, List.length_cons, Nat.add_one_ne_zero, if_false, Nat.add_sub_cancel, List.drop_succ_cons]
    by_cases h : o + n ≤ xs.length
    · rw [if_pos h, if_pos (by omega)]
    · rw [if_neg h, if_neg (by omega)]
theorem sub_drop {α : Type} (cs : List α) (m off n : Nat) : sub (cs.drop m) off n = if m ≤ cs.length then sub cs (m + off) n else sub (cs.drop m) off n := by
  split
  · rename_i h
    simp only [sub, List.length_drop, List.drop_drop]
    by_cases h2 : off + n ≤ cs.length - m
    · rw [if_pos h2, if_pos (by omega)]
    · by_cases h3 : m + off + n ≤ cs.length
      · omega
      · rw [if_neg h2, if_neg h3]
  · rfl

section
variable {P : Program} {env : Nat → EV} {L : List (List PV)} {H : PH} {ρ : RO → EV}

/-- What a place holds: its cells, and where in them. -/
def rootOf (e : EV) (L : List (List PV)) (H : PH) : Option (List PV × Nat) :=
  match e with
  | .l i off => (nth L i).map (·, off)
  | .v (.ptr b off) => match H.get b with
    | some (.cells cs) => some (cs, off)
    | _ => none
  | .v (.cptr cs) => some (cs, 0)
  | _ => none
def ldAt : Option (List PV × Nat) → Option EV
  | some (cs, off) => (nth cs off).map .v
  | none => none
def ldN (n : Nat) : Option (List PV × Nat) → Option EV
  | some (cs, off) => (sub cs off n).map fun l => .v (.agg l)
  | none => none
def evV : Option PV → Option EV
  | some p => some (.v p)
  | none => none
def evA : Option (List PV) → Option EV
  | some cs => some (.v (.agg cs))
  | none => none
theorem zzdh (p : PV) : evV (some p) = some (.v p) := nr rfl
theorem zzde (p : List PV) : evA (some p) = some (.v (.agg p)) := nr rfl
theorem cellsAt_root (e : EV) : cellsAt e L H = match rootOf e L H with | some (cs, off) => some (cs.drop off) | none => none := by
  unfold cellsAt rootOf
  cases e with
  | l i off => simp only [nth]; cases L[i]? <;> rfl
  | v p =>
    cases p <;> try rfl
    rename_i b off
    simp only
    cases hb : H.get b with
    | none => rfl
    | some o => cases o <;> rfl
theorem ov_load1 {x : RO} : opVal P (.load1 x) ρ L H = ldAt (rootOf (ρ x) L H) := by
  simp only [opVal]
  rw [cellsAt_root]
  cases rootOf (ρ x) L H with
  | none => rfl
  | some p => obtain ⟨cs, off⟩ := p; simp [ldAt, nth]
theorem ov_loadA {n : Nat} {x : RO} : opVal P (.loadA n x) ρ L H = ldN n (rootOf (ρ x) L H) ∨ n = 0 := by
  by_cases hn : n = 0
  · exact .inr hn
  refine .inl ?_
  simp only [opVal]
  rw [cellsAt_root]
  cases rootOf (ρ x) L H with
  | none => rfl
  | some p =>
    obtain ⟨cs, off⟩ := p
    simp only [ldN, sub, Option.bind_some, List.length_drop]
    by_cases h : n ≤ cs.length - off
    · rw [if_pos h, if_pos (by omega)]; rfl
    · rw [if_neg h, if_neg (by omega)]; rfl
theorem ov_loadS {n : Nat} {x : RO} : opVal P (.loadA (n + 1) x) ρ L H = ldN (n + 1) (rootOf (ρ x) L H) := ov_loadA.resolve_right (by omega)
theorem zzho (i off : Nat) : rootOf (.l i off) L H = (nth L i).map (·, off) := nr rfl
theorem zzhn (cs : List PV) : rootOf (.v (.cptr cs)) L H = some (cs, 0) := nr rfl
def rootH : Option PObj → Nat → Option (List PV × Nat)
  | some (.cells cs), off => some (cs, off)
  | _, _ => none
theorem zzhp (b off : Nat) : rootOf (.v (.ptr b off)) L H = rootH (H.get b) off := by
  simp only [rootOf, rootH]
  cases H.get b with
  | none => rfl
  | some o => cases o <;> rfl
theorem zzhm (cs : List PV) (off : Nat) : rootH (some (.cells cs)) off = some (cs, off) := nr rfl
theorem zzfr (cs : List PV) (off : Nat) : ldAt (some (cs, off)) = evV (nth cs off) := by simp only [ldAt, evV]; cases nth cs off <;> rfl
theorem zzfs (n : Nat) (cs : List PV) (off : Nat) : ldN n (some (cs, off)) = evA (sub cs off n) := by simp only [ldN, evA]; cases sub cs off n <;> rfl

theorem ov_mov {x : RO} : opVal P (.mov x) ρ L H = some (ρ x) := rfl
def bldE : Option (List (Nat × Nat × PV)) → List PV → Option EV
  | some ps, z => evA (buildP z ps)
  | none, _ => none
theorem ov_build {z : List PV} {parts : List (Nat × Nat × RO)} : opVal P (.build z parts) ρ L H = bldE (evParts ρ parts) z := by
  simp only [opVal, bldE]; cases evParts ρ parts with
  | none => rfl
  | some ps => simp only [Option.bind_some, evA]; cases buildP z ps <;> rfl
theorem zzbb (ps : List (Nat × Nat × PV)) (z : List PV) : bldE (some ps) z = evA (buildP z ps) := nr rfl
def partE (o s : Nat) : EV → Option (List (Nat × Nat × PV)) → Option (List (Nat × Nat × PV))
  | .v p, some ps => some ((o, s, p) :: ps)
  | _, _ => none
theorem zzdg : evParts ρ [] = some [] := nr rfl
theorem zzdf (o s : Nat) (x : RO) (rest : List (Nat × Nat × RO)) : evParts ρ ((o, s, x) :: rest) = partE o s (ρ x) (evParts ρ rest) := by
  simp only [evParts, partE]
  cases ρ x <;> cases evParts ρ rest <;> rfl
theorem zzgj (o s : Nat) (p : PV) (ps : List (Nat × Nat × PV)) : partE o s (.v p) (some ps) = some ((o, s, p) :: ps) := nr rfl
/-- A store of cells into cells that stand written out. -/
def spl : List PV → Nat → List PV → Option (List PV)
  | cs, off, vs => if off + vs.length ≤ cs.length then some (cs.take off ++ vs ++ cs.drop (off + vs.length)) else none
theorem splice_eq : ∀ (vs cs : List PV) (off : Nat), off + vs.length ≤ cs.length → splice cs off vs = cs.take off ++ vs ++ cs.drop (off + vs.length) := by
  intro vs cs off h
  have := splice_mid vs (cs.take off) (cs.drop off) (by simp; omega)
  rw [List.take_append_drop, List.length_take, Nat.min_eq_left (by omega), List.drop_drop] at this
  exact this
def bld2 : Option (List PV) → List (Nat × Nat × PV) → Option (List PV)
  | some cs, ps => buildP cs ps
  | none, _ => none
theorem zzba (cs : List PV) (ps : List (Nat × Nat × PV)) : bld2 (some cs) ps = buildP cs ps := nr rfl
theorem zzbg (cs : List PV) : buildP cs [] = some cs := nr rfl
theorem zzbf (cs : List PV) (off sz : Nat) (p : PV) (rest : List (Nat × Nat × PV)) : buildP cs ((off, sz, p) :: rest) = if p.cells.length = sz then bld2 (spl cs off p.cells) rest else none := by
  simp only [buildP, spl]
  by_cases h1 : p.cells.length = sz
  · rw [if_pos h1]
    by_cases h2 : off + sz ≤ cs.length
    · rw [if_pos ⟨h1, h2⟩, if_pos (by omega), zzba, splice_eq _ _ _ (by omega)]
    · rw [if_neg (fun h => h2 h.2), if_neg (by omega)]; rfl
  · rw [if_neg (fun h => h1 h.1), if_neg h1]
theorem spl_succ (c : PV) (cs : List PV) (off : Nat) (vs : List PV) : spl (c :: cs) off vs = if off = 0 then (match vs with | [] => some (c :: cs) | v :: vs => consO v (spl cs 0 vs)) else consO c (spl cs (off - 1) vs) := by
  cases off with
  | zero =>
    cases vs with
    | nil => simp [spl]
    | cons v vs =>
      simp only [spl, List.length_cons, if_true, Nat.zero_add]
      by_cases h : vs.length ≤ cs.length
      · rw [if_pos (by omega), if_pos h]; simp [consO]
      · rw [if_neg (by omega), if_neg h]; rfl
  | succ o =>
    simp only [spl, List.length_cons, Nat.add_one_ne_zero, if_false, Nat.add_sub_cancel]
    by_cases h : o + vs.length ≤ cs.length
    · rw [if_pos (by omega), if_pos h]; simp [consO, Nat.succ_add]
    · rw [if_neg (by omega), if_neg h]; rfl
theorem zziq (c : PV) (cs : List PV) (v : PV) (vs : List PV) : spl (c :: cs) 0 (v :: vs) = consO v (spl cs 0 vs) := spl_succ c cs 0 (v :: vs)
theorem zzir (c : PV) (cs : List PV) (off : Nat) (vs : List PV) (h : (off == 0) = false) : spl (c :: cs) off vs = consO c (spl cs (off - 1) vs) := by
  rw [spl_succ, if_neg (by simpa using h)]
theorem zzit (off : Nat) : spl [] off [] = if off = 0 then some [] else none := by
  cases off <;> simp [spl]
theorem zzis (cs : List PV) : spl cs 0 [] = some cs := by simp [spl]
theorem zzip (cs vs : List PV) (h : vs.length = cs.length) : spl cs 0 vs = some vs := by
  simp [spl, h]

def asSt (a : EV) (L : List (List PV)) (H : PH) : Option (List PV) → Option (List (List PV) × PH)
  | some cs => match a with
    | .l i _ => some (L.set i cs, H)
    | .v (.ptr b _) => some (L, H.set b (.cells cs))
    | _ => none
  | none => none
def stoE (n : Nat) (a : EV) (p : PV) (L : List (List PV)) (H : PH) : Option (List PV × Nat) → Option (List (List PV) × PH)
  | some (cs, off) => asSt a L H (spl cs off p.cells)
  | none => none
theorem sto_v (n : Nat) (a : EV) (p : PV) (hc : ∀ cs, a ≠ .v (.cptr cs)) : storeAt? n a (.v p) L H = if p.cells.length = n ∧ p.cells.all cellP = true then stoE n a p L H (rootOf a L H) else none := by
  simp only [storeAt?]
  by_cases h : p.cells.length = n ∧ p.cells.all cellP = true
  · rw [if_pos h, if_pos h]
    cases a with
    | l i off =>
      simp only [rootOf, nth]
      cases hL : L[i]? with
      | none => rfl
      | some cs =>
        simp only [Option.map_some, stoE, asSt, spl]
        by_cases h2 : off + n ≤ cs.length
        · rw [if_pos h2, if_pos (by omega), splice_eq _ _ _ (by omega)]
        · rw [if_neg h2, if_neg (by omega)]
    | v q =>
      cases q with
      | ptr b off =>
        simp only [rootOf]
        cases hb : H.get b with
        | none => rfl
        | some o =>
          cases o with
          | cells cs =>
            simp only [stoE, asSt, spl]
            by_cases h2 : off + n ≤ cs.length
            · rw [if_pos h2, if_pos (by omega), splice_eq _ _ _ (by omega)]
            · rw [if_neg h2, if_neg (by omega)]
          | row e t => rfl
      | cptr cs => exact absurd rfl (hc cs)
      | _ => rfl
  · rw [if_neg h, if_neg h]
theorem zziv (n i off : Nat) (p : PV) : storeAt? n (.l i off) (.v p) L H = if p.cells.length = n ∧ p.cells.all cellP = true then stoE n (.l i off) p L H (rootOf (.l i off) L H) else none := sto_v n _ p (fun _ h => by cases h)
theorem zziw (n b off : Nat) (p : PV) : storeAt? n (.v (.ptr b off)) (.v p) L H = if p.cells.length = n ∧ p.cells.all cellP = true then stoE n (.v (.ptr b off)) p L H (rootOf (.v (.ptr b off)) L H) else none := sto_v n _ p (fun _ h => by cases h)
theorem zziu (n : Nat) (a : EV) (p : PV) (cs : List PV) (off : Nat) : stoE n a p L H (some (cs, off)) = asSt a L H (spl cs off p.cells) := nr rfl
theorem zzag (i off : Nat) (cs : List PV) : asSt (.l i off) L H (some cs) = some (L.set i cs, H) := nr rfl
theorem zzah (b off : Nat) (cs : List PV) : asSt (.v (.ptr b off)) L H (some cs) = some (L, H.set b (.cells cs)) := nr rfl
theorem zzim {α : Type} (x : α) (xs : List α) (i : Nat) (y : α) : (x :: xs).set i y = if i = 0 then y :: xs else x :: xs.set (i - 1) y := by cases i <;> simp

theorem zzgr : pvs? [] = some [] := nr rfl
def pcons (p : PV) : Option (List PV) → Option (List PV)
  | some ps => some (p :: ps)
  | none => none
theorem zzgq (p : PV) (es : List EV) : pvs? (.v p :: es) = pcons p (pvs? es) := by simp only [pvs?, pcons]; cases pvs? es <;> rfl
theorem zzgl (p : PV) (ps : List PV) : pcons p (some ps) = some (p :: ps) := nr rfl

def nilcE : EV → Option EV
  | .l i o => some (.l i o)
  | .v (.ptr b o) => some (.v (.ptr b o))
  | .v (.cptr cs) => some (.v (.cptr cs))
  | _ => none
theorem ov_nilchk {x : RO} : opVal P (.nilchk x) ρ L H = nilcE (ρ x) := rfl
theorem zzfz (i o : Nat) : nilcE (.l i o) = some (.l i o) := nr rfl
theorem zzga (i o : Nat) : nilcE (.v (.ptr i o)) = some (.v (.ptr i o)) := nr rfl
theorem zzfy (cs : List PV) : nilcE (.v (.cptr cs)) = some (.v (.cptr cs)) := nr rfl

def faddE (off : Nat) : EV → Option EV
  | .l i o => some (.l i (o + off))
  | .v (.ptr b o) => some (.v (.ptr b (o + off)))
  | .v (.cptr cs) => some (.v (.cptr (cs.drop off)))
  | _ => none
theorem ov_faddr {off : Nat} {x : RO} : opVal P (.faddr off x) ρ L H = faddE off (ρ x) := rfl
theorem zzdq (off i o : Nat) : faddE off (.l i o) = some (.l i (o + off)) := nr rfl
theorem zzdr (off i o : Nat) : faddE off (.v (.ptr i o)) = some (.v (.ptr i (o + off))) := nr rfl
theorem zzdp (off : Nat) (cs : List PV) : faddE off (.v (.cptr cs)) = some (.v (.cptr (cs.drop off))) := nr rfl

def elE (sz : Nat) : Option PV → Option EV
  | some p => if p.cells.length = sz then some (.v (.cptr p.cells)) else none
  | none => none
def iadE (sz : Nat) : Option (Tok × List PV) → Option Int → Option EV
  | some (_, xs), some n => if 0 ≤ n then elE sz (nth xs n.toNat) else none
  | _, _ => none
theorem ov_iaddr {sz : Nat} {x i : RO} : opVal P (.iaddr sz x i) ρ L H = iadE sz (asList? (ρ x)) (asInt? (ρ i)) := by
  simp only [opVal]
  cases asList? (ρ x) with
  | none => rfl
  | some p =>
    obtain ⟨t, xs⟩ := p
    cases asInt? (ρ i) with
    | none => rfl
    | some n =>
      simp only [iadE, nth]
      split
      · cases h : xs[n.toNat]? <;> rfl
      · rfl
theorem zzaf (t : Tok) (xs : List PV) : asList? (.v (.list t xs)) = some (t, xs) := nr rfl
theorem zzae (n : Int) : asInt? (.v (.scal (.int .i64 n))) = some n := nr rfl
theorem zzfj (sz : Nat) (t : Tok) (xs : List PV) (n : Int) : iadE sz (some (t, xs)) (some n) = if 0 ≤ n then elE sz (nth xs n.toNat) else none := nr rfl
theorem zzcd (sz : Nat) (p : PV) : elE sz (some p) = if p.cells.length = sz then some (.v (.cptr p.cells)) else none := nr rfl
def iadA (len sz : Nat) : EV → Option Int → Option EV
  | .l k o, some n => if 0 ≤ n ∧ n < len then some (.l k (o + n.toNat * sz)) else none
  | .v (.ptr b o), some n => if 0 ≤ n ∧ n < len then some (.v (.ptr b (o + n.toNat * sz))) else none
  | _, _ => none
theorem ov_iaddrA {len sz : Nat} {x i : RO} : opVal P (.iaddrA len sz x i) ρ L H = iadA len sz (ρ x) (asInt? (ρ i)) := by
  simp only [opVal, iadA]
  cases asInt? (ρ i) with
  | none =>
    cases ρ x with
    | l a b => rfl
    | v p => cases p <;> rfl
  | some n =>
    cases ρ x with
    | l a b => rfl
    | v p => cases p <;> rfl

def lenE : EV → Option EV
  | .v (.list _ xs) => some (.v (.scal (.int .i64 xs.length)))
  | _ => none
theorem ov_lenL {x : RO} : opVal P (.lenL x) ρ L H = lenE (ρ x) := by
  simp only [opVal, lenE]
  cases ρ x with
  | l a b => rfl
  | v p => cases p <;> rfl
theorem zzfu (t : Tok) (xs : List PV) : lenE (.v (.list t xs)) = some (.v (.scal (.int .i64 xs.length))) := nr rfl

def extE (i : Nat) : EV → Option EV
  | .v (.tup cs) => evV (nth cs i)
  | _ => none
theorem ov_ext {x : RO} {i : Nat} : opVal P (.ext x i) ρ L H = extE i (ρ x) := by
  simp only [opVal, extE]
  cases ρ x with
  | l a b => rfl
  | v p =>
    cases p <;> try rfl
    rename_i cs
    simp only [evV, nth]
    cases cs[i]? <;> rfl
theorem zzdo (i : Nat) (cs : List PV) : extE i (.v (.tup cs)) = evV (nth cs i) := nr rfl

def mksE (sz : Nat) : Option (List PV) → Option EV
  | some ps => if (∀ p ∈ ps, p.cells.length = sz) ∧ ps.length ≤ lenB then some (.v (.list .full ps)) else none
  | none => none
theorem ov_mkslice {sz : Nat} {xs : List RO} : opVal P (.mkslice sz xs) ρ L H = mksE sz (pvs? (xs.map ρ)) := by
  simp only [opVal, mksE]
  cases pvs? (xs.map ρ) <;> rfl
def allSz (sz : Nat) : List PV → Bool
  | [] => true
  | p :: ps => p.cells.length == sz && allSz sz ps
theorem allSz_iff {sz : Nat} : ∀ {ps : List PV}, allSz sz ps = true ↔ ∀ p ∈ ps, p.cells.length = sz
  | [] => by simp [allSz]
  | p :: ps => by simp [allSz, allSz_iff (ps := ps)]
theorem zzac (sz : Nat) : allSz sz [] = true := nr rfl
theorem zzab (sz : Nat) (p : PV) (ps : List PV) : allSz sz (p :: ps) = (p.cells.length == sz && allSz sz ps) := nr rfl
def leB (n : Nat) : Bool := decide (n ≤ lenB)
theorem zzft {n : Nat} (h : n ≤ 1000) : leB n = true := by
  have h2 : (1000 : Nat) ≤ 2 ^ 40 := by decide
  exact decide_eq_true (Nat.le_trans h h2)
def ifO {α : Type} (b : Bool) (x : α) : Option α := if b = true then some x else none
theorem zzfk {α : Type} (x : α) : ifO true x = some x := nr rfl
theorem zzfw (sz : Nat) (ps : List PV) : mksE sz (some ps) = ifO (allSz sz ps && leB ps.length) (.v (.list .full ps)) := by
  simp only [mksE, ifO, Bool.and_eq_true, allSz_iff, leB, decide_eq_true_eq]

def scE : Option Value → Option EV
  | some r => if atomB r = true then some (.v (.scal r)) else none
  | none => none
theorem zzij (r : Value) : scE (some r) = if atomB r = true then some (.v (.scal r)) else none := nr rfl
def vals2 : EV → EV → Option (Value × Value)
  | .v p, .v q => match p.valA?, q.valA? with
    | some a, some b => some (a, b)
    | _, _ => none
  | _, _ => none
def binE (P : Program) (op : BinOp) (t : TypeId) : Option (Value × Value) → Option EV
  | some (a, b) => scE (bin2 P op t a b)
  | none => none
theorem ov_bin {op : BinOp} {t : TypeId} {x y : RO} : opVal P (.bin op t x y) ρ L H = binE P op t (vals2 (ρ x) (ρ y)) := by
  simp only [opVal]
  cases ρ x with
  | l a b => rfl
  | v p =>
    cases ρ y with
    | l a b => rfl
    | v q =>
      simp only [EV.pv?, vals2]
      cases p.valA? with
      | none => rfl
      | some a =>
        cases q.valA? with
        | none => rfl
        | some b =>
          simp only [binE]
          cases bin2 P op t a b <;> rfl
theorem zzjk (a b : Value) : vals2 (.v (.scal a)) (.v (.scal b)) = some (a, b) := nr rfl
theorem zzaz (op : BinOp) (t : TypeId) (a b : Value) : binE P op t (some (a, b)) = scE (bin2 P op t a b) := nr rfl
def unE (P : Program) (op : UnOp) : EV → Option EV
  | .v (.scal a) => scE (pureP P (Op.unary op a))
  | _ => none
theorem ov_un {op : UnOp} {x : RO} : opVal P (.un op x) ρ L H = unE P op (ρ x) := by
  simp only [opVal, unE]
  cases ρ x with
  | l a b => rfl
  | v p =>
    cases p <;> try rfl
    rename_i a
    simp only
    cases pureP P (Op.unary op a) <;> rfl
theorem zzji (b : Bool) : unE P .not (.v (.scal (.bool b))) = some (.v (.scal (.bool !b))) := nr rfl
theorem zzjh (b : Int) : unE P .neg (.v (.scal (.int .i64 b))) = some (.v (.scal (.int .i64 (IntKind.i64.wrap (0 - b))))) := nr rfl

def seqB (a b : ByteArray) : Bool := a.toList == b.toList
theorem zzan (t : TypeId) (k : IntKind) (a b : Int) : bin2 P .eql t (.int k a) (.int k b) = some (.bool (a == b)) := by cases k <;> rfl
theorem zzas (t : TypeId) (k : IntKind) (a b : Int) : bin2 P .neq t (.int k a) (.int k b) = some (.bool (a != b)) := by cases k <;> rfl
theorem zzar (t : TypeId) (k : IntKind) (a b : Int) : bin2 P .lss t (.int k a) (.int k b) = some (.bool (decide (a < b))) := by cases k <;> rfl
theorem zzaq (t : TypeId) (k : IntKind) (a b : Int) : bin2 P .leq t (.int k a) (.int k b) = some (.bool (decide (a ≤ b))) := by cases k <;> rfl
theorem zzap (t : TypeId) (k : IntKind) (a b : Int) : bin2 P .gtr t (.int k a) (.int k b) = some (.bool (decide (b < a))) := by cases k <;> rfl
theorem zzao (t : TypeId) (k : IntKind) (a b : Int) : bin2 P .geq t (.int k a) (.int k b) = some (.bool (decide (b ≤ a))) := by cases k <;> rfl
theorem zzal (t : TypeId) (a b : Int) : bin2 P .add t (.int .i64 a) (.int .i64 b) = some (.int .i64 (IntKind.i64.wrap (a + b))) := nr rfl
theorem zzau (t : TypeId) (a b : Int) : bin2 P .sub t (.int .i64 a) (.int .i64 b) = some (.int .i64 (IntKind.i64.wrap (a - b))) := nr rfl
theorem zzav (t : TypeId) (a b : ByteArray) : bin2 P .eql t (.string a) (.string b) = some (.bool (seqB a b)) := nr rfl
theorem zzaw (t : TypeId) (a b : ByteArray) : bin2 P .neq t (.string a) (.string b) = some (.bool (!seqB a b)) := nr rfl
theorem b_bool_eql {t : TypeId} (h : P.underlying t = some .bool) (a b : Bool) : bin2 P .eql t (.bool a) (.bool b) = some (.bool (a == b)) := by
  show pureP P (do eqGuard .eql t (.const (.bool a)) (.const (.bool b)) (.bool a) (.bool b); binOp .eql t (.bool a) (.bool b) : Sem Value) = _
  rw [pureP_bind (a := ()) rfl]
  show pureP P (Op.equal t (.bool a) (.bool b) >>= fun r => (pure (.bool r) : Sem Value)) = _
  have : pureP P (Op.equal t (.bool a) (.bool b)) = some (a == b) := by
    unfold Op.equal Op.maxDepth
    show pureP P (Op.equalIn (9999 + 1) t _ _) = _
    unfold Op.equalIn
    have hu : pureP P (underlying t) = some .bool := by
      show pureP P (program >>= fun p => match p.underlying t with | some d => pure d | none => stuck "no such type") = _
      rw [pureP_bind (a := P) rfl, h]; rfl
    rw [pureP_bind hu]
    rfl
  rw [pureP_bind this]; rfl
theorem zzai (b : Bool) : atomB (.bool b) = true := nr rfl
theorem zzaj (k : IntKind) (b : Int) : atomB (.int k b) = true := nr rfl
theorem zzak (b : ByteArray) : atomB (.string b) = decide (b.size ≤ lenB) := nr rfl
end
end Go.Pv

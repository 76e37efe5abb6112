import Derived.Test.YtlgaolpkeejmdaaPvV
import Derived.Lib.Bytealg
import Derived.Laws.Externs
import Derived.Laws.Strings
set_option linter.unusedSimpArgs false
set_option linter.unusedVariables false
namespace Go.Pv
section
variable {P : Program} {Q : RX → St → Prop} {env : Nat → EV} {L : List (List PV)} {H : PH} {k : List SI} {ops : List RI} {d : Option Nat}

def xE (P : Program) (f : FuncId) : Option (List PV) → Option EV
  | some ps => match valsA? ps with
    | some vs => match pureP P (callFunc f vs.toArray) with
      | some (.value r) => if atomB r then some (.v (.scal r)) else none
      | _ => none
    | none => none
  | none => none
theorem r_x {f : FuncId} {a : List RO} : run P Q (⟨d, none, .callX f a⟩ :: ops) k env L H = run1 P Q (xE P f (pvs? (a.map (evalE env)))) d ops k env L H := by
  rw [r_callX]
  congr 1
  simp only [opVal, xE]
  cases pvs? (a.map (evalE env)) with
  | none => rfl
  | some ps => simp only [Option.bind_some]; cases valsA? ps <;> rfl

theorem pureP_extern {f : FuncId} {fn : Func} {e : Array Value → Sem Value} (hf : P.funcs[f]? = some fn) (hname : (fn.name == "runtime.NumGoroutine") = false)
    (hb : fn.body.isNone = true) (hn : Extern.findNext fn = none) (he : Extern.find fn = some e) {args : Array Value} {v : Value} (h : pureP P (e args) = some v) : pureP P (callFunc f args) = some (.value v) := by
  unfold callFunc
  rw [pureP_bind (a := P) rfl, hf]
  simp only [hname, hb, if_true, Bool.false_eq_true, if_false, hn, he]
  show pureP P (mark (.extern f) >>= fun _ => (e args >>= fun x => pure (Next.value x))) = _
  rw [pureP_bind (a := ()) rfl, pureP_bind h]
  rfl

theorem pureP_cmp (a b : ByteArray) : pureP P (Extern.BytealgCompare.compare #[.string a, .string b]) = some (.int .i64 (Lib.compareBytes a.data.toList b.data.toList)) := by
  rw [← Lib.cmp_eq]; rfl
theorem pureP_idx (s : ByteArray) (c : Int) : pureP P (Extern.BytealgIndexByte.indexByte #[.string s, .int .u8 c]) = some (.int .i64 (Lib.indexByte s.data.toList c.toNat.toUInt8)) := by
  have h := Lib.run_indexByteString (P := P) s c default
  have : ∃ v, pureP P (Extern.BytealgIndexByte.indexByte #[.string s, .int .u8 c]) = some v := by
    show ∃ v, pureP P (match (List.range s.size).find? fun i => s[i]! == c.toNat.toUInt8 with | some i => pure (goInt i) | none => pure (goInt (-1))) = some v
    split <;> exact ⟨_, rfl⟩
  obtain ⟨v, hv⟩ := this
  rw [hv]
  rw [pureP_run hv] at h
  cases h
  rfl

def biE (P : Program) (b : Builtin) (ts : Array TypeId) (t : TypeId) : Option (List PV) → Option EV
  | some ps => match valsA? ps with
    | some vs => match pureP P (builtin b ts t #[] vs.toArray) with
      | some (.value r) => if atomB r then some (.v (.scal r)) else none
      | _ => none
    | none => none
  | none => none
theorem r_b {b : Builtin} {ts : Array TypeId} {t : TypeId} {a : List RO} : run P Q (⟨d, none, .bi b ts t a⟩ :: ops) k env L H = run1 P Q (biE P b ts t (pvs? (a.map (evalE env)))) d ops k env L H := by
  rw [r_bi]
  congr 1
  simp only [opVal, biE]
  cases pvs? (a.map (evalE env)) with
  | none => rfl
  | some ps => simp only [Option.bind_some]; cases valsA? ps <;> rfl
theorem biE_len {t ty : TypeId} (h : P.underlying t = some .string) (s : ByteArray) : biE P .len #[t] ty (some [.scal (.string s)]) = some (.v (.scal (.int .i64 s.size))) := by
  have : pureP P (builtin .len #[t] ty #[] #[.string s]) = some (.value (.int .i64 s.size)) := by
    show pureP P (Builtin.len_ #[t] ty #[.string s] >>= fun r => (pure (Next.value r) : Sem Next)) = _
    have h1 : pureP P (Builtin.len_ #[t] ty #[.string s]) = some (.int .i64 s.size) := by
      unfold Builtin.len_
      simp only [List.getElem?_toArray, List.getElem?_cons_zero]
      have hu : pureP P (underlying t) = some .string := by
        show pureP P (program >>= fun p => match p.underlying t with | some d => pure d | none => stuck "no such type") = _
        rw [pureP_bind (a := P) rfl, h]; rfl
      rw [pureP_bind hu]
      rfl
    rw [pureP_bind h1]; rfl
  simp only [biE, valsA?, PV.valA?, PV.val?, this]
  rfl
theorem zzay {ts : Array TypeId} {ty : TypeId} (a b : Int) : biE P .min ts ty (some [.scal (.int .i64 a), .scal (.int .i64 b)]) = some (.v (.scal (.int .i64 (if b < a then b else a)))) := nr rfl
theorem zzax {ts : Array TypeId} {ty : TypeId} (a b : Int) : biE P .max ts ty (some [.scal (.int .i64 a), .scal (.int .i64 b)]) = some (.v (.scal (.int .i64 (if b > a then b else a)))) := nr rfl
/-- A byte of a string. -/
def idxE (P : Program) (t : TypeId) : EV → Option Int → Option EV
  | .v (.scal (.string s)), some n => match pureP P (Instr.index t (.string s) (.int .i64 n)) with
    | some r => if atomB r then some (.v (.scal r)) else none
    | none => none
  | _, _ => none
theorem r_is {t : TypeId} {x i : RO} : run P Q (⟨d, none, .idxS t x i⟩ :: ops) k env L H = run1 P Q (idxE P t (evalE env x) (asInt? (evalE env i))) d ops k env L H := by
  rw [r_idxS]
  congr 1
  simp only [opVal, idxE]
  cases evalE env x with
  | l a b => rfl
  | v p =>
    cases p <;> try rfl
    rename_i v
    cases v <;> try rfl
    cases asInt? (evalE env i) with
    | none => rfl
    | some n => simp only; cases pureP P (Instr.index t _ _) <;> rfl
def byteAt (s : ByteArray) (i : Nat) : Int := ((s.data.toList[i]?).map (fun b : UInt8 => (b.toNat : Int))).getD 0
theorem idxE_str {t : TypeId} (h : P.underlying t = some .string) (s : ByteArray) (i : Nat) (hi : i < s.size) : idxE P t (.v (.scal (.string s))) (some (i : Int)) = some (.v (.scal (.int .u8 (byteAt s i)))) := by
  have : pureP P (Instr.index t (.string s) (.int .i64 i)) = some (.int .u8 (byteAt s i)) := by
    unfold Instr.index
    show pureP P ((pure (IntKind.i64, (i : Int)) : Sem (IntKind × Int)) >>= _) = _
    rw [pureP_bind (a := (IntKind.i64, (i : Int))) rfl]
    simp only
    have hu : pureP P (underlying t) = some .string := by
      show pureP P (program >>= fun p => match p.underlying t with | some d => pure d | none => stuck "no such type") = _
      rw [pureP_bind (a := P) rfl, h]; rfl
    rw [pureP_bind hu]
    simp only
    have h2 : (if 0 ≤ (i : Int) then s[(i : Int).toNat]? else none) = some s[i] := by
      rw [if_pos (by omega)]
      simp [hi]
    rw [h2]
    simp only [byteAt]
    have : s.data.toList[i]? = some s[i] := by
      have h3 : i < s.data.size := hi
      rw [Array.getElem?_toList, Array.getElem?_eq_getElem h3]
      rfl
    rw [this]; rfl
  simp only [idxE, this]
  rfl
end

/-! ### the order of terms -/
def cmpI (a b : Int) : Int := if a < b then -1 else if b < a then 1 else 0
def cmpS (a b : ByteArray) : Int := Lib.compareBytes a.data.toList b.data.toList
def orr : List Int → Int
  | [] => 0
  | x :: xs => if x ≠ 0 then x else orr xs
mutual
def ordT : Term → Term → Int
  | .mk k s n l, .mk k' s' n' l' => orr [cmpI k k', cmpS s s', cmpI n n', ordL l l']
def ordL : List Term → List Term → Int
  | [], [] => 0
  | [], _ :: _ => -1
  | _ :: _, [] => 1
  | a :: as, b :: bs => if ordT a b ≠ 0 then ordT a b else ordL as bs
end
def sameT (a b : Term) : Bool := ordT a b == 0

theorem compareBytes_zero : ∀ {a b : List UInt8}, Lib.compareBytes a b = 0 ↔ a = b
  | [], [] => by simp [Lib.compareBytes]
  | [], _ :: _ => by simp [Lib.compareBytes]
  | _ :: _, [] => by simp [Lib.compareBytes]
  | a :: as, b :: bs => by
    simp only [Lib.compareBytes, List.cons.injEq]
    by_cases h1 : a < b
    · rw [if_pos h1]
      simp only [reduceCtorEq, false_iff]
      intro h; rw [h.1] at h1; exact absurd h1 (by simp)
    · rw [if_neg h1]
      by_cases h2 : b < a
      · rw [if_pos h2]
        simp only [Int.one_ne_zero, false_iff]
        intro h; rw [h.1] at h2; exact absurd h2 (by simp)
      · rw [if_neg h2]
        have : a = b := by
          rw [UInt8.lt_iff_toNat_lt] at h1 h2
          exact UInt8.toNat_inj.1 (by omega)
        simp [this, compareBytes_zero]
theorem cmpS_zero {a b : ByteArray} : cmpS a b = 0 ↔ a = b := by
  unfold cmpS
  rw [compareBytes_zero]
  constructor
  · intro h
    cases a; cases b
    simp only [ByteArray.mk.injEq]
    exact Array.ext' h
  · rintro rfl; rfl
theorem cmpI_zero {a b : Int} : cmpI a b = 0 ↔ a = b := by
  unfold cmpI
  split
  · constructor <;> intro h <;> omega
  · split
    · constructor <;> intro h <;> omega
    · constructor <;> intro h <;> omega
theorem seqB_iff {a b : ByteArray} : seqB a b = true ↔ a = b := by
  unfold seqB
  rw [ByteArray.toList_eq, ByteArray.toList_eq, beq_iff_eq]
  constructor
  · intro h
    cases a; cases b
    simp only [ByteArray.mk.injEq]
    exact Array.ext' h
  · rintro rfl; rfl
theorem orr_zero : ∀ {l : List Int}, orr l = 0 ↔ ∀ x ∈ l, x = 0
  | [] => by simp [orr]
  | x :: l => by
    simp only [orr, List.mem_cons, forall_eq_or_imp]
    by_cases h : x = 0
    · simp [h, orr_zero]
    · simp [h]
mutual
theorem ordT_zero : ∀ {a b : Term}, ordT a b = 0 ↔ a = b
  | .mk k s n l, .mk k' s' n' l' => by
    simp only [ordT, orr_zero, List.mem_cons, List.not_mem_nil, or_false, forall_eq_or_imp, forall_eq, cmpI_zero, cmpS_zero, ordL_zero, Term.mk.injEq]
theorem ordL_zero : ∀ {a b : List Term}, ordL a b = 0 ↔ a = b
  | [], [] => by simp [ordL]
  | [], _ :: _ => by simp [ordL]
  | _ :: _, [] => by simp [ordL]
  | a :: as, b :: bs => by
    simp only [ordL, List.cons.injEq]
    by_cases h : ordT a b = 0
    · have h2 := ordT_zero.1 h
      simp [h2, ordL_zero, (ordT_zero (a := b) (b := b)).2 rfl]
    · have h2 : a ≠ b := fun e => h (ordT_zero.2 e)
      simp [h, h2]
end
theorem sameT_iff {a b : Term} : sameT a b = true ↔ a = b := by simp [sameT, ordT_zero]
end Go.Pv

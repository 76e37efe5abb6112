import Derived.Test.YtlgaolpkeejmdaaPvU
import Derived.IntWalk
set_option linter.unusedSimpArgs false
set_option linter.unusedVariables false
namespace Go.Pv
section
variable {P : Program} {Q : RX → St → Prop} {env : Nat → EV} {L : List (List PV)} {H : PH} {k : List SI} {ops : List RI} {d : Option Nat}
theorem zzhc {x : RO} : run P Q (⟨d, none, .mov x⟩ :: ops) k env L H = run P Q ops k (putE env d (evalE env x)) L H := by rw [run_val rfl, ov_mov, zzhq]
theorem zzgt {z : List PV} {ps : List (Nat × Nat × RO)} : run P Q (⟨d, none, .build z ps⟩ :: ops) k env L H = run1 P Q (bldE (evParts (evalE env) ps) z) d ops k env L H := by rw [run_val rfl, ov_build]
theorem zzhb {sz : Nat} {xs : List RO} : run P Q (⟨d, none, .mkslice sz xs⟩ :: ops) k env L H = run1 P Q (mksE sz (pvs? (xs.map (evalE env)))) d ops k env L H := by rw [run_val rfl, ov_mkslice]
theorem zzgz {x : RO} : run P Q (⟨d, none, .load1 x⟩ :: ops) k env L H = run1 P Q (ldAt (rootOf (evalE env x) L H)) d ops k env L H := by rw [run_val rfl, ov_load1]
theorem zzha {n : Nat} {x : RO} : run P Q (⟨d, none, .loadA (n + 1) x⟩ :: ops) k env L H = run1 P Q (ldN (n + 1) (rootOf (evalE env x) L H)) d ops k env L H := by rw [run_val rfl, ov_loadS]
theorem zzhd {x : RO} : run P Q (⟨d, none, .nilchk x⟩ :: ops) k env L H = run1 P Q (nilcE (evalE env x)) d ops k env L H := by rw [run_val rfl, ov_nilchk]
theorem zzgs {op : BinOp} {t : TypeId} {x y : RO} : run P Q (⟨d, none, .bin op t x y⟩ :: ops) k env L H = run1 P Q (binE P op t (vals2 (evalE env x) (evalE env y))) d ops k env L H := by rw [run_val rfl, ov_bin]
theorem r_un {op : UnOp} {x : RO} : run P Q (⟨d, none, .un op x⟩ :: ops) k env L H = run1 P Q (unE P op (evalE env x)) d ops k env L H := by rw [run_val rfl, ov_un]
theorem zzgv {o : Nat} {x : RO} : run P Q (⟨d, none, .faddr o x⟩ :: ops) k env L H = run1 P Q (faddE o (evalE env x)) d ops k env L H := by rw [run_val rfl, ov_faddr]
theorem zzgw {s : Nat} {x i : RO} : run P Q (⟨d, none, .iaddr s x i⟩ :: ops) k env L H = run1 P Q (iadE s (asList? (evalE env x)) (asInt? (evalE env i))) d ops k env L H := by rw [run_val rfl, ov_iaddr]
theorem zzgx {n s : Nat} {x i : RO} : run P Q (⟨d, none, .iaddrA n s x i⟩ :: ops) k env L H = run1 P Q (iadA n s (evalE env x) (asInt? (evalE env i))) d ops k env L H := by rw [run_val rfl, ov_iaddrA]
theorem zzgy {x : RO} : run P Q (⟨d, none, .lenL x⟩ :: ops) k env L H = run1 P Q (lenE (evalE env x)) d ops k env L H := by rw [run_val rfl, ov_lenL]
theorem zzgu {x : RO} {i : Nat} : run P Q (⟨d, none, .ext x i⟩ :: ops) k env L H = run1 P Q (extE i (evalE env x)) d ops k env L H := by rw [run_val rfl, ov_ext]
theorem r_idxS {t : TypeId} {x i : RO} : run P Q (⟨d, none, .idxS t x i⟩ :: ops) k env L H = run1 P Q (opVal P (.idxS t x i) (evalE env) L H) d ops k env L H := run_val rfl
theorem r_conv {s t : TypeId} {x : RO} : run P Q (⟨d, none, .conv s t x⟩ :: ops) k env L H = run1 P Q (opVal P (.conv s t x) (evalE env) L H) d ops k env L H := run_val rfl
theorem r_bi {b : Builtin} {ts : Array TypeId} {t : TypeId} {a : List RO} : run P Q (⟨d, none, .bi b ts t a⟩ :: ops) k env L H = run1 P Q (opVal P (.bi b ts t a) (evalE env) L H) d ops k env L H := run_val rfl
theorem r_callX {f : FuncId} {a : List RO} : run P Q (⟨d, none, .callX f a⟩ :: ops) k env L H = run1 P Q (opVal P (.callX f a) (evalE env) L H) d ops k env L H := run_val rfl
theorem r_slc {s : Nat} {x : RO} {l h m : Option RO} : run P Q (⟨d, none, .slc s x l h m⟩ :: ops) k env L H = run1 P Q (opVal P (.slc s x l h m) (evalE env) L H) d ops k env L H := run_val rfl
theorem r_app {s b : Nat} {x y : RO} : run P Q (⟨d, none, .app s b false x y⟩ :: ops) k env L H = run1 P Q (opVal P (.app s b false x y) (evalE env) L H) d ops k env L H := run_val rfl

def endV (ps : Option (List PV)) (r : PV) : Prop :=
  match ps with
  | some ps => (retV ps).fg = r
  | none => False
theorem zzdw {rs : List RRes} {r : PV} {env : Nat → EV} {L : List (List PV)} {H : PH} : fnEnd rs r .ret ⟨env, L, H⟩ = endV (resV rs ⟨env, L, H⟩) r := by
  simp only [fnEnd, endV]
  cases resV rs ⟨env, L, H⟩ <;> simp
theorem zzdv {rs : List RRes} {r : PV} {env : Nat → EV} {L : List (List PV)} {H : PH} : fnEnd rs r .normal ⟨env, L, H⟩ = endV (resV rs ⟨env, L, H⟩) r := by
  simp only [fnEnd, endV]
  cases resV rs ⟨env, L, H⟩ <;> simp
theorem zzdd {ps : List PV} {r : PV} : endV (some ps) r = ((retV ps).fg = r) := nr rfl
def resO : Option EV → Option (List PV) → Option (List PV)
  | some (.v p), some ps => some (p :: ps)
  | _, _ => none
theorem zzhh {s : St} : resV [] s = some [] := nr rfl
theorem zzhi {i : Nat} {rs : List RRes} {env : Nat → EV} {L : List (List PV)} {H : PH} : resV (.t i :: rs) ⟨env, L, H⟩ = resO (some (env i)) (resV rs ⟨env, L, H⟩) := by
  simp only [resV, resO]
  cases env i <;> cases resV rs ⟨env, L, H⟩ <;> rfl
theorem zzhf {i : Nat} {rs : List RRes} {env : Nat → EV} {L : List (List PV)} {H : PH} : resV (.cell1 i :: rs) ⟨env, L, H⟩ = resO (ldAt (rootOf (env i) L H)) (resV rs ⟨env, L, H⟩) := by
  simp only [resV]
  rw [cellsAt_root]
  cases h : rootOf (env i) L H with
  | none => rfl
  | some p =>
    obtain ⟨cs, off⟩ := p
    simp only [ldAt, nth]
    cases hd : cs.drop off with
    | nil =>
      have : cs[off]? = none := by
        have := congrArg List.length hd
        simp at this
        simp; omega
      simp [this, resO]
    | cons c cs' =>
      have : cs[off]? = some c := by
        have := congrArg (·[0]?) hd
        simpa using this
      simp only [this, Option.map_some, resO]
      cases resV rs ⟨env, L, H⟩ <;> rfl
theorem zzhg {i n : Nat} {rs : List RRes} {env : Nat → EV} {L : List (List PV)} {H : PH} : resV (.cellA i (n + 1) :: rs) ⟨env, L, H⟩ = resO (ldN (n + 1) (rootOf (env i) L H)) (resV rs ⟨env, L, H⟩) := by
  simp only [resV]
  rw [cellsAt_root]
  cases h : rootOf (env i) L H with
  | none => rfl
  | some p =>
    obtain ⟨cs, off⟩ := p
    simp only [ldN, sub, List.length_drop]
    by_cases h2 : n + 1 ≤ cs.length - off
    · rw [if_pos (by omega)]
      cases resV rs ⟨env, L, H⟩ with
      | none => rfl
      | some ps => simp [h2, resO]
    · rw [if_neg (by omega)]
      cases resV rs ⟨env, L, H⟩ with
      | none => rfl
      | some ps => simp [h2, resO]
theorem zzhe {p : PV} {ps : List PV} : resO (some (.v p)) (some ps) = some (p :: ps) := nr rfl
theorem zzhk {p : PV} : retV [p] = p := nr rfl
theorem zzhl {p q : PV} {ps : List PV} : retV (p :: q :: ps) = .tup (p :: q :: ps) := nr rfl
theorem zzhj : retV [] = .tup [] := nr rfl
end

theorem zzbw (cs : List PV) : (PV.agg cs).cells = cs := nr rfl
theorem zzca (v : Value) : (PV.scal v).cells = [.scal v] := nr rfl
theorem zzby (t : Tok) (xs : List PV) : (PV.list t xs).cells = [.list t xs] := nr rfl
theorem zzbz (b o : Nat) : (PV.ptr b o).cells = [.ptr b o] := nr rfl
theorem zzbx (f : Fn) (a c : List PV) : (PV.fn f a c).cells = [.fn f a c] := nr rfl
theorem zzbv (v : Value) : cellP (.scal v) = cellOk v := nr rfl
theorem zzbt (t : Tok) (xs : List PV) : cellP (.list t xs) = true := nr rfl
theorem zzbu (b o : Nat) : cellP (.ptr b o) = true := nr rfl
theorem zzbr (k : IntKind) (n : Int) : cellOk (.int k n) = true := nr rfl
theorem zzbq (n : Bool) : cellOk (.bool n) = true := nr rfl
theorem zzbs (n : ByteArray) : cellOk (.string n) = true := nr rfl

theorem nth_len {α : Type} (xs : List α) (x : α) (ys : List α) : nth (xs ++ x :: ys) xs.length = some x := by simp [nth]

theorem zzgf {α β : Type} (f : α → β) (xs : List α) (i : Nat) : nth (xs.map f) i = (nth xs i).map f := by simp [nth]
theorem nth_of {α : Type} {xs : List α} {i : Nat} (h : i < xs.length) : nth xs i = some xs[i] := by simp [nth, h]
theorem allSz_map {α : Type} (sz : Nat) (f : α → PV) (h : ∀ x, (f x).cells.length = sz) : ∀ xs : List α, allSz sz (xs.map f) = true
  | [] => rfl
  | x :: xs => by simp only [List.map_cons, zzab, h, beq_self_eq_true, allSz_map sz f h xs, Bool.and_self]
theorem fgL_map {α : Type} (f : α → PV) (h : ∀ x, (f x).fg = f x) : ∀ xs : List α, fgL (xs.map f) = xs.map f
  | [] => rfl
  | x :: xs => by simp only [List.map_cons, fgL, h, fgL_map f h xs]
theorem wrap_in {n : Int} (h : -9223372036854775808 ≤ n) (h2 : n ≤ 9223372036854775807) : IntKind.i64.wrap n = n := IntWalk.i64_in n ⟨h, h2⟩
theorem lenB_eq : lenB = 1099511627776 := by decide
theorem wrap_add {i n : Nat} (h : i < n) (h2 : n ≤ lenB) : IntKind.i64.wrap ((i : Int) + 1) = ((i + 1 : Nat) : Int) := by
  rw [lenB_eq] at h2
  rw [wrap_in (by omega) (by omega)]
  simp
def ints (xs : List Int) : List PV := xs.map fun x => .scal (.int .i64 x)
def strs (xs : List ByteArray) : List PV := xs.map fun x => .scal (.string x)
theorem zzfn (xs : List Int) : (ints xs).length = xs.length := by simp [ints]
theorem zziy (xs : List ByteArray) : (strs xs).length = xs.length := by simp [strs]
theorem zzfo (xs : List Int) (i : Nat) : nth (ints xs) i = (nth xs i).map fun x => .scal (.int .i64 x) := zzgf _ _ _
theorem zziz (xs : List ByteArray) (i : Nat) : nth (strs xs) i = (nth xs i).map fun x => .scal (.string x) := zzgf _ _ _
theorem zzfq (xs : List Int) : allSz 1 (ints xs) = true := allSz_map 1 (fun x => .scal (.int .i64 x)) (fun _ => rfl) _
theorem zzjb (xs : List ByteArray) : allSz 1 (strs xs) = true := allSz_map 1 (fun x => .scal (.string x)) (fun _ => rfl) _
theorem zzfm (xs : List Int) : fgL (ints xs) = ints xs := fgL_map (fun x => .scal (.int .i64 x)) (fun _ => rfl) _
theorem zzix (xs : List ByteArray) : fgL (strs xs) = strs xs := fgL_map (fun x => .scal (.string x)) (fun _ => rfl) _
theorem zzfx (i : Nat) : (0 : Int) ≤ i := Int.natCast_nonneg i

theorem zzik {α : Type} (xs ys : List α) (z : α) : (xs ++ ys).set xs.length z = xs ++ ys.set 0 z := by simp [List.set_append]
theorem zzil {α : Type} (xs ys : List α) (n : Nat) (z : α) : (xs ++ ys).set (xs.length + n) z = xs ++ ys.set n z := by simp [List.set_append]
theorem zzgb {α : Type} (xs ys : List α) : nth (xs ++ ys) xs.length = nth ys 0 := by
  simp only [nth]; rw [List.getElem?_append_right (Nat.le_refl _), Nat.sub_self]
theorem zzgc {α : Type} (xs ys : List α) (n : Nat) : nth (xs ++ ys) (xs.length + n) = nth ys n := by
  simp only [nth]; rw [List.getElem?_append_right (by omega), Nat.add_sub_cancel_left]

/-! ### what any list's length is -/
mutual
def okB : PV → Prop
  | .agg cs => okBL cs
  | .tup cs => okBL cs
  | .list _ xs => xs.length ≤ lenB ∧ okBL xs
  | .scal v => atomB v = true
  | _ => True
def okBL : List PV → Prop
  | [] => True
  | p :: ps => okB p ∧ okBL ps
end
mutual
theorem Rep.okB {m : Mem} : ∀ (p : PV) {v : Value}, Rep m p v → okB p
  | .agg cs, v, r => by simp only [Rep] at r; obtain ⟨vs, _, r⟩ := r; simp only [Go.Pv.okB]; exact RepL.okB cs r
  | .tup cs, v, r => by simp only [Rep] at r; obtain ⟨vs, _, r⟩ := r; simp only [Go.Pv.okB]; exact RepL.okB cs r
  | .list t xs, v, r => by
    simp only [Rep] at r
    obtain ⟨a, len, cap, sz, _, h1, _, h3, _, h5⟩ := r
    simp only [Go.Pv.okB]
    refine ⟨by omega, ?_⟩
    cases xs with
    | nil => trivial
    | cons x xs =>
      obtain ⟨b, o, _, h6⟩ := h5 (by rw [h1]; simp)
      exact RepE.okB (x :: xs) h6
  | .scal v, _, r => by simp only [Rep] at r; simp only [Go.Pv.okB]; exact r.2
  | .cptr _, _, _ | .ptr _ _, _, _ | .fn _ _ _, _, _ | .mapr _, _, _ | .iface _ _, _, _ => by simp [Go.Pv.okB]
theorem RepL.okB {m : Mem} : ∀ (ps : List PV) {vs : List Value}, RepL m ps vs → okBL ps
  | [], _, _ => trivial
  | p :: ps, vs, r => by
    simp only [RepL] at r
    obtain ⟨v, rest, _, r1, r2⟩ := r
    simp only [okBL]
    exact ⟨Rep.okB p r1, RepL.okB ps r2⟩
theorem RepR.okB {m : Mem} : ∀ (ps : List PV) {b o : Nat}, RepR m ps b o → okBL ps
  | [], _, _, _ => trivial
  | p :: ps, b, o, r => by
    simp only [RepR] at r
    obtain ⟨⟨v, _, r1⟩, r2⟩ := r
    simp only [okBL]
    exact ⟨Rep.okB p r1, RepR.okB ps r2⟩
theorem RepE.okB {m : Mem} : ∀ (ps : List PV) {b o sz : Nat}, RepE m ps b o sz → okBL ps
  | [], _, _, _, _ => trivial
  | .agg cs :: ps, b, o, sz, r => by
    simp only [RepE] at r
    simp only [okBL, Go.Pv.okB]
    exact ⟨RepR.okB cs r.1.2, RepE.okB ps r.2⟩
  | .scal p :: ps, b, o, sz, r => by
    have h := fun v => Rep.okB (m := m) (.scal p) (v := v)
    simp only [RepE] at r
    obtain ⟨⟨_, v, _, h2⟩, r2⟩ := r
    simp only [okBL]
    exact ⟨h v h2, RepE.okB ps r2⟩
  | .tup p :: ps, b, o, sz, r => by
    have h := fun v => Rep.okB (m := m) (.tup p) (v := v)
    simp only [RepE] at r
    obtain ⟨⟨_, v, _, h2⟩, r2⟩ := r
    simp only [okBL]
    exact ⟨h v h2, RepE.okB ps r2⟩
  | .list t p :: ps, b, o, sz, r => by
    have h := fun v => Rep.okB (m := m) (.list t p) (v := v)
    simp only [RepE] at r
    obtain ⟨⟨_, v, _, h2⟩, r2⟩ := r
    simp only [okBL]
    exact ⟨h v h2, RepE.okB ps r2⟩
  | .cptr p :: ps, b, o, sz, r => by
    simp only [RepE] at r
    simp only [okBL, Go.Pv.okB, true_and]
    exact RepE.okB ps r.2
  | .ptr x y :: ps, b, o, sz, r => by
    simp only [RepE] at r
    simp only [okBL, Go.Pv.okB, true_and]
    exact RepE.okB ps r.2
  | .fn f x y :: ps, b, o, sz, r => by
    simp only [RepE] at r
    simp only [okBL, Go.Pv.okB, true_and]
    exact RepE.okB ps r.2
  | .mapr x :: ps, b, o, sz, r => by
    simp only [RepE] at r
    simp only [okBL, Go.Pv.okB, true_and]
    exact RepE.okB ps r.2
  | .iface t p :: ps, b, o, sz, r => by
    simp only [RepE] at r
    simp only [okBL, Go.Pv.okB, true_and]
    exact RepE.okB ps r.2
end
theorem pure_ok {P : Program} {f : FuncId} {args : List PV} {r : PV} (he : Enters P f) (h : okBL args → PPure P f args r) : PPure P f args r := by
  refine ⟨he, fun w hw vs h1 h2 => ?_⟩
  exact (h (RepL.okB args h2)).2 w hw vs h1 h2
theorem fn_enters {P : Program} {q : RPar} {f : FuncId} {fn : Func} {x : Nat × List RRes × RCode} (hf : P.funcs[f]? = some fn) (hr : fnRes P q fn = some x) : Enters P f := by
  unfold fnRes at hr
  split at hr
  · cases hr
  · rename_i hn
    split at hr
    · rename_i c hb
      exact enters_of hf (by rw [hb]; rfl) (by simpa using hn)
    · cases hr
/-- The same, the arguments' lists being no longer than any. -/
theorem pure_ok_of {P : Program} {q : RPar} {f : FuncId} {fn : Func} {n : Nat} {rs : List RRes} {rc : RCode} (hm : P.follows .mixedOrders = true) (hf : P.funcs[f]? = some fn) (hr : fnRes P q fn = some (n, rs, rc)) {args : List PV} {r : PV} (hlen : args.length ≤ n)
    (h : okBL args → go P (fnEnd rs r) [.code rc] (initE args) [] []) : PPure P f args r :=
  pure_ok (fn_enters hf hr) fun ho => pure_of hm hf hr hlen (h ho)

/-! ### terms -/
inductive Term where
  | mk (k : Int) (s : ByteArray) (n : Int) (l : List Term)
def Term.k : Term → Int | .mk k _ _ _ => k
def Term.s : Term → ByteArray | .mk _ s _ _ => s
def Term.n : Term → Int | .mk _ _ n _ => n
def Term.l : Term → List Term | .mk _ _ _ l => l
mutual
def enc : Term → PV
  | .mk k s n l => .agg [.scal (.int .i64 k), .scal (.string s), .scal (.int .i64 n), .list .foreign (encL l)]
def encL : List Term → List PV
  | [] => []
  | t :: ts => enc t :: encL ts
end
def encC (t : Term) : List PV := [.scal (.int .i64 t.k), .scal (.string t.s), .scal (.int .i64 t.n), .list .foreign (encL t.l)]
theorem enc_eq (t : Term) : enc t = .agg (encC t) := by cases t; simp [enc, encC, Term.k, Term.s, Term.n, Term.l]
theorem zzcz (t : Term) : (enc t).cells = encC t := by rw [enc_eq]; rfl
theorem zzaa (t : Term) : PV.agg (encC t) = enc t := (enc_eq t).symm
theorem zzck (t : Term) : (encC t).length = 4 := nr rfl
theorem zzcl (t : Term) : (encC t).all cellP = true := nr rfl
theorem zzcg (t : Term) : nth (encC t) 0 = some (.scal (.int .i64 t.k)) := nr rfl
theorem zzch (t : Term) : nth (encC t) 1 = some (.scal (.string t.s)) := nr rfl
theorem zzci (t : Term) : nth (encC t) 2 = some (.scal (.int .i64 t.n)) := nr rfl
theorem zzcj (t : Term) : nth (encC t) 3 = some (.list .foreign (encL t.l)) := nr rfl
theorem zzcm (t : Term) : sub (encC t) 0 4 = some (encC t) := nr rfl
theorem encL_map : ∀ l : List Term, encL l = l.map enc
  | [] => by simp [encL]
  | t :: l => by simp [encL, encL_map l]
theorem zzcv : ∀ l : List Term, allSz 4 (encL l) = true
  | [] => rfl
  | t :: l => by simp only [encL, zzab, zzcz, zzck, zzcv l]; rfl
theorem zzcs (l : List Term) : (encL l).length = l.length := by rw [encL_map]; simp
theorem zzct (l : List Term) (i : Nat) : nth (encL l) i = (nth l i).map enc := by rw [encL_map]; simp [nth]
mutual
theorem zzdb : ∀ t : Term, (enc t).fg = enc t
  | .mk k s n l => by simp only [enc, PV.fg, fgL]; rw [zzcr l]
theorem zzcr : ∀ l : List Term, fgL (encL l) = encL l
  | [] => by simp [encL, fgL]
  | t :: l => by simp only [encL, fgL]; rw [zzdb t, zzcr l]
end
theorem okB_str (s : ByteArray) : okB (.scal (.string s)) ↔ s.size ≤ lenB := by simp [okB, atomB]
theorem okB_int (k : IntKind) (n : Int) : okB (.scal (.int k n)) ↔ True := by simp [okB, atomB]
theorem okB_bool (b : Bool) : okB (.scal (.bool b)) ↔ True := by simp [okB, atomB]
theorem okB_enc (t : Term) : okB (enc t) ↔ t.s.size ≤ lenB ∧ t.l.length ≤ lenB ∧ okBL (encL t.l) := by
  cases t; simp [enc, okB, okBL, atomB, Term.s, Term.l, zzcs]
theorem okBL_get {l : List Term} (h : okBL (encL l)) {i : Nat} {t : Term} (hi : nth l i = some t) : okB (enc t) := by
  induction l generalizing i with
  | nil => simp [nth] at hi
  | cons x l ih =>
    simp only [encL, okBL] at h
    cases i with
    | zero => simp [nth] at hi; subst hi; exact h.1
    | succ i => exact ih h.2 (by simpa [nth] using hi)
end Go.Pv

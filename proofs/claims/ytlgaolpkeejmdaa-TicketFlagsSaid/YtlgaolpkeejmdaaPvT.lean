import Derived.Test.YtlgaolpkeejmdaaPvS
set_option linter.unusedSimpArgs false
set_option linter.unusedVariables false
namespace Go.Pv

/-- An equation that isn't told as one by unfolding. -/
theorem nr {α : Sort _} {a b : α} (h : a = b) : a = b := h

def fnRes (P : Program) (q : RPar) (fn : Func) : Option (Nat × List RRes × RCode) :=
  if fn.name == "runtime.NumGoroutine" then none else
  match fn.body with
  | some c => match resolveC P q fn.ntmps c, rRes P fn.ntmps fn.results.toList with
    | some rc, some rs => some (fn.ntmps, rs, rc)
    | _, _ => none
  | none => none

inductive SI where
  | code (c : RCode)
  | blk (id : Nat)
  | inv (J : St → Prop)
  | scp

section
variable {P : Program} {Q : RX → St → Prop}

def runK (P : Program) (Q : RX → St → Prop) : List SI → RX → St → Prop
  | [], x, s => Q x s
  | .code c :: k, x, s => RX.then (pwp P c (runK P Q k)) (runK P Q k) x s
  | .blk id :: k, x, s => RX.inBlock id (runK P Q k) x s
  | .inv J :: k, x, s => RX.then J (runK P Q k) x s
  | .scp :: k, x, s => RX.noGoto (runK P Q k) x s

def go (P : Program) (Q : RX → St → Prop) (k : List SI) (env : Nat → EV) (L : List (List PV)) (H : PH) : Prop := runK P Q k .normal ⟨env, L, H⟩
def run (P : Program) (Q : RX → St → Prop) (ops : List RI) (k : List SI) (env : Nat → EV) (L : List (List PV)) (H : PH) : Prop := pops P ops (runK P Q k .normal) ⟨env, L, H⟩
def run1 (P : Program) (Q : RX → St → Prop) (v : Option EV) (d : Option Nat) (ops : List RI) (k : List SI) (env : Nat → EV) (L : List (List PV)) (H : PH) : Prop :=
  match v with
  | some e => run P Q ops k (putE env d e) L H
  | none => False
def runS (P : Program) (Q : RX → St → Prop) (v : Option (List (List PV) × PH)) (d : Option Nat) (ops : List RI) (k : List SI) (env : Nat → EV) : Prop :=
  match v with
  | some (L, H) => run P Q ops k (putE env d undefE) L H
  | none => False
def condE (e : EV) (A B : Prop) (_x : Bx A B := .mk) : Prop :=
  match e with
  | .v (.scal (.bool t)) => br t A B
  | _ => False
def guardE (e : EV) (want : Bool) (A B : Prop) (_x : Bx A B := .mk) : Prop :=
  match e with
  | .v (.scal (.bool b)) => brw want b A B
  | .v (.scal _) => B
  | _ => False
def pcall (P : Program) (Q : RX → St → Prop) (f : FuncId) (args : Option (List PV)) (d : Option Nat) (ops : List RI) (k : List SI) (env : Nat → EV) (L : List (List PV)) (H : PH) : Prop :=
  match args with
  | some ps => ∃ r, PPure P f (fgL ps) r ∧ run P Q ops k (putE env d (.v r)) L H
  | none => False
def hcall (P : Program) (Q : RX → St → Prop) (f : FuncId) (args : Option (List PV)) (d : Option Nat) (ops : List RI) (k : List SI) (env : Nat → EV) (L : List (List PV)) (H : PH) : Prop :=
  match args with
  | some ps => PCalls P f (fgL ps) H fun r H' => run P Q ops k (putE env d (.v r)) L H'
  | none => False
def exitTo (P : Program) (Q : RX → St → Prop) (i : Nat) (k : List SI) (env : Nat → EV) (L : List (List PV)) (H : PH) : Prop := runK P Q k (.exit i) ⟨env, L, H⟩

theorem condE_congr {e e' : EV} {A B : Prop} (h : e = e') : condE e A B = condE e' A B := by rw [h]
theorem guardE_congr {e e' : EV} {w : Bool} {A B : Prop} (h : e = e') : guardE e w A B = guardE e' w A B := by rw [h]
theorem run1_congr {v v' : Option EV} {d : Option Nat} {ops : List RI} {k : List SI} {env : Nat → EV} {L : List (List PV)} {H : PH} (h : v = v') : run1 P Q v d ops k env L H = run1 P Q v' d ops k env L H := by rw [h]
theorem runS_congr {v v' : Option (List (List PV) × PH)} {d : Option Nat} {ops : List RI} {k : List SI} {env : Nat → EV} (h : v = v') : runS P Q v d ops k env = runS P Q v' d ops k env := by rw [h]
theorem pcall_congr {f : FuncId} {v v' : Option (List PV)} {d : Option Nat} {ops : List RI} {k : List SI} {env : Nat → EV} {L : List (List PV)} {H : PH} (h : v = v') : pcall P Q f v d ops k env L H = pcall P Q f v' d ops k env L H := by rw [h]
theorem hcall_congr {f : FuncId} {v v' : Option (List PV)} {d : Option Nat} {ops : List RI} {k : List SI} {env : Nat → EV} {L : List (List PV)} {H : PH} (h : v = v') : hcall P Q f v d ops k env L H = hcall P Q f v' d ops k env L H := by rw [h]
attribute [congr] condE_congr guardE_congr run1_congr runS_congr pcall_congr hcall_congr

theorem zzhq {e : EV} {d : Option Nat} {ops : List RI} {k : List SI} {env : Nat → EV} {L : List (List PV)} {H : PH} : run1 P Q (some e) d ops k env L H = run P Q ops k (putE env d e) L H := nr rfl
theorem zzhr {L : List (List PV)} {H : PH} {d : Option Nat} {ops : List RI} {k : List SI} {env : Nat → EV} : runS P Q (some (L, H)) d ops k env = run P Q ops k (putE env d undefE) L H := nr rfl
theorem zzcb {t : Bool} {A B : Prop} : condE (.v (.scal (.bool t))) A B = br t A B := nr rfl
theorem zzfg {t : Bool} {A B : Prop} : guardE (.v (.scal (.bool t))) true A B = br t A B := nr rfl
theorem zzff {t : Bool} {A B : Prop} : guardE (.v (.scal (.bool t))) false A B = br t B A := nr rfl
theorem zzfh {w : Bool} {A B : Prop} : guardE undefE w A B = B := nr rfl

variable {env : Nat → EV} {L : List (List PV)} {H : PH} {k : List SI} {ops : List RI} {d : Option Nat}

theorem runK_ret : ∀ (k : List SI) (s : St), runK P Q k .ret s = Q .ret s
  | [], s => rfl
  | .code c :: k, s => runK_ret k s
  | .blk i :: k, s => runK_ret k s
  | .inv J :: k, s => runK_ret k s
  | .scp :: k, s => runK_ret k s

theorem zzey : go P Q [] env L H = Q .normal ⟨env, L, H⟩ := nr rfl
theorem zzfe : go P Q (.code .skip :: k) env L H = go P Q k env L H := nr rfl
theorem zzez {dr : Bool} {os : List RI} : go P Q (.code (.region dr os) :: k) env L H = run P Q os k env L H := nr rfl
theorem zzfd {a b : RCode} : go P Q (.code (.seq a b) :: k) env L H = go P Q (.code a :: .code b :: k) env L H := nr rfl
theorem zzeu {c : RO} {a b : RCode} : go P Q (.code (.cond c a b) :: k) env L H = condE (evalE env c) (go P Q (.code a :: k) env L H) (go P Q (.code b :: k) env L H) := by
  show pwp P (.cond c a b) (runK P Q k) _ = _
  simp only [pwp, condE]
  rfl
theorem zzet {i : Nat} {a : RCode} : go P Q (.code (.block i a) :: k) env L H = go P Q (.code a :: .blk i :: k) env L H := nr rfl
theorem zzfb {a : RCode} : go P Q (.code (.scope a) :: k) env L H = go P Q (.code a :: .scp :: k) env L H := nr rfl
theorem zzex {l : Nat} : go P Q (.code (.label l) :: k) env L H = go P Q k env L H := nr rfl
theorem zzes {i : Nat} : go P Q (.blk i :: k) env L H = go P Q k env L H := nr rfl
theorem zzfc : go P Q (.scp :: k) env L H = go P Q k env L H := nr rfl
theorem zzew {J : St → Prop} : go P Q (.inv J :: k) env L H = J ⟨env, L, H⟩ := nr rfl
theorem zzfa : go P Q (.code .ret :: k) env L H = Q .ret ⟨env, L, H⟩ := runK_ret k _
theorem zzev {i : Nat} : go P Q (.code (.exit i) :: k) env L H = exitTo P Q i k env L H := nr rfl
theorem zzdl {i : Nat} {c : RCode} : exitTo P Q i (.code c :: k) env L H = exitTo P Q i k env L H := nr rfl
theorem zzdk {i j : Nat} : exitTo P Q i (.blk j :: k) env L H = if i = j then go P Q k env L H else exitTo P Q i k env L H := nr rfl
theorem zzdm {i : Nat} {J : St → Prop} : exitTo P Q i (.inv J :: k) env L H = exitTo P Q i k env L H := nr rfl
theorem zzdn {i : Nat} : exitTo P Q i (.scp :: k) env L H = exitTo P Q i k env L H := nr rfl
theorem exit_nil {i : Nat} : exitTo P Q i [] env L H = Q (.exit i) ⟨env, L, H⟩ := rfl

/-- A loop, by what holds at every round's head. -/
theorem go_loop {c : RCode} (I : Nat → St → Prop) (n : Nat) (h0 : I n ⟨env, L, H⟩) (round : ∀ n env L H, I n ⟨env, L, H⟩ → go P Q (.code c :: .inv (fun s' => ∃ m, m < n ∧ I m s') :: k) env L H) :
    go P Q (.code (.loop c) :: k) env L H := ⟨I, n, h0, fun n s hI => round n s.env s.L s.H hI⟩

theorem zzie : run P Q [] k env L H = go P Q k env L H := nr rfl
theorem zzib {g : Nat} {w : Bool} {op : ROp} : run P Q (⟨d, some (g, w), op⟩ :: ops) k env L H = guardE (env g) w (run P Q (⟨d, none, op⟩ :: ops) k env L H) (run P Q ops k (putE env d undefE) L H) := by
  show pops P _ _ _ = _
  simp only [pops, pop, guardE]
  rfl
theorem zzif {c a b : RO} : run P Q (⟨d, none, .pick c a b⟩ :: ops) k env L H = condE (evalE env c) (run P Q ops k (putE env d (evalE env a)) L H) (run P Q ops k (putE env d (evalE env b)) L H) := by
  show pops P _ _ _ = _
  simp only [pops, pop, pact, condE]
  rfl
theorem zzhs {z : List PV} : run P Q (⟨d, none, .alloc z⟩ :: ops) k env L H = run P Q ops k (putE env d (.l L.length 0)) (L ++ [z]) H := nr rfl
def boxE (P : Program) (Q : RX → St → Prop) (e : EV) (d : Option Nat) (ops : List RI) (k : List SI) (env : Nat → EV) (L : List (List PV)) (H : PH) : Prop :=
  match e with
  | .v p => run P Q ops k (putE env d (.l L.length 0)) (L ++ [p.cells]) H
  | _ => False
theorem zzhu {x : RO} : run P Q (⟨d, none, .box x⟩ :: ops) k env L H = boxE P Q (evalE env x) d ops k env L H := by
  show pops P _ _ _ = _
  simp only [pops, pop, pact, boxE]
  cases evalE env x <;> rfl
theorem zzbd {p : PV} : boxE P Q (.v p) d ops k env L H = run P Q ops k (putE env d (.l L.length 0)) (L ++ [p.cells]) H := nr rfl
theorem boxE_congr {v v' : EV} (h : v = v') : boxE P Q v d ops k env L H = boxE P Q v' d ops k env L H := by rw [h]
attribute [congr] boxE_congr
theorem zzii {n : Nat} {a x : RO} : run P Q (⟨d, none, .store n a x⟩ :: ops) k env L H = runS P Q (storeAt? n (evalE env a) (evalE env x) L H) d ops k env := by
  show pops P _ _ _ = _
  simp only [pops, pop, pact, runS]
  cases h : storeAt? n (evalE env a) (evalE env x) L H with
  | none => rfl
  | some p => rfl
theorem zzhx {f : FuncId} {args : List RO} : run P Q (⟨d, none, .callP f args⟩ :: ops) k env L H = pcall P Q f (pvs? (args.map (evalE env))) d ops k env L H := by
  show pops P _ _ _ = _
  simp only [pops, pop, pact, pcall]
  cases h : pvs? (args.map (evalE env)) <;> rfl
theorem zzhw {f : FuncId} {args : List RO} : run P Q (⟨d, none, .callF f args⟩ :: ops) k env L H = hcall P Q f (pvs? (args.map (evalE env))) d ops k env L H := by
  show pops P _ _ _ = _
  simp only [pops, pop, pact, hcall]
  cases h : pvs? (args.map (evalE env)) <;> rfl
def vcall (P : Program) (Q : RX → St → Prop) (x : EV) (args : Option (List PV)) (d : Option Nat) (ops : List RI) (k : List SI) (env : Nat → EV) (L : List (List PV)) (H : PH) : Prop :=
  match x, args with
  | .v (.fn (.func f) a c), some ps => pcall P Q f (some (a ++ ps ++ c)) d ops k env L H
  | _, _ => False
def wcall (P : Program) (Q : RX → St → Prop) (x : EV) (args : Option (List PV)) (d : Option Nat) (ops : List RI) (k : List SI) (env : Nat → EV) (L : List (List PV)) (H : PH) : Prop :=
  match x, args with
  | .v (.fn (.func f) a c), some ps => hcall P Q f (some (a ++ ps ++ c)) d ops k env L H
  | _, _ => False
theorem zzhz {x : RO} {args : List RO} : run P Q (⟨d, none, .callVP x args⟩ :: ops) k env L H = vcall P Q (evalE env x) (pvs? (args.map (evalE env))) d ops k env L H := by
  show pops P _ _ _ = _
  simp only [pops, pop, pact, vcall, pcall]
  generalize evalE env x = v
  generalize pvs? (args.map (evalE env)) = ps
  cases v with
  | v p => cases p with
    | fn f a c => cases f <;> cases ps <;> rfl
    | _ => rfl
  | _ => rfl
theorem zzhy {x : RO} {args : List RO} : run P Q (⟨d, none, .callV x args⟩ :: ops) k env L H = wcall P Q (evalE env x) (pvs? (args.map (evalE env))) d ops k env L H := by
  show pops P _ _ _ = _
  simp only [pops, pop, pact, wcall, hcall]
  generalize evalE env x = v
  generalize pvs? (args.map (evalE env)) = ps
  cases v with
  | v p => cases p with
    | fn f a c => cases f <;> cases ps <;> rfl
    | _ => rfl
  | _ => rfl
theorem zzjl {f : FuncId} {a c ps : List PV} : vcall P Q (.v (.fn (.func f) a c)) (some ps) d ops k env L H = pcall P Q f (some (a ++ ps ++ c)) d ops k env L H := nr rfl
theorem zzjm {f : FuncId} {a c ps : List PV} : wcall P Q (.v (.fn (.func f) a c)) (some ps) d ops k env L H = hcall P Q f (some (a ++ ps ++ c)) d ops k env L H := nr rfl
theorem pcall_intro {f : FuncId} {args : List PV} {r : PV} (h : PPure P f (fgL args) r) (h2 : run P Q ops k (putE env d (.v r)) L H) : pcall P Q f (some args) d ops k env L H := ⟨r, h, h2⟩

/-- An operation that turns nothing. -/
def isVal : ROp → Bool
  | .pick _ _ _ | .box _ | .boxH _ | .alloc _ | .allocH _ | .store _ _ _ | .callF _ _ | .callV _ _ | .callP _ _ | .callVP _ _ | .slcA _ _ _ _ _ _ | .app _ _ true _ _ | .dfr _ _ | .snil _ _ => false
  | _ => true
theorem run_val {op : ROp} (h : isVal op = true) : run P Q (⟨d, none, op⟩ :: ops) k env L H = run1 P Q (opVal P op (evalE env) L H) d ops k env L H := by
  have key : pact P op (evalE env) L H (fun e L H => pops P ops (runK P Q k .normal) ⟨putE env d e, L, H⟩) = match opVal P op (evalE env) L H with | some e => pops P ops (runK P Q k .normal) ⟨putE env d e, L, H⟩ | none => False := by
    cases op with
    | app s b kp x y => cases kp <;> first | rfl | simp [isVal] at h
    | _ => first | rfl | simp [isVal] at h
  show pops P _ _ _ = _
  simp only [pops, pop, run1]
  rw [key]
  cases opVal P op (evalE env) L H <;> rfl

def fnEnd (rs : List RRes) (r : PV) : RX → St → Prop
  | .normal, s | .ret, s => ∃ ps, resV rs s = some ps ∧ (retV ps).fg = r
  | _, _ => False
theorem fnEnd_ret {rs : List RRes} {r : PV} {s : St} : fnEnd rs r .ret s = ∃ ps, resV rs s = some ps ∧ (retV ps).fg = r := rfl

theorem pure_of {q : RPar} {f : FuncId} {fn : Func} {n : Nat} {rs : List RRes} {rc : RCode} (hm : P.follows .mixedOrders = true) (hf : P.funcs[f]? = some fn) (hr : fnRes P q fn = some (n, rs, rc)) {args : List PV} {r : PV} (hlen : args.length ≤ n)
    (h : go P (fnEnd rs r) [.code rc] (initE args) [] []) : PPure P f args r := by
  unfold fnRes at hr
  split at hr
  · cases hr
  · rename_i hn
    split at hr
    · rename_i c hb
      split at hr
      · rename_i rc' rs' h1 h2
        cases hr
        refine fn_calls (q := q) hm hf hb (by simpa using hn) rfl h1 h2 hlen ?_
        have hmono : ∀ (rc : RCode) (R R' : RX → St → Prop) (s : St), (∀ x s, R x s → R' x s) → pwp P rc R s → pwp P rc R' s := by
          intro rc
          induction rc with
          | skip => intro R R' s hR h; exact hR _ _ h
          | region d ops => intro R R' s hR h; exact pops_mono h (hR _)
          | seq a b iha ihb =>
            intro R R' s hR h
            refine iha _ _ _ ?_ h
            intro x s h
            cases x <;> first | exact ihb _ _ _ hR h | exact hR _ _ h
          | cond c a b iha ihb =>
            intro R R' s hR h
            simp only [pwp] at h ⊢
            split at h
            · exact br_mono (iha _ _ _ hR) (ihb _ _ _ hR) h
            · exact h
          | block i a iha =>
            intro R R' s hR h
            refine iha _ _ _ ?_ h
            intro x s h
            cases x <;> first | exact hR _ _ h | skip
            simp only [RX.inBlock] at h ⊢
            split at h
            · rename_i e; rw [if_pos e]; exact hR _ _ h
            · rename_i e; rw [if_neg e]; exact hR _ _ h
          | loop a iha =>
            intro R R' s hR h
            obtain ⟨I, n, h0, h1⟩ := h
            refine ⟨I, n, h0, fun n s hI => iha _ _ _ ?_ (h1 n s hI)⟩
            intro x s h
            cases x <;> first | exact h | exact hR _ _ h
          | scope a iha =>
            intro R R' s hR h
            refine iha _ _ _ ?_ h
            intro x s h
            cases x <;> first | exact hR _ _ h | exact h
          | exit i => intro R R' s hR h; exact hR _ _ h
          | label i => intro R R' s hR h; exact hR _ _ h
          | goto i => intro R R' s hR h; exact hR _ _ h
          | ret => intro R R' s hR h; exact hR _ _ h
        refine hmono rc (fnEnd rs r) _ _ ?_ ?_
        · intro x s h
          cases x <;> simp only [fnEnd] at h
          · obtain ⟨ps, h1, h2⟩ := h
            simp only [fnPost, h1]
            exact ⟨[], HLe.nil _, _, .inl rfl, h2⟩
          · obtain ⟨ps, h1, h2⟩ := h
            simp only [fnPost, h1]
            exact ⟨[], HLe.nil _, _, .inl rfl, h2⟩
        · exact hmono rc _ _ _ (fun x s h => by cases x <;> exact h) h
      · cases hr
    · cases hr
end
end Go.Pv

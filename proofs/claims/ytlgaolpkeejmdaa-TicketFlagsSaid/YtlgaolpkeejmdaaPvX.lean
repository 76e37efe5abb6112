import Derived.Test.YtlgaolpkeejmdaaPvW
set_option linter.unusedSimpArgs false
set_option linter.unusedVariables false
namespace Go.Pv
section
variable {P : Program} {Q : RX → St → Prop} {env : Nat → EV} {L : List (List PV)} {H : PH} {k : List SI} {ops : List RI} {d : Option Nat}
/-- A pure call, its arguments as the callee sees them. -/
def qcall (P : Program) (Q : RX → St → Prop) (f : FuncId) (args : List PV) (d : Option Nat) (ops : List RI) (k : List SI) (env : Nat → EV) (L : List (List PV)) (H : PH) : Prop :=
  ∃ r, PPure P f args r ∧ run P Q ops k (putE env d (.v r)) L H
theorem zzgk {f : FuncId} {args : List PV} : pcall P Q f (some args) d ops k env L H = qcall P Q f (fgL args) d ops k env L H := nr rfl
theorem qcall_congr {f : FuncId} {args args' : List PV} (h : args = args') : qcall P Q f args d ops k env L H = qcall P Q f args' d ops k env L H := by rw [h]
theorem qcall_intro {f : FuncId} {args : List PV} {r : PV} (h : PPure P f args r) (h2 : run P Q ops k (putE env d (.v r)) L H) : qcall P Q f args d ops k env L H := ⟨r, h, h2⟩
theorem qcall_ex {f : FuncId} {args : List PV} (h : ∃ r, PPure P f args r ∧ run P Q ops k (putE env d (.v r)) L H) : qcall P Q f args d ops k env L H := h
/-- A call that turns the heap. -/
def kcall (P : Program) (Q : RX → St → Prop) (f : FuncId) (args : List PV) (d : Option Nat) (ops : List RI) (k : List SI) (env : Nat → EV) (L : List (List PV)) (H : PH) : Prop :=
  PCalls P f args H fun r H' => run P Q ops k (putE env d (.v r)) L H'
theorem zzfi {f : FuncId} {args : List PV} : hcall P Q f (some args) d ops k env L H = kcall P Q f (fgL args) d ops k env L H := nr rfl
theorem kcall_congr {f : FuncId} {args args' : List PV} {H' : PH} (h : args = args') (h2 : H = H') : kcall P Q f args d ops k env L H = kcall P Q f args' d ops k env L H' := by rw [h, h2]
attribute [congr] qcall_congr kcall_congr
theorem kcall_intro {f : FuncId} {args : List PV} {K : PV → PH → Prop} (h : PCalls P f args H K) (h2 : ∀ r H', K r H' → run P Q ops k (putE env d (.v r)) L H') : kcall P Q f args d ops k env L H := h.mono h2

/-- A body's end, heap and all. -/
def endH (ps : Option (List PV)) (H : PH) (K : PV → PH → Prop) : Prop :=
  match ps with
  | some ps => ∃ H', HLe H' H ∧ ∃ r, (r = (retV ps).fg ∨ r = retV ps) ∧ K r H'
  | none => False
def endK (r : PV) (H : PH) (K : PV → PH → Prop) : Prop := ∃ H', HLe H' H ∧ ∃ q, (q = r.fg ∨ q = r) ∧ K q H'
theorem zzdc {ps : List PV} {K : PV → PH → Prop} : endH (some ps) H K = endK (retV ps) H K := nr rfl
theorem endH_congr {ps ps' : Option (List PV)} {K : PV → PH → Prop} (h : ps = ps') : endH ps H K = endH ps' H K := by rw [h]
theorem endK_congr {r r' : PV} {K : PV → PH → Prop} (h : r = r') : endK r H K = endK r' H K := by rw [h]
theorem endV_congr {ps ps' : Option (List PV)} {r : PV} (h : ps = ps') : endV ps r = endV ps' r := by rw [h]
attribute [congr] endH_congr endK_congr
theorem endK_intro {r : PV} {K : PV → PH → Prop} (h : K r.fg H) : endK r H K := ⟨H, HLe.refl H, _, .inl rfl, h⟩
theorem endK_raw {r : PV} {K : PV → PH → Prop} (h : K r H) : endK r H K := ⟨H, HLe.refl H, _, .inr rfl, h⟩
theorem endK_nil {r : PV} {K : PV → PH → Prop} (h : K r []) : endK r H K := ⟨[], HLe.nil H, _, .inr rfl, h⟩
theorem zzgn {rs : List RRes} {K : PV → PH → Prop} : fnPost rs K .ret ⟨env, L, H⟩ = endH (resV rs ⟨env, L, H⟩) H K := by
  simp only [fnPost, endH]; cases resV rs ⟨env, L, H⟩ <;> rfl
theorem zzgm {rs : List RRes} {K : PV → PH → Prop} : fnPost rs K .normal ⟨env, L, H⟩ = endH (resV rs ⟨env, L, H⟩) H K := by
  simp only [fnPost, endH]; cases resV rs ⟨env, L, H⟩ <;> rfl

theorem calls_of {q : RPar} {f : FuncId} {fn : Func} {n : Nat} {rs : List RRes} {rc : RCode} (hm : P.follows .mixedOrders = true) (hf : P.funcs[f]? = some fn) (hr : fnRes P q fn = some (n, rs, rc)) {args : List PV} {H : PH} {K : PV → PH → Prop} (hlen : args.length ≤ n)
    (h : go P (fnPost rs K) [.code rc] (initE args) [] H) : PCalls P f args H K := by
  unfold fnRes at hr
  split at hr
  · cases hr
  · rename_i hn
    split at hr
    · rename_i c hb
      split at hr
      · rename_i rc' rs' h1 h2
        cases hr
        refine fn_calls (q := q) hm hf hb (by simpa using hn) rfl h1 h2 hlen ?_
        have hmono : ∀ (rc : RCode) (R R' : RX → St → Prop) (s : St), (∀ x s, R x s → R' x s) → pwp P rc R s → pwp P rc R' s := by
          intro rc
          induction rc with
          | skip => intro R R' s hR h; exact hR _ _ h
          | region d ops => intro R R' s hR h; exact pops_mono h (hR _)
          | seq a b iha ihb =>
            intro R R' s hR h
            refine iha _ _ _ ?_ h
            intro x s h
            cases x <;> first | exact ihb _ _ _ hR h | exact hR _ _ h
          | cond c a b iha ihb =>
            intro R R' s hR h
            simp only [pwp] at h ⊢
            split at h
            · exact br_mono (iha _ _ _ hR) (ihb _ _ _ hR) h
            · exact h
          | block i a iha =>
            intro R R' s hR h
            refine iha _ _ _ ?_ h
            intro x s h
            cases x <;> first | exact hR _ _ h | skip
            simp only [RX.inBlock] at h ⊢
            split at h
            · rename_i e; rw [if_pos e]; exact hR _ _ h
            · rename_i e; rw [if_neg e]; exact hR _ _ h
          | loop a iha =>
            intro R R' s hR h
            obtain ⟨I, n, h0, h1⟩ := h
            refine ⟨I, n, h0, fun n s hI => iha _ _ _ ?_ (h1 n s hI)⟩
            intro x s h
            cases x <;> first | exact h | exact hR _ _ h
          | scope a iha =>
            intro R R' s hR h
            refine iha _ _ _ ?_ h
            intro x s h
            cases x <;> first | exact hR _ _ h | exact h
          | exit i => intro R R' s hR h; exact hR _ _ h
          | label i => intro R R' s hR h; exact hR _ _ h
          | goto i => intro R R' s hR h; exact hR _ _ h
          | ret => intro R R' s hR h; exact hR _ _ h
        exact hmono rc _ _ _ (fun x s h => by cases x <;> exact h) h
      · cases hr
    · cases hr
theorem calls_ok_of {q : RPar} {f : FuncId} {fn : Func} {n : Nat} {rs : List RRes} {rc : RCode} (hm : P.follows .mixedOrders = true) (hf : P.funcs[f]? = some fn) (hr : fnRes P q fn = some (n, rs, rc)) {args : List PV} {H : PH} {K : PV → PH → Prop} (hlen : args.length ≤ n)
    (h : okBL args → go P (fnPost rs K) [.code rc] (initE args) [] H) : PCalls P f args H K := by
  refine ⟨fn_enters hf hr, fun w hw vs h1 h2 => ?_⟩
  exact (calls_of hm hf hr hlen (h (RepL.okB _ h2))).2 w hw vs h1 h2

/-- a box that escapes. -/
def boxHE (P : Program) (Q : RX → St → Prop) (e : EV) (d : Option Nat) (ops : List RI) (k : List SI) (env : Nat → EV) (L : List (List PV)) (H : PH) : Prop :=
  match e with
  | .v p => ∀ b, H.get b = none → run P Q ops k (putE env d (.v (.ptr b 0))) L (H.set b (.cells p.cells))
  | _ => False
theorem zzhv {x : RO} : run P Q (⟨d, none, .boxH x⟩ :: ops) k env L H = boxHE P Q (evalE env x) d ops k env L H := by
  show pops P _ _ _ = _
  simp only [pops, pop, pact, boxHE]
  cases evalE env x <;> rfl
def bH (P : Program) (Q : RX → St → Prop) (cs : List PV) (d : Option Nat) (ops : List RI) (k : List SI) (env : Nat → EV) (L : List (List PV)) (H : PH) : Prop :=
  ∀ b, H.get b = none → run P Q ops k (putE env d (.v (.ptr b 0))) L (H.set b (.cells cs))
theorem zzbe {p : PV} : boxHE P Q (.v p) d ops k env L H = bH P Q p.cells d ops k env L H := nr rfl
theorem boxHE_congr {v v' : EV} (h : v = v') : boxHE P Q v d ops k env L H = boxHE P Q v' d ops k env L H := by rw [h]
theorem bH_congr {v v' : List PV} (h : v = v') : bH P Q v d ops k env L H = bH P Q v' d ops k env L H := by rw [h]
attribute [congr] boxHE_congr bH_congr
theorem bH_intro {cs : List PV} (h : ∀ b, H.get b = none → run P Q ops k (putE env d (.v (.ptr b 0))) L (H.set b (.cells cs))) : bH P Q cs d ops k env L H := h
def mkfnE : Fn → Option (List PV) → Option (List PV) → Option EV
  | f, some a, some c => some (.v (.fn f a c))
  | _, _, _ => none
theorem zzid {f : Fn} {a c : List RO} : run P Q (⟨d, none, .mkfn f a c⟩ :: ops) k env L H = run1 P Q (mkfnE f (pvs? (a.map (evalE env))) (pvs? (c.map (evalE env)))) d ops k env L H := by
  rw [run_val rfl]
  congr 1
  simp only [opVal, mkfnE]
  cases pvs? (a.map (evalE env)) <;> cases pvs? (c.map (evalE env)) <;> rfl
theorem zzfv {f : Fn} {a c : List PV} : mkfnE f (some a) (some c) = some (.v (.fn f a c)) := nr rfl
def fldE (agg : Bool) (off sz : Nat) : EV → Option EV
  | .v (.agg cs) => if agg = true then evA (sub cs off sz) else evV (nth cs off)
  | _ => none
theorem zzia {agg : Bool} {off sz : Nat} {x : RO} : run P Q (⟨d, none, .fld agg off sz x⟩ :: ops) k env L H = run1 P Q (fldE agg off sz (evalE env x)) d ops k env L H := by
  rw [run_val rfl]
  congr 1
  simp only [opVal, fldE]
  generalize evalE env x = e
  cases e with
  | v p => cases p with
    | agg cs =>
      cases agg
      · simp only [Bool.false_eq_true, if_false, evV, nth]; cases cs[off]? <;> rfl
      · simp only [if_true, evA, sub]; split <;> rfl
    | _ => rfl
  | _ => rfl
theorem zzdt {off sz : Nat} {cs : List PV} : fldE false off sz (.v (.agg cs)) = evV (nth cs off) := nr rfl
theorem zzdu {off sz : Nat} {cs : List PV} : fldE true off sz (.v (.agg cs)) = evA (sub cs off sz) := nr rfl
def sliE (sz : Nat) : Option (Tok × List PV) → Option (Option Int) → Option (Option Int) → Option (Option Int) → Option EV
  | some (tok, xs), some l, some h, some m => if allSz sz xs = true then (sliceL tok xs l h m).map .v else none
  | _, _, _, _ => none
theorem zzig {s : Nat} {x : RO} {l h m : Option RO} : run P Q (⟨d, none, .slc s x l h m⟩ :: ops) k env L H = run1 P Q (sliE s (asList? (evalE env x)) (optI (evalE env) l) (optI (evalE env) h) (optI (evalE env) m)) d ops k env L H := by
  rw [run_val rfl]
  congr 1
  simp only [opVal, sliE]
  cases asList? (evalE env x) with
  | none => rfl
  | some p =>
    obtain ⟨t, xs⟩ := p
    cases optI (evalE env) l <;> cases optI (evalE env) h <;> cases optI (evalE env) m <;> first | rfl | skip
    simp only [allSz_iff]
def appE (sz bytes : Nat) : Option (Tok × List PV) → Option (Tok × List PV) → Option EV
  | some (tok, xs), some (_, ys) =>
      if (∀ p ∈ xs, p.cells.length = sz) ∧ (∀ p ∈ ys, p.cells.length = sz) ∧ ((xs.length + ys.length) + (xs.length + ys.length) / 4 + 256) * bytes ≤ 2 ^ 48 ∧ xs.length + ys.length ≤ lenB then
        match tok with
        | .full => some (.v (.list (if ys.isEmpty = true then .full else .foreign) (xs ++ ys)))
        | _ => none
      else none
  | _, _ => none
theorem zzht {s b : Nat} {x y : RO} : run P Q (⟨d, none, .app s b false x y⟩ :: ops) k env L H = run1 P Q (appE s b (asList? (evalE env x)) (asList? (evalE env y))) d ops k env L H := by
  rw [run_val rfl]
  congr 1
theorem row_of {n bytes : Nat} (h : n ≤ lenB) (hb : bytes ≤ 200) : rowBytesOk n bytes := by
  unfold rowBytesOk
  rw [lenB_eq] at h
  calc (n + n / 4 + 256) * bytes ≤ (1099511627776 + 1099511627776 / 4 + 256) * 200 := Nat.mul_le_mul (by omega) hb
    _ ≤ 2 ^ 48 := by decide
theorem le_leB {n : Nat} (h : leB n = true) : n ≤ lenB := by simpa [leB] using h
theorem zzad {sz bytes : Nat} {xs ys : List PV} {t : Tok} (h1 : allSz sz xs = true) (h2 : allSz sz ys = true) (h3 : leB (xs.length + ys.length) = true) (hb : bytes ≤ 200) :
    appE sz bytes (some (.full, xs)) (some (t, ys)) = some (.v (.list (if ys.isEmpty = true then .full else .foreign) (xs ++ ys))) := by
  simp only [appE]
  rw [if_pos ⟨allSz_iff.1 h1, allSz_iff.1 h2, row_of (le_leB h3) hb, le_leB h3⟩]
theorem sli_lo {sz : Nat} {xs : List PV} {i : Int} (h : allSz sz xs = true) (h0 : 0 ≤ i) (h1 : i ≤ xs.length) : sliE sz (some (.foreign, xs)) (some (some i)) (some none) (some none) = some (.v (.list .foreign (xs.drop i.toNat))) := by
  simp only [sliE, if_pos h, sliceL, Option.getD_some, Option.getD_none]
  rw [if_pos ⟨h0, h1, Int.le_refl _⟩]
  simp only [isFull, Bool.false_eq_true, and_false, if_false, Option.map_some]
  rw [List.take_of_length_le (by simp; omega)]
theorem sli_hi {sz : Nat} {xs : List PV} {i : Int} (h : allSz sz xs = true) (h0 : 0 ≤ i) (h1 : i ≤ xs.length) : sliE sz (some (.foreign, xs)) (some none) (some (some i)) (some none) = some (.v (.list .foreign (xs.take i.toNat))) := by
  simp only [sliE, if_pos h, sliceL, Option.getD_some, Option.getD_none]
  rw [if_pos ⟨Int.le_refl _, h0, h1⟩]
  simp only [isFull, Bool.false_eq_true, and_false, if_false, Option.map_some]
  simp
theorem zzin {sz : Nat} {t : Tok} {xs : List PV} (h : allSz sz xs = true) : sliE sz (some (t, xs)) (some none) (some (some 0)) (some (some 0)) = some (.v (.list .full [])) := by
  simp only [sliE, if_pos h, sliceL, Option.getD_some, Option.getD_none]
  rw [if_pos ⟨Int.le_refl _, Int.le_refl _, Int.natCast_nonneg _⟩]
  simp
theorem zzgh {ρ : RO → EV} : optI ρ none = some none := nr rfl
def someI : Option Int → Option (Option Int)
  | some i => some (some i)
  | none => none
theorem zzgi {ρ : RO → EV} {x : RO} : optI ρ (some x) = someI (asInt? (ρ x)) := by simp only [optI, someI]; cases asInt? (ρ x) <;> rfl
theorem zzio {i : Int} : someI (some i) = some (some i) := nr rfl

/-! ### lists that grow -/
def Grow (H : PH) (tok : Tok) (n sz : Nat) : Prop := tok = .full ∨ ∃ b t, tok = .own b (n * sz) t sz ∧ H.get b = some (.row (n * sz) t)
theorem Grow.full {H : PH} {n sz : Nat} : Grow H .full n sz := .inl rfl
/-- The heap's cells, kept. -/
def Keeps (H H' : PH) : Prop := ∀ b cs, H.get b = some (.cells cs) → H'.get b = some (.cells cs)
theorem Keeps.refl (H : PH) : Keeps H H := fun _ _ h => h
theorem Keeps.trans {H H' H2 : PH} (h : Keeps H H') (k : Keeps H' H2) : Keeps H H2 := fun b cs e => k b cs (h b cs e)
def kapp (P : Program) (Q : RX → St → Prop) (sz bytes : Nat) (x y : Option (Tok × List PV)) (d : Option Nat) (ops : List RI) (k : List SI) (env : Nat → EV) (L : List (List PV)) (H : PH) : Prop :=
  match x, y with
  | some (tok, xs), some (_, ys) =>
      (∀ p ∈ xs, p.cells.length = sz) ∧ (∀ p ∈ ys, p.cells.length = sz) ∧ rowBytesOk (xs.length + ys.length) bytes ∧ xs.length + ys.length ≤ lenB ∧ ys ≠ [] ∧ 0 < sz ∧ (∀ p ∈ ys, p.cells.all cellP = true) ∧
      match tok with
      | .full => ∀ b tot, H.get b = none → run P Q ops k (putE env d (.v (.list (.own b ((xs.length + ys.length) * sz) tot sz) (xs ++ ys)))) L (H.set b (.row ((xs.length + ys.length) * sz) tot))
      | .own b0 e t0 s0 => s0 = sz ∧ H.get b0 = some (.row e t0) ∧
        ∀ b tot, (b = b0 ∨ H.get b = none) → run P Q ops k (putE env d (.v (.list (.own b ((xs.length + ys.length) * sz) tot sz) (xs ++ ys)))) L (H.set b (.row ((xs.length + ys.length) * sz) tot))
      | .foreign => False
  | _, _ => False
theorem zzic {s b : Nat} {x y : RO} : run P Q (⟨d, none, .app s b true x y⟩ :: ops) k env L H = kapp P Q s b (asList? (evalE env x)) (asList? (evalE env y)) d ops k env L H := by
  show pops P _ _ _ = _
  simp only [pops, pop, pact, kapp]
  cases asList? (evalE env x) with
  | none => rfl
  | some p =>
    cases asList? (evalE env y) with
    | none => rfl
    | some q =>
      obtain ⟨t, xs⟩ := p
      obtain ⟨t2, ys⟩ := q
      cases t <;> rfl
theorem kapp_congr {s b : Nat} {x y x' y' : Option (Tok × List PV)} {H' : PH} (h : x = x') (h2 : y = y') (h3 : H = H') : kapp P Q s b x y d ops k env L H = kapp P Q s b x' y' d ops k env L H' := by rw [h, h2, h3]
attribute [congr] kapp_congr
theorem kapp_intro {sz bytes : Nat} {tok t2 : Tok} {xs ys : List PV} (hg : Grow H tok xs.length sz) (h1 : allSz sz xs = true) (h2 : allSz sz ys = true) (h3 : xs.length + ys.length ≤ lenB) (hb : bytes ≤ 200) (hne : ys ≠ []) (h0 : 0 < sz) (hc : (ys.all fun p => p.cells.all cellP) = true)
    (hk : ∀ tok' H', Grow H' tok' (xs.length + ys.length) sz → Keeps H H' → run P Q ops k (putE env d (.v (.list tok' (xs ++ ys)))) L H') :
    kapp P Q sz bytes (some (tok, xs)) (some (t2, ys)) d ops k env L H := by
  refine ⟨allSz_iff.1 h1, allSz_iff.1 h2, row_of h3 hb, h3, hne, h0, ?_, ?_⟩
  · intro p hp
    exact List.all_eq_true.1 hc p hp
  · have key : ∀ b tot, (∀ cs, H.get b ≠ some (.cells cs)) → run P Q ops k (putE env d (.v (.list (.own b ((xs.length + ys.length) * sz) tot sz) (xs ++ ys)))) L (H.set b (.row ((xs.length + ys.length) * sz) tot)) := by
      intro b tot hb
      refine hk _ _ (.inr ⟨b, tot, rfl, by rw [PH.get_set, if_pos rfl]⟩) ?_
      intro b' cs e
      rw [PH.get_set]
      split
      · rename_i e2; subst e2; exact absurd e (hb cs)
      · exact e
    rcases hg with rfl | ⟨b, t, rfl, hb⟩
    · intro b tot hn
      exact key b tot fun cs => by rw [hn]; simp
    · refine ⟨rfl, hb, fun b' tot h => key b' tot fun cs => ?_⟩
      rcases h with rfl | h
      · rw [hb]; simp
      · rw [h]; simp

end
end Go.Pv

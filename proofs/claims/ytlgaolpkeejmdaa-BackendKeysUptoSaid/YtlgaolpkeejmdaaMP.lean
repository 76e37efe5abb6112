import Derived.Test.YtlgaolpkeejmdaaMB
import Derived.Test.YtlgaolpkeejmdaaMC
import Derived.Defers
set_option linter.unusedSimpArgs false
set_option linter.unusedVariables false
namespace Go.Pv
section
variable {P : Program}
/-- As PCalls, for a call that was deferred. -/
def PCallsD (P : Program) (f : FuncId) (args : List PV) (H : PH) (K : PV → PH → Prop) : Prop :=
  Enters P f ∧ ∀ w hw vs u, WRep w hw H → RepL (memOf w hw) args vs → CallsD P f vs.toArray u w fun e u' w' =>
    u' = u ∧ ∃ v hw' r H', e = .returned v ∧ ExtF H w hw w' hw' H' ∧ WRep w' hw' H' ∧ Rep (memOf w' hw') r v ∧ K r H'
theorem PCallsD.mono {f : FuncId} {args : List PV} {H : PH} {K K' : PV → PH → Prop} (h : PCallsD P f args H K) (hk : ∀ r H', K r H' → K' r H') : PCallsD P f args H K' :=
  ⟨h.1, fun w hw vs u h1 h2 => (h.2 w hw vs u h1 h2).mono fun _ _ _ ⟨e0, v, hw', r, H', e1, e2, e3, e4, e5⟩ => ⟨e0, v, hw', r, H', e1, e2, e3, e4, hk _ _ e5⟩⟩
theorem start_sim {f : FuncId} {fn : Func} {args : List PV} {H : PH} (hlen : args.length ≤ fn.ntmps) {w : World} {hw : Nat → Nat} {vs : List Value} (h1 : WRep w hw H) (h2 : RepL (memOf w hw) args vs) :
    Sim [] w hw H fn.ntmps w hw (fun _ => 0) ⟨initE args, [], H⟩ { tmps := vs.toArray ++ Array.replicate (fn.ntmps - vs.toArray.size) undef, defers := [] } := by
  have hl := RepL_length h2
  refine ⟨⟨ExtF.refl _ _ _, by simpa [locs] using h1, fun b hb => by simp [locs] at hb, fun i j hi => by simp at hi, fun i hi => by simp at hi⟩, by simp; omega, fun i hi => ?_, rfl⟩
  simp only [initE_get]
  cases hp : args[i]? with
  | none =>
    have hge : args.length ≤ i := by simpa using hp
    have : (vs.toArray ++ Array.replicate (fn.ntmps - vs.toArray.size) undef).getD i undef = undef := by
      simp only [Array.getD]
      split
      · rename_i h
        simp only [Array.getInternal_eq_getElem]
        rw [Array.getElem_append_right (by simp; omega)]
        simp
      · rfl
    rw [this]
    simp [undefE, RepEV, Rep, undef, atomB]
  | some p =>
    obtain ⟨v, hv, hr⟩ := RepL_get h2 hp
    have hlt : i < vs.length := (List.getElem?_eq_some_iff.1 hv).1
    have : (vs.toArray ++ Array.replicate (fn.ntmps - vs.toArray.size) undef).getD i undef = v := by
      simp only [Array.getD]
      rw [dif_pos (by simp; omega)]
      simp only [Array.getInternal_eq_getElem]
      rw [Array.getElem_append_left (by simpa using hlt)]
      have := (List.getElem?_eq_some_iff.1 hv).2
      simpa using this
    rw [this]
    exact hr
theorem fn_callsD {q : RPar} {f : FuncId} {fn : Func} {c : Code} {rc : RCode} {rs : List RRes} {n : Nat} (hm : P.follows .mixedOrders = true) (hf : P.funcs[f]? = some fn) (hb : fn.body = some c) (hn : (fn.name == "runtime.NumGoroutine") = false) (hnt : fn.ntmps = n)
    (hc : resolveC P q n c = some rc) (hrs : rRes P n fn.results.toList = some rs) {args : List PV} {H : PH} {K : PV → PH → Prop} (hlen : args.length ≤ n)
    (h : pwp P rc (fnPost rs K) ⟨initE args, [], H⟩) : PCallsD P f args H K := by
  subst hnt
  refine ⟨enters_of hf (by rw [hb]; rfl) hn, fun w hw vs u h1 h2 => callsD_of_wp hf hb ?_⟩
  have hsim := start_sim (f := f) (fn := fn) hlen h1 h2
  refine wp_mono (code_sound hm hc h hsim) ?_
  rintro e a' w' ⟨x, st, hw', lam', he, hs', hr'⟩
  cases e <;> cases x <;> simp only [exR] at he
  · exact ⟨hs'.defers, fin_sound hs' hrs hr'⟩
  · exact hr'.elim
  · exact hr'.elim
  · exact ⟨hs'.defers, fin_sound hs' hrs hr'⟩
def isPtrP : PV → Bool
  | .ptr _ _ => true
  | _ => false
theorem ptrs_any {m m' : Mem} : ∀ {caps : List PV} {vs : List Value}, caps.all isPtrP = true → RepL m caps vs → RepL m' caps vs
  | [], vs, _, h => h
  | p :: ps, vs, hc, h => by
    simp only [List.all_cons, Bool.and_eq_true] at hc
    obtain ⟨v, rest, rfl, h1, h2⟩ := by simpa [RepL] using h
    refine RepL_cons.2 ⟨?_, ptrs_any hc.2 h2⟩
    cases p <;> first | exact h1 | (simp [isPtrP] at hc; done)
/-- What stands at the end of a body whose one deferred call is still to come. -/
def endD (P : Program) (rs : List RRes) (y : RO) (K : PV → PH → Prop) (g : FuncId) (caps : List PV) : RX → St → Prop
  | .normal, s | .ret, s => evalE s.env y = .v (.fn (.func g) [] caps) ∧ PCallsD P g caps s.H fun _ H' =>
      match resV rs ⟨s.env, s.L, H'⟩ with | some ps => ∃ H1, HLe H1 H' ∧ ∃ r, (r = (retV ps).fg ∨ r = retV ps) ∧ K r H1 | none => False
  | _, _ => False
theorem pops_soundT {q : RPar} {w0 : World} {hw0 : Nat → Nat} {H0 : PH} {ds : List Deferred} {n : Nat} {ops : Array Oper} {K : St → Prop} {Q : Exit → Act → World → Prop} {tail : List Nat}
    (hk : ∀ s' a' w' hw' lam', K s' → Sim ds w0 hw0 H0 n w' hw' lam' s' a' → wpOps P ops Q tail a' w') :
    ∀ {l : List Nat} {rs : List RI}, ResAll P q n ops l rs → ∀ {w hw lam s a}, pops P rs K s → Sim ds w0 hw0 H0 n w hw lam s a → wpOps P ops Q (l ++ tail) a w
  | [], [], _, w, hw, lam, s, a, h, hs => hk _ _ _ _ _ h hs
  | i :: l, r :: rs, hr, w, hw, lam, s, a, h, hs => by
    obtain ⟨⟨o, ho, hro⟩, hr2⟩ := hr
    have := pop_sound (Q := Q) (next := wpOps P ops Q (l ++ tail)) hro hs h fun s' a' w' hw' lam' k1 k2 => pops_soundT hk hr2 k1 k2
    simp only [List.cons_append, wpOps, ho]
    split at this
    · rename_i hw; rw [if_pos hw]; exact .inl this
    · rename_i hw; rw [if_neg hw]; exact this
  | [], _ :: _, hr, _, _, _, _, _, _, _ => hr.elim
  | _ :: _, [], hr, _, _, _, _, _, _, _ => hr.elim
/-- **A function that defers one closure**: its body's head, the region that defers, the rest. -/
theorem fn_defers {q : RPar} {f : FuncId} {fn : Func} {A B : Code} {id : Nat} {ops : Array Oper} {os : List Oper} {od : Oper} {x : Operand} {ts : Array TypeId} {y : RO} {rcA rcB : RCode} {rpre : List RI} {rs : List RRes} {n : Nat} {g : FuncId} (hm : P.follows .mixedOrders = true) (hf : P.funcs[f]? = some fn)
    (hb : fn.body = some (.seq A (.seq (.region id ops false) B))) (hn : (fn.name == "runtime.NumGoroutine") = false) (hnt : fn.ntmps = n)
    (hops : ops.toList = os ++ [od]) (hod : od.op = .defer ⟨.value x, #[], ts⟩) (hog : od.guard = none) (hdst : od.dst = none)
    (hA : resolveC P q n A = some rcA) (hpre : rOpers P q n ops os = some rpre) (hx : rO n x = some y) (hB : resolveC P q n B = some rcB) (hrs : rRes P n fn.results.toList = some rs)
    {args : List PV} {H : PH} {K : PV → PH → Prop} (hlen : args.length ≤ n)
    (h : pwp P rcA (RX.then (fun s1 => pops P rpre (fun s2 => ∃ caps, caps.all isPtrP = true ∧ evalE s2.env y = .v (.fn (.func g) [] caps) ∧ pwp P rcB (endD P rs y K g caps) s2) s1) (fun _ _ => False)) ⟨initE args, [], H⟩) : PCalls P f args H K := by
  subst hnt
  refine ⟨enters_of hf (by rw [hb]; rfl) hn, fun w hw vs h1 h2 => calls_of_wp_defers hf hb ?_⟩
  have hsim := start_sim (f := f) (fn := fn) hlen h1 h2
  refine wp_seq (wp_mono (code_sound hm hA h hsim) ?_)
  rintro e a1 w1 ⟨x1, s1, hw1, lam1, he, hs1, hr1⟩
  cases e <;> cases x1 <;> simp only [exR] at he
  rotate_left
  · exact hr1.elim
  · exact hr1.elim
  · exact hr1.elim
  refine wp_seq (wp_region ?_)
  have hsz : ops.size = os.length + 1 := by rw [← Array.length_toList, hops]; simp
  have hall := resAll_of (P := P) (q := q) (n := fn.ntmps) (ops := ops) (os := os) 0 (fun j o hj => by
    have : ops.toList[j]? = some o := by rw [hops, List.getElem?_append_left (List.getElem?_eq_some_iff.1 hj).1]; exact hj
    simpa using this) hpre
  rw [← List.range_eq_range'] at hall
  rw [hsz, List.range_succ]
  refine pops_soundT (q := q) (n := fn.ntmps) (w0 := w) (hw0 := hw) (H0 := H) (ds := []) (tail := [os.length]) ?_ hall hr1 hs1
  rintro s2 a2 w2 hw2 lam2 ⟨caps, hcaps, hy, hB2⟩ hs2
  have hoda : ops[os.length]? = some od := by
    have : ops.toList[os.length]? = some od := by rw [hops]; simp
    simpa using this
  have hev := hs2.evals x y hx
  rw [hy] at hev
  simp only [RepEV, Rep] at hev
  obtain ⟨va, vc, hval, hva, hvc⟩ := hev
  have hva0 : va = #[] := by
    have : va.toList = [] := by simpa [RepL] using hva
    exact Array.toList_eq_nil_iff.1 this
  subst hva0
  have hrun : (execOp a2.eval od).run P w2 = .ok (.defer { target := .fn (.func g) vc, args := #[] }) w2 := by
    have e : execOp a2.eval od = (do pure (Next.defer (← resolve a2.eval ⟨.value x, #[], ts⟩ od.type)) : Sem Next) := by
      unfold execOp; rw [hod]
    rw [e]
    show (do pure (Next.defer (← Deferred.ofValue (a2.eval x) (#[].map a2.eval))) : Sem Next).run P w2 = _
    rw [hval]
    have em : (#[] : Array Operand).map a2.eval = #[] := by simp
    have e2 : Deferred.ofValue (.func (.func g) #[] vc) #[] = (pure { target := .fn (.func g) vc, args := #[] } : Sem Deferred) := by simp [Deferred.ofValue]
    rw [em, e2]
    rfl
  simp only [wpOps, hoda]
  have hwant : Region.wanted od (yielded ops a2.tmps) = true := by simp [Region.wanted, hog]
  rw [if_pos hwant]
  left
  unfold Oper.wp
  rw [hrun, Oper.upon_defer, hdst]
  have hs3 : Sim [{ target := .fn (.func g) vc, args := #[] }] w hw H fn.ntmps w2 hw2 lam2 s2 ({ a2 with defers := { target := .fn (.func g) vc, args := #[] } :: a2.defers }.put none undef) :=
    ⟨hs2.mem, hs2.size, hs2.env, by show _ :: a2.defers = _; rw [hs2.defers]⟩
  refine wp_mono (code_sound hm hB hB2 hs3) ?_
  have fin : ∀ {a' w' hw' lam' st}, Sim [{ target := .fn (.func g) vc, args := #[] }] w hw H fn.ntmps w' hw' lam' st a' → endD P rs y K g caps .ret st →
      Leaves P fn a'.tmps (fun e w' => ∃ v hw' r H', e = .returned v ∧ ExtF H w hw w' hw' H' ∧ WRep w' hw' H' ∧ Rep (memOf w' hw') r v ∧ K r H') a'.defers .returning w' := by
    rintro a' w' hw' lam' st hs' ⟨hy', hD⟩
    rw [hs'.defers]
    refine leaves_cons (f := g) (args := vc) (by simp) ?_ ?_
    · show (callFunc g (#[] ++ vc)).run P w' = _
      rw [Array.empty_append]
      exact hD.1 vc w'
    · have hcv : RepL (memOf w' hw') caps vc.toList := ptrs_any hcaps hvc
      have := hD.2 w' hw' vc.toList .returning hs'.mem.wrep hcv
      simp only [Array.toArray_toList] at this
      refine this.mono ?_
      rintro e u' w'' ⟨rfl, v, hw'', r, H', rfl, hx1, hx2, hx3, hx4⟩
      simp only [settle]
      have hs4 : Sim [{ target := .fn (.func g) vc, args := #[] }] w hw H fn.ntmps w'' hw'' lam' ⟨st.env, st.L, H'⟩ a' :=
        ⟨hs'.mem.step hx1 hx2, hs'.size, fun i hi => (hs'.env i hi).mono hx1.mono (Nat.le_refl _) (fun _ _ => rfl), hs'.defers⟩
      obtain ⟨v2, hv2, hv3⟩ := fin_sound hs4 hrs hx4
      obtain ⟨v', hw3, r', H3, e1, e2, e3, e4, e5⟩ := hv3
      exact ⟨v2, hv2, v', hw3, r', H3, e1, e2, e3, e4, e5⟩
  rintro e a' w' ⟨x', st, hw', lam', he, hs', hr'⟩
  cases e <;> cases x' <;> simp only [exR] at he
  · exact fin hs' hr'
  · exact hr'.elim
  · exact hr'.elim
  · exact fin hs' hr'
end
end Go.Pv

set_option linter.unusedSimpArgs false
set_option linter.unusedVariables false
namespace Go.Pv
/-- A function that defers one closure, ahead of the rest of its body. -/
def deferRes (P : Program) (q : RPar) (fn : Func) : Option (Nat × List RRes × RCode × List RI × RO × RCode) :=
  if fn.name == "runtime.NumGoroutine" then none else
  match fn.body with
  | some (.seq A (.seq (.region _ ops false) B)) =>
    match ops.toList.getLast?, resolveC P q fn.ntmps A, rOpers P q fn.ntmps ops ops.toList.dropLast, resolveC P q fn.ntmps B, rRes P fn.ntmps fn.results.toList with
    | some ⟨none, .defer ⟨.value x, ⟨[]⟩, _⟩, _, _, _, none⟩, some rcA, some rpre, some rcB, some rs => match rO fn.ntmps x with
      | some y => some (fn.ntmps, rs, rcA, rpre, y, rcB)
      | none => none
    | _, _, _, _, _ => none
  | _ => none
section
variable {P : Program}
theorem defers_of {q : RPar} {f : FuncId} {fn : Func} {n : Nat} {rs : List RRes} {rcA rcB : RCode} {rpre : List RI} {y : RO} {g : FuncId} (hm : P.follows .mixedOrders = true) (hf : P.funcs[f]? = some fn) (hr : deferRes P q fn = some (n, rs, rcA, rpre, y, rcB)) {args : List PV} {H : PH} {K : PV → PH → Prop} (hlen : args.length ≤ n)
    (h : go P (fun _ _ => False) [.code rcA, .inv fun s1 => run P (fun _ _ => False) rpre [.inv fun s2 => ∃ caps, caps.all isPtrP = true ∧ evalE s2.env y = .v (.fn (.func g) [] caps) ∧ go P (endD P rs y K g caps) [.code rcB] s2.env s2.L s2.H] s1.env s1.L s1.H] (initE args) [] H) : PCalls P f args H K := by
  unfold deferRes at hr
  split at hr
  · cases hr
  · rename_i hn
    split at hr
    · rename_i A id ops B hb
      split at hr
      · rename_i x ts ty pos aft rcA' rpre' rcB' rs' hl hA hp hB hR
        split at hr
        · rename_i y' hy
          cases hr
          have hops : ops.toList = ops.toList.dropLast ++ [⟨none, .defer ⟨.value x, #[], ts⟩, ty, pos, aft, none⟩] := by
            obtain ⟨l, e⟩ := List.getLast?_eq_some_iff.1 hl
            rw [e]; simp
          exact fn_defers (q := q) hm hf hb (by simpa using hn) rfl hops rfl rfl rfl hA hp hy hB hR hlen h
        · cases hr
      · cases hr
    · cases hr
end
end Go.Pv

set_option linter.unusedVariables false
set_option linter.unusedSimpArgs false
set_option exponentiation.threshold 2000
namespace Go.Pv
open Ieee
/-- A whole number as a double's bits. -/
def fl (n : Int) : Nat := FloatKind.nearest .f64 n
theorem log2_mul_pow {m j : Nat} (h : m ≠ 0) : (m * 2 ^ j).log2 = m.log2 + j := by
  rw [Nat.log2_eq_iff (by have := Nat.two_pow_pos j; exact Nat.mul_ne_zero h (by omega))]
  have h1 := Nat.log2_self_le h
  have h2 := Nat.lt_log2_self (n := m)
  refine ⟨?_, ?_⟩
  · rw [Nat.pow_add]; exact Nat.mul_le_mul_right _ h1
  · rw [show m.log2 + j + 1 = (m.log2 + 1) + j by omega, Nat.pow_add]
    exact (Nat.mul_lt_mul_right (Nat.two_pow_pos j)).2 h2
theorem cut_zero (neg : Bool) (n : Nat) : Toward.even.cut neg n 0 = n := by
  simp [Toward.cut, Nat.mod_one]
theorem cut_exact (neg : Bool) {a d : Nat} (h : a ≠ 0) : Toward.even.cut neg (a * 2 ^ d) d = a := by
  have hl := log2_mul_pow (m := a) (j := d) h
  have hm : min d ((a * 2 ^ d).log2 + 2) = d := by rw [hl]; omega
  have hp := Nat.two_pow_pos d
  have h0 : 2 ^ d ≠ 0 := by omega
  simp only [Toward.cut, hm, Nat.one_shiftLeft, Nat.mul_div_cancel _ hp, Nat.mul_mod_left]
  simp [h0]
theorem dbl_least : double.leastPlace = -1074 := by decide
theorem dbl_binade : double.binade = 2 ^ 52 := by decide
theorem dbl_inf : double.infRung = 2047 * 2 ^ 52 := by decide
theorem dbl_sign : double.signWeight = 2 ^ 63 := by decide
theorem dbl_frac : double.fractionBits = 52 := rfl
/-- The rung of a whole number. -/
def rungOf (m : Nat) : Nat := (m.log2 + 1022) * 2 ^ 52 + m * 2 ^ (52 - m.log2)
theorem log2_lt53 {m : Nat} (h : m ≠ 0) (h2 : m < 2 ^ 53) : m.log2 ≤ 52 := by
  have := (Nat.log2_lt h).2 h2
  omega
theorem sig_bounds {m : Nat} (h : m ≠ 0) (h2 : m < 2 ^ 53) : 2 ^ 52 ≤ m * 2 ^ (52 - m.log2) ∧ m * 2 ^ (52 - m.log2) < 2 ^ 53 := by
  have hk := log2_lt53 h h2
  have h1 := Nat.log2_self_le h
  have h3 := Nat.lt_log2_self (n := m)
  have e1 : 2 ^ 52 = 2 ^ m.log2 * 2 ^ (52 - m.log2) := by rw [← Nat.pow_add]; congr 1; omega
  have e2 : 2 ^ 53 = 2 ^ (m.log2 + 1) * 2 ^ (52 - m.log2) := by rw [← Nat.pow_add]; congr 1; omega
  rw [e1, e2]
  exact ⟨Nat.mul_le_mul_right _ h1, (Nat.mul_lt_mul_right (Nat.two_pow_pos _)).2 h3⟩
theorem rung_lt {m : Nat} (h : m ≠ 0) (h2 : m < 2 ^ 53) : rungOf m < 2047 * 2 ^ 52 := by
  have hk := log2_lt53 h h2
  have := (sig_bounds h h2).2
  unfold rungOf
  omega
theorem nearest_int (neg : Bool) {m : Nat} (j : Nat) (h : m ≠ 0) (h2 : m < 2 ^ 53) : double.nearest neg (m * 2 ^ j) (-(j : Int)) = double.word neg (rungOf m) := by
  have hk := log2_lt53 h h2
  have hp := Nat.two_pow_pos j
  have hne : m * 2 ^ j ≠ 0 := Nat.mul_ne_zero h (by omega)
  unfold Format.nearest
  rw [if_neg hne]
  simp only [log2_mul_pow h, dbl_least, dbl_binade, dbl_inf, dbl_frac]
  have hlast : max (-(j : Int) + ((m.log2 + j : Nat) : Int) - ((52 : Nat) : Int)) (-1074) = (m.log2 : Int) - 52 := by omega
  rw [hlast]
  have hup : ((m.log2 : Int) - 52 - -1074).toNat = m.log2 + 1022 := by omega
  rw [hup]
  have hkept : Toward.even.cut neg ((m * 2 ^ j) <<< (-(j : Int) - ((m.log2 : Int) - 52)).toNat) ((m.log2 : Int) - 52 - -(j : Int)).toNat = m * 2 ^ (52 - m.log2) := by
    by_cases hj : j ≤ 52 - m.log2
    · have e1 : (-(j : Int) - ((m.log2 : Int) - 52)).toNat = 52 - m.log2 - j := by omega
      have e2 : ((m.log2 : Int) - 52 - -(j : Int)).toNat = 0 := by omega
      rw [e1, e2, cut_zero, Nat.shiftLeft_eq, Nat.mul_assoc, ← Nat.pow_add]
      congr 2; omega
    · have e1 : (-(j : Int) - ((m.log2 : Int) - 52)).toNat = 0 := by omega
      have e2 : ((m.log2 : Int) - 52 - -(j : Int)).toNat = j - (52 - m.log2) := by omega
      rw [e1, e2, Nat.shiftLeft_zero]
      have e3 : m * 2 ^ j = (m * 2 ^ (52 - m.log2)) * 2 ^ (j - (52 - m.log2)) := by
        rw [Nat.mul_assoc, ← Nat.pow_add]; congr 2; omega
      rw [e3]
      exact cut_exact neg (Nat.mul_ne_zero h (by have := Nat.two_pow_pos (52 - m.log2); omega))
  rw [hkept]
  have := rung_lt h h2
  unfold rungOf at this ⊢
  rw [Nat.min_eq_left (by omega)]
theorem read_word (neg : Bool) {m : Nat} (h : m ≠ 0) (h2 : m < 2 ^ 53) : double.read (double.word neg (rungOf m)) = .number neg (m * 2 ^ (52 - m.log2)) (-((52 - m.log2 : Nat) : Int)) := by
  have hk := log2_lt53 h h2
  obtain ⟨s1, s2⟩ := sig_bounds h h2
  have hr := rung_lt h h2
  have hr1 : rungOf m < 2 ^ 63 := by omega
  have w1 : double.word neg (rungOf m) / 2 ^ 63 % 2 = if neg then 1 else 0 := by
    unfold Format.word; rw [dbl_sign]
    cases neg
    · simp only [Bool.false_eq_true, if_false]; omega
    · simp only [if_true]; omega
  have w2 : double.word neg (rungOf m) % 2 ^ 63 = rungOf m := by
    unfold Format.word; rw [dbl_sign]
    cases neg
    · simp only [Bool.false_eq_true, if_false]; omega
    · simp only [if_true]; omega
  unfold Format.read
  simp only [dbl_sign, w1, w2, dbl_binade, dbl_inf, dbl_least]
  generalize hM : m * 2 ^ (52 - m.log2) = M at *
  have hrung : rungOf m = (m.log2 + 1022) * 2 ^ 52 + M := by unfold rungOf; rw [hM]
  rw [if_neg (by omega), if_pos (by omega)]
  have a1 : rungOf m % 2 ^ 52 = M - 2 ^ 52 := by omega
  have a2 : rungOf m / 2 ^ 52 = m.log2 + 1023 := by omega
  rw [a1, a2]
  have a3 : 2 ^ 52 + (M - 2 ^ 52) = M := by omega
  rw [a3]
  have a4 : (-1074 : Int) + ((m.log2 + 1023 - 1 : Nat) : Int) = -((52 - m.log2 : Nat) : Int) := by omega
  rw [a4]
  cases neg <;> rfl
theorem read_zero (neg : Bool) : double.read (double.word neg 0) = .number neg 0 (-((1074 : Nat) : Int)) := by cases neg <;> decide
/-- What a datum is worth, as a whole number. -/
def IsV (d : Datum) (s : Bool) (n : Int) : Prop := ∃ (M p : Nat), d = .number s M (-(p : Int)) ∧ signed s M 0 = n * 2 ^ p ∧ (n = 0 → M = 0)
theorem signed0 (s : Bool) (M : Nat) : signed s M 0 = if s then -(M : Int) else M := by simp [signed]
theorem signed_up (s : Bool) (M u : Nat) : signed s M u = signed s M 0 * 2 ^ u := by
  simp only [signed, Nat.shiftLeft_eq, Nat.pow_zero, Nat.mul_one]
  cases s <;> simp [Int.natCast_mul, Int.natCast_pow, Int.neg_mul]
theorem fl_v {n : Int} (h : n.natAbs < 2 ^ 53) : IsV (double.read (fl n)) (decide (n < 0)) n := by
  by_cases hz : n = 0
  · subst hz
    have : fl 0 = double.word false 0 := by decide
    rw [this, read_zero]
    exact ⟨0, 1074, rfl, by simp [signed], fun _ => rfl⟩
  · have hn : n.natAbs ≠ 0 := by omega
    have e : fl n = double.word (decide (n < 0)) (rungOf n.natAbs) := by
      have := nearest_int (decide (n < 0)) 0 hn h
      simpa [fl, FloatKind.nearest, FloatKind.encode, FloatKind.format, Format.write] using this
    rw [e, read_word _ hn h]
    refine ⟨_, _, rfl, ?_, fun h => absurd h hz⟩
    rw [signed0]
    by_cases hneg : n < 0
    · simp only [hneg, decide_true, if_true, Int.natCast_mul, Int.natCast_pow]
      have : (n.natAbs : Int) = -n := by omega
      rw [this, Int.neg_mul, Int.neg_neg]; rfl
    · simp only [hneg, decide_false, Bool.false_eq_true, if_false, Int.natCast_mul, Int.natCast_pow]
      have : (n.natAbs : Int) = n := by omega
      rw [this]; rfl
theorem IsV.opp {d : Datum} {s : Bool} {n : Int} (h : IsV d s n) : IsV d.opposite (!s) (-n) := by
  obtain ⟨M, p, rfl, h1, h2⟩ := h
  refine ⟨M, p, rfl, ?_, fun e => h2 (by omega)⟩
  rw [signed0] at h1 ⊢
  rw [Int.neg_mul, ← h1]
  cases s <;> simp
theorem order_v {d e : Datum} {s t : Bool} {n m : Int} (h : IsV d s n) (k : IsV e t m) : d.order e = some (compare n m) := by
  obtain ⟨M, p, rfl, h1, _⟩ := h
  obtain ⟨N, q, rfl, k1, _⟩ := k
  simp only [Datum.order]
  rw [signed_up, signed_up t, h1, k1]
  have e1 : (-(p : Int) - min (-(p : Int)) (-(q : Int))).toNat = max p q - p := by omega
  have e2 : (-(q : Int) - min (-(p : Int)) (-(q : Int))).toNat = max p q - q := by omega
  have f1 : n * 2 ^ p * 2 ^ (max p q - p) = n * 2 ^ (max p q) := by rw [Int.mul_assoc, ← Int.pow_add]; congr 2; omega
  have f2 : m * 2 ^ q * 2 ^ (max p q - q) = m * 2 ^ (max p q) := by rw [Int.mul_assoc, ← Int.pow_add]; congr 2; omega
  rw [e1, e2, f1, f2]
  congr 1
  have hp : (0 : Int) < 2 ^ (max p q) := Int.pow_pos (by omega)
  simp only [compare, compareOfLessAndEq]
  have l1 : n * 2 ^ (max p q) < m * 2 ^ (max p q) ↔ n < m := Int.mul_lt_mul_right hp
  have l2 : n * 2 ^ (max p q) = m * 2 ^ (max p q) ↔ n = m := Int.mul_eq_mul_right_iff (by omega)
  simp only [l1, l2]
theorem sum_v {d e : Datum} {s t : Bool} {n m : Int} (h : IsV d s n) (k : IsV e t m) (hs : n + m = 0 → (s && t) = false) (hb : (n + m).natAbs < 2 ^ 53) : (d.sum e).map double.write = some (fl (n + m)) := by
  obtain ⟨M, p, rfl, h1, _⟩ := h
  obtain ⟨N, q, rfl, k1, _⟩ := k
  simp only [Datum.sum]
  rw [signed_up, signed_up t, h1, k1]
  have e0 : min (-(p : Int)) (-(q : Int)) = -((max p q : Nat) : Int) := by omega
  rw [e0]
  have e1 : (-(p : Int) - -((max p q : Nat) : Int)).toNat = max p q - p := by omega
  have e2 : (-(q : Int) - -((max p q : Nat) : Int)).toNat = max p q - q := by omega
  have f1 : n * 2 ^ p * 2 ^ (max p q - p) = n * 2 ^ (max p q) := by rw [Int.mul_assoc, ← Int.pow_add]; congr 2; omega
  have f2 : m * 2 ^ q * 2 ^ (max p q - q) = m * 2 ^ (max p q) := by rw [Int.mul_assoc, ← Int.pow_add]; congr 2; omega
  rw [e1, e2, f1, f2, ← Int.add_mul]
  have hp : (0 : Int) < 2 ^ (max p q) := Int.pow_pos (by omega)
  generalize max p q = u at *
  by_cases hz : n + m = 0
  · rw [hz, Int.zero_mul, if_pos rfl, hs hz]
    simp only [Option.map_some, Int.natAbs_zero, Format.write, Format.nearest, if_true]
    congr 1
  · have hnz : (n + m) * 2 ^ u ≠ 0 := Int.mul_ne_zero hz (by omega)
    rw [if_neg hnz]
    have hneg : decide ((n + m) * 2 ^ u < 0) = decide (n + m < 0) := by
      rw [decide_eq_decide]
      constructor
      · intro hh
        apply Classical.byContradiction
        intro hc
        have := Int.mul_nonneg (show 0 ≤ n + m by omega) (Int.le_of_lt hp)
        omega
      · intro hh
        exact Int.mul_neg_of_neg_of_pos hh hp
    rw [hneg]
    have habs : ((n + m) * 2 ^ u).natAbs = (n + m).natAbs * 2 ^ u := by
      rw [Int.natAbs_mul, Int.natAbs_pow]; rfl
    rw [habs]
    have hn : (n + m).natAbs ≠ 0 := by omega
    have w1 := nearest_int (decide (n + m < 0)) u hn hb
    have w2 := nearest_int (decide (n + m < 0)) 0 hn hb
    simp only [Option.map_some, Format.write, w1]
    congr 1
    rw [← w2]
    simp [fl, FloatKind.nearest, FloatKind.encode, FloatKind.format, Format.write]
theorem fl_sub {a b : Int} (ha : 0 ≤ a) (ha2 : a < 2 ^ 52) (hb : 0 ≤ b) (hb2 : b < 2 ^ 52) : double.sub (fl a) (fl b) = some (fl (a - b)) := by
  have h1 := fl_v (n := a) (by omega)
  have h2 := (fl_v (n := b) (by omega)).opp
  have := sum_v h1 h2 (fun _ => by simp [show ¬ a < 0 by omega]) (by omega)
  rw [show a + -b = a - b by omega] at this
  exact this
theorem fl_order {a b : Int} (ha : a.natAbs < 2 ^ 53) (hb : b.natAbs < 2 ^ 53) : double.order (fl a) (fl b) = some (compare a b) := order_v (fl_v ha) (fl_v hb)
end Go.Pv

namespace Go.Pv
open Go.Proofs
def pf2 (f : FuncId) : Bool := !([112, 113, 114, 132, 133, 135, 145, 64, 65, 68, 97, 99, 100, 101, 102, 104, 129, 130] : List Nat).contains f
/-- legate/legatelaw22.works -/
def rc61 : RCode := (.seq (.region false [⟨(some 0), none, .mov (.c (.scal (.bool false)))⟩])
 (.seq (.region false [⟨(some 12), none, .build [(.scal (.string ⟨#[]⟩)), (.list .full []), (.scal (.int .i64 0)), (.list .full []), (.scal (.string ⟨#[]⟩)), (.scal (.bool false)), (.scal (.int .i64 0))] [(0, 1, (.c (.scal (.string ⟨#[97, 110, 110]⟩)))), (4, 1, (.c (.scal (.string ⟨#[119, 101, 98]⟩)))), (6, 1, (.c (.scal (.int .i64 900))))]⟩,
  ⟨(some 13), none, .callP 62 [(.c (.scal (.string ⟨#[119, 101, 98]⟩))), (.c (.scal (.int .i64 1)))]⟩,
  ⟨(some 14), none, .callP 62 [(.c (.scal (.string ⟨#[99, 101, 110, 116, 114, 101]⟩))), (.c (.scal (.int .i64 1)))]⟩,
  ⟨(some 15), none, .callP 62 [(.c (.scal (.string ⟨#[]⟩))), (.c (.scal (.int .i64 7)))]⟩,
  ⟨(some 16), none, .callP 63 [(.t 12), (.t 13), (.t 14), (.t 15), (.c (.scal (.int .i64 100)))]⟩,
  ⟨(some 11), none, .mov (.t 16)⟩,
  ⟨(some 17), none, .ext (.t 11) 0⟩,
  ⟨(some 18), none, .ext (.t 11) 1⟩,
  ⟨(some 1), none, .alloc [(.scal (.string ⟨#[]⟩)), (.scal (.string ⟨#[]⟩)), (.scal (.int .i64 0)), (.scal (.string ⟨#[]⟩)), (.scal (.int .i64 0)), (.list .full []), (.scal (.int .i64 0)), (.scal (.string ⟨#[]⟩)), (.scal (.int .i64 0)), (.list .full []), (.scal (.int .i64 0)), (.scal (.int .i64 0)), (.scal (.int .i64 0))]⟩,
  ⟨none, none, .store 13 (.t 1) (.t 17)⟩,
  ⟨(some 2), none, .mov (.t 18)⟩])
 (.seq (.region false [⟨(some 19), none, .callP 62 [(.c (.scal (.string ⟨#[119, 101, 98]⟩))), (.c (.scal (.int .i64 1)))]⟩,
  ⟨(some 20), none, .callF 64 [(.c (.scal (.string ⟨#[119, 101, 98]⟩))), (.t 19), (.c (.scal (.int .i64 5)))]⟩,
  ⟨(some 3), none, .mov (.t 20)⟩])
 (.seq (.seq (.region false [⟨(some 21), none, .mov (.t 2)⟩,
  ⟨(some 22), none, .un .not (.t 21)⟩,
  ⟨(some 23), none, .mov (.t 22)⟩,
  ⟨(some 24), (some (23, false)), .mov (.t 3)⟩,
  ⟨(some 25), (some (23, false)), .isnil false (.t 24)⟩,
  ⟨(some 26), none, .pick (.t 23) (.c (.scal (.bool true))) (.t 25)⟩])
 (.cond (.t 26) (.seq (.region false [⟨(some 0), none, .mov (.c (.scal (.bool false)))⟩])
 .ret)
 .skip))
 (.seq (.region false [⟨(some 28), none, .loadA 13 (.t 1)⟩,
  ⟨(some 29), none, .callP 49 [(.t 28), (.c (.scal (.int .i64 200))), (.c (.scal (.int .i64 1)))]⟩,
  ⟨(some 27), none, .mov (.t 29)⟩,
  ⟨(some 30), none, .ext (.t 27) 0⟩,
  ⟨(some 31), none, .ext (.t 27) 1⟩,
  ⟨(some 4), none, .alloc [(.scal (.int .i64 0)), (.scal (.string ⟨#[]⟩)), (.scal (.int .i64 0)), (.list .full [])]⟩,
  ⟨none, none, .store 4 (.t 4) (.t 30)⟩,
  ⟨(some 5), none, .mov (.t 31)⟩])
 (.seq (.region false [⟨(some 33), none, .mov (.t 3)⟩,
  ⟨(some 34), none, .loadA 4 (.t 4)⟩,
  ⟨(some 35), none, .callF 65 [(.t 33), (.c (.scal (.int .i64 200))), (.t 34)]⟩,
  ⟨(some 32), none, .mov (.t 35)⟩,
  ⟨(some 36), none, .ext (.t 32) 0⟩,
  ⟨(some 37), none, .ext (.t 32) 1⟩,
  ⟨(some 6), none, .alloc [(.scal (.string ⟨#[]⟩)), (.list .full []), (.scal (.int .i64 0)), (.list .full []), (.scal (.string ⟨#[]⟩)), (.scal (.bool false)), (.scal (.int .i64 0)), (.scal (.string ⟨#[]⟩)), (.scal (.int .i64 0)), (.scal (.int .i64 0)), (.scal (.string ⟨#[]⟩)), (.scal (.int .i64 0)), (.list .full []), (.scal (.string ⟨#[]⟩)), (.scal (.int .i64 0)), (.scal (.int .i64 0)), (.scal (.int .i64 0)), (.scal (.string ⟨#[]⟩)), (.scal (.int .i64 0)), (.list .full []), (.scal (.int .i64 0)), (.scal (.string ⟨#[]⟩)), (.scal (.int .i64 0)), (.list .full [])]⟩,
  ⟨none, none, .store 24 (.t 6) (.t 36)⟩,
  ⟨(some 7), none, .mov (.t 37)⟩])
 (.seq (.region false [⟨(some 39), none, .mov (.t 3)⟩,
  ⟨(some 40), none, .loadA 4 (.t 4)⟩,
  ⟨(some 41), none, .callF 65 [(.t 39), (.c (.scal (.int .i64 201))), (.t 40)]⟩,
  ⟨(some 38), none, .mov (.t 41)⟩,
  ⟨(some 42), none, .ext (.t 38) 0⟩,
  ⟨(some 43), none, .ext (.t 38) 1⟩,
  ⟨(some 8), none, .alloc [(.scal (.string ⟨#[]⟩)), (.list .full []), (.scal (.int .i64 0)), (.list .full []), (.scal (.string ⟨#[]⟩)), (.scal (.bool false)), (.scal (.int .i64 0)), (.scal (.string ⟨#[]⟩)), (.scal (.int .i64 0)), (.scal (.int .i64 0)), (.scal (.string ⟨#[]⟩)), (.scal (.int .i64 0)), (.list .full []), (.scal (.string ⟨#[]⟩)), (.scal (.int .i64 0)), (.scal (.int .i64 0)), (.scal (.int .i64 0)), (.scal (.string ⟨#[]⟩)), (.scal (.int .i64 0)), (.list .full []), (.scal (.int .i64 0)), (.scal (.string ⟨#[]⟩)), (.scal (.int .i64 0)), (.list .full [])]⟩,
  ⟨none, none, .store 24 (.t 8) (.t 42)⟩,
  ⟨(some 9), none, .mov (.t 43)⟩])
 (.seq (.region false [⟨(some 44), none, .mov (.t 3)⟩,
  ⟨(some 45), none, .callF 97 [(.t 44)]⟩,
  ⟨(some 10), none, .mov (.t 45)⟩])
 (.seq (.region false [⟨(some 46), none, .mov (.t 5)⟩,
  ⟨(some 47), none, .bin .eql 33 (.t 46) (.c (.scal (.int .i64 0)))⟩,
  ⟨(some 48), none, .mov (.t 47)⟩,
  ⟨(some 49), (some (48, true)), .mov (.t 7)⟩,
  ⟨(some 50), (some (48, true)), .bin .eql 33 (.t 49) (.c (.scal (.int .i64 0)))⟩,
  ⟨(some 51), none, .pick (.t 48) (.t 50) (.c (.scal (.bool false)))⟩,
  ⟨(some 52), none, .mov (.t 51)⟩,
  ⟨(some 53), (some (52, true)), .faddr 0 (.t 6)⟩,
  ⟨(some 54), (some (52, true)), .faddr 0 (.t 53)⟩,
  ⟨(some 55), (some (52, true)), .load1 (.t 54)⟩,
  ⟨(some 56), (some (52, true)), .bin .eql 9 (.t 55) (.c (.scal (.string ⟨#[97, 110, 110]⟩)))⟩,
  ⟨(some 57), none, .pick (.t 52) (.t 56) (.c (.scal (.bool false)))⟩,
  ⟨(some 58), none, .mov (.t 57)⟩,
  ⟨(some 59), (some (58, true)), .mov (.t 9)⟩,
  ⟨(some 60), (some (58, true)), .bin .eql 33 (.t 59) (.c (.scal (.int .i64 52)))⟩,
  ⟨(some 61), none, .pick (.t 58) (.t 60) (.c (.scal (.bool false)))⟩,
  ⟨(some 62), none, .mov (.t 61)⟩,
  ⟨(some 63), (some (62, true)), .mov (.t 10)⟩,
  ⟨(some 64), (some (62, true)), .lenL (.t 63)⟩,
  ⟨(some 65), (some (62, true)), .bin .eql 3 (.t 64) (.c (.scal (.int .i64 2)))⟩,
  ⟨(some 66), none, .pick (.t 62) (.t 65) (.c (.scal (.bool false)))⟩,
  ⟨(some 67), none, .mov (.t 66)⟩,
  ⟨(some 68), (some (67, true)), .mov (.t 10)⟩,
  ⟨(some 69), (some (67, true)), .iaddr 10 (.t 68) (.c (.scal (.int .i64 0)))⟩,
  ⟨(some 70), (some (67, true)), .faddr 0 (.t 69)⟩,
  ⟨(some 71), (some (67, true)), .load1 (.t 70)⟩,
  ⟨(some 72), (some (67, true)), .bin .eql 127 (.t 71) (.c (.scal (.int .i64 4)))⟩,
  ⟨(some 73), none, .pick (.t 67) (.t 72) (.c (.scal (.bool false)))⟩,
  ⟨(some 74), none, .mov (.t 73)⟩,
  ⟨(some 75), (some (74, true)), .mov (.t 10)⟩,
  ⟨(some 76), (some (74, true)), .iaddr 10 (.t 75) (.c (.scal (.int .i64 1)))⟩,
  ⟨(some 77), (some (74, true)), .faddr 0 (.t 76)⟩,
  ⟨(some 78), (some (74, true)), .load1 (.t 77)⟩,
  ⟨(some 79), (some (74, true)), .bin .eql 127 (.t 78) (.c (.scal (.int .i64 5)))⟩,
  ⟨(some 80), none, .pick (.t 74) (.t 79) (.c (.scal (.bool false)))⟩,
  ⟨(some 81), none, .mov (.t 80)⟩,
  ⟨(some 82), (some (81, true)), .mov (.t 10)⟩,
  ⟨(some 83), (some (81, true)), .iaddr 10 (.t 82) (.c (.scal (.int .i64 1)))⟩,
  ⟨(some 84), (some (81, true)), .faddr 9 (.t 83)⟩,
  ⟨(some 85), (some (81, true)), .load1 (.t 84)⟩,
  ⟨(some 86), (some (81, true)), .bin .eql 33 (.t 85) (.c (.scal (.int .i64 52)))⟩,
  ⟨(some 87), none, .pick (.t 81) (.t 86) (.c (.scal (.bool false)))⟩,
  ⟨(some 0), none, .mov (.t 87)⟩])
 .ret)))))))))
theorem ok61 : fnRes Try.prog ⟨pf2, fun d => ([] : List Nat).contains d, fun d => ([] : List Nat).contains d⟩ Try.f61 = some (88, [.t 0], rc61) := by kernel_rfl
/-- legate/legatelaw22.Made -/
def rc63 : RCode := (.seq (.region false [⟨(some 5), none, .box (.t 0)⟩,
  ⟨(some 6), none, .box (.t 1)⟩,
  ⟨(some 7), none, .box (.t 2)⟩,
  ⟨(some 8), none, .box (.t 3)⟩,
  ⟨(some 10), none, .alloc [(.scal (.string ⟨#[]⟩)), (.scal (.string ⟨#[]⟩)), (.scal (.int .i64 0)), (.scal (.string ⟨#[]⟩)), (.scal (.int .i64 0)), (.list .full []), (.scal (.int .i64 0)), (.scal (.string ⟨#[]⟩)), (.scal (.int .i64 0)), (.list .full []), (.scal (.int .i64 0)), (.scal (.int .i64 0)), (.scal (.int .i64 0))]⟩,
  ⟨(some 11), none, .mov (.c (.scal (.bool false)))⟩])
 (.seq (.region false [⟨(some 18), none, .loadA 7 (.t 5)⟩,
  ⟨(some 19), none, .loadA 4 (.t 6)⟩,
  ⟨(some 20), none, .loadA 4 (.t 7)⟩,
  ⟨(some 21), none, .callP 98 [(.t 18), (.t 19), (.t 20)]⟩,
  ⟨(some 17), none, .mov (.t 21)⟩,
  ⟨(some 22), none, .ext (.t 17) 0⟩,
  ⟨(some 23), none, .ext (.t 17) 1⟩,
  ⟨(some 12), none, .alloc [(.scal (.int .i64 0)), (.scal (.string ⟨#[]⟩)), (.scal (.int .i64 0)), (.list .full [])]⟩,
  ⟨none, none, .store 4 (.t 12) (.t 22)⟩,
  ⟨(some 13), none, .mov (.t 23)⟩])
 (.seq (.region false [⟨(some 24), none, .mov (.t 4)⟩,
  ⟨(some 25), none, .faddr 6 (.t 5)⟩,
  ⟨(some 26), none, .load1 (.t 25)⟩,
  ⟨(some 27), none, .build [(.scal (.int .i64 0)), (.scal (.int .i64 0))] [(0, 1, (.t 24)), (1, 1, (.t 26))]⟩,
  ⟨(some 14), none, .alloc [(.scal (.int .i64 0)), (.scal (.int .i64 0))]⟩,
  ⟨none, none, .store 2 (.t 14) (.t 27)⟩])
 (.seq (.region false [⟨(some 29), none, .faddr 4 (.t 5)⟩,
  ⟨(some 30), none, .load1 (.t 29)⟩,
  ⟨(some 31), none, .loadA 4 (.t 8)⟩,
  ⟨(some 32), none, .faddr 0 (.t 5)⟩,
  ⟨(some 33), none, .load1 (.t 32)⟩,
  ⟨(some 34), none, .loadA 2 (.t 14)⟩,
  ⟨(some 35), none, .loadA 4 (.t 12)⟩,
  ⟨(some 36), none, .build [(.scal (.string ⟨#[]⟩)), (.scal (.int .i64 0)), (.scal (.int .i64 0)), (.scal (.string ⟨#[]⟩)), (.scal (.int .i64 0)), (.list .full []), (.scal (.string ⟨#[]⟩)), (.scal (.int .i64 0)), (.scal (.int .i64 0)), (.scal (.int .i64 0)), (.scal (.string ⟨#[]⟩)), (.scal (.int .i64 0)), (.list .full [])] [(0, 1, (.t 30)), (1, 1, (.c (.scal (.int .i64 1)))), (2, 4, (.t 31)), (6, 1, (.t 33)), (7, 2, (.t 34)), (9, 4, (.t 35))]⟩,
  ⟨(some 37), none, .loadA 4 (.t 6)⟩,
  ⟨(some 38), none, .callP 22 [(.t 36), (.t 37)]⟩,
  ⟨(some 28), none, .mov (.t 38)⟩,
  ⟨(some 39), none, .ext (.t 28) 0⟩,
  ⟨(some 40), none, .ext (.t 28) 1⟩,
  ⟨(some 15), none, .alloc [(.scal (.int .i64 0)), (.scal (.string ⟨#[]⟩)), (.scal (.int .i64 0)), (.list .full [])]⟩,
  ⟨none, none, .store 4 (.t 15) (.t 39)⟩,
  ⟨(some 16), none, .mov (.t 40)⟩])
 (.seq (.region false [⟨(some 41), none, .faddr 4 (.t 5)⟩,
  ⟨(some 42), none, .load1 (.t 41)⟩,
  ⟨(some 43), none, .faddr 0 (.t 5)⟩,
  ⟨(some 44), none, .load1 (.t 43)⟩,
  ⟨(some 45), none, .loadA 4 (.t 15)⟩,
  ⟨(some 46), none, .loadA 4 (.t 8)⟩,
  ⟨(some 47), none, .loadA 2 (.t 14)⟩,
  ⟨(some 48), none, .build [(.scal (.string ⟨#[]⟩)), (.scal (.string ⟨#[]⟩)), (.scal (.int .i64 0)), (.scal (.string ⟨#[]⟩)), (.scal (.int .i64 0)), (.list .full []), (.scal (.int .i64 0)), (.scal (.string ⟨#[]⟩)), (.scal (.int .i64 0)), (.list .full []), (.scal (.int .i64 0)), (.scal (.int .i64 0)), (.scal (.int .i64 0))] [(0, 1, (.t 42)), (1, 1, (.t 44)), (2, 4, (.t 45)), (6, 4, (.t 46)), (10, 1, (.c (.scal (.int .i64 1)))), (11, 2, (.t 47))]⟩,
  ⟨(some 49), none, .mov (.t 13)⟩,
  ⟨(some 50), none, .bin .eql 33 (.t 49) (.c (.scal (.int .i64 0)))⟩,
  ⟨(some 51), none, .mov (.t 50)⟩,
  ⟨(some 52), (some (51, true)), .mov (.t 16)⟩,
  ⟨(some 53), (some (51, true)), .bin .eql 33 (.t 52) (.c (.scal (.int .i64 0)))⟩,
  ⟨(some 54), none, .pick (.t 51) (.t 53) (.c (.scal (.bool false)))⟩,
  ⟨none, none, .store 13 (.t 10) (.t 48)⟩,
  ⟨(some 11), none, .mov (.t 54)⟩])
 .ret)))))
theorem ok63 : fnRes Try.prog ⟨pf2, fun d => ([] : List Nat).contains d, fun d => ([] : List Nat).contains d⟩ Try.f63 = some (55, [.cellA 10 13, .t 11], rc63) := by kernel_rfl
/-- legate/backend.New -/
def rc64 : RCode := (.seq (.region false [⟨(some 4), none, .box (.t 1)⟩,
  ⟨(some 6), none, .mov (.c (.scal (.pointer none)))⟩])
 (.seq (.sreg [.loc 4] [⟨(some 7), none, .mov (.t 0)⟩,
  ⟨(some 8), none, .loadA 4 (.t 4)⟩,
  ⟨(some 9), none, .mov (.t 2)⟩,
  ⟨(some 10), none, .callF 99 [(.t 9)]⟩,
  ⟨(some 11), none, .build [(.scal (.string ⟨#[]⟩)), (.scal (.int .i64 0)), (.scal (.string ⟨#[]⟩)), (.scal (.int .i64 0)), (.list .full []), (.scal (.pointer none)), (.list .full [])] [(0, 1, (.t 7)), (1, 4, (.t 8)), (5, 1, (.t 10))]⟩,
  ⟨(some 12), none, .boxH (.t 11)⟩,
  ⟨(some 6), none, .mov (.t 12)⟩])
 .ret))
theorem ok64 : fnRes Try.prog ⟨pf2, fun d => ([12] : List Nat).contains d, fun d => ([] : List Nat).contains d⟩ Try.f64 = some (13, [.t 6], rc64) := by kernel_rfl
/-- legate/legateref13.Large -/
def rc66 : RCode := (.seq (.region false [⟨(some 1), none, .box (.t 0)⟩,
  ⟨(some 2), none, .mov (.c (.scal (.bool false)))⟩])
 (.seq (.region false [⟨(some 5), none, .faddr 0 (.t 1)⟩,
  ⟨(some 6), none, .load1 (.t 5)⟩,
  ⟨(some 7), none, .bi .len #[9] 3 [(.t 6)]⟩,
  ⟨(some 8), none, .faddr 4 (.t 1)⟩,
  ⟨(some 9), none, .load1 (.t 8)⟩,
  ⟨(some 10), none, .bi .len #[9] 3 [(.t 9)]⟩,
  ⟨(some 11), none, .bin .add 3 (.t 7) (.t 10)⟩,
  ⟨(some 3), none, .mov (.t 11)⟩])
 (.seq (.seq (.region false [⟨(some 4), none, .mov (.c (.scal (.int .i64 0)))⟩])
 (.block 0 (.loop (.seq (.seq (.region false [⟨(some 12), none, .mov (.t 4)⟩,
  ⟨(some 13), none, .faddr 3 (.t 1)⟩,
  ⟨(some 14), none, .load1 (.t 13)⟩,
  ⟨(some 15), none, .lenL (.t 14)⟩,
  ⟨(some 16), none, .bin .lss 3 (.t 12) (.t 15)⟩])
 (.cond (.t 16) .skip
 (.exit 0)))
 (.seq (.block 1 (.region false [⟨(some 19), none, .mov (.t 3)⟩,
  ⟨(some 20), none, .bin .add 3 (.t 19) (.c (.scal (.int .i64 1)))⟩,
  ⟨(some 21), none, .faddr 3 (.t 1)⟩,
  ⟨(some 22), none, .load1 (.t 21)⟩,
  ⟨(some 23), none, .mov (.t 4)⟩,
  ⟨(some 24), none, .iaddr 1 (.t 22) (.t 23)⟩,
  ⟨(some 25), none, .load1 (.t 24)⟩,
  ⟨(some 26), none, .bi .len #[9] 3 [(.t 25)]⟩,
  ⟨(some 27), none, .bin .add 3 (.t 20) (.t 26)⟩,
  ⟨(some 3), none, .mov (.t 27)⟩]))
 (.region false [⟨(some 17), none, .mov (.t 4)⟩,
  ⟨(some 18), none, .bin .add 3 (.t 17) (.c (.scal (.int .i64 1)))⟩,
  ⟨(some 4), none, .mov (.t 18)⟩]))))))
 (.seq (.region false [⟨(some 28), none, .mov (.t 3)⟩,
  ⟨(some 29), none, .faddr 1 (.t 1)⟩,
  ⟨(some 30), none, .load1 (.t 29)⟩,
  ⟨(some 31), none, .lenL (.t 30)⟩,
  ⟨(some 32), none, .bin .add 3 (.t 28) (.t 31)⟩,
  ⟨(some 33), none, .bin .gtr 3 (.t 32) (.c (.scal (.int .i64 1000)))⟩,
  ⟨(some 2), none, .mov (.t 33)⟩])
 .ret))))
theorem ok66 : fnRes Try.prog ⟨pf2, fun d => ([] : List Nat).contains d, fun d => ([] : List Nat).contains d⟩ Try.f66 = some (34, [.t 2], rc66) := by kernel_rfl
/-- (*legate/backend.Acceptor).Rekey -/
def rc68 : RCode := (.seq (.region false [⟨(some 3), none, .box (.t 1)⟩])
 (.region false [⟨(some 4), none, .mov (.t 0)⟩,
  ⟨(some 5), none, .loadA 4 (.t 3)⟩,
  ⟨(some 6), none, .nilchk (.t 4)⟩,
  ⟨(some 7), none, .faddr 1 (.t 6)⟩,
  ⟨none, none, .store 4 (.t 7) (.t 5)⟩]))
theorem ok68 : fnRes Try.prog ⟨pf2, fun d => ([] : List Nat).contains d, fun d => ([] : List Nat).contains d⟩ Try.f68 = some (8, [], rc68) := by kernel_rfl
/-- legate/authz.Same -/
def rc69 : RCode := (.seq (.region false [⟨(some 2), none, .box (.t 0)⟩,
  ⟨(some 3), none, .box (.t 1)⟩,
  ⟨(some 4), none, .mov (.c (.scal (.bool false)))⟩])
 (.seq (.region false [⟨(some 5), none, .faddr 0 (.t 2)⟩,
  ⟨(some 6), none, .load1 (.t 5)⟩,
  ⟨(some 7), none, .faddr 0 (.t 3)⟩,
  ⟨(some 8), none, .load1 (.t 7)⟩,
  ⟨(some 9), none, .bin .eql 9 (.t 6) (.t 8)⟩,
  ⟨(some 10), none, .mov (.t 9)⟩,
  ⟨(some 11), (some (10, true)), .faddr 2 (.t 2)⟩,
  ⟨(some 12), (some (10, true)), .load1 (.t 11)⟩,
  ⟨(some 13), (some (10, true)), .faddr 2 (.t 3)⟩,
  ⟨(some 14), (some (10, true)), .load1 (.t 13)⟩,
  ⟨(some 15), (some (10, true)), .bin .eql 3 (.t 12) (.t 14)⟩,
  ⟨(some 16), none, .pick (.t 10) (.t 15) (.c (.scal (.bool false)))⟩,
  ⟨(some 17), none, .mov (.t 16)⟩,
  ⟨(some 18), (some (17, true)), .faddr 4 (.t 2)⟩,
  ⟨(some 19), (some (17, true)), .load1 (.t 18)⟩,
  ⟨(some 20), (some (17, true)), .faddr 4 (.t 3)⟩,
  ⟨(some 21), (some (17, true)), .load1 (.t 20)⟩,
  ⟨(some 22), (some (17, true)), .bin .eql 9 (.t 19) (.t 21)⟩,
  ⟨(some 23), none, .pick (.t 17) (.t 22) (.c (.scal (.bool false)))⟩,
  ⟨(some 24), none, .mov (.t 23)⟩,
  ⟨(some 25), (some (24, true)), .faddr 5 (.t 2)⟩,
  ⟨(some 26), (some (24, true)), .load1 (.t 25)⟩,
  ⟨(some 27), (some (24, true)), .faddr 5 (.t 3)⟩,
  ⟨(some 28), (some (24, true)), .load1 (.t 27)⟩,
  ⟨(some 29), (some (24, true)), .bin .eql 4 (.t 26) (.t 28)⟩,
  ⟨(some 30), none, .pick (.t 24) (.t 29) (.c (.scal (.bool false)))⟩,
  ⟨(some 31), none, .mov (.t 30)⟩,
  ⟨(some 32), (some (31, true)), .faddr 6 (.t 2)⟩,
  ⟨(some 33), (some (31, true)), .load1 (.t 32)⟩,
  ⟨(some 34), (some (31, true)), .faddr 6 (.t 3)⟩,
  ⟨(some 35), (some (31, true)), .load1 (.t 34)⟩,
  ⟨(some 36), (some (31, true)), .bin .eql 3 (.t 33) (.t 35)⟩,
  ⟨(some 37), none, .pick (.t 31) (.t 36) (.c (.scal (.bool false)))⟩,
  ⟨(some 38), none, .mov (.t 37)⟩,
  ⟨(some 39), (some (38, true)), .faddr 1 (.t 2)⟩,
  ⟨(some 40), (some (38, true)), .load1 (.t 39)⟩,
  ⟨(some 41), (some (38, true)), .faddr 1 (.t 3)⟩,
  ⟨(some 42), (some (38, true)), .load1 (.t 41)⟩,
  ⟨(some 43), (some (38, true)), .callP 106 [(.t 40), (.t 42)]⟩,
  ⟨(some 44), none, .pick (.t 38) (.t 43) (.c (.scal (.bool false)))⟩,
  ⟨(some 45), none, .mov (.t 44)⟩,
  ⟨(some 46), (some (45, true)), .faddr 3 (.t 2)⟩,
  ⟨(some 47), (some (45, true)), .load1 (.t 46)⟩,
  ⟨(some 48), (some (45, true)), .faddr 3 (.t 3)⟩,
  ⟨(some 49), (some (45, true)), .load1 (.t 48)⟩,
  ⟨(some 50), (some (45, true)), .callP 107 [(.t 47), (.t 49)]⟩,
  ⟨(some 51), none, .pick (.t 45) (.t 50) (.c (.scal (.bool false)))⟩,
  ⟨(some 4), none, .mov (.t 51)⟩])
 .ret))
theorem ok69 : fnRes Try.prog ⟨pf2, fun d => ([] : List Nat).contains d, fun d => ([] : List Nat).contains d⟩ Try.f69 = some (52, [.t 4], rc69) := by kernel_rfl
/-- legate/authz.Server -/
def rc70 : RCode := (.seq (.region false [⟨(some 2), none, .box (.t 0)⟩,
  ⟨(some 3), none, .box (.t 1)⟩,
  ⟨(some 4), none, .alloc [(.scal (.string ⟨#[]⟩)), (.list .full []), (.scal (.int .i64 0)), (.list .full []), (.scal (.string ⟨#[]⟩)), (.scal (.bool false)), (.scal (.int .i64 0))]⟩,
  ⟨(some 5), none, .mov (.c (.scal (.int .i64 0)))⟩])
 (.seq (.region false [⟨(some 9), none, .loadA 4 (.t 2)⟩,
  ⟨(some 10), none, .callP 80 [(.t 9)]⟩,
  ⟨(some 8), none, .mov (.t 10)⟩,
  ⟨(some 11), none, .ext (.t 8) 0⟩,
  ⟨(some 12), none, .ext (.t 8) 1⟩,
  ⟨(some 6), none, .alloc [(.scal (.string ⟨#[]⟩)), (.list .full []), (.scal (.int .i64 0)), (.list .full []), (.scal (.string ⟨#[]⟩)), (.scal (.bool false)), (.scal (.int .i64 0))]⟩,
  ⟨none, none, .store 7 (.t 6) (.t 11)⟩,
  ⟨(some 7), none, .mov (.t 12)⟩])
 (.seq (.block 0 (.seq (.region false [⟨(some 14), none, .mov (.t 7)⟩,
  ⟨(some 15), none, .bin .neq 33 (.t 14) (.c (.scal (.int .i64 0)))⟩,
  ⟨(some 13), none, .mov (.t 15)⟩])
 (.cond (.t 13) (.seq (.region false [⟨(some 16), none, .build [(.scal (.string ⟨#[]⟩)), (.list .full []), (.scal (.int .i64 0)), (.list .full []), (.scal (.string ⟨#[]⟩)), (.scal (.bool false)), (.scal (.int .i64 0))] []⟩,
  ⟨(some 17), none, .mov (.t 7)⟩,
  ⟨none, none, .store 7 (.t 4) (.t 16)⟩,
  ⟨(some 5), none, .mov (.t 17)⟩])
 .ret)
 (.seq (.region true [⟨(some 19), none, .faddr 3 (.t 2)⟩,
  ⟨(some 20), none, .load1 (.t 19)⟩,
  ⟨(some 21), none, .iaddr 4 (.t 20) (.c (.scal (.int .i64 1)))⟩,
  ⟨(some 22), none, .loadA 4 (.t 21)⟩,
  ⟨(some 23), none, .loadA 4 (.t 3)⟩,
  ⟨(some 24), none, .faddr 3 (.t 2)⟩,
  ⟨(some 25), none, .load1 (.t 24)⟩,
  ⟨(some 26), none, .iaddr 4 (.t 25) (.c (.scal (.int .i64 0)))⟩,
  ⟨(some 27), none, .loadA 4 (.t 26)⟩,
  ⟨(some 28), none, .callP 108 [(.t 22), (.t 23), (.c (.scal (.int .i64 18))), (.t 27)]⟩,
  ⟨(some 29), none, .un .not (.t 28)⟩,
  ⟨(some 18), none, .mov (.t 29)⟩])
 (.cond (.t 18) (.seq (.region false [⟨(some 30), none, .build [(.scal (.string ⟨#[]⟩)), (.list .full []), (.scal (.int .i64 0)), (.list .full []), (.scal (.string ⟨#[]⟩)), (.scal (.bool false)), (.scal (.int .i64 0))] []⟩,
  ⟨none, none, .store 7 (.t 4) (.t 30)⟩,
  ⟨(some 5), none, .mov (.c (.scal (.int .i64 62)))⟩])
 .ret)
 .skip)))))
 (.seq (.region false [⟨(some 31), none, .loadA 7 (.t 6)⟩,
  ⟨none, none, .store 7 (.t 4) (.t 31)⟩,
  ⟨(some 5), none, .mov (.c (.scal (.int .i64 0)))⟩])
 .ret))))
theorem ok70 : fnRes Try.prog ⟨pf2, fun d => ([] : List Nat).contains d, fun d => ([] : List Nat).contains d⟩ Try.f70 = some (32, [.cellA 4 7, .t 5], rc70) := by kernel_rfl
/-- (*legate/backend.Acceptor).Log -/
def rc97 : RCode := (.seq (.region false [⟨(some 2), none, .mov (.c (.list .full []))⟩])
 (.seq (.region false [⟨(some 4), none, .mov (.t 0)⟩,
  ⟨(some 5), none, .nilchk (.t 4)⟩,
  ⟨(some 6), none, .faddr 6 (.t 5)⟩,
  ⟨(some 7), none, .load1 (.t 6)⟩,
  ⟨(some 3), none, .mov (.t 7)⟩])
 (.seq (.region false [⟨(some 8), none, .mov (.t 0)⟩,
  ⟨(some 9), none, .nilchk (.t 8)⟩,
  ⟨(some 10), none, .faddr 6 (.t 9)⟩,
  ⟨none, none, .store 1 (.t 10) (.c (.list .full []))⟩])
 (.seq (.region false [⟨(some 11), none, .mov (.t 3)⟩,
  ⟨(some 2), none, .mov (.t 11)⟩])
 .ret))))
theorem ok97 : fnRes Try.prog ⟨pf2, fun d => ([] : List Nat).contains d, fun d => ([] : List Nat).contains d⟩ Try.f97 = some (12, [.t 2], rc97) := by kernel_rfl
/-- legate/replay.New -/
def rc99 : RCode := (.seq (.region false [⟨(some 2), none, .mov (.c (.scal (.pointer none)))⟩])
 (.seq (.region false [⟨(some 3), none, .mov (.t 0)⟩,
  ⟨(some 4), none, .bi .max #[3, 3] 3 [(.t 3), (.c (.scal (.int .i64 0)))]⟩,
  ⟨(some 5), none, .build [(.scal (.int .i64 0)), (.list .full [])] [(0, 1, (.t 4))]⟩,
  ⟨(some 6), none, .boxH (.t 5)⟩,
  ⟨(some 2), none, .mov (.t 6)⟩])
 .ret))
theorem ok99 : fnRes Try.prog ⟨pf2, fun d => ([6] : List Nat).contains d, fun d => ([] : List Nat).contains d⟩ Try.f99 = some (7, [.t 2], rc99) := by kernel_rfl
/-- (*legate/backend.Acceptor).Accept$1 -/
def rc100 : RCode := (.region false [⟨(some 4), none, .load1 (.t 0)⟩,
  ⟨(some 5), none, .load1 (.t 1)⟩,
  ⟨(some 6), none, .loadA 24 (.t 2)⟩,
  ⟨(some 7), none, .load1 (.t 3)⟩,
  ⟨(some 8), none, .callF 101 [(.t 4), (.t 5), (.t 6), (.t 7)]⟩])
theorem ok100 : fnRes Try.prog ⟨pf2, fun d => ([] : List Nat).contains d, fun d => ([] : List Nat).contains d⟩ Try.f100 = some (9, [], rc100) := by kernel_rfl
/-- (*legate/backend.Acceptor).note -/
def rc101 : RCode := (.seq (.region false [⟨(some 6), none, .box (.t 2)⟩])
 (.seq (.seq (.region false [⟨(some 8), none, .mov (.t 3)⟩,
  ⟨(some 9), none, .bin .neq 33 (.t 8) (.c (.scal (.int .i64 0)))⟩])
 (.cond (.t 9) (.seq (.region true [⟨(some 10), none, .mov (.t 0)⟩,
  ⟨(some 11), none, .mov (.t 0)⟩,
  ⟨(some 12), none, .nilchk (.t 11)⟩,
  ⟨(some 13), none, .faddr 6 (.t 12)⟩,
  ⟨(some 14), none, .load1 (.t 13)⟩,
  ⟨(some 15), none, .mov (.t 1)⟩,
  ⟨(some 16), none, .mov (.t 0)⟩,
  ⟨(some 17), none, .nilchk (.t 16)⟩,
  ⟨(some 18), none, .faddr 0 (.t 17)⟩,
  ⟨(some 19), none, .load1 (.t 18)⟩,
  ⟨(some 20), none, .mov (.t 3)⟩,
  ⟨(some 21), none, .build [(.scal (.int .i64 0)), (.scal (.int .i64 0)), (.scal (.string ⟨#[]⟩)), (.scal (.string ⟨#[]⟩)), (.scal (.string ⟨#[]⟩)), (.list .full []), (.scal (.int .i64 0)), (.scal (.int .i64 0)), (.scal (.bool false)), (.scal (.int .i64 0))] [(0, 1, (.c (.scal (.int .i64 5)))), (1, 1, (.t 15)), (4, 1, (.t 19)), (9, 1, (.t 20))]⟩,
  ⟨(some 22), none, .mkslice 10 [(.t 21)]⟩,
  ⟨(some 23), none, .app 10 120 true (.t 14) (.t 22)⟩,
  ⟨(some 24), none, .nilchk (.t 10)⟩,
  ⟨(some 25), none, .faddr 6 (.t 24)⟩,
  ⟨none, none, .store 1 (.t 25) (.t 23)⟩])
 .ret)
 .skip))
 (.region true [⟨(some 26), none, .mov (.t 0)⟩,
  ⟨(some 27), none, .mov (.t 0)⟩,
  ⟨(some 28), none, .nilchk (.t 27)⟩,
  ⟨(some 29), none, .faddr 6 (.t 28)⟩,
  ⟨(some 30), none, .load1 (.t 29)⟩,
  ⟨(some 31), none, .mov (.t 1)⟩,
  ⟨(some 32), none, .faddr 0 (.t 6)⟩,
  ⟨(some 33), none, .faddr 0 (.t 32)⟩,
  ⟨(some 34), none, .load1 (.t 33)⟩,
  ⟨(some 35), none, .faddr 7 (.t 6)⟩,
  ⟨(some 36), none, .faddr 6 (.t 35)⟩,
  ⟨(some 37), none, .load1 (.t 36)⟩,
  ⟨(some 38), none, .mov (.t 0)⟩,
  ⟨(some 39), none, .nilchk (.t 38)⟩,
  ⟨(some 40), none, .faddr 0 (.t 39)⟩,
  ⟨(some 41), none, .load1 (.t 40)⟩,
  ⟨(some 42), none, .faddr 0 (.t 6)⟩,
  ⟨(some 43), none, .faddr 3 (.t 42)⟩,
  ⟨(some 44), none, .load1 (.t 43)⟩,
  ⟨(some 45), none, .callP 127 [(.t 44)]⟩,
  ⟨(some 46), none, .faddr 7 (.t 6)⟩,
  ⟨(some 47), none, .faddr 1 (.t 46)⟩,
  ⟨(some 48), none, .load1 (.t 47)⟩,
  ⟨(some 49), none, .faddr 0 (.t 6)⟩,
  ⟨(some 50), none, .faddr 6 (.t 49)⟩,
  ⟨(some 51), none, .load1 (.t 50)⟩,
  ⟨(some 52), none, .build [(.scal (.int .i64 0)), (.scal (.int .i64 0)), (.scal (.string ⟨#[]⟩)), (.scal (.string ⟨#[]⟩)), (.scal (.string ⟨#[]⟩)), (.list .full []), (.scal (.int .i64 0)), (.scal (.int .i64 0)), (.scal (.bool false)), (.scal (.int .i64 0))] [(0, 1, (.c (.scal (.int .i64 4)))), (1, 1, (.t 31)), (2, 1, (.t 34)), (3, 1, (.t 37)), (4, 1, (.t 41)), (5, 1, (.t 45)), (6, 1, (.t 48)), (7, 1, (.t 51))]⟩,
  ⟨(some 53), none, .mkslice 10 [(.t 52)]⟩,
  ⟨(some 54), none, .app 10 120 true (.t 30) (.t 53)⟩,
  ⟨(some 55), none, .nilchk (.t 26)⟩,
  ⟨(some 56), none, .faddr 6 (.t 55)⟩,
  ⟨none, none, .store 1 (.t 56) (.t 54)⟩])))
theorem ok101 : fnRes Try.prog ⟨pf2, fun d => ([] : List Nat).contains d, fun d => ([23, 54] : List Nat).contains d⟩ Try.f101 = some (57, [], rc101) := by kernel_rfl
/-- (*legate/backend.Acceptor).who -/
def rc102 : RCode := (.seq (.region false [⟨(some 5), none, .box (.t 2)⟩,
  ⟨(some 6), none, .alloc [(.scal (.string ⟨#[]⟩)), (.list .full []), (.scal (.int .i64 0)), (.list .full []), (.scal (.string ⟨#[]⟩)), (.scal (.bool false)), (.scal (.int .i64 0))]⟩,
  ⟨(some 7), none, .mov (.c (.scal (.int .i64 0)))⟩])
 (.seq (.seq (.region true [⟨(some 11), none, .faddr 0 (.t 5)⟩,
  ⟨(some 12), none, .load1 (.t 11)⟩,
  ⟨(some 13), none, .mov (.t 0)⟩,
  ⟨(some 14), none, .nilchk (.t 13)⟩,
  ⟨(some 15), none, .faddr 0 (.t 14)⟩,
  ⟨(some 16), none, .load1 (.t 15)⟩,
  ⟨(some 17), none, .bin .neq 9 (.t 12) (.t 16)⟩])
 (.cond (.t 17) (.seq (.region false [⟨(some 18), none, .build [(.scal (.string ⟨#[]⟩)), (.list .full []), (.scal (.int .i64 0)), (.list .full []), (.scal (.string ⟨#[]⟩)), (.scal (.bool false)), (.scal (.int .i64 0))] []⟩,
  ⟨none, none, .store 7 (.t 6) (.t 18)⟩,
  ⟨(some 7), none, .mov (.c (.scal (.int .i64 50)))⟩])
 .ret)
 .skip))
 (.seq (.seq (.region false [⟨(some 19), none, .faddr 7 (.t 5)⟩,
  ⟨(some 20), none, .loadA 2 (.t 19)⟩,
  ⟨(some 21), none, .mov (.t 1)⟩,
  ⟨(some 22), none, .callP 128 [(.t 20), (.t 21), (.c (.scal (.int .i64 0)))]⟩,
  ⟨(some 8), none, .mov (.t 22)⟩])
 (.seq (.region false [⟨(some 23), none, .mov (.t 8)⟩,
  ⟨(some 24), none, .bin .neq 33 (.t 23) (.c (.scal (.int .i64 0)))⟩])
 (.cond (.t 24) (.seq (.region false [⟨(some 25), none, .build [(.scal (.string ⟨#[]⟩)), (.list .full []), (.scal (.int .i64 0)), (.list .full []), (.scal (.string ⟨#[]⟩)), (.scal (.bool false)), (.scal (.int .i64 0))] []⟩,
  ⟨(some 26), none, .mov (.t 8)⟩,
  ⟨none, none, .store 7 (.t 6) (.t 25)⟩,
  ⟨(some 7), none, .mov (.t 26)⟩])
 .ret)
 .skip)))
 (.seq (.region true [⟨(some 28), none, .faddr 9 (.t 5)⟩,
  ⟨(some 29), none, .loadA 4 (.t 28)⟩,
  ⟨(some 30), none, .mov (.t 0)⟩,
  ⟨(some 31), none, .nilchk (.t 30)⟩,
  ⟨(some 32), none, .faddr 1 (.t 31)⟩,
  ⟨(some 33), none, .loadA 4 (.t 32)⟩,
  ⟨(some 34), none, .callP 70 [(.t 29), (.t 33)]⟩,
  ⟨(some 27), none, .mov (.t 34)⟩,
  ⟨(some 35), none, .ext (.t 27) 0⟩,
  ⟨(some 36), none, .ext (.t 27) 1⟩,
  ⟨(some 9), none, .alloc [(.scal (.string ⟨#[]⟩)), (.list .full []), (.scal (.int .i64 0)), (.list .full []), (.scal (.string ⟨#[]⟩)), (.scal (.bool false)), (.scal (.int .i64 0))]⟩,
  ⟨none, none, .store 7 (.t 9) (.t 35)⟩,
  ⟨(some 10), none, .mov (.t 36)⟩])
 (.seq (.block 0 (.seq (.region false [⟨(some 38), none, .mov (.t 10)⟩,
  ⟨(some 39), none, .bin .neq 33 (.t 38) (.c (.scal (.int .i64 0)))⟩,
  ⟨(some 37), none, .mov (.t 39)⟩])
 (.cond (.t 37) (.seq (.region false [⟨(some 40), none, .build [(.scal (.string ⟨#[]⟩)), (.list .full []), (.scal (.int .i64 0)), (.list .full []), (.scal (.string ⟨#[]⟩)), (.scal (.bool false)), (.scal (.int .i64 0))] []⟩,
  ⟨(some 41), none, .mov (.t 10)⟩,
  ⟨none, none, .store 7 (.t 6) (.t 40)⟩,
  ⟨(some 7), none, .mov (.t 41)⟩])
 .ret)
 (.seq (.region true [⟨(some 43), none, .faddr 4 (.t 9)⟩,
  ⟨(some 44), none, .load1 (.t 43)⟩,
  ⟨(some 45), none, .mov (.t 0)⟩,
  ⟨(some 46), none, .nilchk (.t 45)⟩,
  ⟨(some 47), none, .faddr 0 (.t 46)⟩,
  ⟨(some 48), none, .load1 (.t 47)⟩,
  ⟨(some 49), none, .bin .neq 9 (.t 44) (.t 48)⟩,
  ⟨(some 42), none, .mov (.t 49)⟩])
 (.cond (.t 42) (.seq (.region false [⟨(some 50), none, .build [(.scal (.string ⟨#[]⟩)), (.list .full []), (.scal (.int .i64 0)), (.list .full []), (.scal (.string ⟨#[]⟩)), (.scal (.bool false)), (.scal (.int .i64 0))] []⟩,
  ⟨none, none, .store 7 (.t 6) (.t 50)⟩,
  ⟨(some 7), none, .mov (.c (.scal (.int .i64 62)))⟩])
 .ret)
 (.seq (.region false [⟨(some 52), none, .faddr 0 (.t 9)⟩,
  ⟨(some 53), none, .load1 (.t 52)⟩,
  ⟨(some 54), none, .faddr 6 (.t 5)⟩,
  ⟨(some 55), none, .load1 (.t 54)⟩,
  ⟨(some 56), none, .bin .neq 9 (.t 53) (.t 55)⟩,
  ⟨(some 51), none, .mov (.t 56)⟩])
 (.cond (.t 51) (.seq (.region false [⟨(some 57), none, .build [(.scal (.string ⟨#[]⟩)), (.list .full []), (.scal (.int .i64 0)), (.list .full []), (.scal (.string ⟨#[]⟩)), (.scal (.bool false)), (.scal (.int .i64 0))] []⟩,
  ⟨none, none, .store 7 (.t 6) (.t 57)⟩,
  ⟨(some 7), none, .mov (.c (.scal (.int .i64 51)))⟩])
 .ret)
 (.seq (.region false [⟨(some 59), none, .mov (.t 1)⟩,
  ⟨(some 60), none, .faddr 6 (.t 9)⟩,
  ⟨(some 61), none, .load1 (.t 60)⟩,
  ⟨(some 62), none, .bin .geq 3 (.t 59) (.t 61)⟩,
  ⟨(some 58), none, .mov (.t 62)⟩])
 (.cond (.t 58) (.seq (.region false [⟨(some 63), none, .build [(.scal (.string ⟨#[]⟩)), (.list .full []), (.scal (.int .i64 0)), (.list .full []), (.scal (.string ⟨#[]⟩)), (.scal (.bool false)), (.scal (.int .i64 0))] []⟩,
  ⟨none, none, .store 7 (.t 6) (.t 63)⟩,
  ⟨(some 7), none, .mov (.c (.scal (.int .i64 32)))⟩])
 .ret)
 .skip)))))))))
 (.seq (.region false [⟨(some 64), none, .loadA 7 (.t 9)⟩,
  ⟨none, none, .store 7 (.t 6) (.t 64)⟩,
  ⟨(some 7), none, .mov (.c (.scal (.int .i64 0)))⟩])
 .ret))))))
theorem ok102 : fnRes Try.prog ⟨pf2, fun d => ([] : List Nat).contains d, fun d => ([] : List Nat).contains d⟩ Try.f102 = some (65, [.cellA 6 7, .t 7], rc102) := by kernel_rfl
/-- legate/span.Near -/
def rc103 : RCode := (.seq (.region false [⟨(some 6), none, .mov (.c (.scal (.bool false)))⟩])
 (.seq (.region false [⟨(some 7), none, .mov (.t 0)⟩,
  ⟨(some 8), none, .mov (.t 1)⟩,
  ⟨(some 9), none, .mov (.t 2)⟩,
  ⟨(some 10), none, .mkslice 1 [(.t 7), (.t 8), (.t 9)]⟩,
  ⟨(some 11), none, .callP 116 [(.t 10)]⟩,
  ⟨(some 12), none, .mov (.t 11)⟩,
  ⟨(some 13), (some (12, true)), .mov (.t 0)⟩,
  ⟨(some 14), (some (12, true)), .mov (.t 1)⟩,
  ⟨(some 15), (some (12, true)), .bin .sub 3 (.t 13) (.t 14)⟩,
  ⟨(some 16), (some (12, true)), .mov (.t 1)⟩,
  ⟨(some 17), (some (12, true)), .mov (.t 0)⟩,
  ⟨(some 18), (some (12, true)), .bin .sub 3 (.t 16) (.t 17)⟩,
  ⟨(some 19), (some (12, true)), .bi .max #[3, 3] 3 [(.t 15), (.t 18)]⟩,
  ⟨(some 20), (some (12, true)), .mov (.t 2)⟩,
  ⟨(some 21), (some (12, true)), .bin .leq 3 (.t 19) (.t 20)⟩,
  ⟨(some 22), none, .pick (.t 12) (.t 21) (.c (.scal (.bool false)))⟩,
  ⟨(some 6), none, .mov (.t 22)⟩])
 .ret))
theorem ok103 : fnRes Try.prog ⟨pf2, fun d => ([] : List Nat).contains d, fun d => ([] : List Nat).contains d⟩ Try.f103 = some (23, [.t 6], rc103) := by kernel_rfl
/-- (*legate/replay.Cache).Put -/
def rc104 : RCode := (.seq (.region false [⟨(some 5), none, .box (.t 1)⟩,
  ⟨(some 8), none, .mov (.c (.scal (.int .i64 0)))⟩])
 (.seq (.seq (.region false [⟨(some 9), none, .mov (.t 0)⟩,
  ⟨(some 10), none, .loadA 4 (.t 5)⟩,
  ⟨(some 11), none, .mov (.t 3)⟩,
  ⟨(some 12), none, .callF 129 [(.t 9), (.t 10), (.t 11)]⟩])
 (.cond (.t 12) (.seq (.region false [⟨(some 8), none, .mov (.c (.scal (.int .i64 52)))⟩])
 .ret)
 .skip))
 (.seq (.region false [⟨(some 13), none, .mov (.t 0)⟩,
  ⟨(some 14), none, .mov (.t 3)⟩,
  ⟨(some 15), none, .callF 130 [(.t 13), (.t 14)]⟩])
 (.seq (.seq (.region true [⟨(some 16), none, .mov (.t 0)⟩,
  ⟨(some 17), none, .nilchk (.t 16)⟩,
  ⟨(some 18), none, .faddr 1 (.t 17)⟩,
  ⟨(some 19), none, .load1 (.t 18)⟩,
  ⟨(some 20), none, .lenM (.t 19)⟩,
  ⟨(some 21), none, .mov (.t 0)⟩,
  ⟨(some 22), none, .nilchk (.t 21)⟩,
  ⟨(some 23), none, .faddr 0 (.t 22)⟩,
  ⟨(some 24), none, .load1 (.t 23)⟩,
  ⟨(some 25), none, .bin .geq 3 (.t 20) (.t 24)⟩])
 (.cond (.t 25) (.seq (.region false [⟨(some 8), none, .mov (.c (.scal (.int .i64 53)))⟩])
 .ret)
 .skip))
 (.seq (.region true [⟨(some 26), none, .mov (.t 0)⟩,
  ⟨(some 27), none, .mov (.t 0)⟩,
  ⟨(some 28), none, .nilchk (.t 27)⟩,
  ⟨(some 29), none, .faddr 1 (.t 28)⟩,
  ⟨(some 30), none, .load1 (.t 29)⟩,
  ⟨(some 31), none, .loadA 4 (.t 5)⟩,
  ⟨(some 32), none, .mov (.t 2)⟩,
  ⟨(some 33), none, .build [(.scal (.int .i64 0)), (.scal (.string ⟨#[]⟩)), (.scal (.int .i64 0)), (.list .full []), (.scal (.int .i64 0))] [(0, 4, (.t 31)), (4, 1, (.t 32))]⟩,
  ⟨(some 34), none, .mkslice 5 [(.t 33)]⟩,
  ⟨(some 35), none, .xop (.appM 5 64) [(.t 30), (.t 34)]⟩,
  ⟨(some 36), none, .nilchk (.t 26)⟩,
  ⟨(some 37), none, .faddr 1 (.t 36)⟩,
  ⟨none, none, .store 1 (.t 37) (.t 35)⟩])
 (.seq (.region false [⟨(some 8), none, .mov (.c (.scal (.int .i64 0)))⟩])
 .ret))))))
theorem ok104 : fnRes Try.prog ⟨pf2, fun d => ([20, 35] : List Nat).contains d, fun d => ([35] : List Nat).contains d⟩ Try.f104 = some (38, [.t 8], rc104) := by kernel_rfl
/-- slices.Equal[[]int,int] -/
def rc106 : RCode := (.seq (.region false [⟨(some 4), none, .mov (.c (.scal (.bool false)))⟩])
 (.seq (.seq (.region false [⟨(some 6), none, .mov (.t 0)⟩,
  ⟨(some 7), none, .lenL (.t 6)⟩,
  ⟨(some 8), none, .mov (.t 1)⟩,
  ⟨(some 9), none, .lenL (.t 8)⟩,
  ⟨(some 10), none, .bin .neq 3 (.t 7) (.t 9)⟩])
 (.cond (.t 10) (.seq (.region false [⟨(some 4), none, .mov (.c (.scal (.bool false)))⟩])
 .ret)
 .skip))
 (.seq (.seq (.region false [⟨(some 11), none, .mov (.t 0)⟩,
  ⟨(some 12), none, .lenL (.t 11)⟩,
  ⟨(some 13), none, .mov (.c (.scal (.int .i64 0)))⟩])
 (.block 0 (.loop (.seq (.region false [⟨(some 14), none, .bin .lss 3 (.t 13) (.t 12)⟩])
 (.seq (.cond (.t 14) .skip
 (.exit 0))
 (.seq (.block 1 (.seq (.region false [⟨(some 15), none, .mov (.t 13)⟩,
  ⟨(some 5), none, .mov (.t 15)⟩])
 (.seq (.region true [⟨(some 16), none, .mov (.t 0)⟩,
  ⟨(some 17), none, .mov (.t 5)⟩,
  ⟨(some 18), none, .iaddr 1 (.t 16) (.t 17)⟩,
  ⟨(some 19), none, .load1 (.t 18)⟩,
  ⟨(some 20), none, .mov (.t 1)⟩,
  ⟨(some 21), none, .mov (.t 5)⟩,
  ⟨(some 22), none, .iaddr 1 (.t 20) (.t 21)⟩,
  ⟨(some 23), none, .load1 (.t 22)⟩,
  ⟨(some 24), none, .bin .neq 3 (.t 19) (.t 23)⟩])
 (.cond (.t 24) (.seq (.region false [⟨(some 4), none, .mov (.c (.scal (.bool false)))⟩])
 .ret)
 .skip))))
 (.region false [⟨(some 25), none, .bin .add 3 (.t 13) (.c (.scal (.int .i64 1)))⟩,
  ⟨(some 13), none, .mov (.t 25)⟩])))))))
 (.seq (.region false [⟨(some 4), none, .mov (.c (.scal (.bool true)))⟩])
 .ret))))
theorem ok106 : fnRes Try.prog ⟨pf2, fun d => ([] : List Nat).contains d, fun d => ([] : List Nat).contains d⟩ Try.f106 = some (26, [.t 4], rc106) := by kernel_rfl
/-- slices.Equal[[]string,string] -/
def rc107 : RCode := (.seq (.region false [⟨(some 4), none, .mov (.c (.scal (.bool false)))⟩])
 (.seq (.seq (.region false [⟨(some 6), none, .mov (.t 0)⟩,
  ⟨(some 7), none, .lenL (.t 6)⟩,
  ⟨(some 8), none, .mov (.t 1)⟩,
  ⟨(some 9), none, .lenL (.t 8)⟩,
  ⟨(some 10), none, .bin .neq 3 (.t 7) (.t 9)⟩])
 (.cond (.t 10) (.seq (.region false [⟨(some 4), none, .mov (.c (.scal (.bool false)))⟩])
 .ret)
 .skip))
 (.seq (.seq (.region false [⟨(some 11), none, .mov (.t 0)⟩,
  ⟨(some 12), none, .lenL (.t 11)⟩,
  ⟨(some 13), none, .mov (.c (.scal (.int .i64 0)))⟩])
 (.block 0 (.loop (.seq (.region false [⟨(some 14), none, .bin .lss 3 (.t 13) (.t 12)⟩])
 (.seq (.cond (.t 14) .skip
 (.exit 0))
 (.seq (.block 1 (.seq (.region false [⟨(some 15), none, .mov (.t 13)⟩,
  ⟨(some 5), none, .mov (.t 15)⟩])
 (.seq (.region true [⟨(some 16), none, .mov (.t 0)⟩,
  ⟨(some 17), none, .mov (.t 5)⟩,
  ⟨(some 18), none, .iaddr 1 (.t 16) (.t 17)⟩,
  ⟨(some 19), none, .load1 (.t 18)⟩,
  ⟨(some 20), none, .mov (.t 1)⟩,
  ⟨(some 21), none, .mov (.t 5)⟩,
  ⟨(some 22), none, .iaddr 1 (.t 20) (.t 21)⟩,
  ⟨(some 23), none, .load1 (.t 22)⟩,
  ⟨(some 24), none, .bin .neq 9 (.t 19) (.t 23)⟩])
 (.cond (.t 24) (.seq (.region false [⟨(some 4), none, .mov (.c (.scal (.bool false)))⟩])
 .ret)
 .skip))))
 (.region false [⟨(some 25), none, .bin .add 3 (.t 13) (.c (.scal (.int .i64 1)))⟩,
  ⟨(some 13), none, .mov (.t 25)⟩])))))))
 (.seq (.region false [⟨(some 4), none, .mov (.c (.scal (.bool true)))⟩])
 .ret))))
theorem ok107 : fnRes Try.prog ⟨pf2, fun d => ([] : List Nat).contains d, fun d => ([] : List Nat).contains d⟩ Try.f107 = some (26, [.t 4], rc107) := by kernel_rfl
/-- legate/authz.summed -/
def rc108 : RCode := (.seq (.region false [⟨(some 4), none, .box (.t 0)⟩,
  ⟨(some 5), none, .box (.t 1)⟩,
  ⟨(some 7), none, .box (.t 3)⟩,
  ⟨(some 8), none, .mov (.c (.scal (.bool false)))⟩])
 (.seq (.region true [⟨(some 9), none, .faddr 0 (.t 5)⟩,
  ⟨(some 10), none, .load1 (.t 9)⟩,
  ⟨(some 11), none, .bin .eql 22 (.t 10) (.c (.scal (.int .i64 2)))⟩,
  ⟨(some 12), none, .mov (.t 11)⟩,
  ⟨(some 13), (some (12, true)), .loadA 4 (.t 4)⟩,
  ⟨(some 14), (some (12, true)), .loadA 4 (.t 5)⟩,
  ⟨(some 15), (some (12, true)), .mov (.t 2)⟩,
  ⟨(some 16), (some (12, true)), .loadA 4 (.t 7)⟩,
  ⟨(some 17), (some (12, true)), .callP 126 [(.t 14), (.t 15), (.t 16)]⟩,
  ⟨(some 18), (some (12, true)), .callP 41 [(.t 13), (.t 17)]⟩,
  ⟨(some 19), none, .pick (.t 12) (.t 18) (.c (.scal (.bool false)))⟩,
  ⟨(some 8), none, .mov (.t 19)⟩])
 .ret))
theorem ok108 : fnRes Try.prog ⟨pf2, fun d => ([] : List Nat).contains d, fun d => ([] : List Nat).contains d⟩ Try.f108 = some (20, [.t 8], rc108) := by kernel_rfl
/-- slices.Clone[[]string,string] -/
def rc127 : RCode := (.seq (.region false [⟨(some 2), none, .mov (.c (.list .full []))⟩])
 (.seq (.seq (.region false [⟨(some 3), none, .mov (.t 0)⟩,
  ⟨(some 4), none, .snil false (.t 3)⟩])
 (.cond (.t 4) (.seq (.region false [⟨(some 2), none, .mov (.c (.list .full []))⟩])
 .ret)
 .skip))
 (.seq (.region false [⟨(some 5), none, .mkslice 1 []⟩,
  ⟨(some 6), none, .mov (.t 0)⟩,
  ⟨(some 7), none, .app 1 16 false (.t 5) (.t 6)⟩,
  ⟨(some 2), none, .mov (.t 7)⟩])
 .ret)))
theorem ok127 : fnRes Try.prog ⟨pf2, fun d => ([] : List Nat).contains d, fun d => ([] : List Nat).contains d⟩ Try.f127 = some (8, [.t 2], rc127) := by kernel_rfl
/-- legate/span.Check -/
def rc128 : RCode := (.seq (.region false [⟨(some 3), none, .box (.t 0)⟩,
  ⟨(some 6), none, .mov (.c (.scal (.int .i64 0)))⟩])
 (.seq (.seq (.region false [⟨(some 8), none, .loadA 2 (.t 3)⟩,
  ⟨(some 9), none, .callP 81 [(.t 8)]⟩,
  ⟨(some 10), none, .un .not (.t 9)⟩,
  ⟨(some 11), none, .mov (.t 10)⟩,
  ⟨(some 12), (some (11, false)), .mov (.t 1)⟩,
  ⟨(some 13), (some (11, false)), .mov (.t 2)⟩,
  ⟨(some 14), (some (11, false)), .mkslice 1 [(.t 12), (.t 13)]⟩,
  ⟨(some 15), (some (11, false)), .callP 116 [(.t 14)]⟩,
  ⟨(some 16), (some (11, false)), .un .not (.t 15)⟩,
  ⟨(some 17), none, .pick (.t 11) (.c (.scal (.bool true))) (.t 16)⟩])
 (.cond (.t 17) (.seq (.region false [⟨(some 6), none, .mov (.c (.scal (.int .i64 1)))⟩])
 .ret)
 .skip))
 (.seq (.region false [⟨(some 18), none, .loadA 2 (.t 3)⟩,
  ⟨(some 19), none, .callP 144 [(.t 18)]⟩,
  ⟨(some 20), none, .mov (.t 1)⟩,
  ⟨(some 21), none, .conv 3 172 (.t 20)⟩,
  ⟨(some 22), none, .mov (.t 1)⟩,
  ⟨(some 23), none, .conv 3 172 (.t 22)⟩,
  ⟨(some 24), none, .bi .complex #[172, 172] 170 [(.t 21), (.t 23)]⟩,
  ⟨(some 25), none, .bin .sub 170 (.t 19) (.t 24)⟩,
  ⟨(some 7), none, .mov (.t 25)⟩])
 (.seq (.block 0 (.seq (.region false [⟨(some 27), none, .mov (.t 7)⟩,
  ⟨(some 28), none, .bi .real #[170] 172 [(.t 27)]⟩,
  ⟨(some 29), none, .mov (.t 2)⟩,
  ⟨(some 30), none, .conv 3 172 (.t 29)⟩,
  ⟨(some 31), none, .bin .gtr 172 (.t 28) (.t 30)⟩,
  ⟨(some 26), none, .mov (.t 31)⟩])
 (.cond (.t 26) (.seq (.region false [⟨(some 6), none, .mov (.c (.scal (.int .i64 31)))⟩])
 .ret)
 (.seq (.region false [⟨(some 33), none, .mov (.t 7)⟩,
  ⟨(some 34), none, .bi .imag #[170] 172 [(.t 33)]⟩,
  ⟨(some 35), none, .mov (.t 2)⟩,
  ⟨(some 36), none, .conv 3 172 (.t 35)⟩,
  ⟨(some 37), none, .un .neg (.t 36)⟩,
  ⟨(some 38), none, .bin .leq 172 (.t 34) (.t 37)⟩,
  ⟨(some 32), none, .mov (.t 38)⟩])
 (.cond (.t 32) (.seq (.region false [⟨(some 6), none, .mov (.c (.scal (.int .i64 32)))⟩])
 .ret)
 .skip)))))
 (.seq (.region false [⟨(some 6), none, .mov (.c (.scal (.int .i64 0)))⟩])
 .ret)))))
theorem ok128 : fnRes Try.prog ⟨pf2, fun d => ([] : List Nat).contains d, fun d => ([] : List Nat).contains d⟩ Try.f128 = some (39, [.t 6], rc128) := by kernel_rfl
/-- (*legate/replay.Cache).Has -/
def rc129 : RCode := (.seq (.region false [⟨(some 4), none, .box (.t 1)⟩,
  ⟨(some 6), none, .mov (.c (.scal (.bool false)))⟩])
 (.seq (.seq (.region false [⟨(some 9), none, .mov (.t 0)⟩,
  ⟨(some 10), none, .nilchk (.t 9)⟩,
  ⟨(some 11), none, .faddr 1 (.t 10)⟩,
  ⟨(some 12), none, .load1 (.t 11)⟩,
  ⟨(some 13), none, .lenM (.t 12)⟩,
  ⟨(some 14), none, .mov (.c (.scal (.int .i64 0)))⟩])
 (.block 0 (.loop (.seq (.region false [⟨(some 15), none, .bin .lss 3 (.t 14) (.t 13)⟩])
 (.seq (.cond (.t 15) .skip
 (.exit 0))
 (.seq (.block 1 (.seq (.region false [⟨(some 16), none, .iaddrM 5 (.t 12) (.t 14)⟩,
  ⟨(some 17), none, .loadA 5 (.t 16)⟩,
  ⟨(some 8), none, .alloc [(.scal (.int .i64 0)), (.scal (.string ⟨#[]⟩)), (.scal (.int .i64 0)), (.list .full []), (.scal (.int .i64 0))]⟩,
  ⟨none, none, .store 5 (.t 8) (.t 17)⟩])
 (.seq (.region false [⟨(some 18), none, .faddr 4 (.t 8)⟩,
  ⟨(some 19), none, .load1 (.t 18)⟩,
  ⟨(some 20), none, .mov (.t 2)⟩,
  ⟨(some 21), none, .bin .gtr 3 (.t 19) (.t 20)⟩,
  ⟨(some 22), none, .mov (.t 21)⟩,
  ⟨(some 23), (some (22, true)), .faddr 0 (.t 8)⟩,
  ⟨(some 24), (some (22, true)), .loadA 4 (.t 23)⟩,
  ⟨(some 25), (some (22, true)), .loadA 4 (.t 4)⟩,
  ⟨(some 26), (some (22, true)), .callP 41 [(.t 24), (.t 25)]⟩,
  ⟨(some 27), none, .pick (.t 22) (.t 26) (.c (.scal (.bool false)))⟩])
 (.cond (.t 27) (.seq (.region false [⟨(some 6), none, .mov (.c (.scal (.bool true)))⟩])
 .ret)
 .skip))))
 (.region false [⟨(some 28), none, .bin .add 3 (.t 14) (.c (.scal (.int .i64 1)))⟩,
  ⟨(some 14), none, .mov (.t 28)⟩])))))))
 (.seq (.region false [⟨(some 6), none, .mov (.c (.scal (.bool false)))⟩])
 .ret)))
theorem ok129 : fnRes Try.prog ⟨pf2, fun d => ([13, 16] : List Nat).contains d, fun d => ([] : List Nat).contains d⟩ Try.f129 = some (29, [.t 6], rc129) := by kernel_rfl
/-- (*legate/replay.Cache).clean -/
def rc130 : RCode := (.jscope 0 (.seq (.region false [⟨(some 4), none, .mov (.c (.scal (.int .i64 0)))⟩])
 (.seq (.label 0)
 (.seq (.seq (.region false [⟨(some 5), none, .mov (.t 4)⟩,
  ⟨(some 6), none, .mov (.t 0)⟩,
  ⟨(some 7), none, .nilchk (.t 6)⟩,
  ⟨(some 8), none, .faddr 1 (.t 7)⟩,
  ⟨(some 9), none, .load1 (.t 8)⟩,
  ⟨(some 10), none, .lenM (.t 9)⟩,
  ⟨(some 11), none, .bin .geq 3 (.t 5) (.t 10)⟩])
 (.cond (.t 11) .ret
 .skip))
 (.seq (.seq (.region false [⟨(some 12), none, .mov (.t 0)⟩,
  ⟨(some 13), none, .nilchk (.t 12)⟩,
  ⟨(some 14), none, .faddr 1 (.t 13)⟩,
  ⟨(some 15), none, .load1 (.t 14)⟩,
  ⟨(some 16), none, .mov (.t 4)⟩,
  ⟨(some 17), none, .iaddrM 5 (.t 15) (.t 16)⟩,
  ⟨(some 18), none, .faddr 4 (.t 17)⟩,
  ⟨(some 19), none, .load1 (.t 18)⟩,
  ⟨(some 20), none, .mov (.t 1)⟩,
  ⟨(some 21), none, .bin .gtr 3 (.t 19) (.t 20)⟩])
 (.cond (.t 21) (.seq (.region false [⟨(some 22), none, .mov (.t 4)⟩,
  ⟨(some 23), none, .bin .add 3 (.t 22) (.c (.scal (.int .i64 1)))⟩,
  ⟨(some 4), none, .mov (.t 23)⟩])
 (.goto 0))
 .skip))
 (.seq (.region true [⟨(some 24), none, .mov (.t 0)⟩,
  ⟨(some 25), none, .nilchk (.t 24)⟩,
  ⟨(some 26), none, .faddr 1 (.t 25)⟩,
  ⟨(some 27), none, .load1 (.t 26)⟩,
  ⟨(some 28), none, .mov (.t 4)⟩,
  ⟨(some 29), none, .slcM 5 (.t 27) (some (.t 28)) none⟩,
  ⟨(some 30), none, .mov (.t 0)⟩,
  ⟨(some 31), none, .nilchk (.t 30)⟩,
  ⟨(some 32), none, .faddr 1 (.t 31)⟩,
  ⟨(some 33), none, .load1 (.t 32)⟩,
  ⟨(some 34), none, .mov (.t 4)⟩,
  ⟨(some 35), none, .bin .add 3 (.t 34) (.c (.scal (.int .i64 1)))⟩,
  ⟨(some 36), none, .slcM 5 (.t 33) (some (.t 35)) none⟩,
  ⟨(some 37), none, .xop (.cpy 5) [(.t 29), (.t 36)]⟩])
 (.seq (.region true [⟨(some 38), none, .mov (.t 0)⟩,
  ⟨(some 39), none, .mov (.t 0)⟩,
  ⟨(some 40), none, .nilchk (.t 39)⟩,
  ⟨(some 41), none, .faddr 1 (.t 40)⟩,
  ⟨(some 42), none, .load1 (.t 41)⟩,
  ⟨(some 43), none, .mov (.t 0)⟩,
  ⟨(some 44), none, .nilchk (.t 43)⟩,
  ⟨(some 45), none, .faddr 1 (.t 44)⟩,
  ⟨(some 46), none, .load1 (.t 45)⟩,
  ⟨(some 47), none, .lenM (.t 46)⟩,
  ⟨(some 48), none, .bin .sub 3 (.t 47) (.c (.scal (.int .i64 1)))⟩,
  ⟨(some 49), none, .slcM 5 (.t 42) none (some (.t 48))⟩,
  ⟨(some 50), none, .nilchk (.t 38)⟩,
  ⟨(some 51), none, .faddr 1 (.t 50)⟩,
  ⟨none, none, .store 1 (.t 51) (.t 49)⟩])
 (.goto 0)))))))
 (.seq .skip
 (.seq (.seq (.region false [⟨(some 5), none, .mov (.t 4)⟩,
  ⟨(some 6), none, .mov (.t 0)⟩,
  ⟨(some 7), none, .nilchk (.t 6)⟩,
  ⟨(some 8), none, .faddr 1 (.t 7)⟩,
  ⟨(some 9), none, .load1 (.t 8)⟩,
  ⟨(some 10), none, .lenM (.t 9)⟩,
  ⟨(some 11), none, .bin .geq 3 (.t 5) (.t 10)⟩])
 (.cond (.t 11) .ret
 .skip))
 (.seq (.seq (.region false [⟨(some 12), none, .mov (.t 0)⟩,
  ⟨(some 13), none, .nilchk (.t 12)⟩,
  ⟨(some 14), none, .faddr 1 (.t 13)⟩,
  ⟨(some 15), none, .load1 (.t 14)⟩,
  ⟨(some 16), none, .mov (.t 4)⟩,
  ⟨(some 17), none, .iaddrM 5 (.t 15) (.t 16)⟩,
  ⟨(some 18), none, .faddr 4 (.t 17)⟩,
  ⟨(some 19), none, .load1 (.t 18)⟩,
  ⟨(some 20), none, .mov (.t 1)⟩,
  ⟨(some 21), none, .bin .gtr 3 (.t 19) (.t 20)⟩])
 (.cond (.t 21) (.seq (.region false [⟨(some 22), none, .mov (.t 4)⟩,
  ⟨(some 23), none, .bin .add 3 (.t 22) (.c (.scal (.int .i64 1)))⟩,
  ⟨(some 4), none, .mov (.t 23)⟩])
 (.goto 0))
 .skip))
 (.seq (.region true [⟨(some 24), none, .mov (.t 0)⟩,
  ⟨(some 25), none, .nilchk (.t 24)⟩,
  ⟨(some 26), none, .faddr 1 (.t 25)⟩,
  ⟨(some 27), none, .load1 (.t 26)⟩,
  ⟨(some 28), none, .mov (.t 4)⟩,
  ⟨(some 29), none, .slcM 5 (.t 27) (some (.t 28)) none⟩,
  ⟨(some 30), none, .mov (.t 0)⟩,
  ⟨(some 31), none, .nilchk (.t 30)⟩,
  ⟨(some 32), none, .faddr 1 (.t 31)⟩,
  ⟨(some 33), none, .load1 (.t 32)⟩,
  ⟨(some 34), none, .mov (.t 4)⟩,
  ⟨(some 35), none, .bin .add 3 (.t 34) (.c (.scal (.int .i64 1)))⟩,
  ⟨(some 36), none, .slcM 5 (.t 33) (some (.t 35)) none⟩,
  ⟨(some 37), none, .xop (.cpy 5) [(.t 29), (.t 36)]⟩])
 (.seq (.region true [⟨(some 38), none, .mov (.t 0)⟩,
  ⟨(some 39), none, .mov (.t 0)⟩,
  ⟨(some 40), none, .nilchk (.t 39)⟩,
  ⟨(some 41), none, .faddr 1 (.t 40)⟩,
  ⟨(some 42), none, .load1 (.t 41)⟩,
  ⟨(some 43), none, .mov (.t 0)⟩,
  ⟨(some 44), none, .nilchk (.t 43)⟩,
  ⟨(some 45), none, .faddr 1 (.t 44)⟩,
  ⟨(some 46), none, .load1 (.t 45)⟩,
  ⟨(some 47), none, .lenM (.t 46)⟩,
  ⟨(some 48), none, .bin .sub 3 (.t 47) (.c (.scal (.int .i64 1)))⟩,
  ⟨(some 49), none, .slcM 5 (.t 42) none (some (.t 48))⟩,
  ⟨(some 50), none, .nilchk (.t 38)⟩,
  ⟨(some 51), none, .faddr 1 (.t 50)⟩,
  ⟨none, none, .store 1 (.t 51) (.t 49)⟩])
 (.goto 0)))))))
theorem ok130 : fnRes Try.prog ⟨pf2, fun d => ([10, 17, 29, 36, 47, 49] : List Nat).contains d, fun d => ([] : List Nat).contains d⟩ Try.f130 = some (52, [], rc130) := by kernel_rfl
/-- legate/span.Point -/
def rc144 : RCode := (.seq (.region false [⟨(some 1), none, .box (.t 0)⟩,
  ⟨(some 2), none, .mov (.c (.scal (.complex .f64 0 0)))⟩])
 (.seq (.seq (.region false [⟨(some 3), none, .loadA 2 (.t 1)⟩,
  ⟨(some 4), none, .callP 81 [(.t 3)]⟩,
  ⟨(some 5), none, .un .not (.t 4)⟩])
 (.cond (.t 5) (.seq (.region false [⟨(some 2), none, .mov (.c (.scal (.complex .f64 0 0)))⟩])
 .ret)
 .skip))
 (.seq (.region false [⟨(some 6), none, .faddr 0 (.t 1)⟩,
  ⟨(some 7), none, .load1 (.t 6)⟩,
  ⟨(some 8), none, .conv 3 172 (.t 7)⟩,
  ⟨(some 9), none, .faddr 1 (.t 1)⟩,
  ⟨(some 10), none, .load1 (.t 9)⟩,
  ⟨(some 11), none, .conv 3 172 (.t 10)⟩,
  ⟨(some 12), none, .bi .complex #[172, 172] 170 [(.t 8), (.t 11)]⟩,
  ⟨(some 2), none, .mov (.t 12)⟩])
 .ret)))
theorem ok144 : fnRes Try.prog ⟨pf2, fun d => ([] : List Nat).contains d, fun d => ([] : List Nat).contains d⟩ Try.f144 = some (13, [.t 2], rc144) := by kernel_rfl
end Go.Pv

namespace Go.Pv
open Go.Proofs
def rcA65 : RCode := (.region false [⟨(some 3), none, .boxH (.t 0)⟩,
  ⟨(some 4), none, .boxH (.t 1)⟩,
  ⟨(some 5), none, .box (.t 2)⟩,
  ⟨(some 6), none, .allocH [(.scal (.string ⟨#[]⟩)), (.list .full []), (.scal (.int .i64 0)), (.list .full []), (.scal (.string ⟨#[]⟩)), (.scal (.bool false)), (.scal (.int .i64 0)), (.scal (.string ⟨#[]⟩)), (.scal (.int .i64 0)), (.scal (.int .i64 0)), (.scal (.string ⟨#[]⟩)), (.scal (.int .i64 0)), (.list .full []), (.scal (.string ⟨#[]⟩)), (.scal (.int .i64 0)), (.scal (.int .i64 0)), (.scal (.int .i64 0)), (.scal (.string ⟨#[]⟩)), (.scal (.int .i64 0)), (.list .full []), (.scal (.int .i64 0)), (.scal (.string ⟨#[]⟩)), (.scal (.int .i64 0)), (.list .full [])]⟩,
  ⟨(some 7), none, .allocH [(.scal (.int .i64 0))]⟩])
def rpre65 : List RI := [⟨(some 13), none, .mkfn (.func 100) [] [(.t 3), (.t 4), (.t 6), (.t 7)]⟩]
def rcB65 : RCode := (.seq (.region true [⟨(some 15), none, .loadA 4 (.t 5)⟩,
  ⟨(some 16), none, .load1 (.t 3)⟩,
  ⟨(some 17), none, .nilchk (.t 16)⟩,
  ⟨(some 18), none, .faddr 1 (.t 17)⟩,
  ⟨(some 19), none, .loadA 4 (.t 18)⟩,
  ⟨(some 20), none, .callP 56 [(.t 15), (.t 19)]⟩,
  ⟨(some 14), none, .mov (.t 20)⟩,
  ⟨(some 21), none, .ext (.t 14) 0⟩,
  ⟨(some 22), none, .ext (.t 14) 1⟩,
  ⟨(some 23), none, .ext (.t 14) 2⟩,
  ⟨(some 24), none, .ext (.t 14) 3⟩,
  ⟨(some 8), none, .alloc [(.scal (.string ⟨#[]⟩)), (.scal (.int .i64 0)), (.scal (.int .i64 0)), (.scal (.string ⟨#[]⟩)), (.scal (.int .i64 0)), (.list .full []), (.scal (.string ⟨#[]⟩)), (.scal (.int .i64 0)), (.scal (.int .i64 0)), (.scal (.int .i64 0)), (.scal (.string ⟨#[]⟩)), (.scal (.int .i64 0)), (.list .full [])]⟩,
  ⟨none, none, .store 13 (.t 8) (.t 21)⟩,
  ⟨(some 9), none, .mov (.t 22)⟩,
  ⟨(some 10), none, .mov (.t 23)⟩,
  ⟨none, none, .store 1 (.t 7) (.t 24)⟩])
 (.seq (.seq (.region false [⟨(some 25), none, .load1 (.t 7)⟩,
  ⟨(some 26), none, .bin .neq 33 (.t 25) (.c (.scal (.int .i64 0)))⟩])
 (.cond (.t 26) (.seq (.sreg [.ne 7 6] [⟨(some 27), none, .build [(.scal (.string ⟨#[]⟩)), (.list .full []), (.scal (.int .i64 0)), (.list .full []), (.scal (.string ⟨#[]⟩)), (.scal (.bool false)), (.scal (.int .i64 0)), (.scal (.string ⟨#[]⟩)), (.scal (.int .i64 0)), (.scal (.int .i64 0)), (.scal (.string ⟨#[]⟩)), (.scal (.int .i64 0)), (.list .full []), (.scal (.string ⟨#[]⟩)), (.scal (.int .i64 0)), (.scal (.int .i64 0)), (.scal (.int .i64 0)), (.scal (.string ⟨#[]⟩)), (.scal (.int .i64 0)), (.list .full []), (.scal (.int .i64 0)), (.scal (.string ⟨#[]⟩)), (.scal (.int .i64 0)), (.list .full [])] []⟩,
  ⟨(some 28), none, .load1 (.t 7)⟩,
  ⟨none, none, .store 24 (.t 6) (.t 27)⟩,
  ⟨none, none, .store 1 (.t 7) (.t 28)⟩])
 .ret)
 .skip))
 (.seq (.region false [⟨(some 30), none, .load1 (.t 3)⟩,
  ⟨(some 31), none, .load1 (.t 4)⟩,
  ⟨(some 32), none, .loadA 13 (.t 8)⟩,
  ⟨(some 33), none, .callF 102 [(.t 30), (.t 31), (.t 32)]⟩,
  ⟨(some 29), none, .mov (.t 33)⟩,
  ⟨(some 34), none, .ext (.t 29) 0⟩,
  ⟨(some 35), none, .ext (.t 29) 1⟩,
  ⟨(some 11), none, .alloc [(.scal (.string ⟨#[]⟩)), (.list .full []), (.scal (.int .i64 0)), (.list .full []), (.scal (.string ⟨#[]⟩)), (.scal (.bool false)), (.scal (.int .i64 0))]⟩,
  ⟨none, none, .store 7 (.t 11) (.t 34)⟩,
  ⟨none, none, .store 1 (.t 7) (.t 35)⟩])
 (.seq (.seq (.region false [⟨(some 36), none, .load1 (.t 7)⟩,
  ⟨(some 37), none, .bin .neq 33 (.t 36) (.c (.scal (.int .i64 0)))⟩])
 (.cond (.t 37) (.seq (.sreg [.ne 7 6] [⟨(some 38), none, .build [(.scal (.string ⟨#[]⟩)), (.list .full []), (.scal (.int .i64 0)), (.list .full []), (.scal (.string ⟨#[]⟩)), (.scal (.bool false)), (.scal (.int .i64 0)), (.scal (.string ⟨#[]⟩)), (.scal (.int .i64 0)), (.scal (.int .i64 0)), (.scal (.string ⟨#[]⟩)), (.scal (.int .i64 0)), (.list .full []), (.scal (.string ⟨#[]⟩)), (.scal (.int .i64 0)), (.scal (.int .i64 0)), (.scal (.int .i64 0)), (.scal (.string ⟨#[]⟩)), (.scal (.int .i64 0)), (.list .full []), (.scal (.int .i64 0)), (.scal (.string ⟨#[]⟩)), (.scal (.int .i64 0)), (.list .full [])] []⟩,
  ⟨(some 39), none, .load1 (.t 7)⟩,
  ⟨none, none, .store 24 (.t 6) (.t 38)⟩,
  ⟨none, none, .store 1 (.t 7) (.t 39)⟩])
 .ret)
 .skip))
 (.seq (.seq (.region false [⟨(some 40), none, .mov (.t 9)⟩,
  ⟨(some 41), none, .load1 (.t 4)⟩,
  ⟨(some 42), none, .callP 103 [(.t 40), (.t 41), (.c (.scal (.int .i64 300)))]⟩,
  ⟨(some 43), none, .un .not (.t 42)⟩])
 (.cond (.t 43) (.seq (.region false [⟨(some 44), none, .build [(.scal (.string ⟨#[]⟩)), (.list .full []), (.scal (.int .i64 0)), (.list .full []), (.scal (.string ⟨#[]⟩)), (.scal (.bool false)), (.scal (.int .i64 0)), (.scal (.string ⟨#[]⟩)), (.scal (.int .i64 0)), (.scal (.int .i64 0)), (.scal (.string ⟨#[]⟩)), (.scal (.int .i64 0)), (.list .full []), (.scal (.string ⟨#[]⟩)), (.scal (.int .i64 0)), (.scal (.int .i64 0)), (.scal (.int .i64 0)), (.scal (.string ⟨#[]⟩)), (.scal (.int .i64 0)), (.list .full []), (.scal (.int .i64 0)), (.scal (.string ⟨#[]⟩)), (.scal (.int .i64 0)), (.list .full [])] []⟩,
  ⟨none, none, .store 24 (.t 6) (.t 44)⟩,
  ⟨none, none, .store 1 (.t 7) (.c (.scal (.int .i64 30)))⟩])
 .ret)
 .skip))
 (.seq (.seq (.region true [⟨(some 45), none, .load1 (.t 3)⟩,
  ⟨(some 46), none, .nilchk (.t 45)⟩,
  ⟨(some 47), none, .faddr 5 (.t 46)⟩,
  ⟨(some 48), none, .load1 (.t 47)⟩,
  ⟨(some 49), none, .faddr 3 (.t 5)⟩,
  ⟨(some 50), none, .load1 (.t 49)⟩,
  ⟨(some 51), none, .iaddr 4 (.t 50) (.c (.scal (.int .i64 2)))⟩,
  ⟨(some 52), none, .loadA 4 (.t 51)⟩,
  ⟨(some 53), none, .load1 (.t 4)⟩,
  ⟨(some 54), none, .bin .add 3 (.t 53) (.c (.scal (.int .i64 601)))⟩,
  ⟨(some 55), none, .load1 (.t 4)⟩,
  ⟨(some 56), none, .callF 104 [(.t 48), (.t 52), (.t 54), (.t 55)]⟩,
  ⟨(some 12), none, .mov (.t 56)⟩])
 (.seq (.region false [⟨(some 57), none, .mov (.t 12)⟩,
  ⟨(some 58), none, .bin .neq 33 (.t 57) (.c (.scal (.int .i64 0)))⟩])
 (.cond (.t 58) (.seq (.region false [⟨(some 59), none, .build [(.scal (.string ⟨#[]⟩)), (.list .full []), (.scal (.int .i64 0)), (.list .full []), (.scal (.string ⟨#[]⟩)), (.scal (.bool false)), (.scal (.int .i64 0)), (.scal (.string ⟨#[]⟩)), (.scal (.int .i64 0)), (.scal (.int .i64 0)), (.scal (.string ⟨#[]⟩)), (.scal (.int .i64 0)), (.list .full []), (.scal (.string ⟨#[]⟩)), (.scal (.int .i64 0)), (.scal (.int .i64 0)), (.scal (.int .i64 0)), (.scal (.string ⟨#[]⟩)), (.scal (.int .i64 0)), (.list .full []), (.scal (.int .i64 0)), (.scal (.string ⟨#[]⟩)), (.scal (.int .i64 0)), (.list .full [])] []⟩,
  ⟨(some 60), none, .mov (.t 12)⟩,
  ⟨none, none, .store 24 (.t 6) (.t 59)⟩,
  ⟨none, none, .store 1 (.t 7) (.t 60)⟩])
 .ret)
 .skip)))
 (.seq (.region true [⟨(some 61), none, .loadA 7 (.t 11)⟩,
  ⟨(some 62), none, .loadA 13 (.t 8)⟩,
  ⟨(some 63), none, .faddr 3 (.t 5)⟩,
  ⟨(some 64), none, .load1 (.t 63)⟩,
  ⟨(some 65), none, .iaddr 4 (.t 64) (.c (.scal (.int .i64 1)))⟩,
  ⟨(some 66), none, .loadA 4 (.t 65)⟩,
  ⟨(some 67), none, .build [(.scal (.string ⟨#[]⟩)), (.list .full []), (.scal (.int .i64 0)), (.list .full []), (.scal (.string ⟨#[]⟩)), (.scal (.bool false)), (.scal (.int .i64 0)), (.scal (.string ⟨#[]⟩)), (.scal (.int .i64 0)), (.scal (.int .i64 0)), (.scal (.string ⟨#[]⟩)), (.scal (.int .i64 0)), (.list .full []), (.scal (.string ⟨#[]⟩)), (.scal (.int .i64 0)), (.scal (.int .i64 0)), (.scal (.int .i64 0)), (.scal (.string ⟨#[]⟩)), (.scal (.int .i64 0)), (.list .full []), (.scal (.int .i64 0)), (.scal (.string ⟨#[]⟩)), (.scal (.int .i64 0)), (.list .full [])] [(0, 7, (.t 61)), (7, 13, (.t 62)), (20, 4, (.t 66))]⟩,
  ⟨none, none, .store 24 (.t 6) (.t 67)⟩,
  ⟨none, none, .store 1 (.t 7) (.c (.scal (.int .i64 0)))⟩])
 .ret)))))))
theorem okD65 : deferRes Try.prog ⟨pf2, fun d => ([3,4,6,7] : List Nat).contains d, fun d => ([] : List Nat).contains d⟩ Try.f65 = some (68, [.cellA 6 24, .cell1 7], rcA65, rpre65, (.t 13), rcB65) := by kernel_rfl
end Go.Pv


import Derived.Test.YtlgaolpkeejmdaaGreatMB
import Derived.Defers
set_option linter.unusedSimpArgs false
set_option linter.unusedVariables false
namespace Go.Pv
section
variable {P : Program}
/-- As PCalls, for a call that was deferred. -/
def PCallsD (P : Program) (f : FuncId) (args : List PV) (H : PH) (K : PV → PH → Prop) : Prop :=
  Enters P f ∧ ∀ w hw vs u, WRep w hw H → RepL (memOf w hw) args vs → CallsD P f vs.toArray u w fun e u' w' =>
    u' = u ∧ ∃ v hw' r H', e = .returned v ∧ ExtF H w hw w' hw' H' ∧ WRep w' hw' H' ∧ Rep (memOf w' hw') r v ∧ K r H'
theorem PCallsD.mono {f : FuncId} {args : List PV} {H : PH} {K K' : PV → PH → Prop} (h : PCallsD P f args H K) (hk : ∀ r H', K r H' → K' r H') : PCallsD P f args H K' :=
  ⟨h.1, fun w hw vs u h1 h2 => (h.2 w hw vs u h1 h2).mono fun _ _ _ ⟨e0, v, hw', r, H', e1, e2, e3, e4, e5⟩ => ⟨e0, v, hw', r, H', e1, e2, e3, e4, hk _ _ e5⟩⟩
theorem start_sim {f : FuncId} {fn : Func} {args : List PV} {H : PH} (hlen : args.length ≤ fn.ntmps) {w : World} {hw : Nat → Nat} {vs : List Value} (h1 : WRep w hw H) (h2 : RepL (memOf w hw) args vs) :
    Sim [] w hw H fn.ntmps w hw (fun _ => 0) ⟨initE args, [], H⟩ { tmps := vs.toArray ++ Array.replicate (fn.ntmps - vs.toArray.size) undef, defers := [] } := by
  have hl := RepL_length h2
  refine ⟨⟨ExtF.refl _ _ _, by simpa [locs] using h1, fun b hb => by simp [locs] at hb, fun i j hi => by simp at hi, fun i hi => by simp at hi⟩, by simp; omega, fun i hi => ?_, rfl⟩
  simp only [initE_get]
  cases hp : args[i]? with
  | none =>
    have hge : args.length ≤ i := by simpa using hp
    have : (vs.toArray ++ Array.replicate (fn.ntmps - vs.toArray.size) undef).getD i undef = undef := by
      simp only [Array.getD]
      split
      · rename_i h
        simp only [Array.getInternal_eq_getElem]
        rw [Array.getElem_append_right (by simp; omega)]
        simp
      · rfl
    rw [this]
    simp [undefE, RepEV, Rep, undef, atomB]
  | some p =>
    obtain ⟨v, hv, hr⟩ := RepL_get h2 hp
    have hlt : i < vs.length := (List.getElem?_eq_some_iff.1 hv).1
    have : (vs.toArray ++ Array.replicate (fn.ntmps - vs.toArray.size) undef).getD i undef = v := by
      simp only [Array.getD]
      rw [dif_pos (by simp; omega)]
      simp only [Array.getInternal_eq_getElem]
      rw [Array.getElem_append_left (by simpa using hlt)]
      have := (List.getElem?_eq_some_iff.1 hv).2
      simpa using this
    rw [this]
    exact hr
theorem fn_callsD {q : RPar} {f : FuncId} {fn : Func} {c : Code} {rc : RCode} {rs : List RRes} {n : Nat} (hm : P.follows .mixedOrders = true) (hf : P.funcs[f]? = some fn) (hb : fn.body = some c) (hn : (fn.name == "runtime.NumGoroutine") = false) (hnt : fn.ntmps = n)
    (hc : resolveC P q n c = some rc) (hrs : rRes P n fn.results.toList = some rs) {args : List PV} {H : PH} {K : PV → PH → Prop} (hlen : args.length ≤ n)
    (h : pwp P rc (fnPost rs K) ⟨initE args, [], H⟩) : PCallsD P f args H K := by
  subst hnt
  refine ⟨enters_of hf (by rw [hb]; rfl) hn, fun w hw vs u h1 h2 => callsD_of_wp hf hb ?_⟩
  have hsim := start_sim (f := f) (fn := fn) hlen h1 h2
  refine wp_mono (code_sound hm hc h hsim) ?_
  rintro e a' w' ⟨x, st, hw', lam', he, hs', hr'⟩
  cases e <;> cases x <;> simp only [exR] at he
  · exact ⟨hs'.defers, fin_sound hs' hrs hr'⟩
  · exact hr'.elim
  · exact hr'.elim
  · exact ⟨hs'.defers, fin_sound hs' hrs hr'⟩
def isPtrP : PV → Bool
  | .ptr _ _ => true
  | _ => false
theorem ptrs_any {m m' : Mem} : ∀ {caps : List PV} {vs : List Value}, caps.all isPtrP = true → RepL m caps vs → RepL m' caps vs
  | [], vs, _, h => h
  | p :: ps, vs, hc, h => by
    simp only [List.all_cons, Bool.and_eq_true] at hc
    obtain ⟨v, rest, rfl, h1, h2⟩ := by simpa [RepL] using h
    refine RepL_cons.2 ⟨?_, ptrs_any hc.2 h2⟩
    cases p <;> first | exact h1 | (simp [isPtrP] at hc; done)
/-- What stands at the end of a body whose one deferred call is still to come. -/
def endD (P : Program) (rs : List RRes) (y : RO) (K : PV → PH → Prop) (g : FuncId) (caps : List PV) : RX → St → Prop
  | .normal, s | .ret, s => evalE s.env y = .v (.fn (.func g) [] caps) ∧ PCallsD P g caps s.H fun _ H' =>
      match resV rs ⟨s.env, s.L, H'⟩ with | some ps => ∃ H1, HLe H1 H' ∧ ∃ r, (r = (retV ps).fg ∨ r = retV ps) ∧ K r H1 | none => False
  | _, _ => False
theorem pops_soundT {q : RPar} {w0 : World} {hw0 : Nat → Nat} {H0 : PH} {ds : List Deferred} {n : Nat} {ops : Array Oper} {K : St → Prop} {Q : Exit → Act → World → Prop} {tail : List Nat}
    (hk : ∀ s' a' w' hw' lam', K s' → Sim ds w0 hw0 H0 n w' hw' lam' s' a' → wpOps P ops Q tail a' w') :
    ∀ {l : List Nat} {rs : List RI}, ResAll P q n ops l rs → ∀ {w hw lam s a}, pops P rs K s → Sim ds w0 hw0 H0 n w hw lam s a → wpOps P ops Q (l ++ tail) a w
  | [], [], _, w, hw, lam, s, a, h, hs => hk _ _ _ _ _ h hs
  | i :: l, r :: rs, hr, w, hw, lam, s, a, h, hs => by
    obtain ⟨⟨o, ho, hro⟩, hr2⟩ := hr
    have := pop_sound (Q := Q) (next := wpOps P ops Q (l ++ tail)) hro hs h fun s' a' w' hw' lam' k1 k2 => pops_soundT hk hr2 k1 k2
    simp only [List.cons_append, wpOps, ho]
    split at this
    · rename_i hw; rw [if_pos hw]; exact .inl this
    · rename_i hw; rw [if_neg hw]; exact this
  | [], _ :: _, hr, _, _, _, _, _, _, _ => hr.elim
  | _ :: _, [], hr, _, _, _, _, _, _, _ => hr.elim
/-- **A function that defers one closure**: its body's head, the region that defers, the rest. -/
theorem fn_defers {q : RPar} {f : FuncId} {fn : Func} {A B : Code} {id : Nat} {ops : Array Oper} {os : List Oper} {od : Oper} {x : Operand} {ts : Array TypeId} {y : RO} {rcA rcB : RCode} {rpre : List RI} {rs : List RRes} {n : Nat} {g : FuncId} (hm : P.follows .mixedOrders = true) (hf : P.funcs[f]? = some fn)
    (hb : fn.body = some (.seq A (.seq (.region id ops false) B))) (hn : (fn.name == "runtime.NumGoroutine") = false) (hnt : fn.ntmps = n)
    (hops : ops.toList = os ++ [od]) (hod : od.op = .defer ⟨.value x, #[], ts⟩) (hog : od.guard = none) (hdst : od.dst = none)
    (hA : resolveC P q n A = some rcA) (hpre : rOpers P q n ops os = some rpre) (hx : rO n x = some y) (hB : resolveC P q n B = some rcB) (hrs : rRes P n fn.results.toList = some rs)
    {args : List PV} {H : PH} {K : PV → PH → Prop} (hlen : args.length ≤ n)
    (h : pwp P rcA (RX.then (fun s1 => pops P rpre (fun s2 => ∃ caps, caps.all isPtrP = true ∧ evalE s2.env y = .v (.fn (.func g) [] caps) ∧ pwp P rcB (endD P rs y K g caps) s2) s1) (fun _ _ => False)) ⟨initE args, [], H⟩) : PCalls P f args H K := by
  subst hnt
  refine ⟨enters_of hf (by rw [hb]; rfl) hn, fun w hw vs h1 h2 => calls_of_wp_defers hf hb ?_⟩
  have hsim := start_sim (f := f) (fn := fn) hlen h1 h2
  refine wp_seq (wp_mono (code_sound hm hA h hsim) ?_)
  rintro e a1 w1 ⟨x1, s1, hw1, lam1, he, hs1, hr1⟩
  cases e <;> cases x1 <;> simp only [exR] at he
  rotate_left
  · exact hr1.elim
  · exact hr1.elim
  · exact hr1.elim
  refine wp_seq (wp_region ?_)
  have hsz : ops.size = os.length + 1 := by rw [← Array.length_toList, hops]; simp
  have hall := resAll_of (P := P) (q := q) (n := fn.ntmps) (ops := ops) (os := os) 0 (fun j o hj => by
    have : ops.toList[j]? = some o := by rw [hops, List.getElem?_append_left (List.getElem?_eq_some_iff.1 hj).1]; exact hj
    simpa using this) hpre
  rw [← List.range_eq_range'] at hall
  rw [hsz, List.range_succ]
  refine pops_soundT (q := q) (n := fn.ntmps) (w0 := w) (hw0 := hw) (H0 := H) (ds := []) (tail := [os.length]) ?_ hall hr1 hs1
  rintro s2 a2 w2 hw2 lam2 ⟨caps, hcaps, hy, hB2⟩ hs2
  have hoda : ops[os.length]? = some od := by
    have : ops.toList[os.length]? = some od := by rw [hops]; simp
    simpa using this
  have hev := hs2.evals x y hx
  rw [hy] at hev
  simp only [RepEV, Rep] at hev
  obtain ⟨va, vc, hval, hva, hvc⟩ := hev
  have hva0 : va = #[] := by
    have : va.toList = [] := by simpa [RepL] using hva
    exact Array.toList_eq_nil_iff.1 this
  subst hva0
  have hrun : (execOp a2.eval od).run P w2 = .ok (.defer { target := .fn (.func g) vc, args := #[] }) w2 := by
    have e : execOp a2.eval od = (do pure (Next.defer (← resolve a2.eval ⟨.value x, #[], ts⟩ od.type)) : Sem Next) := by
      unfold execOp; rw [hod]
    rw [e]
    show (do pure (Next.defer (← Deferred.ofValue (a2.eval x) (#[].map a2.eval))) : Sem Next).run P w2 = _
    rw [hval]
    have em : (#[] : Array Operand).map a2.eval = #[] := by simp
    have e2 : Deferred.ofValue (.func (.func g) #[] vc) #[] = (pure { target := .fn (.func g) vc, args := #[] } : Sem Deferred) := by simp [Deferred.ofValue]
    rw [em, e2]
    rfl
  simp only [wpOps, hoda]
  have hwant : Region.wanted od (yielded ops a2.tmps) = true := by simp [Region.wanted, hog]
  rw [if_pos hwant]
  left
  unfold Oper.wp
  rw [hrun, Oper.upon_defer, hdst]
  have hs3 : Sim [{ target := .fn (.func g) vc, args := #[] }] w hw H fn.ntmps w2 hw2 lam2 s2 ({ a2 with defers := { target := .fn (.func g) vc, args := #[] } :: a2.defers }.put none undef) :=
    ⟨hs2.mem, hs2.size, hs2.env, by show _ :: a2.defers = _; rw [hs2.defers]⟩
  refine wp_mono (code_sound hm hB hB2 hs3) ?_
  have fin : ∀ {a' w' hw' lam' st}, Sim [{ target := .fn (.func g) vc, args := #[] }] w hw H fn.ntmps w' hw' lam' st a' → endD P rs y K g caps .ret st →
      Leaves P fn a'.tmps (fun e w' => ∃ v hw' r H', e = .returned v ∧ ExtF H w hw w' hw' H' ∧ WRep w' hw' H' ∧ Rep (memOf w' hw') r v ∧ K r H') a'.defers .returning w' := by
    rintro a' w' hw' lam' st hs' ⟨hy', hD⟩
    rw [hs'.defers]
    refine leaves_cons (f := g) (args := vc) (by simp) ?_ ?_
    · show (callFunc g (#[] ++ vc)).run P w' = _
      rw [Array.empty_append]
      exact hD.1 vc w'
    · have hcv : RepL (memOf w' hw') caps vc.toList := ptrs_any hcaps hvc
      have := hD.2 w' hw' vc.toList .returning hs'.mem.wrep hcv
      simp only [Array.toArray_toList] at this
      refine this.mono ?_
      rintro e u' w'' ⟨rfl, v, hw'', r, H', rfl, hx1, hx2, hx3, hx4⟩
      simp only [settle]
      have hs4 : Sim [{ target := .fn (.func g) vc, args := #[] }] w hw H fn.ntmps w'' hw'' lam' ⟨st.env, st.L, H'⟩ a' :=
        ⟨hs'.mem.step hx1 hx2, hs'.size, fun i hi => (hs'.env i hi).mono hx1.mono (Nat.le_refl _) (fun _ _ => rfl), hs'.defers⟩
      obtain ⟨v2, hv2, hv3⟩ := fin_sound hs4 hrs hx4
      obtain ⟨v', hw3, r', H3, e1, e2, e3, e4, e5⟩ := hv3
      exact ⟨v2, hv2, v', hw3, r', H3, e1, e2, e3, e4, e5⟩
  rintro e a' w' ⟨x', st, hw', lam', he, hs', hr'⟩
  cases e <;> cases x' <;> simp only [exR] at he
  · exact fin hs' hr'
  · exact hr'.elim
  · exact hr'.elim
  · exact fin hs' hr'
end
end Go.Pv

set_option linter.unusedSimpArgs false
set_option linter.unusedVariables false
namespace Go.Pv
/-- A function that defers one closure, ahead of the rest of its body. -/
def deferRes (P : Program) (q : RPar) (fn : Func) : Option (Nat × List RRes × RCode × List RI × RO × RCode) :=
  if fn.name == "runtime.NumGoroutine" then none else
  match fn.body with
  | some (.seq A (.seq (.region _ ops false) B)) =>
    match ops.toList.getLast?, resolveC P q fn.ntmps A, rOpers P q fn.ntmps ops ops.toList.dropLast, resolveC P q fn.ntmps B, rRes P fn.ntmps fn.results.toList with
    | some ⟨none, .defer ⟨.value x, ⟨[]⟩, _⟩, _, _, _, none⟩, some rcA, some rpre, some rcB, some rs => match rO fn.ntmps x with
      | some y => some (fn.ntmps, rs, rcA, rpre, y, rcB)
      | none => none
    | _, _, _, _, _ => none
  | _ => none
section
variable {P : Program}
theorem defers_of {q : RPar} {f : FuncId} {fn : Func} {n : Nat} {rs : List RRes} {rcA rcB : RCode} {rpre : List RI} {y : RO} {g : FuncId} (hm : P.follows .mixedOrders = true) (hf : P.funcs[f]? = some fn) (hr : deferRes P q fn = some (n, rs, rcA, rpre, y, rcB)) {args : List PV} {H : PH} {K : PV → PH → Prop} (hlen : args.length ≤ n)
    (h : go P (fun _ _ => False) [.code rcA, .inv fun s1 => run P (fun _ _ => False) rpre [.inv fun s2 => ∃ caps, caps.all isPtrP = true ∧ evalE s2.env y = .v (.fn (.func g) [] caps) ∧ go P (endD P rs y K g caps) [.code rcB] s2.env s2.L s2.H] s1.env s1.L s1.H] (initE args) [] H) : PCalls P f args H K := by
  unfold deferRes at hr
  split at hr
  · cases hr
  · rename_i hn
    split at hr
    · rename_i A id ops B hb
      split at hr
      · rename_i x ts ty pos aft rcA' rpre' rcB' rs' hl hA hp hB hR
        split at hr
        · rename_i y' hy
          cases hr
          have hops : ops.toList = ops.toList.dropLast ++ [⟨none, .defer ⟨.value x, #[], ts⟩, ty, pos, aft, none⟩] := by
            obtain ⟨l, e⟩ := List.getLast?_eq_some_iff.1 hl
            rw [e]; simp
          exact fn_defers (q := q) hm hf hb (by simpa using hn) rfl hops rfl rfl rfl hA hp hy hB hR hlen h
        · cases hr
      · cases hr
    · cases hr
end
end Go.Pv

set_option linter.unusedVariables false
set_option linter.unusedSimpArgs false
set_option exponentiation.threshold 2000
namespace Go.Pv
open Ieee
/-- A whole number as a double's bits. -/
def fl (n : Int) : Nat := FloatKind.nearest .f64 n
theorem log2_mul_pow {m j : Nat} (h : m ≠ 0) : (m * 2 ^ j).log2 = m.log2 + j := by
  rw [Nat.log2_eq_iff (by have := Nat.two_pow_pos j; exact Nat.mul_ne_zero h (by omega))]
  have h1 := Nat.log2_self_le h
  have h2 := Nat.lt_log2_self (n := m)
  refine ⟨?_, ?_⟩
  · rw [Nat.pow_add]; exact Nat.mul_le_mul_right _ h1
  · rw [show m.log2 + j + 1 = (m.log2 + 1) + j by omega, Nat.pow_add]
    exact (Nat.mul_lt_mul_right (Nat.two_pow_pos j)).2 h2
theorem cut_zero (neg : Bool) (n : Nat) : Toward.even.cut neg n 0 = n := by
  simp [Toward.cut, Nat.mod_one]
theorem cut_exact (neg : Bool) {a d : Nat} (h : a ≠ 0) : Toward.even.cut neg (a * 2 ^ d) d = a := by
  have hl := log2_mul_pow (m := a) (j := d) h
  have hm : min d ((a * 2 ^ d).log2 + 2) = d := by rw [hl]; omega
  have hp := Nat.two_pow_pos d
  have h0 : 2 ^ d ≠ 0 := by omega
  simp only [Toward.cut, hm, Nat.one_shiftLeft, Nat.mul_div_cancel _ hp, Nat.mul_mod_left]
  simp [h0]
theorem dbl_least : double.leastPlace = -1074 := by decide
theorem dbl_binade : double.binade = 2 ^ 52 := by decide
theorem dbl_inf : double.infRung = 2047 * 2 ^ 52 := by decide
theorem dbl_sign : double.signWeight = 2 ^ 63 := by decide
theorem dbl_frac : double.fractionBits = 52 := rfl
/-- The rung of a whole number. -/
def rungOf (m : Nat) : Nat := (m.log2 + 1022) * 2 ^ 52 + m * 2 ^ (52 - m.log2)
theorem log2_lt53 {m : Nat} (h : m ≠ 0) (h2 : m < 2 ^ 53) : m.log2 ≤ 52 := by
  have := (Nat.log2_lt h).2 h2
  omega
theorem sig_bounds {m : Nat} (h : m ≠ 0) (h2 : m < 2 ^ 53) : 2 ^ 52 ≤ m * 2 ^ (52 - m.log2) ∧ m * 2 ^ (52 - m.log2) < 2 ^ 53 := by
  have hk := log2_lt53 h h2
  have h1 := Nat.log2_self_le h
  have h3 := Nat.lt_log2_self (n := m)
  have e1 : 2 ^ 52 = 2 ^ m.log2 * 2 ^ (52 - m.log2) := by rw [← Nat.pow_add]; congr 1; omega
  have e2 : 2 ^ 53 = 2 ^ (m.log2 + 1) * 2 ^ (52 - m.log2) := by rw [← Nat.pow_add]; congr 1; omega
  rw [e1, e2]
  exact ⟨Nat.mul_le_mul_right _ h1, (Nat.mul_lt_mul_right (Nat.two_pow_pos _)).2 h3⟩
theorem rung_lt {m : Nat} (h : m ≠ 0) (h2 : m < 2 ^ 53) : rungOf m < 2047 * 2 ^ 52 := by
  have hk := log2_lt53 h h2
  have := (sig_bounds h h2).2
  unfold rungOf
  omega
theorem nearest_int (neg : Bool) {m : Nat} (j : Nat) (h : m ≠ 0) (h2 : m < 2 ^ 53) : double.nearest neg (m * 2 ^ j) (-(j : Int)) = double.word neg (rungOf m) := by
  have hk := log2_lt53 h h2
  have hp := Nat.two_pow_pos j
  have hne : m * 2 ^ j ≠ 0 := Nat.mul_ne_zero h (by omega)
  unfold Format.nearest
  rw [if_neg hne]
  simp only [log2_mul_pow h, dbl_least, dbl_binade, dbl_inf, dbl_frac]
  have hlast : max (-(j : Int) + ((m.log2 + j : Nat) : Int) - ((52 : Nat) : Int)) (-1074) = (m.log2 : Int) - 52 := by omega
  rw [hlast]
  have hup : ((m.log2 : Int) - 52 - -1074).toNat = m.log2 + 1022 := by omega
  rw [hup]
  have hkept : Toward.even.cut neg ((m * 2 ^ j) <<< (-(j : Int) - ((m.log2 : Int) - 52)).toNat) ((m.log2 : Int) - 52 - -(j : Int)).toNat = m * 2 ^ (52 - m.log2) := by
    by_cases hj : j ≤ 52 - m.log2
    · have e1 : (-(j : Int) - ((m.log2 : Int) - 52)).toNat = 52 - m.log2 - j := by omega
      have e2 : ((m.log2 : Int) - 52 - -(j : Int)).toNat = 0 := by omega
      rw [e1, e2, cut_zero, Nat.shiftLeft_eq, Nat.mul_assoc, ← Nat.pow_add]
      congr 2; omega
    · have e1 : (-(j : Int) - ((m.log2 : Int) - 52)).toNat = 0 := by omega
      have e2 : ((m.log2 : Int) - 52 - -(j : Int)).toNat = j - (52 - m.log2) := by omega
      rw [e1, e2, Nat.shiftLeft_zero]
      have e3 : m * 2 ^ j = (m * 2 ^ (52 - m.log2)) * 2 ^ (j - (52 - m.log2)) := by
        rw [Nat.mul_assoc, ← Nat.pow_add]; congr 2; omega
      rw [e3]
      exact cut_exact neg (Nat.mul_ne_zero h (by have := Nat.two_pow_pos (52 - m.log2); omega))
  rw [hkept]
  have := rung_lt h h2
  unfold rungOf at this ⊢
  rw [Nat.min_eq_left (by omega)]
theorem read_word (neg : Bool) {m : Nat} (h : m ≠ 0) (h2 : m < 2 ^ 53) : double.read (double.word neg (rungOf m)) = .number neg (m * 2 ^ (52 - m.log2)) (-((52 - m.log2 : Nat) : Int)) := by
  have hk := log2_lt53 h h2
  obtain ⟨s1, s2⟩ := sig_bounds h h2
  have hr := rung_lt h h2
  have hr1 : rungOf m < 2 ^ 63 := by omega
  have w1 : double.word neg (rungOf m) / 2 ^ 63 % 2 = if neg then 1 else 0 := by
    unfold Format.word; rw [dbl_sign]
    cases neg
    · simp only [Bool.false_eq_true, if_false]; omega
    · simp only [if_true]; omega
  have w2 : double.word neg (rungOf m) % 2 ^ 63 = rungOf m := by
    unfold Format.word; rw [dbl_sign]
    cases neg
    · simp only [Bool.false_eq_true, if_false]; omega
    · simp only [if_true]; omega
  unfold Format.read
  simp only [dbl_sign, w1, w2, dbl_binade, dbl_inf, dbl_least]
  generalize hM : m * 2 ^ (52 - m.log2) = M at *
  have hrung : rungOf m = (m.log2 + 1022) * 2 ^ 52 + M := by unfold rungOf; rw [hM]
  rw [if_neg (by omega), if_pos (by omega)]
  have a1 : rungOf m % 2 ^ 52 = M - 2 ^ 52 := by omega
  have a2 : rungOf m / 2 ^ 52 = m.log2 + 1023 := by omega
  rw [a1, a2]
  have a3 : 2 ^ 52 + (M - 2 ^ 52) = M := by omega
  rw [a3]
  have a4 : (-1074 : Int) + ((m.log2 + 1023 - 1 : Nat) : Int) = -((52 - m.log2 : Nat) : Int) := by omega
  rw [a4]
  cases neg <;> rfl
theorem read_zero (neg : Bool) : double.read (double.word neg 0) = .number neg 0 (-((1074 : Nat) : Int)) := by cases neg <;> decide
/-- What a datum is worth, as a whole number. -/
def IsV (d : Datum) (s : Bool) (n : Int) : Prop := ∃ (M p : Nat), d = .number s M (-(p : Int)) ∧ signed s M 0 = n * 2 ^ p ∧ (n = 0 → M = 0)
theorem signed0 (s : Bool) (M : Nat) : signed s M 0 = if s then -(M : Int) else M := by simp [signed]
theorem signed_up (s : Bool) (M u : Nat) : signed s M u = signed s M 0 * 2 ^ u := by
  simp only [signed, Nat.shiftLeft_eq, Nat.pow_zero, Nat.mul_one]
  cases s <;> simp [Int.natCast_mul, Int.natCast_pow, Int.neg_mul]
theorem fl_v {n : Int} (h : n.natAbs < 2 ^ 53) : IsV (double.read (fl n)) (decide (n < 0)) n := by
  by_cases hz : n = 0
  · subst hz
    have : fl 0 = double.word false 0 := by decide
    rw [this, read_zero]
    exact ⟨0, 1074, rfl, by simp [signed], fun _ => rfl⟩
  · have hn : n.natAbs ≠ 0 := by omega
    have e : fl n = double.word (decide (n < 0)) (rungOf n.natAbs) := by
      have := nearest_int (decide (n < 0)) 0 hn h
      simpa [fl, FloatKind.nearest, FloatKind.encode, FloatKind.format, Format.write] using this
    rw [e, read_word _ hn h]
    refine ⟨_, _, rfl, ?_, fun h => absurd h hz⟩
    rw [signed0]
    by_cases hneg : n < 0
    · simp only [hneg, decide_true, if_true, Int.natCast_mul, Int.natCast_pow]
      have : (n.natAbs : Int) = -n := by omega
      rw [this, Int.neg_mul, Int.neg_neg]; rfl
    · simp only [hneg, decide_false, Bool.false_eq_true, if_false, Int.natCast_mul, Int.natCast_pow]
      have : (n.natAbs : Int) = n := by omega
      rw [this]; rfl
theorem IsV.opp {d : Datum} {s : Bool} {n : Int} (h : IsV d s n) : IsV d.opposite (!s) (-n) := by
  obtain ⟨M, p, rfl, h1, h2⟩ := h
  refine ⟨M, p, rfl, ?_, fun e => h2 (by omega)⟩
  rw [signed0] at h1 ⊢
  rw [Int.neg_mul, ← h1]
  cases s <;> simp
theorem order_v {d e : Datum} {s t : Bool} {n m : Int} (h : IsV d s n) (k : IsV e t m) : d.order e = some (compare n m) := by
  obtain ⟨M, p, rfl, h1, _⟩ := h
  obtain ⟨N, q, rfl, k1, _⟩ := k
  simp only [Datum.order]
  rw [signed_up, signed_up t, h1, k1]
  have e1 : (-(p : Int) - min (-(p : Int)) (-(q : Int))).toNat = max p q - p := by omega
  have e2 : (-(q : Int) - min (-(p : Int)) (-(q : Int))).toNat = max p q - q := by omega
  have f1 : n * 2 ^ p * 2 ^ (max p q - p) = n * 2 ^ (max p q) := by rw [Int.mul_assoc, ← Int.pow_add]; congr 2; omega
  have f2 : m * 2 ^ q * 2 ^ (max p q - q) = m * 2 ^ (max p q) := by rw [Int.mul_assoc, ← Int.pow_add]; congr 2; omega
  rw [e1, e2, f1, f2]
  congr 1
  have hp : (0 : Int) < 2 ^ (max p q) := Int.pow_pos (by omega)
  simp only [compare, compareOfLessAndEq]
  have l1 : n * 2 ^ (max p q) < m * 2 ^ (max p q) ↔ n < m := Int.mul_lt_mul_right hp
  have l2 : n * 2 ^ (max p q) = m * 2 ^ (max p q) ↔ n = m := Int.mul_eq_mul_right_iff (by omega)
  simp only [l1, l2]
theorem sum_v {d e : Datum} {s t : Bool} {n m : Int} (h : IsV d s n) (k : IsV e t m) (hs : n + m = 0 → (s && t) = false) (hb : (n + m).natAbs < 2 ^ 53) : (d.sum e).map double.write = some (fl (n + m)) := by
  obtain ⟨M, p, rfl, h1, _⟩ := h
  obtain ⟨N, q, rfl, k1, _⟩ := k
  simp only [Datum.sum]
  rw [signed_up, signed_up t, h1, k1]
  have e0 : min (-(p : Int)) (-(q : Int)) = -((max p q : Nat) : Int) := by omega
  rw [e0]
  have e1 : (-(p : Int) - -((max p q : Nat) : Int)).toNat = max p q - p := by omega
  have e2 : (-(q : Int) - -((max p q : Nat) : Int)).toNat = max p q - q := by omega
  have f1 : n * 2 ^ p * 2 ^ (max p q - p) = n * 2 ^ (max p q) := by rw [Int.mul_assoc, ← Int.pow_add]; congr 2; omega
  have f2 : m * 2 ^ q * 2 ^ (max p q - q) = m * 2 ^ (max p q) := by rw [Int.mul_assoc, ← Int.pow_add]; congr 2; omega
  rw [e1, e2, f1, f2, ← Int.add_mul]
  have hp : (0 : Int) < 2 ^ (max p q) := Int.pow_pos (by omega)
  generalize max p q = u at *
  by_cases hz : n + m = 0
  · rw [hz, Int.zero_mul, if_pos rfl, hs hz]
    simp only [Option.map_some, Int.natAbs_zero, Format.write, Format.nearest, if_true]
    congr 1
  · have hnz : (n + m) * 2 ^ u ≠ 0 := Int.mul_ne_zero hz (by omega)
    rw [if_neg hnz]
    have hneg : decide ((n + m) * 2 ^ u < 0) = decide (n + m < 0) := by
      rw [decide_eq_decide]
      constructor
      · intro hh
        apply Classical.byContradiction
        intro hc
        have := Int.mul_nonneg (show 0 ≤ n + m by omega) (Int.le_of_lt hp)
        omega
      · intro hh
        exact Int.mul_neg_of_neg_of_pos hh hp
    rw [hneg]
    have habs : ((n + m) * 2 ^ u).natAbs = (n + m).natAbs * 2 ^ u := by
      rw [Int.natAbs_mul, Int.natAbs_pow]; rfl
    rw [habs]
    have hn : (n + m).natAbs ≠ 0 := by omega
    have w1 := nearest_int (decide (n + m < 0)) u hn hb
    have w2 := nearest_int (decide (n + m < 0)) 0 hn hb
    simp only [Option.map_some, Format.write, w1]
    congr 1
    rw [← w2]
    simp [fl, FloatKind.nearest, FloatKind.encode, FloatKind.format, Format.write]
theorem fl_sub {a b : Int} (ha : 0 ≤ a) (ha2 : a < 2 ^ 52) (hb : 0 ≤ b) (hb2 : b < 2 ^ 52) : double.sub (fl a) (fl b) = some (fl (a - b)) := by
  have h1 := fl_v (n := a) (by omega)
  have h2 := (fl_v (n := b) (by omega)).opp
  have := sum_v h1 h2 (fun _ => by simp [show ¬ a < 0 by omega]) (by omega)
  rw [show a + -b = a - b by omega] at this
  exact this
theorem fl_order {a b : Int} (ha : a.natAbs < 2 ^ 53) (hb : b.natAbs < 2 ^ 53) : double.order (fl a) (fl b) = some (compare a b) := order_v (fl_v ha) (fl_v hb)
end Go.Pv


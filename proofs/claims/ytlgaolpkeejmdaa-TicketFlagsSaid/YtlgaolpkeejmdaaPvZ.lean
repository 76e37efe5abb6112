import Derived.Test.YtlgaolpkeejmdaaPvY
set_option linter.unusedSimpArgs false
set_option linter.unusedVariables false
namespace Go.Pv
section
variable {P : Program} {Q : RX → St → Prop} {env : Nat → EV} {L : List (List PV)} {H : PH} {k : List SI} {ops : List RI} {d : Option Nat}
def nilS (P : Program) (Q : RX → St → Prop) (neg : Bool) (x : Option (Tok × List PV)) (d : Option Nat) (ops : List RI) (k : List SI) (env : Nat → EV) (L : List (List PV)) (H : PH) : Prop :=
  match x with
  | some (_, xs) => ∀ b : Bool, (xs ≠ [] → b = false) → run P Q ops k (putE env d (.v (.scal (.bool (b != neg))))) L H
  | none => False
theorem zzih {neg : Bool} {x : RO} : run P Q (⟨d, none, .snil neg x⟩ :: ops) k env L H = nilS P Q neg (asList? (evalE env x)) d ops k env L H := by
  show pops P _ _ _ = _
  simp only [pops, pop, pact, nilS]
  cases asList? (evalE env x) <;> rfl
theorem nilS_congr {neg : Bool} {v v' : Option (Tok × List PV)} (h : v = v') : nilS P Q neg v d ops k env L H = nilS P Q neg v' d ops k env L H := by rw [h]
attribute [congr] nilS_congr
theorem nilS_intro {neg : Bool} {t : Tok} {xs : List PV} (h : ∀ b : Bool, (xs ≠ [] → b = false) → run P Q ops k (putE env d (.v (.scal (.bool (b != neg))))) L H) : nilS P Q neg (some (t, xs)) d ops k env L H := h
end
def andI (a b : Int) : Int := IntKind.i64.wrap ((BitVec.ofInt 64 a &&& BitVec.ofInt 64 b).toNat : Nat)
def orI (a b : Int) : Int := IntKind.i64.wrap ((BitVec.ofInt 64 a ||| BitVec.ofInt 64 b).toNat : Nat)
theorem zzam {P : Program} (t : TypeId) (a b : Int) : bin2 P .and t (.int .i64 a) (.int .i64 b) = some (.int .i64 (andI a b)) := nr rfl
theorem zzat {P : Program} (t : TypeId) (a b : Int) : bin2 P .or t (.int .i64 a) (.int .i64 b) = some (.int .i64 (orI a b)) := nr rfl
theorem zzbc (b : Bool) : (b != false) = b := by cases b <;> rfl
end Go.Pv

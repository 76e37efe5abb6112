import Derived.Test.YtlgaolpkeejmdaaGreatMG
import Derived.Test.YtlgaolpkeejmdaaGreatMH
set_option linter.unusedSimpArgs false
set_option linter.unusedVariables false
namespace Go.Pv
open Go.Proofs
end Go.Pv


set_option linter.unusedSimpArgs false
set_option linter.unusedVariables false
namespace Go.Pv
open Go.Proofs
end Go.Pv


set_option linter.unusedSimpArgs false
set_option linter.unusedVariables false
namespace Go.Pv
open Go.Proofs
end Go.Pv


set_option linter.unusedSimpArgs false
set_option linter.unusedVariables false
namespace Go.Pv
open Go.Proofs
def isnE (P : Program) (neg : Bool) (e : EV) : Option EV := opVal P (.isnil neg (.t 0)) (fun _ => e) [] []
theorem r_isnil {P : Program} {Q : RX → St → Prop} {env : Nat → EV} {L : List (List PV)} {H : PH} {k : List SI} {ops : List RI} {d : Option Nat} {neg : Bool} {x : RO} : run P Q (⟨d, none, .isnil neg x⟩ :: ops) k env L H = run1 P Q (isnE P neg (evalE env x)) d ops k env L H := by
  rw [run_val rfl]; rfl
end Go.Pv


set_option linter.unusedSimpArgs false
set_option linter.unusedVariables false
namespace Go.Pv
open Go.Proofs
structure Took (name : ByteArray) (key : Term) (now : Int) (t : Term) (a : Tn) (tk x : Term) : Prop where
  take : takeT t apName 2 = ([tk, x], 0)
  opn : (openT tk key).2 = 0
  box : (boxT x (openT tk key).1.key 11).2 = 0
  srv : (serverT (openT tk key).1.auth key).2 = 0
  auth : a.auth = (serverT (openT tk key).1.auth key).1
  tick : a.tick = (openT tk key).1
  svc : seqB (serverT (openT tk key).1.auth key).1.service name = true
  usr : seqB (serverT (openT tk key).1.auth key).1.user (openT tk key).1.client = true
  to : now < (serverT (openT tk key).1.auth key).1.to
  hi : now < (openT tk key).1.span.hi
  lo : (openT tk key).1.span.lo ≤ now
end Go.Pv


set_option linter.unusedSimpArgs false
set_option linter.unusedVariables false
namespace Go.Pv
open Go.Proofs
end Go.Pv


set_option linter.unusedSimpArgs false
set_option linter.unusedVariables false
namespace Go.Pv
open Go.Proofs
end Go.Pv


set_option linter.unusedSimpArgs false
set_option linter.unusedVariables false
namespace Go.Pv
open Go.Proofs
end Go.Pv



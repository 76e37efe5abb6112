import Derived.Test.YtlgaolpkeejmdaaME
import Derived.Test.YtlgaolpkeejmdaaMB
namespace Go.Pv
open Go Go.Proofs Go.RowKit Go.WideShapes
set_option linter.unusedVariables false
section
variable {G : Type} {ec : TypeId × Value → G} {W : World} {base : Nat} {v : Value} {d : DataW G} {ps : List MemPlace}
theorem stays88 {W' : World} (h : DataW.Trod ec Try.prog W 0 (fun _ => true) true 88 v d ps) (hb : Below W.heap.size W W') (hlt : ∀ x ∈ ps, x.block < W.heap.size) {sp : Nat → Bool} (hsp : ∀ x ∈ ps, sp x.block = true) : DataW.Trod ec Try.prog W' 0 sp true 88 v d ps := stays_of (by kernel_rfl) (of_decide_eq_true (by kernel_rfl)) h hb hlt hsp
end
end Go.Pv


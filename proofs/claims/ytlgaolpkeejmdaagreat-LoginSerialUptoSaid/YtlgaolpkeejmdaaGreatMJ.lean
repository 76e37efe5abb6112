import Derived.Test.YtlgaolpkeejmdaaGreatMH
import Derived.Test.YtlgaolpkeejmdaaGreatMI
import Derived.Test.YtlgaolpkeejmdaaGreatMG
import Derived.Test.YtlgaolpkeejmdaaGreatMC
set_option linter.unusedSimpArgs false
set_option linter.unusedVariables false
namespace Go.Pv
open Go.Proofs
theorem bneI (x : Int) : (x != x) = false := by simp
theorem seqS (x : ByteArray) : seqB x x = true := seqB_self x
/-- What is noted. -/
structure Ev where
  kind : Int
  at_ : Int
  who : ByteArray
  by_ : ByteArray
  place : ByteArray
  tr : List ByteArray
  flags : Int
  to_ : Int
  classic : Bool
  code : Int
def encEv (e : Ev) : PV := .agg [.scal (.int .i64 e.kind), .scal (.int .i64 e.at_), .scal (.string e.who), .scal (.string e.by_), .scal (.string e.place), .list .foreign (strs e.tr), .scal (.int .i64 e.flags), .scal (.int .i64 e.to_), .scal (.bool e.classic), .scal (.int .i64 e.code)]
def evL (l : List Ev) : List PV := l.map encEv
theorem evL_len (l : List Ev) : (evL l).length = l.length := by simp [evL]
theorem evL_sz (l : List Ev) : allSz 10 (evL l) = true := allSz_map 10 encEv (fun _ => rfl) _
end Go.Pv

set_option linter.unusedSimpArgs false
set_option linter.unusedVariables false
namespace Go.Pv
open Go.Proofs
instance : DecidableEq Term := fun a b => decidable_of_iff (sameT a b = true) sameT_iff
end Go.Pv


set_option linter.unusedSimpArgs false
set_option linter.unusedVariables false
namespace Go.Pv
open Go.Proofs
end Go.Pv


set_option linter.unusedSimpArgs false
set_option linter.unusedVariables false
namespace Go.Pv
open Go.Proofs
/-! ### the document's acceptor -/
structure RAcc (H : PH) (b c : Nat) (name : ByteArray) (key : Term) (room : Int) (es : List (Term × Int)) (te : Tok) (lg : List PV) (tl : Tok) : Prop where
  acc : H.get b = some (.cells (accC name key c tl lg))
  ch : RCh H c room es te
  ne : b ≠ c
  gl : Grow H tl lg.length 10
  ap : ∀ x, tokB tl = some x → tokB te ≠ some x
  sl : allSz 10 lg = true
theorem Grow.keep {H H' : PH} {tok : Tok} {n sz : Nat} (h : Grow H tok n sz) (hk : ∀ x o, H.get x = some o → tokB tok = some x → H'.get x = some o) : Grow H' tok n sz := by
  rcases h with e | ⟨b, t, e, hb⟩
  · exact .inl e
  · exact .inr ⟨b, t, e, hk _ _ hb (by rw [e]; rfl)⟩
theorem Grow.some {H : PH} {tok : Tok} {n sz x : Nat} (h : Grow H tok n sz) (hx : tokB tok = some x) : ∃ o, H.get x = some o ∧ ∀ cs, o ≠ .cells cs := by
  rcases h with e | ⟨b, t, e, hb⟩
  · rw [e] at hx; cases hx
  · rw [e] at hx; cases hx; exact ⟨_, hb, fun cs e => by cases e⟩
theorem RAcc.put {H H' : PH} {b c : Nat} {name : ByteArray} {key : Term} {room : Int} {es es' : List (Term × Int)} {te te' : Tok} {lg : List PV} {tl : Tok} (h : RAcc H b c name key room es te lg tl) (hc : RCh H' c room es' te') (hf : RFrm H c te H' te') : RAcc H' b c name key room es' te' lg tl := by
  have hb := hf.keep _ _ h.acc h.ne (h.ch.gr.not_cells h.acc)
  refine ⟨hb.1, hc, h.ne, h.gl.keep fun x o hx ht => ?_, fun x hx => ?_, h.sl⟩
  · refine (hf.keep x o hx ?_ (h.ap x ht)).1
    intro e; subst e
    exact h.gl.not_cells h.ch.cache ht
  · obtain ⟨o, ho, hn⟩ := h.gl.some hx
    refine (hf.keep x o ho ?_ (h.ap x hx)).2
    intro e; subst e
    exact h.gl.not_cells h.ch.cache hx
end Go.Pv

set_option linter.unusedSimpArgs false
set_option linter.unusedVariables false
namespace Go.Pv
open Go.Proofs
/-! ### two parts of a heap -/
structure Two (H HA HB : PH) : Prop where
  get : ∀ x, H.get x = (HA.get x).or (HB.get x)
  dis : ∀ x, HA.get x ≠ none → HB.get x = none
theorem Two.symm {H HA HB : PH} (t : Two H HA HB) : Two H HB HA := by
  refine ⟨fun x => ?_, fun x hx => ?_⟩
  · rw [t.get x]
    cases ha : HA.get x with
    | none => simp
    | some a => rw [t.dis x (by rw [ha]; simp)]; simp
  · cases ha : HA.get x with
    | none => rfl
    | some a => exact absurd (t.dis x (by rw [ha]; simp)) hx
theorem Two.left {H HA HB : PH} (t : Two H HA HB) {x : Nat} {o : PObj} (h : HA.get x = some o) : H.get x = some o := by rw [t.get x, h]; rfl
theorem Two.right {H HA HB : PH} (t : Two H HA HB) {x : Nat} {o : PObj} (h : HB.get x = some o) : H.get x = some o := t.symm.left h
theorem Two.nilR (H : PH) : Two H H [] := ⟨fun x => by simp, fun x _ => rfl⟩
/-- What is called with a part of the heap leaves the other part. -/
theorem PCalls.two {P : Program} {f : FuncId} {args : List PV} {H HA HB : PH} {K : PV → PH → Prop} (h : PCalls P f args HA K) (t : Two H HA HB) : PCalls P f args H fun r H' => ∃ HA', Two H' HA' HB ∧ K r HA' := by
  refine ⟨h.1, fun w hw vs h1 h2 => ?_⟩
  have hA : WRep w hw HA := h1.le fun b o hb => t.left hb
  refine (h.2 w hw vs hA h2).mono ?_
  rintro _ w' ⟨v, hw', r, HA', e1, e2, e3, e4, e5⟩
  have hF : WRep w hw (HB ++ HA) := h1.le fun b o hb => by
    rw [PH.get_append] at hb
    rw [t.symm.get b]; exact hb
  have hd : ∀ b, HB.get b ≠ none → HA.get b = none := t.symm.dis
  obtain ⟨f1, f2⟩ := WRep.frame hF hd e2 e3
  refine ⟨v, hw', r, HB ++ HA', e1, ⟨e2.os, e2.tape, e2.output, e2.size, fun b hb hn => ?_, e2.mono, fun b hb => ?_⟩, f1, e4, HA', ⟨fun x => ?_, fun x hx => ?_⟩, e5⟩
  · refine e2.frame b hb ?_
    rw [t.get b] at hn
    cases ha : HA.get b with
    | none => rfl
    | some a => rw [ha] at hn; cases hn
  · rw [PH.get_append] at hb
    cases hB : HB.get b with
    | some o => exact .inl (by rw [t.right hB]; simp)
    | none =>
      rw [hB, Option.none_or] at hb
      rcases e2.dom b hb with h3 | h3
      · refine .inl ?_
        cases ha : HA.get b with
        | none => exact absurd ha h3
        | some a => rw [t.left ha]; simp
      · exact .inr h3
  · rw [PH.get_append]
    cases ha : HA'.get x with
    | none => simp
    | some a =>
      cases hB : HB.get x with
      | none => simp
      | some o => have := f2 x (by rw [hB]; simp); rw [ha] at this; cases this
  · cases hB : HB.get x with
    | none => rfl
    | some o => exact absurd (f2 x (by rw [hB]; simp)) hx
theorem Two.set_left {H HA HB : PH} (t : Two H HA HB) {x : Nat} {o : PObj} (hx : HB.get x = none) : Two (H.set x o) (HA.set x o) HB := by
  refine ⟨fun y => ?_, fun y hy => ?_⟩
  · rw [PH.get_set, PH.get_set]
    split
    · rfl
    · exact t.get y
  · rw [PH.get_set] at hy
    split at hy
    · rename_i e; rw [e]; exact hx
    · exact t.dis y hy
end Go.Pv

namespace Go.Pv
open Go.Proofs
end Go.Pv

set_option linter.unusedSimpArgs false
set_option linter.unusedVariables false
namespace Go.Pv
open Go.Proofs
theorem sub_dropS {α : Type} (cs : List α) (n off k : Nat) : sub (cs.drop n) off (k + 1) = sub cs (n + off) (k + 1) := by
  simp only [sub, List.length_drop, List.drop_drop]
  by_cases h : off + (k + 1) ≤ cs.length - n
  · rw [if_pos h, if_pos (by omega)]
  · rw [if_neg h, if_neg (by omega)]
structure AcB where
  t : Term
  now : Int
  new : Bool
  key : Term
section
variable {H : PH} {b c : Nat} {name : ByteArray} {key : Term} {room : Int} {es : List (Term × Int)} {te : Tok} {lg : List PV} {tl : Tok}
theorem RAcc.clear (h : RAcc H b c name key room es te lg tl) : RAcc (H.set b (.cells (accC name key c .full []))) b c name key room es te [] .full :=
  ⟨get_same _ _ _, ⟨by rw [PH.get_set, if_neg (fun e => h.ne e.symm)]; exact h.ch.cache, h.ch.gr.set_cells (h.ch.gr.not_cells h.acc)⟩, h.ne, .inl rfl, fun _ e => (by cases e), rfl⟩
end
end Go.Pv

set_option linter.unusedSimpArgs false
set_option linter.unusedVariables false
namespace Go.Pv
open Go.Proofs
theorem encEv_fg (e : Ev) : (encEv e).fg = encEv e := by simp only [encEv, PV.fg, fgL, zzkt]
end Go.Pv


import Derived.Test.YtlgaolpkeejmdaaGreatMG
import Derived.Test.YtlgaolpkeejmdaaGreatMH
set_option linter.unusedSimpArgs false
set_option linter.unusedVariables false
namespace Go.Pv
open Go.Proofs
theorem box_seal (key key' : Term) (u : Int) (b : Term) : boxT (sealT key u b) key' u = if (key'.k == 2 && sameT key key') = true then (b, 0) else (zT, 20) := by
  unfold boxT sealT
  simp only [k_mk, s_mk, n_mk, l_mk, emp0', hd, List.drop_succ_cons, List.drop_zero, List.length_cons, List.length_nil]
  cases h1 : (key'.k == 2) <;> cases h2 : sameT key key' <;> simp_all [bne]
theorem plain0_nm (s : ByteArray) : plainT (nmT s) 0 = true := by simp [plainT, nmT, Term.k, Term.n, Term.l, len0]
theorem plain1_num (n : Int) : plainT (numT n) 1 = true := by
  have := emp0'
  simp [plainT, numT, Term.k, Term.s, Term.l, len0, this]
theorem readI_kind' {t : Term} (h : ((readI t).2 == 0) = true) : (t.k == 3) = true := by
  unfold readI at h
  split at h
  · exact absurd h (by decide)
  · rename_i h2
    simp only [Bool.or_eq_true, not_or, Bool.not_eq_true, bne_eq_false_iff_eq] at h2
    simp [h2.1]
theorem ticketOk_parts {k : Tk} (h : ticketOk k = true) : nameOk k.service = true ∧ nameOk k.client = true ∧ (k.key.k == 2) = true ∧ (k.auth.k == 3) = true := by
  simp only [ticketOk, Bool.and_eq_true, Bool.not_eq_true', Bool.or_eq_false_iff, Bool.not_eq_false'] at h
  exact ⟨h.1.1, h.1.2.1, h.2.2.1, readI_kind' h.2.1⟩
theorem service_made {k : Tk} (key : Term) (h : nameOk k.service = true) : serviceT (msgT tkName [nmT k.service, sealT key 2 (bodyT k)]) = (k.service, 0) := by
  have hT := takeT_msg tkName tkName [nmT k.service, sealT key 2 (bodyT k)] 2
  rw [if_pos ⟨rfl, rfl⟩] at hT
  unfold serviceT
  rw [hT]
  simp only [hd, plain0_nm]
  rw [show (nmT k.service).s = k.service from rfl, h]
  rfl
theorem body_made {k : Tk} (h : ticketOk k = true) : bodyR k.service (bodyT k) = (k, 0) := by
  obtain ⟨_, _, hk, ha⟩ := ticketOk_parts h
  have hK : bodyK k.service (numT k.flags) k.key (nmT k.client) (numT k.span.lo) (numT k.span.hi) k.auth = k := rfl
  unfold bodyR
  have h1 : ((bodyT k).k != 3 || (!emp (bodyT k).s || ((bodyT k).n != 0 || ((bodyT k).l.length : Int) != 6))) = false := by
    have : emp (bodyT k).s = true := emp0'
    rw [this]; rfl
  rw [h1]
  have h2 : (bodyT k).l = [numT k.flags, k.key, nmT k.client, numT k.span.lo, numT k.span.hi, k.auth] := rfl
  rw [h2]
  simp only [hK, h, plain0_nm, plain1_num, hk, ha]
  rfl
theorem open_made {k : Tk} (key key' : Term) (h : ticketOk k = true) (h2 : key.k = 2) : openT (msgT tkName [nmT k.service, sealT key 2 (bodyT k)]) key' = if sameT key key' then (k, 0) else (zK, 20) := by
  unfold openT
  rw [service_made key (ticketOk_parts h).1]
  have hl : hd ((msgT tkName [nmT k.service, sealT key 2 (bodyT k)]).l.drop 2) = sealT key 2 (bodyT k) := rfl
  rw [hl, box_seal]
  cases hs : sameT key key' with
  | true =>
    have e := sameT_iff.1 hs
    have hk : (key'.k == 2) = true := by rw [← e, h2]; rfl
    rw [hk]
    simp only [Bool.and_self, if_true, body_made h]
    rfl
  | false =>
    simp only [Bool.and_false, Bool.false_eq_true, if_false]
    rfl
theorem makeT_ok {k : Tk} {key : Term} (h : ticketOk k = true) (h2 : key.k = 2) : makeT k key = (msgT tkName [nmT k.service, sealT key 2 (bodyT k)], 0) := by
  unfold makeT; rw [h, h2]; rfl
end Go.Pv


set_option linter.unusedSimpArgs false
set_option linter.unusedVariables false
namespace Go.Pv
open Go.Proofs
end Go.Pv


set_option linter.unusedSimpArgs false
set_option linter.unusedVariables false
namespace Go.Pv
open Go.Proofs
end Go.Pv


set_option linter.unusedSimpArgs false
set_option linter.unusedVariables false
namespace Go.Pv
open Go.Proofs
def isnE (P : Program) (neg : Bool) (e : EV) : Option EV := opVal P (.isnil neg (.t 0)) (fun _ => e) [] []
theorem r_isnil {P : Program} {Q : RX → St → Prop} {env : Nat → EV} {L : List (List PV)} {H : PH} {k : List SI} {ops : List RI} {d : Option Nat} {neg : Bool} {x : RO} : run P Q (⟨d, none, .isnil neg x⟩ :: ops) k env L H = run1 P Q (isnE P neg (evalE env x)) d ops k env L H := by
  rw [run_val rfl]; rfl
end Go.Pv


set_option linter.unusedSimpArgs false
set_option linter.unusedVariables false
namespace Go.Pv
open Go.Proofs
structure Took (name : ByteArray) (key : Term) (now : Int) (t : Term) (a : Tn) (tk x : Term) : Prop where
  take : takeT t apName 2 = ([tk, x], 0)
  opn : (openT tk key).2 = 0
  box : (boxT x (openT tk key).1.key 11).2 = 0
  srv : (serverT (openT tk key).1.auth key).2 = 0
  auth : a.auth = (serverT (openT tk key).1.auth key).1
  tick : a.tick = (openT tk key).1
  svc : seqB (serverT (openT tk key).1.auth key).1.service name = true
  usr : seqB (serverT (openT tk key).1.auth key).1.user (openT tk key).1.client = true
  to : now < (serverT (openT tk key).1.auth key).1.to
  hi : now < (openT tk key).1.span.hi
  lo : (openT tk key).1.span.lo ≤ now
end Go.Pv


set_option linter.unusedSimpArgs false
set_option linter.unusedVariables false
namespace Go.Pv
open Go.Proofs
end Go.Pv


set_option linter.unusedSimpArgs false
set_option linter.unusedVariables false
namespace Go.Pv
open Go.Proofs
end Go.Pv


set_option linter.unusedSimpArgs false
set_option linter.unusedVariables false
namespace Go.Pv
open Go.Proofs
end Go.Pv



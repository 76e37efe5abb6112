import Derived.Test.YtlgaolpkeejmdaaML
set_option linter.unusedSimpArgs false
set_option linter.unusedVariables false
namespace Go.Pv
open Go.Proofs
theorem credOk_kk {c : Cr} (h : credOk c = true) : (c.key.k == 2) = true ∧ (serviceT c.ticket).2 = 0 ∧ (serviceT c.ticket).1 = c.service := by
  simp only [credOk, Bool.and_eq_true, Bool.not_eq_true', Bool.or_eq_false_iff, bne_eq_false_iff_eq, Bool.not_eq_false', seqB_iff] at h
  exact ⟨by simp [h.2.1.1], h.1.1, h.1.2.1⟩
theorem shown_made {c : Cr} {k : Tk} {key : Term} (now nonce : Int) (h : credOk c = true) (ho : openT c.ticket key = (k, 0)) :
    shownD (msgT apName [c.ticket, sealT c.key 11 (inT c now nonce)]) key = if !sameT c.key k.key then (zK, 0, 0, 20) else if !seqB c.client k.client || !seqB c.service k.service then (zK, 0, 0, 51) else (k, now, nonce, 0) := by
  have hT := takeT_msg apName apName [c.ticket, sealT c.key 11 (inT c now nonce)] 2
  rw [if_pos ⟨rfl, rfl⟩] at hT
  have hk := (credOk_kk h).1
  unfold shownD
  rw [hT]
  simp only [ho, box_seal]
  cases hs : sameT c.key k.key with
  | true =>
    have e := sameT_iff.1 hs
    rw [← e, hk]
    have hS : shapedT (inT c now nonce) [0, 1, 1, 0] = true := by
      have e : shapedT (inT c now nonce) [0, 1, 1, 0] = (!(((3 : Int) != 3) || (!emp ⟨#[]⟩ || (((0 : Int) != 0) || ((4 : Nat) : Int) != ((4 : Nat) : Int)))) && wordsOk [nmT c.client, numT now, numT nonce, nmT c.service] [0, 1, 1, 0]) := rfl
      rw [e, emp0']
      have hn : ∀ n, wordOk (numT n) 1 = true := fun n => sameT_self _
      have hs : ∀ s, wordOk (nmT s) 0 = true := fun n => sameT_self _
      simp only [wordsOk, hn, hs]
      rfl
    simp only [Bool.and_self, if_true, hS]
    rfl
  | false =>
    simp only [Bool.and_false, Bool.false_eq_true, if_false]
    rfl
end Go.Pv


import Derived.Test.YtlgaolpkeejmdaaMR
import Derived.Test.YtlgaolpkeejmdaaMN
set_option linter.unusedSimpArgs false
set_option linter.unusedVariables false
namespace Go.Pv
open Go.Proofs
theorem k_num (n : Int) (l : List Term) : nextR 1 (numT n :: l) false = (numT n, l, false) := by
  simp [nextR, numT, Term.k, plainOdd, Term.s, Term.l, emp0', someT]
theorem k_nm (s : ByteArray) (l : List Term) : nextR 0 (nmT s :: l) false = (nmT s, l, false) := rfl
theorem k_lst (m : List Term) (l : List Term) : nextR 3 (lstT m :: l) false = (lstT m, l, false) := by
  simp [nextR, lstT, Term.k, plainOdd, Term.s, Term.n, emp0']
theorem k_loop1 : ∀ l : List Int, loopR 1 (l.map numT) = (l.map numT, false)
  | [] => rfl
  | n :: l => by
    simp only [List.map_cons, loopR, k_loop1 l]
    simp [numT, Term.k, plainOdd, Term.s, Term.l, emp0', someT]
theorem k_loop0 : ∀ l : List ByteArray, loopR 0 (l.map nmT) = (l.map nmT, false)
  | [] => rfl
  | n :: l => by
    simp only [List.map_cons, loopR, k_loop0 l]
    simp [nmT, Term.k, plainOdd, Term.n, Term.l, someT]
theorem k_each1 (g : List Int) (l : List Term) : eachR 1 (lstT (g.map numT) :: l) false = (g.map numT, l, false) := by
  simp only [eachR, k_lst]
  show ((loopR 1 (g.map numT)).1, l, false || (loopR 1 (g.map numT)).2) = _
  rw [k_loop1]; rfl
theorem k_each0 (g : List ByteArray) (l : List Term) : eachR 0 (rowT g :: l) false = (g.map nmT, l, false) := by
  simp only [eachR, rowT, k_lst]
  show ((loopR 0 (g.map nmT)).1, l, false || (loopR 0 (g.map nmT)).2) = _
  rw [k_loop0]; rfl
theorem k_readD (a : Au) : readD (dataT a) false = if authOk a then (a, 0) else (zA, 50) := by
  have hd : (dataT a).l = [nmT a.user, lstT (a.groups.map numT), numT a.origin, rowT a.transited, nmT a.service, numT (bitI a.fwd), numT a.to] := rfl
  unfold readD
  simp only [hd, k_nm, k_each1, k_num, k_each0]
  have hb : ((numT (bitI a.fwd)).n != 0 && (numT (bitI a.fwd)).n != 1) = false := by
    show (bitI a.fwd != 0 && bitI a.fwd != 1) = false
    cases a.fwd <;> rfl
  rw [hb]
  simp only [Bool.or_self, k_num]
  have hA : readA (nmT a.user) (a.groups.map numT) (numT a.origin) (a.transited.map nmT) (nmT a.service) (numT (bitI a.fwd)) (numT a.to) = a := by
    show (⟨a.user, (a.groups.map numT).map Term.n, a.origin, (a.transited.map nmT).map Term.s, a.service, bitI a.fwd == 1, a.to⟩ : Au) = a
    have h1 : (a.groups.map numT).map Term.n = a.groups := by rw [List.map_map]; exact List.map_id _
    have h2 : (a.transited.map nmT).map Term.s = a.transited := by rw [List.map_map]; exact List.map_id _
    have h3 : (bitI a.fwd == 1) = a.fwd := by cases a.fwd <;> rfl
    rw [h1, h2, h3]
  rw [hA]
  have : someT [] = false := by decide
  rw [this]
  cases authOk a <;> rfl
theorem k_readI (a : Au) (s t : Term) (h : authOk a = true) : readI (lstT [dataT a, s, t]) = (a, 0) := by
  have e : readI (lstT [dataT a, s, t]) = readD (nextR 3 [dataT a] false).1 (nextR 3 [dataT a] false).2.2 := by
    unfold readI
    simp [lstT, Term.k, Term.l, Term.s, Term.n, emp0']
  have e2 : nextR 3 [dataT a] false = (dataT a, [], false) := k_lst _ _
  rw [e, e2, k_readD, h]; rfl
/-- What is made is told by the server's key. -/
theorem server_made {a : Au} {key centre : Term} (h : authOk a = true) (h2 : key.k = 2) (h3 : centre.k = 2) : serverT (buildT a key centre).1 key = (a, 0) := by
  have hb : buildT a key centre = (lstT [dataT a, sumT key 18 (dataT a), sumT centre 19 (sumT key 18 (dataT a))], 0) := by
    unfold buildT; rw [h, h2, h3]; rfl
  rw [hb]
  have hr := k_readI a (sumT key 18 (dataT a)) (sumT centre 19 (sumT key 18 (dataT a))) h
  unfold serverT
  rw [hr]
  have hs : summedT (sumT key 18 (dataT a)) key 18 (dataT a) = true := by
    unfold summedT; rw [h2, sameT_self]; rfl
  simp only [lstT, Term.l, hs]
  rfl
/-- The ticket that is made. -/
def tkM (a : Au) (key centre session : Term) (from_ : Int) : Tk := ⟨a.service, 1, session, a.user, ⟨from_, a.to⟩, (buildT a key centre).1⟩
theorem made_parts {a : Au} {key centre session : Term} {from_ : Int} (h : (madeT a key centre session from_).2 = true) :
    authOk a = true ∧ key.k = 2 ∧ centre.k = 2 ∧ ticketOk (tkM a key centre session from_) = true ∧
    (madeT a key centre session from_).1 = ⟨a.service, a.user, msgT tkName [nmT a.service, sealT key 2 (bodyT (tkM a key centre session from_))], session, 1, ⟨from_, a.to⟩⟩ := by
  simp only [madeT, Bool.and_eq_true] at h
  obtain ⟨h1, h2⟩ := h
  have p1 : authOk a = true ∧ key.k = 2 ∧ centre.k = 2 := by
    unfold buildT at h1
    split at h1
    · cases h1
    · rename_i g
      simp only [Bool.or_eq_true, Bool.not_eq_true', bne_iff_ne, ne_eq, not_or, Bool.not_eq_false, Decidable.not_not] at g
      exact ⟨g.1, g.2.1, g.2.2⟩
  have p2 : ticketOk (tkM a key centre session from_) = true := by
    unfold makeT at h2
    split at h2
    · cases h2
    · rename_i g
      simp only [Bool.or_eq_true, Bool.not_eq_true', not_or, Bool.not_eq_false] at g
      exact g.1
  refine ⟨p1.1, p1.2.1, p1.2.2, p2, ?_⟩
  have := makeT_ok (key := key) p2 p1.2.1
  simp only [madeT]
  have e : makeT ⟨a.service, 1, session, a.user, ⟨from_, a.to⟩, (buildT a key centre).1⟩ key = (msgT tkName [nmT a.service, sealT key 2 (bodyT (tkM a key centre session from_))], 0) := this
  rw [e]
theorem show_parts {c : Cr} {clock nonce : Int} (h : (showT c clock nonce).2 = 0) : credOk c = true ∧ (showT c clock nonce).1 = msgT apName [c.ticket, sealT c.key 11 (inT c clock nonce)] := by
  unfold showT at h ⊢
  cases g : credOk c with
  | false => simp [g] at h
  | true => exact ⟨rfl, by simp⟩
/-- What is shown of what was made, by the key that it was made with. -/
theorem shown_own {a : Au} {key centre session : Term} {from_ clock nonce : Int} (h : (madeT a key centre session from_).2 = true) (h2 : (showT (madeT a key centre session from_).1 clock nonce).2 = 0) :
    shownD (showT (madeT a key centre session from_).1 clock nonce).1 key = (tkM a key centre session from_, clock, nonce, 0) := by
  obtain ⟨p1, p2, p3, p4, p5⟩ := made_parts h
  obtain ⟨q1, q2⟩ := show_parts h2
  have ho : openT (madeT a key centre session from_).1.ticket key = (tkM a key centre session from_, 0) := by
    rw [p5]
    have := open_made key key p4 p2
    rw [sameT_self, if_pos rfl] at this
    exact this
  rw [q2, shown_made clock nonce q1 ho]
  have e1 : (madeT a key centre session from_).1.key = session := by rw [p5]
  have e2 : (madeT a key centre session from_).1.client = a.user := by rw [p5]
  have e3 : (madeT a key centre session from_).1.service = a.service := by rw [p5]
  rw [e1, e2, e3]
  simp only [tkM, sameT_self, seqB_self, Bool.not_true, Bool.or_self, Bool.false_eq_true, if_false]
/-- By another key nothing is shown. -/
theorem shown_other {a : Au} {key centre session other : Term} {from_ clock nonce : Int} (h : (madeT a key centre session from_).2 = true) (h2 : (showT (madeT a key centre session from_).1 clock nonce).2 = 0) (hn : sameT key other = false) :
    (shownD (showT (madeT a key centre session from_).1 clock nonce).1 other).2.2.2 = 20 := by
  obtain ⟨p1, p2, p3, p4, p5⟩ := made_parts h
  obtain ⟨q1, q2⟩ := show_parts h2
  have ho : openT (madeT a key centre session from_).1.ticket other = (zK, 20) := by
    rw [p5]
    have := open_made key other p4 p2
    rw [hn] at this
    exact this
  have hT := takeT_msg apName apName [(madeT a key centre session from_).1.ticket, sealT (madeT a key centre session from_).1.key 11 (inT (madeT a key centre session from_).1 clock nonce)] 2
  rw [if_pos ⟨rfl, rfl⟩] at hT
  rw [q2]
  unfold shownD
  rw [hT]
  simp only [ho]
  rfl
theorem who_own {a : Au} {key centre session : Term} {from_ now : Int} (h : (madeT a key centre session from_).2 = true) :
    whoT a.service key now (tkM a key centre session from_) = if checkS ⟨from_, a.to⟩ now 0 != 0 then (zA, checkS ⟨from_, a.to⟩ now 0) else if decide (a.to ≤ now) then (zA, 32) else (a, 0) := by
  obtain ⟨p1, p2, p3, p4, p5⟩ := made_parts h
  have hs : serverT (tkM a key centre session from_).auth key = (a, 0) := server_made p1 p2 p3
  unfold whoT
  rw [hs]
  simp only [tkM, seqB_self, Bool.not_true, Bool.false_eq_true, if_false]
  rfl
/-- What the document's time is. -/
def timeB (from_ to now clock : Int) : Bool := decide (from_ ≤ now) && (decide (now < to) && (decide (now ≤ 1099511627776) && (decide (0 ≤ clock) && (decide (clock ≤ 1099511627776) && (decide (clock - now ≤ 300) && decide (now - clock ≤ 300))))))
theorem check_zero {lo hi now : Int} (hs : spanOk ⟨lo, hi⟩ = true) : (checkS ⟨lo, hi⟩ now 0 = 0) ↔ (timeOk now = true ∧ lo ≤ now ∧ now < hi) := by
  unfold checkS
  have t0 : timeOk 0 = true := by decide
  rw [hs, t0]
  cases ht : timeOk now with
  | false => simp
  | true =>
    simp only [Bool.not_true, Bool.and_self, Bool.or_self, Bool.false_eq_true, if_false, decide_eq_true_eq]
    split
    · simp; omega
    · split
      · simp; omega
      · simp; omega
end Go.Pv

set_option linter.unusedSimpArgs false
set_option linter.unusedVariables false
namespace Go.Pv
open Go.Proofs
theorem accept_own {a : Au} {key centre session : Term} {from_ now clock : Int} (h : (madeT a key centre session from_).2 = true) (h2 : (showT (madeT a key centre session from_).1 clock 5).2 = 0) :
    ((acceptT a.service key 3 [] now (showT (madeT a key centre session from_).1 clock 5).1).2.1 == 0) = timeB from_ a.to now clock := by
  have hsh := shown_own (clock := clock) (nonce := 5) h h2
  have hwho := who_own (now := now) h
  have hso : spanOk ⟨from_, a.to⟩ = true := by
    have := (made_parts h).2.2.2.1
    simp only [ticketOk, tkM, Bool.and_eq_true] at this
    exact this.2.2.2.2
  have hck := check_zero (now := now) hso
  obtain ⟨q1, q2⟩ := show_parts h2
  obtain ⟨x0, x1, x2, hl⟩ : ∃ x0 x1 x2, (showT (madeT a key centre session from_).1 clock 5).1.l = [x0, x1, x2] := shownD_ok (key := key) (by rw [hsh]; rfl)
  have t300 : timeOk 300 = true := by decide
  simp only [spanOk, Bool.and_eq_true, decide_eq_true_eq] at hso
  have r1 := time_rng hso.1.1
  have r2 := time_rng hso.1.2
  unfold acceptT
  rw [hsh]
  simp only [hl, hwho]
  cases hc : (checkS ⟨from_, a.to⟩ now 0 != 0) with
  | true =>
    simp only [hc, show ((0 : Int) != 0) = false from rfl, Bool.false_eq_true, if_false, if_true]
    have hne : checkS ⟨from_, a.to⟩ now 0 ≠ 0 := by simpa using hc
    have : timeB from_ a.to now clock = false := by
      cases ht : timeB from_ a.to now clock with
      | false => rfl
      | true =>
        simp only [timeB, Bool.and_eq_true, decide_eq_true_eq] at ht
        exact absurd (hck.2 ⟨by simp only [timeOk, Bool.not_eq_true', Bool.or_eq_false_iff, decide_eq_false_iff_not]; omega, ht.1, ht.2.1⟩) hne
    rw [this]
    simpa using hne
  | false =>
    have h0 : checkS ⟨from_, a.to⟩ now 0 = 0 := by simpa using hc
    obtain ⟨k1, k2, k3⟩ := hck.1 h0
    have r3 := time_rng k1
    have hto : decide (a.to ≤ now) = false := by simp only [decide_eq_false_iff_not]; omega
    simp only [hc, hto, show ((0 : Int) != 0) = false from rfl, Bool.false_eq_true, if_false]
    have hn : nearT clock now 300 = timeB from_ a.to now clock := by
      rw [Bool.eq_iff_iff]
      simp only [nearT, timeB, k1, t300, Bool.and_eq_true, Bool.true_and, Bool.and_true, decide_eq_true_eq, timeOk, Bool.not_eq_true', Bool.or_eq_false_iff, decide_eq_false_iff_not]
      split <;> constructor <;> intro hh <;> omega
    rw [hn]
    cases timeB from_ a.to now clock with
    | true => simp [putE2, hasE, liveE]
    | false => rfl
/-- What is taken then. -/
theorem accept_own2 {a : Au} {key centre session : Term} {from_ now clock : Int} (h : (madeT a key centre session from_).2 = true) (h2 : (showT (madeT a key centre session from_).1 clock 5).2 = 0) (ht : timeB from_ a.to now clock = true) :
    (acceptT a.service key 3 [] now (showT (madeT a key centre session from_).1 clock 5).1).1 = ⟨a, tkM a key centre session from_, (madeT a key centre session from_).1.ticket⟩ := by
  have hsh := shown_own (clock := clock) (nonce := 5) h h2
  have hwho := who_own (now := now) h
  have hown := accept_own (now := now) h h2
  rw [ht] at hown
  obtain ⟨q1, q2⟩ := show_parts h2
  have hl : (showT (madeT a key centre session from_).1 clock 5).1.l = [nmT apName, (madeT a key centre session from_).1.ticket, sealT (madeT a key centre session from_).1.key 11 (inT (madeT a key centre session from_).1 clock 5)] := by rw [q2]; rfl
  unfold acceptT at hown ⊢
  rw [hsh] at hown ⊢
  simp only [hl, hwho] at hown ⊢
  cases hc : (checkS ⟨from_, a.to⟩ now 0 != 0) with
  | true =>
    simp only [hc, show ((0 : Int) != 0) = false from rfl, Bool.false_eq_true, if_false, if_true] at hown
    rw [bne, Bool.not_eq_true'] at hc
    rw [hc] at hown; cases hown
  | false =>
    simp only [timeB, Bool.and_eq_true, decide_eq_true_eq] at ht
    have hto : decide (a.to ≤ now) = false := by simp only [decide_eq_false_iff_not]; omega
    simp only [hc, hto, show ((0 : Int) != 0) = false from rfl, Bool.false_eq_true, if_false] at hown ⊢
    cases hn : nearT clock now 300 with
    | false => simp [hn] at hown
    | true => simp [putE2, hasE, liveE]
theorem b_bool_neq {P : Program} {t : TypeId} (h : P.underlying t = some .bool) (a b : Bool) : bin2 P .neq t (.bool a) (.bool b) = some (.bool (a != b)) := by
  show pureP P (do eqGuard .neq t (.const (.bool a)) (.const (.bool b)) (.bool a) (.bool b); binOp .neq t (.bool a) (.bool b) : Sem Value) = _
  rw [pureP_bind (a := ()) rfl]
  show pureP P (Op.equal t (.bool a) (.bool b) >>= fun r => (pure (.bool !r) : Sem Value)) = _
  have : pureP P (Op.equal t (.bool a) (.bool b)) = some (a == b) := by
    unfold Op.equal Op.maxDepth
    show pureP P (Op.equalIn (9999 + 1) t _ _) = _
    unfold Op.equalIn
    have hu : pureP P (underlying t) = some .bool := by
      show pureP P (program >>= fun p => match p.underlying t with | some d => pure d | none => stuck "no such type") = _
      rw [pureP_bind (a := P) rfl, h]; rfl
    rw [pureP_bind hu]
    rfl
  rw [pureP_bind this]; rfl
theorem run_cutE {P : Program} {Q : RX → St → Prop} {env : Nat → EV} {L : List (List PV)} {H : PH} {k : List SI} {ops : List RI} (T : List Nat) (h : ∀ env', (∀ t ∈ T, env' t = env t) → run P Q ops k env' L H) : run P Q ops k env L H := h env fun _ _ => rfl
theorem tb4 : Try.prog.underlying 4 = some .bool := by kernel_rfl
end Go.Pv

set_option linter.unusedSimpArgs false
set_option linter.unusedVariables false
namespace Go.Pv
open Go.Proofs
def markM (a : Au) (key centre session : Term) (from_ clock nonce : Int) : Term := sealT (madeT a key centre session from_).1.key 11 (inT (madeT a key centre session from_).1 clock nonce)
/-- What is shown in time, whatever came. -/
theorem accept_mine {a : Au} {key centre session : Term} {from_ now clock nonce room : Int} {es : List (Term × Int)} (h : (madeT a key centre session from_).2 = true) (h2 : (showT (madeT a key centre session from_).1 clock nonce).2 = 0) (ht : timeB from_ a.to now clock = true) :
    acceptT a.service key room es now (showT (madeT a key centre session from_).1 clock nonce).1 =
      if (putE2 room es (markM a key centre session from_ clock nonce) (IntKind.i64.wrap (now + 601)) now).1 != 0 then (zX, (putE2 room es (markM a key centre session from_ clock nonce) (IntKind.i64.wrap (now + 601)) now).1, (putE2 room es (markM a key centre session from_ clock nonce) (IntKind.i64.wrap (now + 601)) now).2)
      else (⟨a, tkM a key centre session from_, (madeT a key centre session from_).1.ticket⟩, 0, (putE2 room es (markM a key centre session from_ clock nonce) (IntKind.i64.wrap (now + 601)) now).2) := by
  have hsh := shown_own (clock := clock) (nonce := nonce) h h2
  have hwho := who_own (now := now) h
  have hso : spanOk ⟨from_, a.to⟩ = true := by
    have := (made_parts h).2.2.2.1
    simp only [ticketOk, tkM, Bool.and_eq_true] at this
    exact this.2.2.2.2
  have hck := check_zero (now := now) hso
  obtain ⟨q1, q2⟩ := show_parts h2
  have hl : (showT (madeT a key centre session from_).1 clock nonce).1.l = [nmT apName, (madeT a key centre session from_).1.ticket, markM a key centre session from_ clock nonce] := by rw [q2]; rfl
  simp only [spanOk, Bool.and_eq_true, decide_eq_true_eq] at hso
  have r1 := time_rng hso.1.1
  have r2 := time_rng hso.1.2
  simp only [timeB, Bool.and_eq_true, decide_eq_true_eq] at ht
  have h0 : checkS ⟨from_, a.to⟩ now 0 = 0 := hck.2 ⟨by simp only [timeOk, Bool.not_eq_true', Bool.or_eq_false_iff, decide_eq_false_iff_not]; omega, ht.1, ht.2.1⟩
  have hto : decide (a.to ≤ now) = false := by simp only [decide_eq_false_iff_not]; omega
  have hn : nearT clock now 300 = true := by
    simp only [nearT, timeOk, Bool.and_eq_true, decide_eq_true_eq, Bool.not_eq_true', Bool.or_eq_false_iff, decide_eq_false_iff_not]
    split <;> omega
  unfold acceptT
  rw [hsh]
  simp only [hl, hwho, h0, hto, hn, show ((0 : Int) != 0) = false from rfl, Bool.false_eq_true, if_false, Bool.not_true]
theorem accept_not {a : Au} {key centre session other : Term} {from_ now clock nonce room : Int} {es : List (Term × Int)} (h : (madeT a key centre session from_).2 = true) (h2 : (showT (madeT a key centre session from_).1 clock nonce).2 = 0) (hn : sameT key other = false) :
    acceptT a.service other room es now (showT (madeT a key centre session from_).1 clock nonce).1 = (zX, 20, es) := by
  have e := shown_other (clock := clock) (nonce := nonce) h h2 hn
  unfold acceptT
  rw [e]
  rfl
end Go.Pv


import Derived.Test.YtlgaolpkeejmdaaGreatMN
set_option linter.unusedSimpArgs false
set_option linter.unusedVariables false
namespace Go.Pv
open Go.Proofs
/-! ### the centre -/
def cenC (b c : Nat) (serial : Int) (tl : Tok) (lg : List PV) : List PV := [.ptr b 0, .ptr c 0, .scal (.int .i64 serial), .list tl lg]
structure Cen (H : PH) (d b c : Nat) (room : Int) (es : List (Term × Int)) (te : PV) (serial : Int) (evs : List Ev) (tl : Tok) : Prop where
  cen : H.get d = some (.cells (cenC b c serial tl (evL evs)))
  ch : Ch H c room es te
  ne : d ≠ c
  gl : Grow H tl (evL evs).length 10
  vb : elB te ≠ some d
  ap : ∀ x, elB te = some x → tokB tl ≠ some x
set_option maxRecDepth 10000 in
theorem c32 (b : Nat) (room : Int) : PCalls Tryz.prog 32 [.ptr b 0, .scal (.int .i64 room)] [] fun r H' => ∃ d c, r = .ptr d 0 ∧ Cen H' d b c (if 0 > room then 0 else room) [] (.list .full []) 0 [] .full := by
  refine calls_of hmix Tryz.func32 ok32 (by simp) ?_
  simp -implicitDefEqProofs only [rc32, zzfp, zzft, zzjy, zzjq, zziu, zzdn, zzdm, zzlf, zzid, zzgi, zzif, zzie, zzhz, List.map_cons, List.map_nil, Nat.reduceSub, Nat.reduceEqDiff, if_true, if_false, PV.fg, fgL, Nat.add_one_ne_zero, zzgf]
  refine kcall_intro (c61 room []) ?_
  rintro r H1 ⟨c, hc, rfl, rfl⟩
  simp -implicitDefEqProofs only [zzjp, zzbe, zzjk, zzih, zzdn, zzlf, zzid, zzgi, zzce, zzdi, zzbb, zzdk, zzdj, zzhx, zzba, zzbg, zzbf, zzkm, zzkn, Nat.reduceBEq, zzko, zzbw, zzbz, List.length_cons, List.length_nil, Nat.reduceSub, Nat.reduceEqDiff, Nat.zero_add, if_true, if_false, Nat.add_one_ne_zero, zzjp, zzbe, Int.reduceBEq]
  refine bH_intro fun d hd => ?_
  simp -implicitDefEqProofs only [zzfq, zzjy, zziu, zzja, zzjb, zzix, zzjd, zzdn, zzlf, zzid, zzgi, Nat.reduceSub, Nat.reduceEqDiff, if_true, if_false, Nat.add_one_ne_zero, zzib, zzdg]
  have hdc : d ≠ c := fun e => by subst e; rw [PH.get_set, if_pos rfl] at hd; cases hd
  refine endK_raw ⟨d, c, rfl, ?_, ⟨?_, .inl ⟨rfl, rfl⟩, by simp [elB]⟩, hdc, .inl rfl, by simp [elB], fun _ h => (by cases h)⟩
  · rw [PH.get_set, if_pos rfl]; rfl
  · rw [PH.get_set, if_neg (fun e => hdc e.symm), PH.get_set, if_pos rfl]
section
variable {H H' : PH} {d b c : Nat} {room : Int} {es es' : List (Term × Int)} {te te' : PV} {serial : Int} {evs : List Ev} {tl : Tok}
theorem Cen.put (h : Cen H d b c room es te serial evs tl) (hc : Ch H' c room es' te') (hf : Frm H c te H' te') : Cen H' d b c room es' te' serial evs tl := by
  refine ⟨hf.keep _ _ h.cen h.ne h.vb, hc, h.ne, ?_, ?_, ?_⟩
  · rcases h.gl with e | ⟨b', t, e, hb⟩
    · exact .inl e
    · refine .inr ⟨b', t, e, hf.keep _ _ hb ?_ ?_⟩
      · intro e2; subst e2; rw [h.ch.cache] at hb; cases hb
      · intro e2; exact h.ap _ e2 (by rw [e]; rfl)
  · intro e
    rcases hf.new _ e with e2 | e2
    · exact h.vb e2
    · rw [h.cen] at e2; cases e2
  · intro x hx e
    rcases hf.new _ hx with e2 | e2
    · exact h.ap _ e2 e
    · rcases h.gl with e3 | ⟨b', t, e3, hb⟩
      · rw [e3] at e; cases e
      · rw [e3] at e; cases e; rw [hb] at e2; cases e2
theorem Cen.serial' (h : Cen H d b c room es te serial evs tl) (n : Int) : Cen (H.set d (.cells (cenC b c n tl (evL evs)))) d b c room es te n evs tl :=
  ⟨get_same _ _ _, h.ch.set h.ne h.vb, h.ne, h.gl.set_cells (h.gl.not_cells h.cen), h.vb, h.ap⟩
theorem Cen.clear (h : Cen H d b c room es te serial evs tl) : Cen (H.set d (.cells (cenC b c serial .full []))) d b c room es te serial [] .full :=
  ⟨get_same _ _ _, h.ch.set h.ne h.vb, h.ne, .inl rfl, h.vb, fun _ _ e => (by cases e)⟩
theorem evL_fg : ∀ l : List Ev, fgL (evL l) = evL l
  | [] => rfl
  | e :: l => by
    show (encEv e).fg :: fgL (evL l) = encEv e :: evL l
    rw [evL_fg l, encEv_fg]
theorem evL_app (l m : List Ev) : evL (l ++ m) = evL l ++ evL m := by simp [evL]
set_option maxRecDepth 10000 in
theorem c34 (h : Cen H d b c room es te serial evs tl) :
    PCalls Tryz.prog 34 [.ptr d 0] H fun r H' => r = .list .foreign (evL evs) ∧ Cen H' d b c room es te serial [] .full := by
  refine calls_of hmix Tryz.func34 ok34 (by simp) ?_
  have hb := h.cen
  simp only [cenC] at hb
  simp -implicitDefEqProofs only [rc34, hb, zzfp, zzft, zzfq, zzjy, zzkd, zzjk, zzjl, zziu, zzip, zziv, zzij, zzja, zzjb, zzix, zzjd, zzdn, zzdm, zzlf, zzid, zzic, zzgi, zzhu, zzhr, zzce, zzjj, zzjg, zzgo, zzdl, zzkn, zzkl, Nat.reduceBEq, zzks, zzkq, zzah, zzho, zzdw, zzby, List.length_cons, List.length_nil, List.all_cons, List.all_nil, zzbt, Nat.reduceSub, Nat.reduceEqDiff, Nat.zero_add, Bool.and_self, and_self, if_true, if_false, Nat.add_one_ne_zero, zzib, zzdg, Int.reduceBEq]
  refine ⟨_, HLe.refl _, _, .inl rfl, ?_, h.clear⟩
  show PV.list .foreign (fgL (evL evs)) = _
  rw [evL_fg]
set_option maxRecDepth 10000 in
theorem c49 (h : Cen H d b c room es te serial evs tl) (hes : es.length < 1000000) (m : Term) (now : Int) :
    PCalls Tryz.prog 49 [.ptr d 0, enc m, .scal (.int .i64 now)] H fun r H' => r = .scal (.int .i64 (putE2 room es m (IntKind.i64.wrap (now + 601)) now).1) ∧ ∃ te', Cen H' d b c room (putE2 room es m (IntKind.i64.wrap (now + 601)) now).2 te' serial evs tl := by
  refine calls_of hmix Tryz.func49 ok49 (by simp) ?_
  have hb := h.cen
  simp only [cenC] at hb
  simp -implicitDefEqProofs only [rc49, hb, zzfp, zzft, zzjy, zzjo, zzbd, zzjq, zzjk, zziu, zzip, zziq, zziv, zzig, zzij, zzdn, zzdm, zzlf, zzid, zzgi, zzhu, zzhr, zzlc, zzlb, zzce, zzky, zzji, zzjj, zzjg, zzgo, zzgp, zzdl, zzdi, zzif, zzie, zzhz, zzho, zzdw, zzkf, zzlg, zzaz, zzal, zzaj, List.map_cons, List.map_nil, List.length_nil, List.nil_append, Option.map_some, Nat.reduceAdd, Nat.reduceSub, Nat.reduceEqDiff, Nat.zero_add, if_true, if_false, PV.fg, fgL, zzdf, Nat.add_one_ne_zero, zzgf, zzde, Term.eta, zzfc]
  refine kcall_intro (c68 h.ch hes m (IntKind.i64.wrap (now + 601)) now) ?_
  rintro r H1 ⟨rfl, te', hc1, hf1⟩
  simp -implicitDefEqProofs only [zzfq, zzjy, zziu, zzja, zzjb, zzix, zzjd, zzdn, zzlf, zzid, zzgi, Nat.reduceSub, Nat.reduceEqDiff, if_true, if_false, Nat.add_one_ne_zero, zzib, zzdg]
  exact endK_raw ⟨rfl, te', h.put hc1 hf1⟩
set_option maxRecDepth 10000 in
theorem c42 (h : Cen H d b c room es te serial evs tl) (hlen : evs.length < 1000000) (e : Ev) :
    PCalls Tryz.prog 42 [.ptr d 0, encEv e] H fun r H' => r = .tup [] ∧ ∃ tl', Cen H' d b c room es te serial (evs ++ [e]) tl' := by
  refine calls_of hmix Tryz.func42 ok42 (by simp) ?_
  have hb := h.cen
  simp only [cenC] at hb
  have hcs : (encEv e).cells = [.scal (.int .i64 e.kind), .scal (.int .i64 e.at_), .scal (.string e.who), .scal (.string e.by_), .scal (.string e.place), .list .foreign (strs e.tr), .scal (.int .i64 e.flags), .scal (.int .i64 e.to_), .scal (.bool e.classic), .scal (.int .i64 e.code)] := rfl
  have done : ∀ tl' H5, Grow H5 tl' ((evL evs).length + [encEv e].length) 10 → (∀ H0, Keep H0 tl H → Keep H0 tl' H5) → Cen (H5.set d (.cells (cenC b c serial tl' (evL evs ++ [encEv e])))) d b c room es te serial (evs ++ [e]) tl' := by
    intro tl' H5 hG5 hK5
    have hnb := h.gl.not_cells h.cen
    have kb := keep_at hK5 h.cen hnb
    have ke := h.ch.beside h.gl hK5 h.ap
    refine ⟨by rw [evL_app]; exact get_same _ _ _, ke.1.set h.ne h.vb, h.ne, ?_, h.vb, ke.2⟩
    refine Grow.set_cells ?_ kb.2
    rw [evL_app, List.length_append]; exact hG5
  simp -implicitDefEqProofs only [rc42, hcs, zzfp, zzft, zzjy, zzjo, zzbd, zzjr, zzjk, zzip, zzij, zzdn, zzlf, zzid, zzgi, zzhu, zzhr, zzji, zzgo, zzdl, zzif, zzie, zzhz, zzdv, List.map_cons, List.map_nil, List.length_nil, List.nil_append, Option.map_some, Nat.reduceSub, Nat.reduceEqDiff, Nat.zero_add, if_true, if_false, PV.fg, fgL, zzkt, Nat.add_one_ne_zero, zzhy]
  refine qcall_intro (c92 e.tr) ?_
  simp -implicitDefEqProofs only [hb, zzjw, zzfp, zzjy, zzkd, zzjk, zzjl, zziu, zzis, zzip, zziq, zziv, zzij, zzdn, zzlf, zzid, zzic, zzgi, zzhu, zzhr, zzlc, zzlb, zzce, zzky, zzji, zzjj, zzjg, zzgo, zzgp, zzdl, zzdi, zzkm, zzkn, Nat.reduceBEq, zzko, zzkr, zzkq, zzag, zzki, zzif, zzie, zzhz, zzho, zzdv, zzdw, zzaf, zzhf, zzbw, zzby, List.map_cons, List.map_nil, List.length_cons, List.length_nil, List.all_cons, List.all_nil, zzbt, Option.map_some, Nat.reduceAdd, Nat.reduceSub, Nat.reduceEqDiff, Nat.reduceLeDiff, Nat.zero_add, Bool.and_self, and_self, if_true, if_false, zzac, zzab, zzgs, zzgh, beq_self_eq_true, Nat.add_one_ne_zero, zzjw, Int.reduceBEq]
  have hev : encEv e = .agg [.scal (.int .i64 e.kind), .scal (.int .i64 e.at_), .scal (.string e.who), .scal (.string e.by_), .scal (.string e.place), .list .foreign (strs e.tr), .scal (.int .i64 e.flags), .scal (.int .i64 e.to_), .scal (.bool e.classic), .scal (.int .i64 e.code)] := rfl
  rw [← hev]
  refine kapp_keep (ys := [encEv e]) h.gl (evL_sz _) (by rw [allSz_iff]; intro p hp; rw [List.mem_singleton] at hp; subst hp; rfl) (by rw [lenB_eq, evL_len]; simp only [List.length_cons, List.length_nil]; omega) (by decide) (by simp) (by decide) (by simp only [List.all_cons, List.all_nil, Bool.and_true]; rfl) ?_
  intro tl' H5 hG5 hK5
  have hc5 := (keep_at hK5 h.cen (h.gl.not_cells h.cen)).1
  simp only [cenC] at hc5
  simp -implicitDefEqProofs only [hc5, zzfo, zzjy, zzkd, zzjk, zzjl, zziv, zzij, zzja, zzjc, zzdn, zzlf, zzid, zzic, zzgi, zzce, zzjj, zzjg, zzkn, zzkl, Nat.reduceBEq, zzks, zzkq, zzah, zzho, zzdw, zzby, List.length_cons, List.length_nil, List.all_cons, List.all_nil, zzbt, Nat.reduceSub, Nat.reduceEqDiff, Nat.zero_add, Bool.and_self, and_self, if_true, if_false, Nat.add_one_ne_zero, zzia, zzdg, Int.reduceBEq]
  exact endK_raw ⟨rfl, tl', done tl' H5 hG5 hK5⟩
/-- How long one who logs in has. -/
def timeT (room : Int) (es : List (Term × Int)) (q : Qs) (now : Int) (key : Term) (life : Int) : Sp × Int × List (Term × Int) :=
  if (shwQ q key).2 != 0 then (⟨0, 0⟩, (shwQ q key).2, es) else
  if !nearT (shwQ q key).1 now 300 then (⟨0, 0⟩, 30, es) else
  if (cutS ⟨now, q.till⟩ life).2 != 0 then (⟨0, 0⟩, (cutS ⟨now, q.till⟩ life).2, es) else
  ((cutS ⟨now, q.till⟩ life).1, (putE2 room es q.pre (IntKind.i64.wrap (now + 601)) now).1, (putE2 room es q.pre (IntKind.i64.wrap (now + 601)) now).2)
set_option maxRecDepth 10000 in
theorem c86 (h : Cen H d b c room es te serial evs tl) (hes : es.length < 1000000) (q : Qs) (now : Int) (key : Term) (life : Int) :
    PCalls Tryz.prog 86 [.ptr d 0, encQ q, .scal (.int .i64 now), enc key, .scal (.int .i64 life)] H fun r H' => r = .tup [encS (timeT room es q now key life).1, .scal (.int .i64 (timeT room es q now key life).2.1)] ∧ ∃ te', Cen H' d b c room (timeT room es q now key life).2.2 te' serial evs tl := by
  refine calls_of hmix Tryz.func86 ok86 (by simp) ?_
  simp -implicitDefEqProofs only [rc86, encQ_cells, zzfp, zzft, zzjy, zzjm, zzjo, zzbd, zzjr, zzjk, zziu, zziq, zzdn, zzdm, zzlf, zzid, zzgi, zzhu, zzhr, zzlc, zzlb, zzce, zzky, zzji, zzgp, zzdi, zzif, zzie, zzhz, List.map_cons, List.map_nil, List.length_cons, List.length_nil, List.cons_append, List.nil_append, Option.map_some, Nat.reduceAdd, Nat.reduceSub, Nat.reduceEqDiff, Nat.zero_add, if_true, if_false, PV.fg, fgL, zzdf, zzcv, Nat.add_one_ne_zero, zzhy, zzde, Term.eta, zzfc]
  refine qcall_intro (c125 q key) ?_
  simp -implicitDefEqProofs only [zzfp, zzft, zzfh, zzjy, zzjk, zzcd, zziu, zzig, zzii, zzdn, zzdm, zzlf, zzid, zzgi, zzhu, zzhr, zzdl, zzdt, zzkf, zzlg, zzaz, zzas, zzai, Nat.reduceSub, Nat.reduceEqDiff, if_true, if_false, Nat.add_one_ne_zero]
  refine br_intro (fun b1 => ?_) (fun b1 => ?_)
  · simp -implicitDefEqProofs only [b1, zzfp, zzft, zzfq, zzjy, zzkd, zzjk, zzjl, zziu, zzih, zzja, zzjb, zziz, zzix, zzje, zzdn, zzlf, zzid, zzic, zzgi, zzhu, zzhr, zzlc, zzlb, zzce, zzky, zzji, zzgp, zzdi, zzbb, zzdk, zzbg, zzkl, zzkr, zzkq, zzag, zzki, List.length_cons, List.length_nil, List.all_cons, List.all_nil, zzbv, zzbr, Option.map_some, Nat.reduceAdd, Nat.reduceSub, Nat.reduceEqDiff, Nat.zero_add, Bool.and_self, and_self, if_true, if_false, Nat.add_one_ne_zero, zzib, zzdg, zzdb, zzfb]
    have e : timeT room es q now key life = (⟨0, 0⟩, (shwQ q key).2, es) := by simp only [timeT, b1, if_true]
    rw [e]
    exact endK_intro ⟨rfl, te, h⟩
  simp -implicitDefEqProofs only [b1, zzfu, zzfp, zzft, zzjr, zziu, zzdn, zzdm, zzlf, zzid, zzgi, zzif, zzie, zzhz, List.map_cons, List.map_nil, Nat.reduceSub, Nat.reduceEqDiff, if_true, if_false, PV.fg, fgL, Nat.add_one_ne_zero, zzhy]
  refine qcall_intro (c67 _ _ _) ?_
  simp -implicitDefEqProofs only [zzfh, zzjy, zzjk, zzcd, r_un, zzdn, zzlf, zzid, zzgi, zzle, Nat.reduceSub, Nat.reduceEqDiff, if_true, if_false, Nat.add_one_ne_zero]
  refine br_intro (fun b2 => ?_) (fun b2 => ?_)
  · simp -implicitDefEqProofs only [b2, zzfp, zzft, zzfq, zzjy, zzkd, zzjk, zzjl, zziu, zzih, zzja, zzjb, zziz, zzix, zzje, zzdn, zzdm, zzlf, zzid, zzic, zzgi, zzhu, zzhr, zzlc, zzlb, zzce, zzky, zzji, zzgp, zzdi, zzbb, zzdk, zzbg, zzkl, zzkr, zzkq, zzag, zzki, List.length_cons, List.length_nil, List.all_cons, List.all_nil, zzbv, zzbr, Option.map_some, Nat.reduceAdd, Nat.reduceSub, Nat.reduceEqDiff, Nat.zero_add, Bool.and_self, and_self, if_true, if_false, Nat.add_one_ne_zero, zzib, zzdg, zzdb, zzfb]
    have e : timeT room es q now key life = (⟨0, 0⟩, 30, es) := by simp only [timeT, b1, b2, Bool.false_eq_true, if_false, if_true]
    rw [e]
    exact endK_intro ⟨rfl, te, h⟩
  simp -implicitDefEqProofs only [b2, zzfu, zzfp, zzft, zzjr, zzjk, zziu, zzih, zzip, zzij, zzdn, zzlf, zzid, zzgi, zzhu, zzhr, zzce, zzji, zzgo, zzdl, zzdi, zzbb, zzdk, zzdj, zzhx, zzba, zzbg, zzbf, zzkm, zzkn, zzkl, Nat.reduceBEq, zzko, zzif, zzie, zzhz, zzdv, zzca, List.map_cons, List.map_nil, List.length_cons, List.length_nil, Option.map_some, Nat.reduceSub, Nat.reduceEqDiff, Nat.zero_add, if_true, if_false, PV.fg, fgL, Nat.add_one_ne_zero, zzhy, zzdc, zzfb, Int.reduceBEq]
  refine qcall_intro (c126 ⟨now, q.till⟩ life) ?_
  simp -implicitDefEqProofs only [zzfp, zzft, zzfh, zzjy, zzjm, zzkd, zzjk, zzjl, zzcd, zziu, zzig, zzii, zzdn, zzdm, zzlf, zzid, zzic, zzgi, zzhu, zzhr, zzji, zzdl, zzkl, zzkr, zzkq, zzag, zzki, zzdt, zzkf, zzlg, zzaz, zzas, zzai, List.length_cons, List.length_nil, List.cons_append, List.nil_append, List.all_cons, List.all_nil, zzbv, zzbr, Option.map_some, Nat.reduceAdd, Nat.reduceSub, Nat.reduceEqDiff, Nat.zero_add, Bool.and_self, and_self, if_true, if_false, Nat.add_one_ne_zero, zzdb]
  refine br_intro (fun b3 => ?_) (fun b3 => ?_)
  · simp -implicitDefEqProofs only [b3, zzfp, zzft, zzfq, zzjy, zzkd, zzjk, zzjl, zziu, zzih, zzja, zzjb, zziz, zzix, zzje, zzdn, zzlf, zzid, zzic, zzgi, zzhu, zzhr, zzlc, zzlb, zzce, zzky, zzji, zzgp, zzdi, zzbb, zzdk, zzbg, zzkl, zzkr, zzkq, zzag, zzki, List.length_cons, List.length_nil, List.all_cons, List.all_nil, zzbv, zzbr, Option.map_some, Nat.reduceAdd, Nat.reduceSub, Nat.reduceEqDiff, Nat.zero_add, Bool.and_self, and_self, if_true, if_false, Nat.add_one_ne_zero, zzib, zzdg, zzdb, zzfb]
    have e : timeT room es q now key life = (⟨0, 0⟩, (cutS ⟨now, q.till⟩ life).2, es) := by simp only [timeT, b1, b2, b3, Bool.false_eq_true, if_false, if_true]
    rw [e]
    exact endK_intro ⟨rfl, te, h⟩
  have e : timeT room es q now key life = ((cutS ⟨now, q.till⟩ life).1, (putE2 room es q.pre (IntKind.i64.wrap (now + 601)) now).1, (putE2 room es q.pre (IntKind.i64.wrap (now + 601)) now).2) := by simp only [timeT, b1, b2, b3, Bool.false_eq_true, if_false]
  rw [e]
  simp -implicitDefEqProofs only [b3, go_sreg, zzfu, zzft, zzjq, zzjk, zziu, zziq, zzij, zzdn, zzlf, zzid, zzgi, zzhu, zzhr, zzlc, zzlb, zzce, zzky, zzji, zzgp, zzdi, zzif, zzie, zzhz, zzdv, List.map_cons, List.map_nil, Option.map_some, Nat.reduceAdd, Nat.reduceSub, Nat.reduceEqDiff, Nat.zero_add, if_true, if_false, PV.fg, fgL, zzdf, Nat.add_one_ne_zero, zzgf, Term.eta, zzfc, zzfb]
  refine ⟨⟨?_, trivial⟩, ?_⟩
  · simp only [Cond.holds, zzlf, reduceIte, Nat.reduceEqDiff]; trivial
  refine kcall_intro (c49 h hes q.pre now) ?_
  rintro r H1 ⟨rfl, te', h1⟩
  simp -implicitDefEqProofs only [zzfq, zzjy, zzkd, zzjl, zziu, zzja, zzjb, zziz, zzix, zzje, zzdn, zzlf, zzid, zzic, zzgi, zzhu, zzhr, zzlc, zzlb, zzce, zzky, zzji, zzgp, zzdi, zzkl, zzkr, zzkq, zzag, zzki, List.length_cons, List.length_nil, List.all_cons, List.all_nil, zzbv, zzbr, Option.map_some, Nat.reduceAdd, Nat.reduceSub, Nat.reduceEqDiff, Nat.zero_add, Bool.and_self, and_self, if_true, if_false, Nat.add_one_ne_zero, zzib, zzdg, zzdb, zzfb]
  exact endK_intro ⟨rfl, te', h1⟩
end
end Go.Pv

set_option linter.unusedSimpArgs false
set_option linter.unusedVariables false
namespace Go.Pv
open Go.Proofs
def centreN : ByteArray := ⟨#[99, 101, 110, 116, 114, 101]⟩
/-- What a centre is about. -/
structure LS where
  ps : List Pr
  es : List (Term × Int)
  serial : Int
  evs : List Ev
structure Lg (H : PH) (d b : Nat) (room : Int) (s : LS) : Prop where
  ex : ∃ HS HC m ses c te tl, Two H HS HC ∧ Sto HS b m s.ps ses ∧ Cen HC d b c room s.es te s.serial s.evs tl
set_option maxRecDepth 10000 in
theorem c53 {H : PH} {d b c m : Nat} {serial : Int} {tl : Tok} {lg : List PV} {ps : List Pr} {ses : List (Value × PV)} (hd : H.get d = some (.cells (cenC b c serial tl lg))) (hS : Sto H b m ps ses) :
    PCalls Tryz.prog 53 [.ptr d 0] H fun r H' => r = .tup [enc (keyP ps centreN).1, .scal (.int .i64 (keyP ps centreN).2)] ∧ H' = H := by
  refine calls_of hmix Tryz.func53 ok53 (by simp) ?_
  simp only [cenC] at hd
  simp -implicitDefEqProofs only [rc53, hd, zzfp, zzft, zzjy, zzjm, zzjq, zzjk, zziu, zzip, zziv, zzij, zzdn, zzdm, zzlf, zzid, zzgi, zzhu, zzhr, zzjj, zzjg, zzgo, zzdl, zzif, zzie, zzhz, zzho, zzdw, List.map_cons, List.map_nil, List.length_nil, List.nil_append, Nat.reduceSub, Nat.reduceEqDiff, Nat.add_zero, if_true, if_false, PV.fg, fgL, Nat.add_one_ne_zero, zzgf]
  refine kcall_intro (c37 hS _) ?_
  rintro r H1 ⟨rfl, rfl⟩
  simp -implicitDefEqProofs only [zzfq, zzjy, zzkd, zzjk, zzjl, zziu, zzii, zzja, zzjb, zziz, zzix, zzje, zzdn, zzlf, zzid, zzic, zzgi, zzhu, zzhr, zzlc, zzlb, zzce, zzky, zzji, zzgp, zzdl, zzdi, zzkl, zzkr, zzkq, zzag, zzki, zzdt, List.length_cons, List.length_nil, List.all_cons, List.all_nil, zzbv, zzbt, zzbr, zzbs, Option.map_some, Nat.reduceAdd, Nat.reduceSub, Nat.reduceEqDiff, Nat.zero_add, Bool.and_self, and_self, if_true, if_false, Nat.add_one_ne_zero, zzib, zzdg, zzde, Term.eta, zzfc]
  exact endK_intro ⟨by simp only [retV, PV.fg, fgL, zzcv, zzdf]; rfl, rfl⟩
def issA (ps : List Pr) (g : Gr) : Term × Int := buildT ⟨g.user, (getP ps g.user).1.groups, g.origin, g.tr, g.service, g.fwd, g.span.hi⟩ (keyP ps g.service).1 (keyP ps centreN).1
def issK (ps : List Pr) (n : Int) (g : Gr) : Term × Int := makeT ⟨g.service, g.flags, keyT ⟨#[]⟩ n, g.client, g.span, (issA ps g).1⟩ (keyP ps g.service).1
def issueT (ps : List Pr) (serial : Int) (g : Gr) : Term × Term × Int × Int :=
  if (keyP ps g.service).2 != 0 || (keyP ps centreN).2 != 0 then (zT, zT, 40, serial) else
  if (issA ps g).2 != 0 then (zT, zT, (issA ps g).2, IntKind.i64.wrap (serial + 1)) else
  if (issK ps (IntKind.i64.wrap (serial + 1)) g).2 != 0 then (zT, zT, (issK ps (IntKind.i64.wrap (serial + 1)) g).2, IntKind.i64.wrap (serial + 1)) else
  ((issK ps (IntKind.i64.wrap (serial + 1)) g).1, keyT ⟨#[]⟩ (IntKind.i64.wrap (serial + 1)), 0, IntKind.i64.wrap (serial + 1))
set_option maxRecDepth 10000 in
set_option maxHeartbeats 1000000 in
theorem c39 {H : PH} {d b : Nat} {room : Int} {s : LS} (h : Lg H d b room s) (g : Gr) :
    PCalls Tryz.prog 39 [.ptr d 0, encG g] H fun r H' => r = .tup [enc (issueT s.ps s.serial g).1, enc (issueT s.ps s.serial g).2.1, .scal (.int .i64 (issueT s.ps s.serial g).2.2.1)] ∧ Lg H' d b room { s with serial := (issueT s.ps s.serial g).2.2.2 } := by
  refine calls_of hmix Tryz.func39 ok39 (by simp) ?_
  obtain ⟨HS, HC, m, ses, c, te, tl, hT, hS, hC⟩ := h.ex
  have hS1 : Sto H b m s.ps ses := hS.mono fun x o hx => hT.left hx
  have hd := hT.right hC.cen
  have hd' := hd
  simp only [cenC] at hd'
  simp -implicitDefEqProofs only [rc39, hd', encG_cells, zzfp, zzft, zzjy, zzjm, zzjo, zzbd, zzjq, zzjk, zziu, zzip, zziv, zzij, zzdn, zzdm, zzlf, zzid, zzgi, zzhu, zzhr, zzji, zzjj, zzjg, zzgo, zzdl, zzif, zzie, zzhz, zzho, zzdv, zzdw, List.map_cons, List.map_nil, List.length_cons, List.length_nil, List.cons_append, List.nil_append, Option.map_some, Nat.reduceAdd, Nat.reduceSub, Nat.reduceEqDiff, Nat.add_zero, Nat.zero_add, if_true, if_false, PV.fg, fgL, Nat.add_one_ne_zero, zzgf]
  refine kcall_intro (c37 hS1 _) ?_
  rintro r H1 ⟨rfl, rfl⟩
  simp -implicitDefEqProofs only [zzfp, zzft, zzjy, zzjm, zzkd, zzjq, zzjk, zzjl, zziu, zzii, zzdn, zzlf, zzid, zzic, zzgi, zzhu, zzhr, zzji, zzdl, zzkl, zzkr, zzkq, zzag, zzki, zzif, zzie, zzhz, zzdt, List.map_cons, List.map_nil, List.length_cons, List.length_nil, List.cons_append, List.nil_append, List.all_cons, List.all_nil, zzbv, zzbt, zzbr, zzbs, Option.map_some, Nat.reduceAdd, Nat.reduceSub, Nat.reduceEqDiff, Nat.zero_add, Bool.and_self, and_self, if_true, if_false, PV.fg, fgL, Nat.add_one_ne_zero, zzgf, zzde]
  refine kcall_intro (c53 hd hS1) ?_
  rintro r H1 ⟨rfl, rfl⟩
  simp -implicitDefEqProofs only [zzfp, zzft, zzjy, zzjv, zzjm, zzkd, zzjk, zzjl, zzgc, zziu, zzig, zzii, zzdn, zzdm, zzlf, zzid, zzic, zzgi, zzhu, zzhr, zzji, zzdl, zzkl, zzkr, zzkq, zzag, zzki, zzdt, zzkf, zzlg, zzaz, zzas, zzai, List.length_cons, List.length_nil, List.cons_append, List.nil_append, List.all_cons, List.all_nil, zzbv, zzbt, zzbr, zzbs, Option.map_some, Nat.reduceAdd, Nat.reduceSub, Nat.reduceEqDiff, Nat.zero_add, Bool.and_self, and_self, if_true, if_false, Nat.add_one_ne_zero, zzde]
  have bad : ((keyP s.ps g.service).2 != 0 || (keyP s.ps centreN).2 != 0) = true → issueT s.ps s.serial g = (zT, zT, 40, s.serial) := fun hb => by simp only [issueT, hb, if_true]
  refine br_intro (fun b1 => ?_) (fun b1 => ?_)
  · simp -implicitDefEqProofs only [b1, zzfp, zzft, zzfh, zzfq, zzjy, zzjv, zzjz, zzkd, zzjk, zzjl, zzcd, zzgc, zziu, zzih, zzja, zzjb, zziz, zzix, zzje, zzdn, zzdm, zzlf, zzid, zzic, zzgi, zzhu, zzhr, zzlc, zzlb, zzce, zzky, zzji, zzgp, zzdi, zzbb, zzdk, zzbg, zzkl, zzkr, zzkq, zzag, zzki, br_true, zzbw, List.length_cons, List.length_nil, List.all_cons, List.all_nil, zzbv, zzbt, zzbr, zzbs, Option.map_some, Nat.reduceAdd, Nat.reduceSub, Nat.reduceEqDiff, Nat.zero_add, Bool.and_self, and_self, if_true, if_false, Nat.add_one_ne_zero, zzib, zzdg]
    rw [bad (by rw [b1]; rfl)]
    exact endK_intro ⟨by simp only [retV, PV.fg, fgL, zT, enc]; rfl, h⟩
  simp -implicitDefEqProofs only [b1, zzfh, zzjy, zzjv, zzjz, zzjk, zzcd, zzgc, zziu, zzig, zzdn, zzdm, zzlf, zzid, zzgi, zzkf, zzlg, zzaz, zzas, zzai, br_false, Nat.reduceSub, Nat.reduceEqDiff, if_true, if_false, Nat.add_one_ne_zero]
  refine br_intro (fun b2 => ?_) (fun b2 => ?_)
  · simp -implicitDefEqProofs only [b2, zzfp, zzft, zzfq, zzjy, zzkd, zzjk, zzjl, zziu, zzih, zzja, zzjb, zziz, zzix, zzje, zzdn, zzdm, zzlf, zzid, zzic, zzgi, zzhu, zzhr, zzlc, zzlb, zzce, zzky, zzji, zzgp, zzdi, zzbb, zzdk, zzbg, zzkl, zzkr, zzkq, zzag, zzki, zzbw, List.length_cons, List.length_nil, List.all_cons, List.all_nil, zzbv, zzbt, zzbr, zzbs, Option.map_some, Nat.reduceAdd, Nat.reduceSub, Nat.reduceEqDiff, Nat.zero_add, Bool.and_self, and_self, if_true, if_false, Nat.add_one_ne_zero, zzib, zzdg]
    rw [bad (by rw [b1, b2]; rfl)]
    exact endK_intro ⟨by simp only [retV, PV.fg, fgL, zT, enc]; rfl, h⟩
  have good : ((keyP s.ps g.service).2 != 0 || (keyP s.ps centreN).2 != 0) = false := by rw [b1, b2]; rfl
  simp -implicitDefEqProofs only [b2, hd', zzfu, zzfp, zzft, zzjy, zzkd, zzjr, zzjk, zzjl, zziu, zzip, zziv, zzig, zzij, zzdn, zzdm, zzlf, zzid, zzic, zzgi, zzhu, zzhr, zzce, zzjj, zzjg, zzgo, zzdl, zzkm, zzkn, Nat.reduceBEq, zzko, zzks, zzkq, zzah, zzif, zzie, zzhz, zzho, zzdw, zzkf, zzlg, zzaz, zzal, zzaj, zzca, List.map_cons, List.map_nil, List.length_cons, List.length_nil, List.all_cons, List.all_nil, zzbv, zzbr, Nat.reduceSub, Nat.reduceEqDiff, Nat.zero_add, Bool.and_self, and_self, if_true, if_false, PV.fg, fgL, Nat.add_one_ne_zero, zzhy, PH.get_set, Int.reduceBEq]
  generalize hn : IntKind.i64.wrap (s.serial + 1) = n
  have hT3 := (hT.symm.set_left (o := .cells (cenC b c n tl (evL s.evs))) (hT.symm.dis d (by rw [hC.cen]; simp))).symm
  have hC3 := hC.serial' n
  have hS3 : Sto (H1.set d (.cells (cenC b c n tl (evL s.evs)))) b m s.ps ses := hS.mono fun x o hx => hT3.left hx
  have hd3 := get_same H1 d (.cells (cenC b c n tl (evL s.evs)))
  have hL3 : Lg (H1.set d (.cells (cenC b c n tl (evL s.evs)))) d b room { s with serial := n } := ⟨_, _, m, ses, c, te, tl, hT3, hS, hC3⟩
  have hI : issueT s.ps s.serial g = if (issA s.ps g).2 != 0 then (zT, zT, (issA s.ps g).2, n) else if (issK s.ps n g).2 != 0 then (zT, zT, (issK s.ps n g).2, n) else ((issK s.ps n g).1, keyT ⟨#[]⟩ n, 0, n) := by
    simp only [issueT, good, Bool.false_eq_true, if_false, hn]
  rw [hI]
  clear hI bad good hT hC hd hd' hS1 h hT3 hC3
  have hH : (H1.set d (.cells [.ptr b 0, .ptr c 0, .scal (.int .i64 n), .list tl (evL s.evs)])) = H1.set d (.cells (cenC b c n tl (evL s.evs))) := rfl
  rw [hH]
  generalize H1.set d (.cells (cenC b c n tl (evL s.evs))) = H3 at hS3 hd3 hL3 ⊢
  have hd' := hd3
  simp only [cenC] at hd'
  refine qcall_intro (c58 _ _) ?_
  simp -implicitDefEqProofs only [hd', zzfp, zzft, zzjy, zzjm, zzkd, zzjq, zzjk, zzjl, zziu, zzip, zziv, zzij, zzdn, zzlf, zzid, zzic, zzgi, zzhu, zzhr, zzji, zzjj, zzjg, zzgo, zzdl, zzkl, zzkr, zzkq, zzag, zzki, zzif, zzie, zzhz, zzho, zzdv, zzdw, List.map_cons, List.map_nil, List.length_cons, List.length_nil, List.cons_append, List.nil_append, List.all_cons, List.all_nil, zzbv, zzbt, zzbr, zzbs, Option.map_some, Nat.reduceAdd, Nat.reduceSub, Nat.reduceEqDiff, Nat.add_zero, Nat.zero_add, Bool.and_self, and_self, if_true, if_false, PV.fg, fgL, Nat.add_one_ne_zero, zzgf, zzde]
  refine kcall_intro (c43 hS3 _) ?_
  rintro r H4 ⟨rfl, rfl⟩
  simp -implicitDefEqProofs only [encPr_cells, zzfp, zzft, zzjy, zzjm, zzkd, zzjr, zzjk, zzjl, zziu, zzih, zzip, zziq, zzij, zzii, zzdn, zzlf, zzid, zzic, zzgi, zzhu, zzhr, zzlc, zzlb, zzce, zzky, zzji, zzgo, zzgp, zzdl, zzdi, zzbb, zzdk, zzdj, zzhx, zzba, zzbg, zzbf, zzkm, zzkn, zzkl, Nat.reduceBEq, zzko, zzkr, zzkq, zzag, zzki, zzif, zzie, zzhz, zzdv, zzdt, zzca, zzby, List.map_cons, List.map_nil, List.length_cons, List.length_nil, List.cons_append, List.nil_append, List.all_cons, List.all_nil, zzbv, zzbt, zzbr, zzbq, zzbs, Option.map_some, Nat.reduceAdd, Nat.reduceSub, Nat.reduceEqDiff, Nat.add_zero, Nat.zero_add, Bool.and_self, and_self, if_true, if_false, fgL, zzdf, Nat.add_one_ne_zero, zzhy, Term.eta, zzfc, zzch, zzec, Int.reduceBEq]
  refine qcall_intro (c88 ⟨g.user, (getP s.ps g.user).1.groups, g.origin, g.tr, g.service, g.fwd, g.span.hi⟩ _ _) ?_
  have hA : buildT ⟨g.user, (getP s.ps g.user).1.groups, g.origin, g.tr, g.service, g.fwd, g.span.hi⟩ (keyP s.ps g.service).1 (keyP s.ps centreN).1 = issA s.ps g := rfl
  rw [hA]
  simp -implicitDefEqProofs only [zzfp, zzft, zzfh, zzjy, zzjm, zzkd, zzjk, zzjl, zzcd, zziu, zzig, zzii, zzdn, zzdm, zzlf, zzid, zzic, zzgi, zzhu, zzhr, zzji, zzdl, zzkl, zzkr, zzkq, zzag, zzki, zzdt, zzkf, zzlg, zzaz, zzas, zzai, List.length_cons, List.length_nil, List.cons_append, List.nil_append, List.all_cons, List.all_nil, zzbv, zzbt, zzbr, zzbs, Option.map_some, Nat.reduceAdd, Nat.reduceSub, Nat.reduceEqDiff, Nat.zero_add, Bool.and_self, and_self, if_true, if_false, Nat.add_one_ne_zero, zzde]
  refine br_intro (fun b3 => ?_) (fun b3 => ?_)
  · simp -implicitDefEqProofs only [b3, zzfp, zzft, zzfq, zzjy, zzkd, zzjk, zzjl, zziu, zzih, zzja, zzjb, zziz, zzix, zzje, zzdn, zzlf, zzid, zzic, zzgi, zzhu, zzhr, zzlc, zzlb, zzce, zzky, zzji, zzgp, zzdi, zzbb, zzdk, zzbg, zzkl, zzkr, zzkq, zzag, zzki, zzbw, List.length_cons, List.length_nil, List.all_cons, List.all_nil, zzbv, zzbt, zzbr, zzbs, Option.map_some, Nat.reduceAdd, Nat.reduceSub, Nat.reduceEqDiff, Nat.zero_add, Bool.and_self, and_self, if_true, if_false, Nat.add_one_ne_zero, zzib, zzdg]
    exact endK_intro ⟨by simp only [retV, PV.fg, fgL, zT, enc]; rfl, hL3⟩
  simp -implicitDefEqProofs only [b3, zzfu, zzfp, zzft, zzjr, zzjk, zzih, zzip, zziq, zzij, zzdn, zzlf, zzid, zzgi, zzhu, zzhr, zzlc, zzlb, zzce, zzky, zzji, zzgo, zzgp, zzdl, zzdi, zzbb, zzdk, zzdj, zzhx, zzba, zzbg, zzbf, zzkm, zzkn, zzkl, Nat.reduceBEq, zzko, zzif, zzie, zzhz, zzdv, zzca, List.map_cons, List.map_nil, List.length_cons, List.length_nil, Option.map_some, Nat.reduceAdd, Nat.reduceSub, Nat.reduceEqDiff, Nat.zero_add, if_true, if_false, fgL, zzdf, Nat.add_one_ne_zero, zzhy, zzde, Term.eta, zzfc, zzdb, zzfb, zzcs, zzeq, Bool.false_eq_true, Int.reduceBEq]
  refine qcall_intro (c89 ⟨g.service, g.flags, keyT ⟨#[]⟩ n, g.client, g.span, (issA s.ps g).1⟩ _) ?_
  have hK : makeT ⟨g.service, g.flags, keyT ⟨#[]⟩ n, g.client, g.span, (issA s.ps g).1⟩ (keyP s.ps g.service).1 = issK s.ps n g := rfl
  rw [hK]
  simp -implicitDefEqProofs only [zzfp, zzft, zzfh, zzjy, zzjm, zzkd, zzjk, zzjl, zzcd, zziu, zzig, zzii, zzdn, zzdm, zzlf, zzid, zzic, zzgi, zzhu, zzhr, zzji, zzdl, zzkl, zzkr, zzkq, zzag, zzki, zzdt, zzkf, zzlg, zzaz, zzas, zzai, List.length_cons, List.length_nil, List.cons_append, List.nil_append, List.all_cons, List.all_nil, zzbv, zzbt, zzbr, zzbs, Option.map_some, Nat.reduceAdd, Nat.reduceSub, Nat.reduceEqDiff, Nat.zero_add, Bool.and_self, and_self, if_true, if_false, Nat.add_one_ne_zero, zzde]
  refine br_intro (fun b4 => ?_) (fun b4 => ?_)
  · simp -implicitDefEqProofs only [b4, zzfp, zzft, zzfq, zzjy, zzkd, zzjk, zzjl, zziu, zzih, zzja, zzjb, zziz, zzix, zzje, zzdn, zzlf, zzid, zzic, zzgi, zzhu, zzhr, zzlc, zzlb, zzce, zzky, zzji, zzgp, zzdi, zzbb, zzdk, zzbg, zzkl, zzkr, zzkq, zzag, zzki, zzbw, List.length_cons, List.length_nil, List.all_cons, List.all_nil, zzbv, zzbt, zzbr, zzbs, Option.map_some, Nat.reduceAdd, Nat.reduceSub, Nat.reduceEqDiff, Nat.zero_add, Bool.and_self, and_self, if_true, if_false, Nat.add_one_ne_zero, zzib, zzdg]
    exact endK_intro ⟨by simp only [retV, PV.fg, fgL, zT, enc]; rfl, hL3⟩
  simp -implicitDefEqProofs only [b4, go_sreg, zzfu, zzft, zzfq, zzjy, zzkd, zzjk, zzjl, zziu, zziq, zzja, zzjb, zziz, zzix, zzje, zzdn, zzdm, zzlf, zzid, zzic, zzgi, zzhu, zzhr, zzlc, zzlb, zzce, zzky, zzji, zzgp, zzdi, zzkl, zzkr, zzkq, zzag, zzki, List.length_cons, List.length_nil, List.all_cons, List.all_nil, zzbv, zzbt, zzbr, zzbs, Option.map_some, Nat.reduceAdd, Nat.reduceSub, Nat.reduceEqDiff, Nat.zero_add, Bool.and_self, and_self, if_true, if_false, Nat.add_one_ne_zero, zzib, zzdg, zzde, Term.eta, zzfc, Bool.false_eq_true]
  refine ⟨⟨?_, trivial⟩, ?_⟩
  · simp only [Cond.holds, zzlf, reduceIte, Nat.reduceEqDiff, distinctE]; decide
  exact endK_intro ⟨by simp only [retV, PV.fg, fgL, zzcv, zzdf], hL3⟩
end Go.Pv

set_option linter.unusedSimpArgs false
set_option linter.unusedVariables false
namespace Go.Pv
open Go.Proofs
def repName : ByteArray := ⟨#[97, 115, 45, 114, 101, 112]⟩
def logLife (s : LS) (q : Qs) : Int := if (getP s.ps centreN).1.life < (getP s.ps q.who).1.life then (getP s.ps centreN).1.life else (getP s.ps q.who).1.life
def logKey (s : LS) (q : Qs) : Term := keyT q.who (getP s.ps q.who).1.version
def logTime (room : Int) (s : LS) (now : Int) (q : Qs) : Sp × Int × List (Term × Int) := timeT room s.es q now (logKey s q) (logLife s q)
def logG (s : LS) (q : Qs) (sp : Sp) : Gr := ⟨q.who, q.who, centreN, if (getP s.ps q.who).1.sens then 0 else 5, 0, [], !(getP s.ps q.who).1.sens, sp⟩
def logE (now : Int) (q : Qs) (g : Gr) : Ev := ⟨0, now, q.who, q.who, centreN, [], g.flags, g.span.hi, false, 0⟩
/-- What is answered, when it is issued. -/
def logI (s : LS) (now : Int) (q : Qs) (sp : Sp) (es : List (Term × Int)) : Term × Int × LS :=
  if (issueT s.ps s.serial (logG s q sp)).2.2.1 != 0 then (zT, (issueT s.ps s.serial (logG s q sp)).2.2.1, { s with es := es, serial := (issueT s.ps s.serial (logG s q sp)).2.2.2 }) else
  (answerT repName q.who (issueT s.ps s.serial (logG s q sp)).1 (logKey s q) (issueT s.ps s.serial (logG s q sp)).2.1 3 q.nonce (logG s q sp), 0,
    { s with es := es, serial := (issueT s.ps s.serial (logG s q sp)).2.2.2, evs := s.evs ++ [logE now q (logG s q sp)] })
def logB (room : Int) (s : LS) (now : Int) (q : Qs) : Term × Int × LS :=
  if (getP s.ps q.who).2 != 0 || (getP s.ps centreN).2 != 0 then (zT, 40, s) else
  if (logTime room s now q).2.1 != 0 then (zT, (logTime room s now q).2.1, { s with es := (logTime room s now q).2.2 }) else
  logI s now q (logTime room s now q).1 (logTime room s now q).2.2
def loginT (room : Int) (s : LS) (now : Int) (t : Term) : Term × Int × LS :=
  if (readQ t).2 != 0 then (zT, (readQ t).2, s) else logB room s now (readQ t).1
set_option maxRecDepth 10000 in
set_option maxHeartbeats 2000000 in
theorem c33 {H : PH} {d b : Nat} {room : Int} {s : LS} (h : Lg H d b room s) (hes : s.es.length < 1000000) (hev : s.evs.length < 1000000) (now : Int) (t : Term) :
    PCalls Tryz.prog 33 [.ptr d 0, .scal (.int .i64 now), enc t] H fun r H' => r = .tup [enc (loginT room s now t).1, .scal (.int .i64 (loginT room s now t).2.1)] ∧ Lg H' d b room (loginT room s now t).2.2 := by
  refine calls_of hmix Tryz.func33 ok33 (by simp) ?_
  obtain ⟨HS, HC, m, ses, c, te, tl, hT, hS, hC⟩ := h.ex
  have hS1 : Sto H b m s.ps ses := hS.mono fun x o hx => hT.left hx
  have hd := hT.right hC.cen
  have hd' := hd
  simp only [cenC] at hd'
  simp -implicitDefEqProofs only [rc33, zzfp, zzft, zzjy, zzjm, zzjo, zzbd, zzjr, zzjk, zziu, zziq, zzdn, zzdm, zzlf, zzid, zzgi, zzhu, zzhr, zzlc, zzlb, zzce, zzky, zzji, zzgp, zzdi, zzif, zzie, zzhz, List.map_cons, List.map_nil, List.length_cons, List.length_nil, List.cons_append, List.nil_append, Option.map_some, Nat.reduceAdd, Nat.reduceSub, Nat.reduceEqDiff, Nat.zero_add, if_true, if_false, fgL, zzdf, Nat.add_one_ne_zero, zzhy, zzde, Term.eta, zzfc]
  refine qcall_intro (c85 t) ?_
  simp -implicitDefEqProofs only [encQ_cells, zzfp, zzft, zzfh, zzjy, zzjm, zzkd, zzjk, zzjl, zzcd, zziu, zzig, zzii, zzdn, zzdm, zzlf, zzid, zzic, zzgi, zzhu, zzhr, zzji, zzdl, zzkl, zzkr, zzkq, zzag, zzki, zzdt, zzkf, zzlg, zzaz, zzas, zzai, List.length_cons, List.length_nil, List.cons_append, List.nil_append, List.all_cons, List.all_nil, zzbv, zzbt, zzbr, zzbs, Option.map_some, Nat.reduceAdd, Nat.reduceSub, Nat.reduceEqDiff, Nat.zero_add, Bool.and_self, and_self, if_true, if_false, Nat.add_one_ne_zero]
  refine br_intro (fun b1 => ?_) (fun b1 => ?_)
  · simp -implicitDefEqProofs only [b1, zzfp, zzft, zzfq, zzjy, zzkd, zzjk, zzjl, zziu, zzih, zzja, zzjb, zziz, zzix, zzje, zzdn, zzlf, zzid, zzic, zzgi, zzhu, zzhr, zzlc, zzlb, zzce, zzky, zzji, zzgp, zzdi, zzbb, zzdk, zzbg, zzkl, zzkr, zzkq, zzag, zzki, zzbw, List.length_cons, List.length_nil, List.all_cons, List.all_nil, zzbv, zzbt, zzbr, zzbs, Option.map_some, Nat.reduceAdd, Nat.reduceSub, Nat.reduceEqDiff, Nat.zero_add, Bool.and_self, and_self, if_true, if_false, Nat.add_one_ne_zero, zzib, zzdg]
    have e : loginT room s now t = (zT, (readQ t).2, s) := by simp only [loginT, b1, if_true]
    rw [e]
    exact endK_intro ⟨by simp only [retV, PV.fg, fgL, zT, enc]; rfl, h⟩
  have e : loginT room s now t = logB room s now (readQ t).1 := by simp only [loginT, b1, Bool.false_eq_true, if_false]
  rw [e]
  clear e
  generalize (readQ t).1 = q
  simp -implicitDefEqProofs only [b1, hd', zzfu, zzfp, zzft, zzjq, zzjk, zziu, zzip, zziv, zzij, zzdn, zzlf, zzid, zzgi, zzhu, zzhr, zzji, zzjj, zzjg, zzgo, zzdl, zzif, zzie, zzhz, zzho, zzdv, zzdw, List.map_cons, List.map_nil, Option.map_some, Nat.reduceSub, Nat.reduceEqDiff, Nat.add_zero, if_true, if_false, PV.fg, fgL, Nat.add_one_ne_zero, zzgf]
  refine kcall_intro (c43 hS1 _) ?_
  rintro r H1 ⟨rfl, rfl⟩
  simp -implicitDefEqProofs only [hd', encPr_cells, zzfp, zzft, zzjy, zzjm, zzkd, zzjq, zzjk, zzjl, zziu, zzip, zziv, zzij, zzii, zzdn, zzdm, zzlf, zzid, zzic, zzgi, zzhu, zzhr, zzji, zzjj, zzjg, zzgo, zzdl, zzkl, zzkr, zzkq, zzag, zzki, zzif, zzie, zzhz, zzho, zzdw, zzdt, List.map_cons, List.map_nil, List.length_cons, List.length_nil, List.cons_append, List.nil_append, List.all_cons, List.all_nil, zzbv, zzbt, zzbr, zzbq, zzbs, Option.map_some, Nat.reduceAdd, Nat.reduceSub, Nat.reduceEqDiff, Nat.add_zero, Nat.zero_add, Bool.and_self, and_self, if_true, if_false, PV.fg, fgL, Nat.add_one_ne_zero, zzgf]
  refine kcall_intro (c43 hS1 _) ?_
  rintro r H1 ⟨rfl, rfl⟩
  simp -implicitDefEqProofs only [encPr_cells, zzfp, zzft, zzjy, zzjv, zzjm, zzkd, zzjk, zzjl, zzgc, zziu, zzig, zzii, zzdn, zzdm, zzlf, zzid, zzic, zzgi, zzhu, zzhr, zzji, zzdl, zzkl, zzkr, zzkq, zzag, zzki, zzdt, zzkf, zzlg, zzaz, zzas, zzai, List.length_cons, List.length_nil, List.cons_append, List.nil_append, List.all_cons, List.all_nil, zzbv, zzbt, zzbr, zzbq, zzbs, Option.map_some, Nat.reduceAdd, Nat.reduceSub, Nat.reduceEqDiff, Nat.zero_add, Bool.and_self, and_self, if_true, if_false, Nat.add_one_ne_zero]
  have bad : ((getP s.ps q.who).2 != 0 || (getP s.ps centreN).2 != 0) = true → logB room s now q = (zT, 40, s) := fun hb => by simp only [logB, hb, if_true]
  refine br_intro (fun b2 => ?_) (fun b2 => ?_)
  · simp -implicitDefEqProofs only [b2, zzfp, zzft, zzfh, zzfq, zzjy, zzjv, zzjz, zzkd, zzjk, zzjl, zzcd, zzgc, zziu, zzih, zzja, zzjb, zziz, zzix, zzje, zzdn, zzdm, zzlf, zzid, zzic, zzgi, zzhu, zzhr, zzlc, zzlb, zzce, zzky, zzji, zzgp, zzdi, zzbb, zzdk, zzbg, zzkl, zzkr, zzkq, zzag, zzki, br_true, zzbw, List.length_cons, List.length_nil, List.all_cons, List.all_nil, zzbv, zzbt, zzbr, zzbs, Option.map_some, Nat.reduceAdd, Nat.reduceSub, Nat.reduceEqDiff, Nat.zero_add, Bool.and_self, and_self, if_true, if_false, Nat.add_one_ne_zero, zzib, zzdg]
    rw [bad (by rw [b2]; rfl)]
    exact endK_intro ⟨by simp only [retV, PV.fg, fgL, zT, enc]; rfl, h⟩
  simp -implicitDefEqProofs only [b2, zzfh, zzjy, zzjv, zzjz, zzjk, zzcd, zzgc, zziu, zzig, zzdn, zzdm, zzlf, zzid, zzgi, zzkf, zzlg, zzaz, zzas, zzai, br_false, Nat.reduceSub, Nat.reduceEqDiff, if_true, if_false, Nat.add_one_ne_zero]
  refine br_intro (fun b3 => ?_) (fun b3 => ?_)
  · simp -implicitDefEqProofs only [b3, zzfp, zzft, zzfq, zzjy, zzkd, zzjk, zzjl, zziu, zzih, zzja, zzjb, zziz, zzix, zzje, zzdn, zzdm, zzlf, zzid, zzic, zzgi, zzhu, zzhr, zzlc, zzlb, zzce, zzky, zzji, zzgp, zzdi, zzbb, zzdk, zzbg, zzkl, zzkr, zzkq, zzag, zzki, zzbw, List.length_cons, List.length_nil, List.all_cons, List.all_nil, zzbv, zzbt, zzbr, zzbs, Option.map_some, Nat.reduceAdd, Nat.reduceSub, Nat.reduceEqDiff, Nat.zero_add, Bool.and_self, and_self, if_true, if_false, Nat.add_one_ne_zero, zzib, zzdg]
    rw [bad (by rw [b2]; exact b3)]
    exact endK_intro ⟨by simp only [retV, PV.fg, fgL, zT, enc]; rfl, h⟩
  have good : ((getP s.ps q.who).2 != 0 || (getP s.ps centreN).2 != 0) = false := by rw [b2]; exact b3
  have e : logB room s now q = if (logTime room s now q).2.1 != 0 then (zT, (logTime room s now q).2.1, { s with es := (logTime room s now q).2.2 }) else logI s now q (logTime room s now q).1 (logTime room s now q).2.2 := by simp only [logB, good, Bool.false_eq_true, if_false]
  rw [e]
  clear e bad
  simp -implicitDefEqProofs only [b3, zzfu, zzfp, zzft, zzjr, zzjk, zzip, zzij, zzdn, zzlf, zzid, zzgi, zzhu, zzhr, zzji, zzgo, zzdl, zzif, zzie, zzhz, zzdv, List.map_cons, List.map_nil, Option.map_some, Nat.reduceSub, Nat.reduceEqDiff, Nat.add_zero, Nat.zero_add, if_true, if_false, PV.fg, fgL, Nat.add_one_ne_zero, zzhy]
  refine qcall_intro (c58 _ _) ?_
  simp -implicitDefEqProofs only [r_b, zzay, zzfp, zzft, zzjy, zzjm, zzkd, zzjq, zzjk, zzjl, zziu, zzip, zziq, zzij, zzdn, zzlf, zzid, zzic, zzgi, zzhu, zzhr, zzlc, zzlb, zzce, zzky, zzji, zzgo, zzgp, zzdl, zzdi, zzkl, zzkr, zzkq, zzag, zzki, zzif, zzie, zzhz, zzdv, List.map_cons, List.map_nil, List.length_cons, List.length_nil, List.cons_append, List.nil_append, List.all_cons, List.all_nil, zzbv, zzbt, zzbr, zzbs, Option.map_some, Nat.reduceAdd, Nat.reduceSub, Nat.reduceEqDiff, Nat.zero_add, Bool.and_self, and_self, if_true, if_false, PV.fg, fgL, zzdf, zzcv, r_b, zzay, Nat.add_one_ne_zero, zzgf, zzde, Term.eta, zzfc]
  refine kcall_intro ((c86 hC hes q now (logKey s q) (logLife s q)).two hT.symm) ?_
  rintro r H2 ⟨HC', hT2, rfl, te', hC2⟩
  have hTm : timeT room s.es q now (logKey s q) (logLife s q) = logTime room s now q := rfl
  rw [hTm] at hC2 ⊢
  generalize logTime room s now q = tm at hC2 ⊢
  obtain ⟨sp, e4, es4⟩ := tm
  simp only at hC2
  have hL2 : Lg H2 d b room { s with es := es4 } := ⟨HS, HC', m, ses, c, te', tl, hT2.symm, hS, hC2⟩
  clear hC hC2 hT hT2 hTm
  simp -implicitDefEqProofs only [zzfp, zzft, zzfh, zzjy, zzjm, zzkd, zzjk, zzjl, zzcd, zziu, zzig, zzii, zzdn, zzdm, zzlf, zzid, zzic, zzgi, zzhu, zzhr, zzji, zzdl, zzkl, zzkr, zzkq, zzag, zzki, zzdt, zzkf, zzlg, zzaz, zzas, zzai, List.length_cons, List.length_nil, List.cons_append, List.nil_append, List.all_cons, List.all_nil, zzbv, zzbr, Option.map_some, Nat.reduceAdd, Nat.reduceSub, Nat.reduceEqDiff, Nat.zero_add, Bool.and_self, and_self, if_true, if_false, Nat.add_one_ne_zero, zzdb]
  refine br_intro (fun b4 => ?_) (fun b4 => ?_)
  · simp -implicitDefEqProofs only [b4, zzfp, zzft, zzfq, zzjy, zzkd, zzjk, zzjl, zziu, zzih, zzja, zzjb, zziz, zzix, zzje, zzdn, zzlf, zzid, zzic, zzgi, zzhu, zzhr, zzlc, zzlb, zzce, zzky, zzji, zzgp, zzdi, zzbb, zzdk, zzbg, zzkl, zzkr, zzkq, zzag, zzki, zzbw, List.length_cons, List.length_nil, List.all_cons, List.all_nil, zzbv, zzbt, zzbr, zzbs, Option.map_some, Nat.reduceAdd, Nat.reduceSub, Nat.reduceEqDiff, Nat.zero_add, Bool.and_self, and_self, if_true, if_false, Nat.add_one_ne_zero, zzib, zzdg]
    exact endK_intro ⟨by simp only [retV, PV.fg, fgL, zT, enc]; rfl, hL2⟩
  simp -implicitDefEqProofs only [b4, zzfu, zzfp, zzft, zzfh, zzjy, zzjm, zzkd, zzjk, zzjl, zzcd, zzih, zzip, zziq, r_un, zzij, zzdn, zzdm, zzlf, zzid, zzic, zzgi, zzhu, zzhr, zzlc, zzlb, zzce, zzky, zzji, zzgo, zzgp, zzdl, zzdi, zzbb, zzdk, zzdj, zzhx, zzba, zzbg, zzbf, zzkm, zzkn, zzkl, Nat.reduceBEq, zzko, zzkr, zzkq, zzag, zzki, zzdv, zzle, zzbw, zzca, List.length_cons, List.length_nil, List.cons_append, List.nil_append, List.all_cons, List.all_nil, zzbv, zzbt, zzbr, zzbq, zzbs, Option.map_some, Nat.reduceAdd, Nat.reduceSub, Nat.reduceEqDiff, Nat.add_zero, Nat.zero_add, Bool.and_self, and_self, if_true, if_false, Nat.add_one_ne_zero, zzdb, zzfb, Bool.false_eq_true, Int.reduceBEq]
  refine br_intro (fun b5 => ?_) (fun b5 => ?_)
  · have hG : logG s q sp = ⟨q.who, q.who, centreN, 5, 0, [], true, sp⟩ := by
      rw [Bool.not_eq_true'] at b5; simp only [logG, b5, Bool.false_eq_true, if_false, Bool.not_false]
    simp -implicitDefEqProofs only [b5, zzfp, zzft, zzjy, zzkd, zzjq, zzjk, zzjl, zziu, zziq, zzij, zzdn, zzdm, zzlf, zzid, zzic, zzgi, zzhu, zzhr, zzlc, zzlb, zzce, zzky, zzji, zzgp, zzdi, zzkm, zzkn, Nat.reduceBEq, zzko, zzkr, zzkq, zzag, zzki, zzif, zzie, zzhz, zzdv, zzca, List.map_cons, List.map_nil, List.length_cons, List.length_nil, List.all_cons, List.all_nil, zzbv, zzbr, zzbq, Option.map_some, Nat.reduceAdd, Nat.reduceSub, Nat.reduceEqDiff, Nat.zero_add, Bool.and_self, and_self, if_true, if_false, PV.fg, fgL, Nat.add_one_ne_zero, zzgf, Int.reduceBEq]
    refine kcall_intro (c39 hL2 ⟨q.who, q.who, centreN, 5, 0, [], true, sp⟩) ?_
    rintro r H3 ⟨rfl, hL3⟩
    have eI : logI s now q sp es4 = if (issueT s.ps s.serial ⟨q.who, q.who, centreN, 5, 0, [], true, sp⟩).2.2.1 != 0 then (zT, (issueT s.ps s.serial ⟨q.who, q.who, centreN, 5, 0, [], true, sp⟩).2.2.1, { s with es := es4, serial := (issueT s.ps s.serial ⟨q.who, q.who, centreN, 5, 0, [], true, sp⟩).2.2.2 }) else
        (answerT repName q.who (issueT s.ps s.serial ⟨q.who, q.who, centreN, 5, 0, [], true, sp⟩).1 (logKey s q) (issueT s.ps s.serial ⟨q.who, q.who, centreN, 5, 0, [], true, sp⟩).2.1 3 q.nonce ⟨q.who, q.who, centreN, 5, 0, [], true, sp⟩, 0, { s with es := es4, serial := (issueT s.ps s.serial ⟨q.who, q.who, centreN, 5, 0, [], true, sp⟩).2.2.2, evs := s.evs ++ [logE now q ⟨q.who, q.who, centreN, 5, 0, [], true, sp⟩] }) := by
      simp only [logI, hG]
    rw [eI]
    clear eI hG hL2
    simp only at hL3 ⊢
    generalize issueT s.ps s.serial ⟨q.who, q.who, centreN, 5, 0, [], true, sp⟩ = I at hL3 ⊢
    obtain ⟨tk, sk, e6, n⟩ := I
    simp only at hL3
    simp -implicitDefEqProofs only [zzfp, zzft, zzfh, zzjy, zzjm, zzkd, zzjk, zzjl, zzcd, zziu, zzig, zzii, zzdn, zzdm, zzlf, zzid, zzic, zzgi, zzhu, zzhr, zzji, zzdl, zzkl, zzkr, zzkq, zzag, zzki, zzdt, zzkf, zzlg, zzaz, zzas, zzai, List.length_cons, List.length_nil, List.cons_append, List.nil_append, List.all_cons, List.all_nil, zzbv, zzbt, zzbr, zzbs, Option.map_some, Nat.reduceAdd, Nat.reduceSub, Nat.reduceEqDiff, Nat.zero_add, Bool.and_self, and_self, if_true, if_false, Nat.add_one_ne_zero, zzde]
    refine br_intro (fun b6 => ?_) (fun b6 => ?_)
    · simp -implicitDefEqProofs only [b6, zzfp, zzft, zzfq, zzjy, zzkd, zzjk, zzjl, zziu, zzih, zzja, zzjb, zziz, zzix, zzje, zzdn, zzlf, zzid, zzic, zzgi, zzhu, zzhr, zzlc, zzlb, zzce, zzky, zzji, zzgp, zzdi, zzbb, zzdk, zzbg, zzkl, zzkr, zzkq, zzag, zzki, zzbw, List.length_cons, List.length_nil, List.all_cons, List.all_nil, zzbv, zzbt, zzbr, zzbs, Option.map_some, Nat.reduceAdd, Nat.reduceSub, Nat.reduceEqDiff, Nat.zero_add, Bool.and_self, and_self, if_true, if_false, Nat.add_one_ne_zero, zzib, zzdg]
      exact endK_intro ⟨by simp only [retV, PV.fg, fgL, zT, enc]; rfl, hL3⟩
    obtain ⟨HS3, HC3, m3, ses3, kc3, te3, tl3, hT3, hS3, hC3⟩ := hL3.ex
    simp only at hC3 hS3
    simp -implicitDefEqProofs only [b6, zzfu, zzfp, zzft, zzjq, zzjk, zziu, zzih, zzip, zzij, zzdn, zzdm, zzlf, zzid, zzgi, zzhu, zzhr, zzce, zzji, zzgo, zzdl, zzdi, zzbb, zzdk, zzdj, zzhx, zzba, zzbg, zzbf, zzkm, zzkn, Nat.reduceBEq, zzko, zzif, zzie, zzhz, zzdv, zzca, List.map_cons, List.map_nil, List.length_cons, List.length_nil, Option.map_some, Nat.reduceSub, Nat.reduceEqDiff, Nat.add_zero, Nat.zero_add, if_true, if_false, PV.fg, fgL, Nat.add_one_ne_zero, zzgf, Bool.false_eq_true, Int.reduceBEq]
    refine kcall_intro ((c42 hC3 hev (logE now q ⟨q.who, q.who, centreN, 5, 0, [], true, sp⟩)).two hT3.symm) ?_
    rintro r H4 ⟨HC4, hT4, rfl, tl4, hC4⟩
    simp -implicitDefEqProofs only [zzfp, zzft, zzjy, zzjr, zzjk, zzip, zziq, zzij, zzdn, zzdm, zzlf, zzid, zzgi, zzhu, zzhr, zzlc, zzlb, zzce, zzky, zzji, zzgo, zzgp, zzdl, zzdi, zzif, zzie, zzhz, zzdv, List.map_cons, List.map_nil, Option.map_some, Nat.reduceAdd, Nat.reduceSub, Nat.reduceEqDiff, Nat.add_zero, Nat.zero_add, if_true, if_false, PV.fg, fgL, zzdf, Nat.add_one_ne_zero, zzhy, Term.eta, zzfc]
    refine qcall_intro (c27 repName q.who tk (logKey s q) sk 3 q.nonce ⟨q.who, q.who, centreN, 5, 0, [], true, sp⟩) ?_
    simp -implicitDefEqProofs only [zzfq, zzjy, zzkd, zzjl, zziu, zzja, zzjb, zziz, zzix, zzje, zzdn, zzdm, zzlf, zzid, zzic, zzgi, zzhu, zzhr, zzlc, zzlb, zzce, zzky, zzji, zzgp, zzdi, zzkl, zzkr, zzkq, zzag, zzki, List.length_cons, List.length_nil, List.all_cons, List.all_nil, zzbv, zzbt, zzbr, zzbs, Option.map_some, Nat.reduceAdd, Nat.reduceSub, Nat.reduceEqDiff, Nat.zero_add, Bool.and_self, and_self, if_true, if_false, Nat.add_one_ne_zero, zzib, zzdg, zzde, Term.eta, zzfc]
    exact endK_intro ⟨by simp only [retV, PV.fg, fgL, zzcv, zzdf], ⟨HS3, HC4, m3, ses3, kc3, te3, tl4, hT4.symm, hS3, hC4⟩⟩
  · have hG : logG s q sp = ⟨q.who, q.who, centreN, 0, 0, [], false, sp⟩ := by
      rw [Bool.not_eq_false'] at b5; simp only [logG, b5, if_true, Bool.not_true]
    simp -implicitDefEqProofs only [b5, zzfu, zzfp, zzft, zzjq, zzjk, zziu, zziq, zzdn, zzlf, zzid, zzgi, zzhu, zzhr, zzlc, zzlb, zzce, zzky, zzji, zzgp, zzdi, zzif, zzie, zzhz, List.map_cons, List.map_nil, Option.map_some, Nat.reduceAdd, Nat.reduceSub, Nat.reduceEqDiff, if_true, if_false, PV.fg, fgL, Nat.add_one_ne_zero, zzgf]
    refine kcall_intro (c39 hL2 ⟨q.who, q.who, centreN, 0, 0, [], false, sp⟩) ?_
    rintro r H3 ⟨rfl, hL3⟩
    have eI : logI s now q sp es4 = if (issueT s.ps s.serial ⟨q.who, q.who, centreN, 0, 0, [], false, sp⟩).2.2.1 != 0 then (zT, (issueT s.ps s.serial ⟨q.who, q.who, centreN, 0, 0, [], false, sp⟩).2.2.1, { s with es := es4, serial := (issueT s.ps s.serial ⟨q.who, q.who, centreN, 0, 0, [], false, sp⟩).2.2.2 }) else
        (answerT repName q.who (issueT s.ps s.serial ⟨q.who, q.who, centreN, 0, 0, [], false, sp⟩).1 (logKey s q) (issueT s.ps s.serial ⟨q.who, q.who, centreN, 0, 0, [], false, sp⟩).2.1 3 q.nonce ⟨q.who, q.who, centreN, 0, 0, [], false, sp⟩, 0, { s with es := es4, serial := (issueT s.ps s.serial ⟨q.who, q.who, centreN, 0, 0, [], false, sp⟩).2.2.2, evs := s.evs ++ [logE now q ⟨q.who, q.who, centreN, 0, 0, [], false, sp⟩] }) := by
      simp only [logI, hG]
    rw [eI]
    clear eI hG hL2
    simp only at hL3 ⊢
    generalize issueT s.ps s.serial ⟨q.who, q.who, centreN, 0, 0, [], false, sp⟩ = I at hL3 ⊢
    obtain ⟨tk, sk, e6, n⟩ := I
    simp only at hL3
    simp -implicitDefEqProofs only [zzfp, zzft, zzfh, zzjy, zzjm, zzkd, zzjk, zzjl, zzcd, zziu, zzig, zzii, zzdn, zzdm, zzlf, zzid, zzic, zzgi, zzhu, zzhr, zzji, zzdl, zzkl, zzkr, zzkq, zzag, zzki, zzdt, zzkf, zzlg, zzaz, zzas, zzai, List.length_cons, List.length_nil, List.cons_append, List.nil_append, List.all_cons, List.all_nil, zzbv, zzbt, zzbr, zzbs, Option.map_some, Nat.reduceAdd, Nat.reduceSub, Nat.reduceEqDiff, Nat.zero_add, Bool.and_self, and_self, if_true, if_false, Nat.add_one_ne_zero, zzde]
    refine br_intro (fun b6 => ?_) (fun b6 => ?_)
    · simp -implicitDefEqProofs only [b6, zzfp, zzft, zzfq, zzjy, zzkd, zzjk, zzjl, zziu, zzih, zzja, zzjb, zziz, zzix, zzje, zzdn, zzlf, zzid, zzic, zzgi, zzhu, zzhr, zzlc, zzlb, zzce, zzky, zzji, zzgp, zzdi, zzbb, zzdk, zzbg, zzkl, zzkr, zzkq, zzag, zzki, zzbw, List.length_cons, List.length_nil, List.all_cons, List.all_nil, zzbv, zzbt, zzbr, zzbs, Option.map_some, Nat.reduceAdd, Nat.reduceSub, Nat.reduceEqDiff, Nat.zero_add, Bool.and_self, and_self, if_true, if_false, Nat.add_one_ne_zero, zzib, zzdg]
      exact endK_intro ⟨by simp only [retV, PV.fg, fgL, zT, enc]; rfl, hL3⟩
    obtain ⟨HS3, HC3, m3, ses3, kc3, te3, tl3, hT3, hS3, hC3⟩ := hL3.ex
    simp only at hC3 hS3
    simp -implicitDefEqProofs only [b6, zzfu, zzfp, zzft, zzjq, zzjk, zziu, zzih, zzip, zzij, zzdn, zzdm, zzlf, zzid, zzgi, zzhu, zzhr, zzce, zzji, zzgo, zzdl, zzdi, zzbb, zzdk, zzdj, zzhx, zzba, zzbg, zzbf, zzkm, zzkn, Nat.reduceBEq, zzko, zzif, zzie, zzhz, zzdv, zzca, List.map_cons, List.map_nil, List.length_cons, List.length_nil, Option.map_some, Nat.reduceSub, Nat.reduceEqDiff, Nat.add_zero, Nat.zero_add, if_true, if_false, PV.fg, fgL, Nat.add_one_ne_zero, zzgf, Bool.false_eq_true, Int.reduceBEq]
    refine kcall_intro ((c42 hC3 hev (logE now q ⟨q.who, q.who, centreN, 0, 0, [], false, sp⟩)).two hT3.symm) ?_
    rintro r H4 ⟨HC4, hT4, rfl, tl4, hC4⟩
    simp -implicitDefEqProofs only [zzfp, zzft, zzjy, zzjr, zzjk, zzip, zziq, zzij, zzdn, zzdm, zzlf, zzid, zzgi, zzhu, zzhr, zzlc, zzlb, zzce, zzky, zzji, zzgo, zzgp, zzdl, zzdi, zzif, zzie, zzhz, zzdv, List.map_cons, List.map_nil, Option.map_some, Nat.reduceAdd, Nat.reduceSub, Nat.reduceEqDiff, Nat.add_zero, Nat.zero_add, if_true, if_false, PV.fg, fgL, zzdf, Nat.add_one_ne_zero, zzhy, Term.eta, zzfc]
    refine qcall_intro (c27 repName q.who tk (logKey s q) sk 3 q.nonce ⟨q.who, q.who, centreN, 0, 0, [], false, sp⟩) ?_
    simp -implicitDefEqProofs only [zzfq, zzjy, zzkd, zzjl, zziu, zzja, zzjb, zziz, zzix, zzje, zzdn, zzdm, zzlf, zzid, zzic, zzgi, zzhu, zzhr, zzlc, zzlb, zzce, zzky, zzji, zzgp, zzdi, zzkl, zzkr, zzkq, zzag, zzki, List.length_cons, List.length_nil, List.all_cons, List.all_nil, zzbv, zzbt, zzbr, zzbs, Option.map_some, Nat.reduceAdd, Nat.reduceSub, Nat.reduceEqDiff, Nat.zero_add, Bool.and_self, and_self, if_true, if_false, Nat.add_one_ne_zero, zzib, zzdg, zzde, Term.eta, zzfc]
    exact endK_intro ⟨by simp only [retV, PV.fg, fgL, zzcv, zzdf], ⟨HS3, HC4, m3, ses3, kc3, te3, tl4, hT4.symm, hS3, hC4⟩⟩
end Go.Pv

set_option linter.unusedSimpArgs false
set_option linter.unusedVariables false
namespace Go.Pv
open Go.Proofs
theorem Two.swap {H HA HX HB HC : PH} (h : Two H HA HX) (k : Two HX HB HC) : ∃ HY, Two H HY HC ∧ Two HY HB HA := by
  refine ⟨HA ++ HB, ⟨fun x => ?_, fun x hx => ?_⟩, ⟨fun x => ?_, fun x hx => ?_⟩⟩
  · rw [h.get x, k.get x, PH.get_append]
    cases HA.get x <;> simp
  · rw [PH.get_append] at hx
    cases ha : HA.get x with
    | some a =>
      have := h.dis x (by rw [ha]; simp)
      rw [k.get x] at this
      cases hb : HB.get x with
      | none => rw [hb] at this; simpa using this
      | some o => rw [hb] at this; simp at this
    | none =>
      rw [ha, Option.none_or] at hx
      exact k.dis x hx
  · rw [PH.get_append]
    cases ha : HA.get x with
    | none => simp
    | some a =>
      have := h.dis x (by rw [ha]; simp)
      rw [k.get x] at this
      cases hb : HB.get x with
      | none => simp
      | some o => rw [hb] at this; simp at this
  · cases ha : HA.get x with
    | none => rfl
    | some a =>
      have := h.dis x (by rw [ha]; simp)
      rw [k.left (x := x) (o := (HB.get x).get (by cases hb : HB.get x with | none => exact absurd hb hx | some o => rfl)) (by simp)] at this
      cases this
/-- A centre beside the rest. -/
theorem Lg.new {H H1 HA HB HC : PH} {d b m c : Nat} {room : Int} {ps : List Pr} {ses : List (Value × PV)} (hT : Two H HC H1) (hT1 : Two H1 HA HB) (hS : Sto HA b m ps ses) (hC : Cen HC d b c room [] (.list .full []) 0 [] .full) :
    ∃ HY, Two H HY HB ∧ Lg HY d b room ⟨ps, [], 0, []⟩ := by
  obtain ⟨HY, h1, h2⟩ := hT.swap hT1
  exact ⟨HY, h1, ⟨HA, HC, m, ses, c, _, _, h2, hS, hC⟩⟩
theorem PCalls.mono' {P : Program} {f : FuncId} {args : List PV} {H : PH} {K K' : PV → PH → Prop} (h : PCalls P f args H K) (hk : ∀ r H', K r H' → K' r H') : PCalls P f args H K' := by
  refine ⟨h.1, fun w hw vs h1 h2 => (h.2 w hw vs h1 h2).mono ?_⟩
  rintro _ w' ⟨v, hw', r, H', e1, e2, e3, e4, e5⟩
  exact ⟨v, hw', r, H', e1, e2, e3, e4, hk _ _ e5⟩
theorem c34L {H : PH} {d b : Nat} {room : Int} {s : LS} (h : Lg H d b room s) : PCalls Tryz.prog 34 [.ptr d 0] H fun r H' => r = .list .foreign (evL s.evs) ∧ Lg H' d b room { s with evs := [] } := by
  obtain ⟨HS, HC, m, ses, c, te, tl, hT, hS, hC⟩ := h.ex
  refine PCalls.mono' ((c34 hC).two hT.symm) ?_
  rintro r H' ⟨HC', hT', rfl, hC'⟩
  exact ⟨rfl, HS, HC', m, ses, c, te, _, hT'.symm, hS, hC'⟩
def annN : ByteArray := ⟨#[97, 110, 110]⟩
def s0 : LS := ⟨[centreP, annP], [], 0, []⟩
def logS : Term × Int × LS := loginT 5 s0 100 (askT annN (keyT annN 1) 100 9 2000)
theorem addS0 : addL [] [centreP, annP] = [centreP, annP] := by kernel_rfl
theorem logS_ok : logS.2.1 = 0 := by kernel_rfl
theorem logT_ok : (takeT logS.1 repName 3).2 = 0 := by kernel_rfl
theorem logB_ok : ∃ x0 x1 x2, (takeT logS.1 repName 3).1 = [x0, x1, x2] ∧ (boxT x2 (keyT annN 1) 3).2 = 0 ∧ (openT x1 (keyT centreN 1)).2 = 0 ∧ (∃ y0 y1 y2 y3 y4 y5, (boxT x2 (keyT annN 1) 3).1.l = [y0, y1, y2, y3, y4, y5] ∧ y1.n = 9) ∧ (openT x1 (keyT centreN 1)).1.client = annN ∧ (openT x1 (keyT centreN 1)).1.span = ⟨100, 600⟩ := by
  have h : (takeT logS.1 repName 3).1 = [hd (takeT logS.1 repName 3).1, hd ((takeT logS.1 repName 3).1.drop 1), hd ((takeT logS.1 repName 3).1.drop 2)] := by kernel_rfl
  refine ⟨_, _, _, h, by kernel_rfl, by kernel_rfl, ?_, by kernel_rfl, by kernel_rfl⟩
  have h2 : (boxT (hd ((takeT logS.1 repName 3).1.drop 2)) (keyT annN 1) 3).1.l = [hd (boxT (hd ((takeT logS.1 repName 3).1.drop 2)) (keyT annN 1) 3).1.l, hd ((boxT (hd ((takeT logS.1 repName 3).1.drop 2)) (keyT annN 1) 3).1.l.drop 1), hd ((boxT (hd ((takeT logS.1 repName 3).1.drop 2)) (keyT annN 1) 3).1.l.drop 2), hd ((boxT (hd ((takeT logS.1 repName 3).1.drop 2)) (keyT annN 1) 3).1.l.drop 3), hd ((boxT (hd ((takeT logS.1 repName 3).1.drop 2)) (keyT annN 1) 3).1.l.drop 4), hd ((boxT (hd ((takeT logS.1 repName 3).1.drop 2)) (keyT annN 1) 3).1.l.drop 5)] := by kernel_rfl
  exact ⟨_, _, _, _, _, _, h2, by kernel_rfl⟩
theorem logE_ok : logS.2.2.evs = [logE 100 ⟨annN, 9, 2000, sealT (keyT annN 1) 1 (lstT [numT 100, numT 9])⟩ ⟨annN, annN, centreN, 5, 0, [], true, ⟨100, 600⟩⟩] := by kernel_rfl
set_option maxRecDepth 20000 in
set_option maxHeartbeats 4000000 in
theorem c24 : PPure Tryz.prog 24 [] (.scal (.bool true)) := by
  show PCalls Tryz.prog 24 [] [] fun r' _ => r' = .scal (.bool true)
  refine calls_of hmix Tryz.func24 ok24 (by simp) ?_
  simp -implicitDefEqProofs only [rc24, zzfp, zzft, zzjy, zzjr, zziu, zzdm, zzid, zzif, List.map_nil, fgL, zzhy]
  refine qcall_intro c41 ?_
  simp -implicitDefEqProofs only [zzjq, zzdn, zzlf, zzid, zzif, zzie, zzhz, List.map_cons, List.map_nil, if_true, if_false, PV.fg, fgL, Nat.add_one_ne_zero, zzgf]
  refine kcall_intro (c31 [centreP, annP]) ?_
  rintro r H1 ⟨b, rb, m, ses, v, HA, HB, rfl, hT1, hS, hR⟩
  rw [addS0] at hS
  simp -implicitDefEqProofs only [r_isnil, isnP, zzfu, zzfp, zzft, zzfh, zzjy, zzjq, zzjk, zzcd, zziu, zzii, zzdn, zzdm, zzlf, zzid, zzhu, zzhr, zzdl, zzif, zzie, zzhz, zzdt, br_false, List.map_cons, List.map_nil, Nat.reduceSub, Nat.reduceEqDiff, if_true, if_false, PV.fg, fgL, Nat.add_one_ne_zero, zzgf]
  refine kcall_intro ((c32 b 5).two (Two.nilR H1).symm) ?_
  rintro r H2 ⟨HC, hT2, d, c, rfl, hC⟩
  have hroom : (if (0 : Int) > 5 then (0 : Int) else 5) = 5 := by decide
  rw [hroom] at hC
  obtain ⟨HY, hT3, hL⟩ := Lg.new hT2 hT1 hS hC
  simp -implicitDefEqProofs only [r_isnil, isnP, zzfu, zzfp, zzft, zzfh, zzjy, zzjr, zzjk, zzcd, zziu, zzdn, zzdm, zzlf, zzid, zzif, zzie, zzhz, br_false, List.map_cons, List.map_nil, Nat.reduceEqDiff, if_true, if_false, PV.fg, fgL, Nat.add_one_ne_zero, zzhy]
  refine qcall_intro (c58 _ _) ?_
  simp -implicitDefEqProofs only [zzjr, zzdn, zzdm, zzlf, zzid, zzif, zzie, zzhz, List.map_cons, List.map_nil, Nat.reduceEqDiff, if_true, if_false, PV.fg, fgL, zzdf, Nat.add_one_ne_zero, zzhy]
  refine qcall_intro (c25 annN _ _ _ _) ?_
  simp -implicitDefEqProofs only [zzjq, zzdn, zzdm, zzlf, zzid, zzif, zzie, zzhz, List.map_cons, List.map_nil, Nat.reduceEqDiff, if_true, if_false, PV.fg, fgL, zzdf, Nat.add_one_ne_zero, zzgf]
  refine kcall_intro ((c33 hL (by decide) (by decide) 100 _).two hT3) ?_
  rintro r H3 ⟨HY3, hT4, rfl, hL3⟩
  have hg : loginT 5 ⟨[centreP, annP], [], 0, []⟩ 100 (askT annN (keyT ⟨#[97, 110, 110]⟩ 1) 100 9 2000) = logS := rfl
  rw [hg] at hL3 ⊢
  simp -implicitDefEqProofs only [zzfp, zzft, zzjy, zzjm, zzkd, zzjr, zzjk, zzjl, zziu, zziq, zzii, zzdn, zzdm, zzlf, zzid, zzic, zzhu, zzhr, zzlc, zzlb, zzce, zzky, zzji, zzgp, zzdl, zzdi, zzkl, zzkr, zzkq, zzag, zzki, zzif, zzie, zzhz, zzdt, List.map_cons, List.map_nil, List.length_cons, List.length_nil, List.nil_append, List.all_cons, List.all_nil, zzbv, zzbt, zzbr, zzbs, Option.map_some, Nat.reduceAdd, Nat.reduceSub, Nat.reduceEqDiff, Nat.zero_add, Bool.and_self, and_self, if_true, if_false, PV.fg, fgL, zzdf, Nat.add_one_ne_zero, zzhy, zzde, Term.eta, zzfc]
  refine qcall_intro (c36 _ _ _) ?_
  have hg2 : takeT logS.1 ⟨#[97, 115, 45, 114, 101, 112]⟩ 3 = takeT logS.1 repName 3 := rfl
  rw [hg2]
  obtain ⟨x0, x1, x2, hl, e1, e2, ⟨y0, y1, y2, y3, y4, y5, hy, e3⟩, e4, e5⟩ := logB_ok
  have bn0 : ((0 : Int) != 0) = false := by decide
  simp -implicitDefEqProofs only [logS_ok, logT_ok, bn0, hl, zzfu, zzfp, zzft, zzfh, zzjy, zzjv, zzjz, zzjr, zzjk, zzcd, zzgc, zziu, zziq, zzig, zzik, zzin, zzii, zzdn, zzdm, zzlf, zzid, zzhu, zzhr, zzlc, zzlb, zzce, zzky, zzjh, zzgp, zzdl, zzdi, zzif, zzie, zzhz, zzaf, zzae, zzgg, zzcf, zzgt, zzdt, zzkf, zzlg, zzaz, zzas, zzai, br_false, List.map_cons, List.map_nil, List.length_cons, List.length_nil, Option.map_some, Nat.reduceAdd, Nat.reduceSub, Nat.reduceEqDiff, Nat.zero_add, if_true, if_false, PV.fg, fgL, zzcw, zzcx, Nat.add_one_ne_zero, zzhy, zzde, Term.eta, zzfc, Int.reduceLE, Int.reduceToNat, zzbk, Int.reduceBNe]
  refine qcall_intro (c58 _ _) ?_
  simp -implicitDefEqProofs only [zzjr, zzdn, zzdm, zzlf, zzid, zzif, zzie, zzhz, List.map_cons, List.map_nil, Nat.reduceEqDiff, if_true, if_false, PV.fg, fgL, zzdf, Nat.add_one_ne_zero, zzhy]
  refine qcall_intro (c38 _ _ _) ?_
  simp -implicitDefEqProofs only [zzfp, zzft, zzjy, zzjm, zzkd, zzjr, zzjk, zzjl, zziu, zziq, zzik, zzii, zzdn, zzdm, zzlf, zzid, zzic, zzhu, zzhr, zzlc, zzlb, zzce, zzky, zzji, zzjh, zzgp, zzdl, zzdi, zzkl, zzkr, zzkq, zzag, zzki, zzif, zzie, zzhz, zzaf, zzae, zzgg, zzcf, zzdt, List.map_cons, List.map_nil, List.length_cons, List.length_nil, List.cons_append, List.nil_append, List.all_cons, List.all_nil, zzbv, zzbt, zzbr, zzbs, Option.map_some, Nat.reduceAdd, Nat.reduceSub, Nat.reduceEqDiff, Nat.zero_add, Bool.and_self, and_self, if_true, if_false, PV.fg, fgL, zzcx, Nat.add_one_ne_zero, zzhy, zzde, Term.eta, zzfc, Int.toNat_one, Int.reduceLE]
  refine qcall_intro (c58 _ _) ?_
  simp -implicitDefEqProofs only [zzjr, zzdn, zzlf, zzid, zzif, zzie, zzhz, List.map_cons, List.map_nil, Nat.reduceEqDiff, if_true, if_false, fgL, zzdf, Nat.add_one_ne_zero, zzhy]
  refine qcall_intro (c40 _ _) ?_
  simp -implicitDefEqProofs only [zzfp, zzft, zzjy, zzjm, zzkd, zzjq, zzjk, zzjl, zziu, zzii, zzdn, zzlf, zzid, zzic, zzhu, zzhr, zzji, zzdl, zzkl, zzkr, zzkq, zzag, zzki, zzif, zzie, zzhz, zzdt, List.map_cons, List.map_nil, List.length_cons, List.length_nil, List.cons_append, List.nil_append, List.all_cons, List.all_nil, zzbv, zzbt, zzbr, zzbs, Option.map_some, Nat.reduceAdd, Nat.reduceSub, Nat.reduceEqDiff, Nat.zero_add, Bool.and_self, and_self, if_true, if_false, PV.fg, fgL, Nat.add_one_ne_zero, zzgf, zzcr]
  refine kcall_intro ((c34L hL3).two hT4) ?_
  rintro r H4 ⟨HY4, hT5, rfl, hL4⟩
  have hev : evL logS.2.2.evs = [.agg [.scal (.int .i64 0), .scal (.int .i64 100), .scal (.string annN), .scal (.string annN), .scal (.string centreN), .list .foreign [], .scal (.int .i64 5), .scal (.int .i64 600), .scal (.bool false), .scal (.int .i64 0)]] := by
    rw [logE_ok]; rfl
  rw [hev]
  have b2 : (boxT x2 (keyT ⟨#[97, 110, 110]⟩ 1) 3).1.l = [y0, y1, y2, y3, y4, y5] := hy
  have b1 : (boxT x2 (keyT ⟨#[97, 110, 110]⟩ 1) 3).2 = 0 := e1
  have k1 : (openT x1 (keyT ⟨#[99, 101, 110, 116, 114, 101]⟩ 1)).2 = 0 := e2
  have k2 : (openT x1 (keyT ⟨#[99, 101, 110, 116, 114, 101]⟩ 1)).1.client = annN := e4
  have k3 : (openT x1 (keyT ⟨#[99, 101, 110, 116, 114, 101]⟩ 1)).1.span = ⟨100, 600⟩ := e5
  have hq : seqB annN ⟨#[97, 110, 110]⟩ = true := by kernel_rfl
  have hsp : binE Tryz.prog .eql 46 (vals2 (.v (encS ⟨100, 600⟩)) (.v (encS ⟨100, 600⟩))) = some (.v (.scal (.bool true))) := span_cmp ⟨100, 600⟩ ⟨100, 600⟩
  simp -implicitDefEqProofs only [b1, b2, k1, k2, k3, e3, hq, hsp, zzfp, zzft, zzfq, zzjy, zzjv, zzjz, zzjk, zzcd, zzgd, zziu, zzih, zzip, zziq, zzig, zzij, zzik, zzin, zzja, zzjb, zzix, zzjd, zzdn, zzdm, zzlf, zzid, zzhu, zzhr, zzhs, zzlc, zzlb, zzce, zzky, zzji, zzjh, zzgo, zzgp, zzdl, zzdi, zzbb, zzdk, zzdj, zzhx, zzba, zzbg, zzbf, zzkm, zzkn, zzkl, Nat.reduceBEq, zzko, zzdv, zzdu, zzaf, zzae, zzgg, zzcf, zzgt, zzkf, zzlg, zzaz, zzan, zzav, zzai, br_true, zzbw, zzca, List.length_cons, List.length_nil, Option.map_some, Nat.reduceAdd, Nat.reduceSub, Nat.reduceEqDiff, Nat.add_zero, Nat.zero_add, if_true, if_false, zzcw, zzcx, beq_self_eq_true, Nat.add_one_ne_zero, zzib, zzdg, zzde, zzfb, Int.toNat_one, Int.toNat_zero, Int.le_refl, Int.reduceLE, zzbi, zzbn, Int.reduceBEq]
  exact endK_raw rfl
end Go.Pv


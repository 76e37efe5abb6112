import Derived.Test.YtlgaolpkeejmdaaMQ
import Derived.Test.YtlgaolpkeejmdaaML
set_option linter.unusedSimpArgs false
set_option linter.unusedVariables false
namespace Go.Pv
open Go.Proofs
set_option maxRecDepth 20000 in
set_option maxHeartbeats 4000000 in
theorem c65 {H : PH} {b c : Nat} {name : ByteArray} {key : Term} {room : Int} {es : List (Term × Int)} {te : Tok} {lg : List PV} {tl : Tok} (h : Acc H b c name key room es te lg tl) (hes : es.length < 1000000) (hlen : lg.length < 1000000) (now : Int) (t : Term)
    (hcl : ∀ x2, nth t.l 2 = some x2 → hasE es x2 now = false → ∀ H, Acc H b c name key room es te lg tl → PCalls Try.prog 130 [.ptr c 0, .scal (.int .i64 now)] H fun r H' => r = .tup [] ∧ H' = H) :
    PCalls Try.prog 65 [.ptr b 0, .scal (.int .i64 now), enc t] H fun r H' => r = .tup [encX (acceptT name key room es now t).1, .scal (.int .i64 (acceptT name key room es now t).2.1)] ∧
      ∃ te' tl', Acc H' b c name key room (acceptT name key room es now t).2.2 te' (lg ++ [evP now name (acceptT name key room es now t).1 (acceptT name key room es now t).2.1]) tl' := by
  refine defers_of (g := 100) hmix Try.func65 okD65 (by simp) ?_
  simp -implicitDefEqProofs only [rcA65, zzil, zzbe, zzfm, zzdn, zzfy, zzbz, Nat.reduceSub, if_true, zzil, zzbe]
  refine bH_intro fun p3 f3 => ?_
  simp -implicitDefEqProofs only [zzil, zzbe, zzdn, zzka, zzhe, zzfy, zzca, Nat.reduceSub, Nat.reduceEqDiff, if_true, if_false, Nat.add_one_ne_zero, zzil, zzbe]
  refine bH_intro fun p4 f4 => ?_
  simp -implicitDefEqProofs only [run_allocH', zzik, zzbd, zzdn, zzka, zzhe, zzfy, List.length_nil, List.nil_append, Nat.reduceSub, Nat.reduceEqDiff, if_true, if_false, Nat.add_one_ne_zero, zzde]
  refine bH_intro fun p6 f6 => ?_
  simp -implicitDefEqProofs only [run_allocH', zzhe]
  refine bH_intro fun p7 f7 => ?_
  have some_ne : ∀ {H : PH} {x y : Nat} {o : PObj}, H.get x = none → H.get y = some o → x ≠ y := fun h1 h2 e => by subst e; rw [h1] at h2; cases h2
  have n3b := some_ne f3 h.acc
  have n3c := some_ne f3 h.cache
  have a1 := h.other (o := .cells [.ptr b 0]) n3b n3c (.inl f3)
  have n4b := some_ne f4 a1.acc
  have n4c := some_ne f4 a1.cache
  have a2 := a1.other (o := .cells [.scal (.int .i64 now)]) n4b n4c (.inl f4)
  have n43 : p4 ≠ p3 := some_ne f4 (get_same _ _ _)
  have n6b := some_ne f6 a2.acc
  have n6c := some_ne f6 a2.cache
  have a3 := a2.other (o := .cells (cellsX .full .full .full .full .full zX)) n6b n6c (.inl f6)
  have n64 : p6 ≠ p4 := some_ne f6 (get_same _ _ _)
  have n63 : p6 ≠ p3 := some_ne f6 (by rw [PH.get_set, if_neg (fun e => n43 e.symm)]; exact get_same _ _ _)
  have n7b := some_ne f7 a3.acc
  have n7c := some_ne f7 a3.cache
  have n76 : p7 ≠ p6 := some_ne f7 (get_same _ _ _)
  have n74 : p7 ≠ p4 := some_ne f7 (by rw [PH.get_set, if_neg (fun e => n64 e.symm)]; exact get_same _ _ _)
  have n73 : p7 ≠ p3 := some_ne f7 (by rw [PH.get_set, if_neg (fun e => n63 e.symm), PH.get_set, if_neg (fun e => n43 e.symm)]; exact get_same _ _ _)
  have a4 := a3.other (o := .cells [.scal (.int .i64 0)]) n7b n7c (.inl f7)
  have d : Dist b c p3 p4 p6 p7 := ⟨n6b, n7b, n6c, n7c, fun e => n63 e.symm, fun e => n73 e.symm, fun e => n64 e.symm, fun e => n74 e.symm, fun e => n76 e.symm, n3c, n4c⟩
  have hL : Loc ((((H.set p3 (.cells [.ptr b 0])).set p4 (.cells [.scal (.int .i64 now)])).set p6 (.cells (cellsX .full .full .full .full .full zX))).set p7 (.cells [.scal (.int .i64 0)])) p3 p4 p6 p7 b c now .full .full .full .full .full zX 0 name key room es te lg tl :=
    ⟨by rw [PH.get_set, if_neg d.n37, PH.get_set, if_neg d.n36, PH.get_set, if_neg (fun e => n43 e.symm)]; exact get_same _ _ _, by rw [PH.get_set, if_neg d.n47, PH.get_set, if_neg d.n46]; exact get_same _ _ _, by rw [PH.get_set, if_neg d.n67]; exact get_same _ _ _, get_same _ _ _, a4⟩
  have hz : [PV.scal (.string ⟨#[]⟩), .list .full [], .scal (.int .i64 0), .list .full [], .scal (.string ⟨#[]⟩), .scal (.bool false), .scal (.int .i64 0), .scal (.string ⟨#[]⟩), .scal (.int .i64 0), .scal (.int .i64 0), .scal (.string ⟨#[]⟩), .scal (.int .i64 0), .list .full [], .scal (.string ⟨#[]⟩), .scal (.int .i64 0), .scal (.int .i64 0), .scal (.int .i64 0), .scal (.string ⟨#[]⟩), .scal (.int .i64 0), .list .full [], .scal (.int .i64 0), .scal (.string ⟨#[]⟩), .scal (.int .i64 0), .list .full []] = cellsX .full .full .full .full .full zX := rfl
  rw [hz]
  clear a1 a2 a3 a4 f4 f6 f7
  generalize ((((H.set p3 (.cells [.ptr b 0])).set p4 (.cells [.scal (.int .i64 now)])).set p6 (.cells (cellsX .full .full .full .full .full zX))).set p7 (.cells [.scal (.int .i64 0)])) = H1 at hL ⊢
  simp -implicitDefEqProofs only [zzfj, rpre65, zzit, zzgk, zziu, zzig, zzdn, zzka, zzhe, zzfy, zzhg, zzhf, zzha, List.map_cons, List.map_nil, Nat.reduceSub, Nat.reduceEqDiff, if_true, if_false, zzfj, Nat.add_one_ne_zero, zzit, zzgk]
  refine ⟨[.ptr p3 0, .ptr p4 0, .ptr p6 0, .ptr p7 0], rfl, rfl, ?_⟩
  have h3 := hL.g3
  have h7 := hL.g7
  have hb := hL.acc.acc
  simp only [accC] at hb
  simp -implicitDefEqProofs only [rcB65, h3, hb, zzfm, zzfq, zzin, zzig, zzho, zzhp, zzhs, zzhk, zzdn, zzka, zzhe, zzfy, zzgv, zzgs, zzjx, zzjw, zzce, zzjt, zzie, zzif, zzic, zzge, zzgf, zzdl, zzdi, zzhg, zzhf, zzha, zzgp, zzdv, List.map_cons, List.map_nil, Option.map_some, Nat.reduceAdd, Nat.reduceSub, Nat.reduceEqDiff, Nat.zero_add, if_true, if_false, fgL, zzdf, Nat.add_one_ne_zero, zzgz, Term.eta, zzfb]
  refine qcall_intro (c56 t key) ?_
  simp -implicitDefEqProofs only [h7, get_same, zzfm, zzfq, zzfg, zziu, zzii, zziz, zzig, zzih, zzcd, zzhr, zzho, zzhh, zzhj, zzdn, zzdm, zzka, zzhe, zzhd, zzfy, zzgv, zzgs, zzie, zzif, zzic, zzge, zzdl, zzjg, zzjm, zzjn, zzjl, zzag, zzah, zzjd, zzds, zzja, zzkb, zzaz, zzas, zzai, zzca, List.length_cons, List.length_nil, List.cons_append, List.nil_append, List.all_cons, List.all_nil, zzbv, zzbt, zzbr, zzbs, Option.map_some, Nat.reduceAdd, Nat.reduceSub, Nat.reduceEqDiff, Nat.zero_add, Bool.and_self, and_self, if_true, if_false, Nat.add_one_ne_zero, zzcr]
  have hL2 := hL.set7 d (shownD t key).2.2.2
  generalize H1.set p7 (.cells [.scal (.int .i64 (shownD t key).2.2.2)]) = H2 at hL2 ⊢
  clear hL h3 h7 hb
  have h3 := hL2.g3
  have h4 := hL2.g4
  have h6 := hL2.g6
  have h7 := hL2.g7
  have hb := hL2.acc.acc
  have hn : ∀ o, PH.get (H2.set p6 o) p7 = H2.get p7 := fun o => by rw [PH.get_set, if_neg (fun e => d.n67 e.symm)]
  simp only [accC] at hb
  simp only [cellsX] at h6
  refine br_intro (fun b1 => ?_) (fun b1 => ?_)
  · simp -implicitDefEqProofs only [go_sreg, zzfq, zzig, zzhi, zzho, zzdn, zzka, zzhe, zzfy, zzif, zzdi, zzbb, zzdk, zzbg, Nat.reduceSub, Nat.reduceEqDiff, if_true, if_false, Nat.add_one_ne_zero]
    refine ⟨⟨d.n67.symm, trivial⟩, ?_⟩
    simp -implicitDefEqProofs only [h6, h7, hn, zzfn, zziu, zziz, zzig, zzih, zzdn, zzka, zzhe, zzhd, zzfy, zzgv, zzgs, zzif, zzic, zzge, zzdl, zzjg, zzjn, zzjl, zzah, zzbw, zzca, List.length_cons, List.length_nil, List.all_cons, List.all_nil, zzbv, zzbt, zzbr, zzbq, zzbs, Nat.reduceAdd, Nat.reduceSub, Nat.reduceEqDiff, Nat.zero_add, Bool.and_self, and_self, if_true, if_false, Nat.add_one_ne_zero]
    refine accept_end ((hL2.set6 d .full .full .full .full .full zX).set7 d (shownD t key).2.2.2) hlen d rfl rfl rfl ?_
    intro H' tl' hA
    refine ⟨?_, te, tl', ?_⟩
    · simp only [acceptT, b1, if_true]
    · simp only [acceptT, b1, if_true]; exact hA
  · simp -implicitDefEqProofs only [h3, h4, zzfr, zzfm, zzfq, zzim, zzig, zzho, zzhp, zzdn, zzka, zzhe, zzfy, zzgv, zzgs, zzjx, zzjw, zzce, zzjt, zzie, zzif, zzic, zzge, zzgf, zzdl, zzdi, zzhg, zzhf, zzha, List.map_cons, List.map_nil, Option.map_some, Nat.reduceAdd, Nat.reduceSub, Nat.reduceEqDiff, if_true, if_false, PV.fg, fgL, Nat.add_one_ne_zero, zzfv, Term.eta, zzcs, zzep]
    refine kcall_intro (c102 hL2.acc now (shownD t key).1) ?_
    rintro r H3 ⟨rfl, rfl⟩
    simp -implicitDefEqProofs only [h7, get_same, zzfm, zzfq, zzfg, zziu, zzii, zziz, zzig, zzih, zzcd, zzhr, zzho, zzhh, zzhj, zzdn, zzdm, zzka, zzhe, zzhd, zzfy, zzgv, zzgs, zzie, zzif, zzic, zzge, zzdl, zzjg, zzjm, zzjn, zzjl, zzag, zzah, zzjd, zzds, zzja, zzkb, zzaz, zzas, zzai, zzca, List.length_cons, List.length_nil, List.cons_append, List.nil_append, List.all_cons, List.all_nil, zzbv, zzbt, zzbr, zzbq, zzbs, Option.map_some, Nat.reduceAdd, Nat.reduceSub, Nat.reduceEqDiff, Nat.zero_add, Bool.and_self, and_self, if_true, if_false, Nat.add_one_ne_zero, zzcg]
    have hL3 := hL2.set7 d (whoT name key now (shownD t key).1).2
    generalize H3.set p7 (.cells [.scal (.int .i64 (whoT name key now (shownD t key).1).2)]) = H4 at hL3 ⊢
    clear hL2 h3 h4 h6 h7 hb hn
    have h3 := hL3.g3
    have h4 := hL3.g4
    have h6 := hL3.g6
    have h7 := hL3.g7
    have hb := hL3.acc.acc
    have hn : ∀ o, PH.get (PH.set H4 p6 o) p7 = PH.get H4 p7 := fun o => by rw [PH.get_set, if_neg (fun e => d.n67 e.symm)]
    simp only [accC] at hb
    simp only [cellsX] at h6
    refine br_intro (fun b2 => ?_) (fun b2 => ?_)
    · simp -implicitDefEqProofs only [go_sreg, zzfq, zzig, zzhi, zzho, zzdn, zzka, zzhe, zzfy, zzif, zzdi, zzbb, zzdk, zzbg, Nat.reduceSub, Nat.reduceEqDiff, if_true, if_false, Nat.add_one_ne_zero]
      refine ⟨⟨d.n67.symm, trivial⟩, ?_⟩
      simp -implicitDefEqProofs only [h6, h7, hn, zzfn, zziu, zziz, zzig, zzih, zzdn, zzka, zzhe, zzhd, zzfy, zzgv, zzgs, zzif, zzic, zzge, zzdl, zzjg, zzjn, zzjl, zzah, zzbw, zzca, List.length_cons, List.length_nil, List.all_cons, List.all_nil, zzbv, zzbt, zzbr, zzbq, zzbs, Nat.reduceAdd, Nat.reduceSub, Nat.reduceEqDiff, Nat.zero_add, Bool.and_self, and_self, if_true, if_false, Nat.add_one_ne_zero]
      refine accept_end ((hL3.set6 d .full .full .full .full .full zX).set7 d (whoT name key now (shownD t key).1).2) hlen d rfl rfl rfl ?_
      intro H' tl' hA
      refine ⟨?_, te, tl', ?_⟩
      · simp only [acceptT, b1, b2, Bool.false_eq_true, if_false, if_true]
      · simp only [acceptT, b1, b2, Bool.false_eq_true, if_false, if_true]; exact hA
    · simp -implicitDefEqProofs only [h4, zzfr, zzfm, zzfq, zzin, zzig, zzhr, zzho, zzdn, zzdm, zzka, zzhe, zzfy, zzgv, zzgs, zzif, zzic, zzge, zzdl, zzhg, zzhf, zzha, List.map_cons, List.map_nil, Nat.reduceSub, Nat.reduceEqDiff, if_true, if_false, PV.fg, fgL, Nat.add_one_ne_zero, zzgz]
      refine qcall_intro (c103 _ _ _) ?_
      simp -implicitDefEqProofs only [zzfg, zziu, zzig, zzcd, r_un, zzdn, zzka, zzhe, zzfy, zzjz, Nat.reduceSub, Nat.reduceEqDiff, if_true, if_false, Nat.add_one_ne_zero]
      refine br_intro (fun b3 => ?_) (fun b3 => ?_)
      · simp -implicitDefEqProofs only [h6, h7, hn, zzfm, zzfq, zzfn, zziu, zziz, zzig, zzih, zzhi, zzdn, zzdm, zzka, zzhe, zzhd, zzfy, zzif, zzic, zzdi, zzbb, zzdk, zzbg, zzjg, zzjn, zzjl, zzah, zzbw, zzca, List.length_cons, List.length_nil, List.all_cons, List.all_nil, zzbv, zzbt, zzbr, zzbq, zzbs, Nat.reduceAdd, Nat.reduceSub, Nat.reduceEqDiff, Nat.zero_add, Bool.and_self, and_self, if_true, if_false, Nat.add_one_ne_zero]
        refine accept_end ((hL3.set6 d .full .full .full .full .full zX).set7 d 30) hlen d rfl rfl rfl ?_
        intro H' tl' hA
        refine ⟨?_, te, tl', ?_⟩
        · simp only [acceptT, b1, b2, b3, Bool.false_eq_true, if_false, if_true]
        · simp only [acceptT, b1, b2, b3, Bool.false_eq_true, if_false, if_true]; exact hA
      · obtain ⟨x0, x1, x2, hl⟩ := shownD_ok b1
        have n1 : nth t.l 1 = some x1 := by rw [hl]; rfl
        have n2 : nth t.l 2 = some x2 := by rw [hl]; rfl
        have hT : acceptT name key room es now t = if (putE2 room es x2 (IntKind.i64.wrap (now + 601)) now).1 != 0 then (zX, (putE2 room es x2 (IntKind.i64.wrap (now + 601)) now).1, (putE2 room es x2 (IntKind.i64.wrap (now + 601)) now).2) else (⟨(whoT name key now (shownD t key).1).1, (shownD t key).1, x1⟩, 0, (putE2 room es x2 (IntKind.i64.wrap (now + 601)) now).2) := by
          simp only [acceptT, b1, b2, b3, hl, Bool.false_eq_true, if_false]
        rw [hT]
        simp -implicitDefEqProofs only [h3, h4, hb, n2, zzfr, zzfm, zzfq, zzim, zzig, zzho, zzhp, zzhs, zzhh, zzhk, zzhl, zzdn, zzdm, zzka, zzhe, zzfy, zzgv, zzgs, zzjx, zzjw, zzce, zzjt, zzie, zzid, zzif, zzic, zzge, zzgf, zzdl, zzdi, zzhg, zzhf, zzha, zzgp, zzdu, zzdv, zzaf, zzae, zzfw, zzcf, zzja, zzkb, zzaz, zzal, zzaj, List.map_cons, List.map_nil, List.length_cons, List.length_nil, Option.map_some, Nat.reduceAdd, Nat.reduceSub, Nat.reduceEqDiff, Nat.zero_add, if_true, if_false, PV.fg, fgL, zzdf, zzcx, Nat.add_one_ne_zero, zzfv, zzde, Term.eta, zzfb, Int.reduceLE, Int.reduceToNat]
        refine kcall_intro (c104 hL3.acc hes x2 _ now (fun hf => hcl _ n2 hf _ hL3.acc)) ?_
        rintro r H5 ⟨rfl, hk, te', hA5⟩
        have hL5 : Loc H5 p3 p4 p6 p7 b c now .full .full .full .full .full zX (whoT name key now (shownD t key).1).2 name key room (putE2 room es x2 (IntKind.i64.wrap (now + 601)) now).2 te' lg tl :=
          ⟨hk _ _ d.n3c h3, hk _ _ d.n4c h4, hk _ _ d.n6c hL3.g6, hk _ _ d.n7c h7, hA5⟩
        clear h3 h4 h6 h7 hb hn hk
        have h3 := hL5.g3
        have h4 := hL5.g4
        have h6 := hL5.g6
        have h7 := hL5.g7
        have hb := hL5.acc.acc
        have hn : ∀ o, PH.get (PH.set H5 p6 o) p7 = PH.get H5 p7 := fun o => by rw [PH.get_set, if_neg (fun e => d.n67 e.symm)]
        simp only [accC] at hb
        simp only [cellsX] at h6
        simp -implicitDefEqProofs only [zzfm, zzfq, zzfg, zziu, zzig, zzcd, zzhr, zzhh, zzdn, zzdm, zzka, zzhe, zzfy, zzja, zzkb, zzaz, zzas, zzai, Nat.reduceSub, Nat.reduceEqDiff, if_true, if_false, Nat.add_one_ne_zero]
        refine br_intro (fun b4 => ?_) (fun b4 => ?_)
        · simp -implicitDefEqProofs only [h6, h7, hn, zzfm, zzfq, zzfn, zziu, zziz, zzig, zzih, zzhr, zzhi, zzdn, zzka, zzhe, zzhd, zzfy, zzif, zzic, zzdi, zzbb, zzdk, zzbg, zzjg, zzjn, zzjl, zzah, zzbw, zzca, List.length_cons, List.length_nil, List.all_cons, List.all_nil, zzbv, zzbt, zzbr, zzbq, zzbs, Nat.reduceAdd, Nat.reduceSub, Nat.reduceEqDiff, Nat.zero_add, Bool.and_self, and_self, if_true, if_false, Nat.add_one_ne_zero]
          refine accept_end ((hL5.set6 d .full .full .full .full .full zX).set7 d (putE2 room es x2 (IntKind.i64.wrap (now + 601)) now).1) hlen d rfl rfl rfl ?_
          intro H' tl' hA
          refine ⟨?_, te', tl', ?_⟩
          · simp only [b4, if_true]
          · simp only [b4, if_true]; exact hA
        · simp -implicitDefEqProofs only [h6, h7, hn, n1, zzcr, zzfr, zzfm, zzfq, zzfn, zziu, zziz, zzig, zzih, zzhi, zzho, zzhp, zzhk, zzhl, zzdn, zzdm, zzka, zzhe, zzhd, zzfy, zzgv, zzgs, zzjx, zzjw, zzce, zzjt, zzie, zzid, zzif, zzic, zzge, zzgf, zzdl, zzdi, zzbb, zzdk, zzdj, zzgy, zzba, zzbg, zzbf, zzjh, zzji, zzjg, Nat.reduceBEq, zzjj, zzjn, zzjl, zzah, zzdu, zzaf, zzae, zzfw, zzcf, zzbw, zzca, List.length_cons, List.length_nil, List.all_cons, List.all_nil, zzbv, zzbt, zzbr, zzbq, zzbs, Option.map_some, Nat.reduceAdd, Nat.reduceSub, Nat.reduceEqDiff, Nat.zero_add, Bool.and_self, and_self, if_true, if_false, zzcx, Nat.add_one_ne_zero, zzde, Term.eta, zzfb, zzcr, zzep, zzcg, zzeb, Int.toNat_one, Int.reduceLE, Int.reduceBEq]
          refine accept_end ((hL5.set6 d .foreign .foreign .foreign .foreign .foreign ⟨(whoT name key now (shownD t key).1).1, (shownD t key).1, x1⟩).set7 d 0) hlen d rfl rfl rfl ?_
          intro H' tl' hA
          refine ⟨?_, te', tl', ?_⟩
          · simp only [b4, Bool.false_eq_true, if_false]
          · simp only [b4, Bool.false_eq_true, if_false]; exact hA
end Go.Pv
set_option linter.unusedSimpArgs false
set_option linter.unusedVariables false
namespace Go.Pv
open Go.Proofs
def madeT (a : Au) (key centre session : Term) (from_ : Int) : Cr × Bool :=
  (⟨a.service, a.user, (makeT ⟨a.service, 1, session, a.user, ⟨from_, a.to⟩, (buildT a key centre).1⟩ key).1, session, 1, ⟨from_, a.to⟩⟩, (buildT a key centre).2 == 0 && (makeT ⟨a.service, 1, session, a.user, ⟨from_, a.to⟩, (buildT a key centre).1⟩ key).2 == 0)
set_option maxRecDepth 10000 in
set_option maxHeartbeats 4000000 in
theorem c63 (a : Au) (key centre session : Term) (from_ : Int) : PPure Try.prog 63 [encA a, enc key, enc centre, enc session, .scal (.int .i64 from_)] (.tup [encD (madeT a key centre session from_).1, .scal (.bool (madeT a key centre session from_).2)]) := by
  refine pure_of hmix Try.func63 ok63 (by simp) ?_
  try simp -implicitDefEqProofs only [rc63, zzfm, zzfq, zziu, zzii, zzik, zzbd, zzin, zzig, zzhr, zzhp, zzdn, zzdm, zzka, zzhe, zzfy, zzgv, zzgs, zzjx, zzjw, zzce, zzjt, zzie, zzgf, zzdi, zzhg, zzhf, zzha, List.map_cons, List.map_nil, List.length_cons, List.length_nil, List.cons_append, List.nil_append, Option.map_some, Nat.reduceAdd, Nat.reduceSub, Nat.reduceEqDiff, Nat.zero_add, if_true, if_false, fgL, zzdf, Nat.add_one_ne_zero, zzgz, zzde, Term.eta, zzfb, zzcg, zzch, zzeb]
  repeat' (first
    | (refine br_intro (fun h => ?_) (fun h => ?_) <;> try simp -implicitDefEqProofs only [h, zzfn, zziu, zzir, zziv, zziz, zzig, zzih, zzcd, zzft, zzhr, zzhh, zzea, zzdh, zzhw, zzhx, zzhv, zzht, zzia, zzdn, zzdm, zzka, zzhe, zzhd, zzfy, zzgv, zzgs, zzjx, zzjw, zzce, zzjt, zzie, zzgf, zzdi, zzjg, zzjm, zzjl, zzag, zzjd, zzja, zzkb, zzaz, zzan, zzai, br_true, br_false, List.length_cons, List.length_nil, List.all_cons, List.all_nil, zzbv, zzbt, zzbr, zzbs, Option.map_some, Nat.reduceAdd, Nat.reduceSub, Nat.reduceEqDiff, Nat.zero_add, Bool.and_self, and_self, if_true, if_false, PV.fg, fgL, Nat.add_one_ne_zero, Term.eta, zzcp, zzcq, zzef])
    | (refine qcall_intro (c98 _ _ _) ?_; try simp -implicitDefEqProofs only [zzfm, zzfq, zziu, zzii, zziz, zzin, zzig, zzih, zzhr, zzhi, zzho, zzhp, zzhk, zzhj, zzdn, zzdm, zzka, zzhe, zzhd, zzfy, zzgv, zzgs, zzjx, zzjw, zzce, zzjt, zzie, zzge, zzgf, zzdl, zzdi, zzbb, zzdk, zzdj, zzgy, zzba, zzbg, zzbf, zzjh, zzji, zzjg, Nat.reduceBEq, zzjj, zzjm, zzjl, zzag, zzjd, zzhg, zzhf, zzha, zzdu, zzds, zzca, List.map_cons, List.map_nil, List.length_cons, List.length_nil, List.cons_append, List.nil_append, List.all_cons, List.all_nil, zzbv, zzbt, zzbr, zzbs, Option.map_some, Nat.reduceAdd, Nat.reduceSub, Nat.reduceEqDiff, Nat.add_zero, Nat.zero_add, Bool.and_self, and_self, if_true, if_false, fgL, zzdf, Nat.add_one_ne_zero, zzgz, zzde, Term.eta, zzfb, zzdb, zzfa, zzcs, zzep, Int.reduceBEq])
    | (refine qcall_intro (c22 _ _) ?_; try simp -implicitDefEqProofs only [zzfm, zzfq, zziu, zzir, zzii, zziz, zzig, zzih, zzft, zzhr, zzhi, zzho, zzhp, zzhh, zzhk, zzhj, zzdn, zzdm, zzka, zzhe, zzhd, zzfy, zzgv, zzgs, zzjx, zzjw, zzce, zzjt, zzie, zzge, zzgf, zzdl, zzdi, zzbb, zzdk, zzdj, zzgy, zzba, zzbg, zzbf, zzjh, zzji, zzjg, Nat.reduceBEq, zzjj, zzjm, zzjl, zzag, zzjd, zzdu, zzds, zzja, zzkb, zzaz, zzan, zzai, zzca, List.length_cons, List.length_nil, List.cons_append, List.nil_append, List.all_cons, List.all_nil, zzbv, zzbt, zzbr, zzbs, Option.map_some, Nat.reduceAdd, Nat.reduceSub, Nat.reduceEqDiff, Nat.add_zero, Nat.zero_add, Bool.and_self, and_self, if_true, if_false, Nat.add_one_ne_zero, zzde, Term.eta, zzfb, zzdb, zzfa, Int.reduceBEq, zzef]))
  all_goals simp only [madeT, encD, zzcg, encA, *, Bool.true_and, Bool.false_and, Bool.and_true, Bool.and_false, Bool.true_or, Bool.false_or, Bool.or_true, Bool.or_false, Bool.not_true, Bool.not_false, Bool.not_not, decide_true, decide_false, if_true, if_false, Bool.false_eq_true, reduceIte, and_self, and_true, true_and, beq_self_eq_true, bne_self_eq_false, decide_not]
theorem nil_clean {b c : Nat} {name : ByteArray} {key : Term} {room : Int} {te : Tok} {lg : List PV} {tl : Tok} {now : Int} : ∀ H, Acc H b c name key room [] te lg tl → PCalls Try.prog 130 [.ptr c 0, .scal (.int .i64 now)] H fun r H' => r = .tup [] ∧ H' = H :=
  fun H h => c130n h.cache now
/-- The first that an acceptor is shown. -/
theorem c65n {H : PH} {b c : Nat} {name : ByteArray} {key : Term} {room : Int} {te : Tok} {lg : List PV} {tl : Tok} (h : Acc H b c name key room [] te lg tl) (hlen : lg.length < 1000000) (now : Int) (t : Term) :
    PCalls Try.prog 65 [.ptr b 0, .scal (.int .i64 now), enc t] H fun r H' => r = .tup [encX (acceptT name key room [] now t).1, .scal (.int .i64 (acceptT name key room [] now t).2.1)] ∧
      ∃ te' tl', Acc H' b c name key room (acceptT name key room [] now t).2.2 te' (lg ++ [evP now name (acceptT name key room [] now t).1 (acceptT name key room [] now t).2.1]) tl' :=
  c65 h (by simp) hlen now t fun _ _ _ => nil_clean
end Go.Pv
set_option linter.unusedSimpArgs false
set_option linter.unusedVariables false
namespace Go.Pv
open Go.Proofs
def isnE (P : Program) (neg : Bool) (e : EV) : Option EV := opVal P (.isnil neg (.t 0)) (fun _ => e) [] []
theorem r_isnil {P : Program} {Q : RX → St → Prop} {env : Nat → EV} {L : List (List PV)} {H : PH} {k : List SI} {ops : List RI} {d : Option Nat} {neg : Bool} {x : RO} : run P Q (⟨d, none, .isnil neg x⟩ :: ops) k env L H = run1 P Q (isnE P neg (evalE env x)) d ops k env L H := by
  rw [run_val rfl]; rfl
theorem isnE_p {P : Program} {b o : Nat} : isnE P false (.v (.ptr b o)) = some (.v (.scal (.bool false))) := nr rfl
def annA900 : Au := ⟨⟨#[97, 110, 110]⟩, [], 0, [], ⟨#[119, 101, 98]⟩, false, 900⟩
def madeS : Cr × Bool := madeT annA900 (keyT webB 1) (keyT centreB 1) (keyT ⟨#[]⟩ 7) 100
def showS : Term × Int := showT madeS.1 200 1
def acc1 : Tn × Int × List (Term × Int) := acceptT webB (keyT webB 1) 5 [] 200 showS.1
def acc2 : Tn × Int × List (Term × Int) := acceptT webB (keyT webB 1) 5 acc1.2.2 201 showS.1
theorem madeS_ok : madeS.2 = true := by kernel_rfl
theorem showS_ok : showS.2 = 0 := by kernel_rfl
theorem acc1_ok : acc1.2.1 = 0 := by kernel_rfl
theorem acc1_user : acc1.1.auth.user = ⟨#[97, 110, 110]⟩ := by kernel_rfl
theorem acc1_len : acc1.2.2.length = 1 := by kernel_rfl
theorem acc1_has : (match showS.1.l with | [_, _, x2] => hasE acc1.2.2 x2 201 | _ => false) = true := by kernel_rfl
theorem acc2_code : acc2.2.1 = 52 := by kernel_rfl
set_option maxRecDepth 10000 in
set_option maxHeartbeats 4000000 in
theorem c61 : PPure Try.prog 61 [] (.scal (.bool true)) := by
  show PCalls Try.prog 61 [] [] fun r' _ => r' = .scal (.bool true)
  refine calls_of hmix Try.func61 ok61 (by simp) ?_
  simp -implicitDefEqProofs only [rc61, zzfm, zzfq, zziu, zzin, zzig, zzhr, zzhi, zzdm, zzhe, zzce, zzdi, zzbb, zzdk, zzdj, zzgy, zzba, zzbg, zzbf, zzjh, zzji, zzjg, Nat.reduceBEq, zzjj, zzhg, zzhf, zzha, zzca, List.map_cons, List.map_nil, List.length_cons, List.length_nil, Nat.reduceSub, Nat.zero_add, if_true, PV.fg, fgL, zzgz, Int.reduceBEq]
  repeat' (refine qcall_intro (c62 _ _) ?_; simp -implicitDefEqProofs only [zzin, zzdn, zzdm, zzka, zzhe, zzhg, zzhf, zzha, List.map_cons, List.map_nil, Nat.reduceEqDiff, if_true, if_false, PV.fg, fgL, zzdf, Nat.add_one_ne_zero, zzgz, zzee])
  have hm : madeT ⟨⟨#[97, 110, 110]⟩, [], 0, [], ⟨#[119, 101, 98]⟩, false, 900⟩ (keyT ⟨#[119, 101, 98]⟩ 1) (keyT ⟨#[99, 101, 110, 116, 114, 101]⟩ 1) (keyT ⟨#[]⟩ 7) 100 = madeS := rfl
  refine qcall_intro (c63 ⟨⟨#[97, 110, 110]⟩, [], 0, [], ⟨#[119, 101, 98]⟩, false, 900⟩ _ _ _ _) ?_
  rw [hm]
  simp -implicitDefEqProofs only [madeS_ok, zzfm, zzfq, zziu, zzii, zziz, zzin, zzig, zzih, zzhr, zzhj, zzdn, zzdm, zzka, zzhe, zzhd, zzgv, zzgs, zzie, zzdl, zzjg, zzjm, zzjl, zzag, zzjd, zzhg, zzhf, zzha, zzds, List.map_cons, List.map_nil, List.length_cons, List.length_nil, List.nil_append, List.all_cons, List.all_nil, zzbv, zzbt, zzbr, zzbs, Option.map_some, Nat.reduceAdd, Nat.reduceSub, Nat.reduceEqDiff, Nat.zero_add, Bool.and_self, and_self, if_true, if_false, PV.fg, fgL, Nat.add_one_ne_zero, zzgz, zzcp]
  repeat' (refine qcall_intro (c62 _ _) ?_; simp -implicitDefEqProofs only [zzim, zzdn, zzdm, zzka, zzhe, zzhg, zzhf, zzha, List.map_cons, List.map_nil, Nat.reduceEqDiff, if_true, if_false, PV.fg, fgL, zzdf, Nat.add_one_ne_zero, zzfv])
  refine kcall_intro (c64 _ _ _ _) ?_
  rintro r H1 ⟨b, c, rfl, hA⟩
  simp -implicitDefEqProofs only [r_isnil, isnE_p, zzfr, zzfm, zzfq, zzfg, zziu, zzir, zziv, zzin, zzig, zzcd, zzfs, zzhr, zzhp, r_un, zzdn, zzdm, zzka, zzhe, zzgv, zzgs, zzjx, zzjw, zzce, zzjt, zzie, zzgf, zzdi, zzhg, zzhf, zzha, zzjz, br_false, List.map_cons, List.map_nil, Option.map_some, Nat.reduceAdd, Nat.reduceSub, Nat.reduceEqDiff, if_true, if_false, PV.fg, fgL, Nat.add_one_ne_zero, zzgz, Term.eta, Bool.not_true, zzcq, zzef]
  have hroom : (if (0 : Int) > 5 then (0 : Int) else 5) = 5 := by decide
  rw [hroom] at hA
  refine qcall_intro (c49 madeS.1 200 1) ?_
  have hs : showT madeS.1 200 1 = showS := rfl
  rw [hs]
  simp -implicitDefEqProofs only [zzfm, zzfq, zziu, zzii, zziz, zzim, zzig, zzih, zzhr, zzhp, zzhj, zzdn, zzdm, zzka, zzhe, zzhd, zzgv, zzgs, zzjx, zzjw, zzce, zzjt, zzie, zzgf, zzdl, zzdi, zzjg, zzjm, zzjl, zzag, zzjd, zzhg, zzhf, zzha, zzds, List.map_cons, List.map_nil, List.length_cons, List.length_nil, List.cons_append, List.nil_append, List.all_cons, List.all_nil, zzbv, zzbt, zzbr, zzbs, Option.map_some, Nat.reduceAdd, Nat.reduceSub, Nat.reduceEqDiff, Nat.zero_add, Bool.and_self, and_self, if_true, if_false, PV.fg, fgL, zzdf, Nat.add_one_ne_zero, zzfv, zzde, Term.eta, zzfb]
  refine kcall_intro (c65n hA (by decide) 200 showS.1) ?_
  have ha1 : acceptT ⟨#[119, 101, 98]⟩ (keyT ⟨#[119, 101, 98]⟩ 1) 5 [] 200 showS.1 = acc1 := rfl
  rw [ha1]
  rintro r H2 ⟨rfl, te, tl, hA2⟩
  simp -implicitDefEqProofs only [encX_cells, zzfm, zzfq, zziu, zzii, zziz, zzim, zzig, zzih, zzhr, zzhp, zzhj, zzdn, zzdm, zzka, zzhe, zzhd, zzgv, zzgs, zzjx, zzjw, zzce, zzjt, zzie, zzgf, zzdl, zzdi, zzjg, zzjm, zzjl, zzag, zzjd, zzhg, zzhf, zzha, zzds, List.map_cons, List.map_nil, List.length_cons, List.length_nil, List.cons_append, List.nil_append, List.all_cons, List.all_nil, zzbv, zzbt, zzbr, zzbq, zzbs, Option.map_some, Nat.reduceAdd, Nat.reduceSub, Nat.reduceEqDiff, Nat.zero_add, Bool.and_self, and_self, if_true, if_false, PV.fg, fgL, zzdf, Nat.add_one_ne_zero, zzfv, Term.eta, zzfb]
  have hx2 : ∀ x2, nth showS.1.l 2 = some x2 → hasE acc1.2.2 x2 201 = true := by
    intro x2 h2
    have := acc1_has
    split at this
    · rename_i a b' x hl
      rw [hl] at h2
      cases h2
      exact this
    · cases this
  refine kcall_intro (c65 hA2 (by rw [acc1_len]; decide) (by decide) 201 showS.1 (fun x2 h2 hf => by rw [hx2 x2 h2] at hf; cases hf)) ?_
  have ha2 : acceptT ⟨#[119, 101, 98]⟩ (keyT ⟨#[119, 101, 98]⟩ 1) 5 acc1.2.2 201 showS.1 = acc2 := rfl
  rw [ha2]
  rintro r H3 ⟨rfl, te2, tl2, hA3⟩
  simp -implicitDefEqProofs only [encX_cells, zzfm, zzfq, zziu, zzii, zziz, zzim, zzig, zzih, zzhr, zzhj, zzdn, zzka, zzhe, zzhd, zzgv, zzgs, zzie, zzdl, zzjg, zzjm, zzjl, zzag, zzjd, zzhg, zzhf, zzha, zzds, List.map_cons, List.map_nil, List.length_cons, List.length_nil, List.cons_append, List.nil_append, List.all_cons, List.all_nil, zzbv, zzbt, zzbr, zzbq, zzbs, Option.map_some, Nat.reduceAdd, Nat.reduceSub, Nat.reduceEqDiff, Nat.zero_add, Bool.and_self, and_self, if_true, if_false, PV.fg, fgL, Nat.add_one_ne_zero, zzfv]
  refine kcall_intro (c97 hA3) ?_
  rintro r H4 ⟨rfl, hA4⟩
  have hq : seqB ⟨#[97, 110, 110]⟩ ⟨#[97, 110, 110]⟩ = true := by kernel_rfl
  have e1 : evP 200 ⟨#[119, 101, 98]⟩ acc1.1 acc1.2.1 = .agg [.scal (.int .i64 4), .scal (.int .i64 200), .scal (.string acc1.1.auth.user), .scal (.string acc1.1.tick.client), .scal (.string ⟨#[119, 101, 98]⟩), .list .foreign (strs acc1.1.auth.transited), .scal (.int .i64 acc1.1.tick.flags), .scal (.int .i64 acc1.1.auth.to), .scal (.bool false), .scal (.int .i64 0)] := by
    rw [acc1_ok]; rfl
  have e2 : evP 201 ⟨#[119, 101, 98]⟩ acc2.1 acc2.2.1 = .agg [.scal (.int .i64 5), .scal (.int .i64 201), .scal (.string ⟨#[]⟩), .scal (.string ⟨#[]⟩), .scal (.string ⟨#[119, 101, 98]⟩), .list .full [], .scal (.int .i64 0), .scal (.int .i64 0), .scal (.bool false), .scal (.int .i64 52)] := by
    rw [acc2_code]; rfl
  have hlg : fgL ([] ++ [evP 200 ⟨#[119, 101, 98]⟩ acc1.1 acc1.2.1] ++ [evP 201 ⟨#[119, 101, 98]⟩ acc2.1 acc2.2.1]) = [.agg [.scal (.int .i64 4), .scal (.int .i64 200), .scal (.string acc1.1.auth.user), .scal (.string acc1.1.tick.client), .scal (.string ⟨#[119, 101, 98]⟩), .list .foreign (strs acc1.1.auth.transited), .scal (.int .i64 acc1.1.tick.flags), .scal (.int .i64 acc1.1.auth.to), .scal (.bool false), .scal (.int .i64 0)],
      .agg [.scal (.int .i64 5), .scal (.int .i64 201), .scal (.string ⟨#[]⟩), .scal (.string ⟨#[]⟩), .scal (.string ⟨#[119, 101, 98]⟩), .list .foreign [], .scal (.int .i64 0), .scal (.int .i64 0), .scal (.bool false), .scal (.int .i64 52)]] := by
    rw [e1, e2]
    simp only [List.nil_append, List.cons_append, fgL, PV.fg, zzjo]
  rw [hlg]
  simp -implicitDefEqProofs only [showS_ok, acc1_ok, acc2_code, acc1_user, hq, zzfm, zzfq, zzfn, zziu, zzir, zziv, zzig, zzcd, zzft, zzhr, zzho, zzhh, zzhk, zzhl, zzhn, zzhw, zzhx, zzht, zzhz, zzdn, zzdm, zzka, zzhe, zzgv, zzgs, zzgt, zzie, zzid, zzge, zzdl, zzdu, zzdt, zzaf, zzae, zzfw, zzcf, zzgj, zzja, zzkb, zzaz, zzan, zzav, zzai, br_true, zzbw, List.length_cons, List.length_nil, Option.map_some, Nat.reduceAdd, Nat.reduceSub, Nat.reduceEqDiff, Nat.add_zero, Nat.zero_add, if_true, if_false, beq_self_eq_true, Nat.add_one_ne_zero, zzhc, zzdg, Int.toNat_one, Int.toNat_zero, List.drop_zero, Int.le_refl, Int.reduceLE, zzbj]
  exact endK_raw rfl
end Go.Pv
set_option linter.unusedSimpArgs false
set_option linter.unusedVariables false
namespace Go.Pv
open Go.Proofs
theorem accept_err {name : ByteArray} {key : Term} {room : Int} {es : List (Term × Int)} {now : Int} {t : Term} (h : ((acceptT name key room es now t).2.1 != 0) = true) : (acceptT name key room es now t).1 = zX := by
  unfold acceptT at h ⊢
  split
  · rfl
  · split
    · rfl
    · split
      · rfl
      · split
        · split
          · rfl
          · rename_i g1 g2 g3 _ _ _ _ hl g4
            simp only [g1, g2, g3, hl, g4, if_false, Bool.false_eq_true] at h
            cases h
        · rfl
structure Took (name : ByteArray) (key : Term) (now : Int) (t : Term) (a : Tn) (tk x : Term) : Prop where
  take : takeT t apName 2 = ([tk, x], 0)
  opn : (openT tk key).2 = 0
  box : (boxT x (openT tk key).1.key 11).2 = 0
  srv : (serverT (openT tk key).1.auth key).2 = 0
  auth : a.auth = (serverT (openT tk key).1.auth key).1
  tick : a.tick = (openT tk key).1
  svc : seqB (serverT (openT tk key).1.auth key).1.service name = true
  usr : seqB (serverT (openT tk key).1.auth key).1.user (openT tk key).1.client = true
  to : now < (serverT (openT tk key).1.auth key).1.to
  hi : now < (openT tk key).1.span.hi
  lo : (openT tk key).1.span.lo ≤ now
theorem check_ok {s : Sp} {now : Int} (h : (checkS s now 0 != 0) = false) : s.lo ≤ now ∧ now < s.hi := by
  unfold checkS at h
  split at h
  · cases h
  · split at h
    · cases h
    · split at h
      · cases h
      · rename_i g1 g2
        simp only [decide_eq_true_eq] at g1 g2
        omega
theorem accept_ok {name : ByteArray} {key : Term} {room : Int} {es : List (Term × Int)} {now : Int} {t : Term} (h : ((acceptT name key room es now t).2.1 != 0) = false) : ∃ tk x, Took name key now t (acceptT name key room es now t).1 tk x := by
  cases b1 : ((shownD t key).2.2.2 != 0) with
  | true => unfold acceptT at h; simp only [b1, if_true] at h; cases h
  | false =>
  cases b2 : ((whoT name key now (shownD t key).1).2 != 0) with
  | true => unfold acceptT at h; simp only [b1, b2, if_true, Bool.false_eq_true, if_false] at h; cases h
  | false =>
  cases b3 : (!nearT (shownD t key).2.1 now 300) with
  | true => unfold acceptT at h; simp only [b1, b2, b3, if_true, Bool.false_eq_true, if_false] at h; cases h
  | false =>
  obtain ⟨x0, x1, x2, hl⟩ := shownD_ok b1
  have hA : (acceptT name key room es now t).1.auth = (whoT name key now (shownD t key).1).1 ∧ (acceptT name key room es now t).1.tick = (shownD t key).1 := by
    unfold acceptT at h ⊢
    simp only [b1, b2, b3, hl, Bool.false_eq_true, if_false] at h ⊢
    split
    · rename_i g; simp only [g, if_true] at h; cases h
    · exact ⟨rfl, rfl⟩
  -- what is shown
  have hS : ∃ tk x, takeT t apName 2 = ([tk, x], 0) ∧ (openT tk key).2 = 0 ∧ (boxT x (openT tk key).1.key 11).2 = 0 ∧ (shownD t key).1 = (openT tk key).1 := by
    clear h hA b2 b3
    unfold shownD at b1 ⊢
    generalize takeT t apName 2 = p at b1 ⊢
    obtain ⟨l, e0⟩ := p
    simp only at b1 ⊢
    cases g : (e0 != 0) with
    | true => simp [g] at b1
    | false =>
      have ge : e0 = 0 := by simpa using g
      subst ge
      simp only [g, Bool.false_eq_true, if_false] at b1 ⊢
      match l, b1 with
      | [tk, x], b1 =>
        refine ⟨tk, x, rfl, ?_⟩
        simp only at b1 ⊢
        cases g1 : ((openT tk key).2 != 0) with
        | true => simp [g1] at b1
        | false =>
          simp only [g1, Bool.false_eq_true, if_false] at b1 ⊢
          cases g2 : ((boxT x (openT tk key).1.key 11).2 != 0) with
          | true => simp [g2] at b1
          | false =>
            simp only [g2, Bool.false_eq_true, if_false] at b1 ⊢
            cases g3 : (!shapedT (boxT x (openT tk key).1.key 11).1 [0, 1, 1, 0]) with
            | true => simp [g3] at b1
            | false =>
              simp only [g3, Bool.false_eq_true, if_false] at b1 ⊢
              refine ⟨by simpa using g1, by simpa using g2, ?_⟩
              unfold shownB at b1 ⊢
              split at b1
              · rename_i hq
                split at b1
                · cases b1
                · rename_i g4
                  simp only [hq, g4, Bool.false_eq_true, if_false]
              · cases b1
      | [], b1 => cases b1
      | [_], b1 => cases b1
      | _ :: _ :: _ :: _, b1 => cases b1
  obtain ⟨tk, x, h1, h2, h3, h4⟩ := hS
  rw [h4] at b2 hA
  unfold whoT at b2 hA
  split at b2
  · cases b2
  rename_i c1
  split at b2
  · rename_i c2; simp only [c2] at b2; cases b2
  rename_i c2
  split at b2
  · rename_i c3; simp only [c3] at b2; cases b2
  rename_i c3
  split at b2
  · cases b2
  rename_i c4
  split at b2
  · cases b2
  rename_i c5
  split at b2
  · cases b2
  rename_i c6
  simp only [c1, c2, c3, c4, c5, c6, Bool.false_eq_true, if_false] at hA
  have hk := check_ok (by simpa using c2)
  exact ⟨tk, x, ⟨h1, h2, h3, by simpa using c3, hA.1, hA.2, by simpa using c4, by simpa using c5, by simpa using c6, hk.2, hk.1⟩⟩
theorem eqI_self : ∀ l : List Int, eqI l l = true
  | [] => rfl
  | x :: l => by simp only [eqI, beq_self_eq_true, eqI_self l, Bool.and_self]
theorem eqS_self : ∀ l : List ByteArray, eqS l l = true
  | [] => rfl
  | x :: l => by simp only [eqS, seqB_self, eqS_self l, Bool.and_self]
theorem sameA_self (a : Au) : sameA a a = true := by simp only [sameA, seqB_self, eqI_self, eqS_self, beq_self_eq_true, Bool.and_self]
set_option maxRecDepth 10000 in
set_option maxHeartbeats 4000000 in
theorem c18 (name : ByteArray) (key : Term) (now : Int) (t : Term) : PPure Try.prog 18 [.scal (.string name), enc key, .scal (.int .i64 now), enc t] (.scal (.bool true)) := by
  show PCalls Try.prog 18 [.scal (.string name), enc key, .scal (.int .i64 now), enc t] [] fun r' _ => r' = .scal (.bool true)
  refine calls_of hmix Try.func18 ok18 (by simp) ?_
  simp -implicitDefEqProofs only [rc18, zzfm, zzfq, zziu, zzik, zzbd, zzin, zzhr, zzdn, zzdm, zzka, zzhe, zzfy, zzhg, List.map_nil, List.length_cons, List.length_nil, List.cons_append, List.nil_append, Nat.reduceSub, Nat.reduceEqDiff, Nat.zero_add, if_true, if_false, fgL, Nat.add_one_ne_zero, zzgz, zzde]
  refine qcall_intro c61 ?_
  simp -implicitDefEqProofs only [zzfr, zzfm, zzfq, zzfg, zziu, zzin, zzig, zzcd, zzhr, zzhp, r_un, zzdn, zzdm, zzka, zzhe, zzfy, zzgv, zzgs, zzjx, zzjw, zzce, zzjt, zzie, zzgf, zzdi, zzhg, zzhf, zzha, zzjz, br_false, List.map_cons, List.map_nil, Option.map_some, Nat.reduceAdd, Nat.reduceSub, Nat.reduceEqDiff, if_true, if_false, PV.fg, fgL, zzdf, Nat.add_one_ne_zero, zzgz, Term.eta, zzfb, Bool.not_true]
  refine qcall_intro (c21 _ _) ?_
  try simp -implicitDefEqProofs only [zzir, zzfs, zzhr, zzdn, zzka, zzhe, zzfy, Nat.reduceSub, Nat.reduceEqDiff, if_true, if_false, Nat.add_one_ne_zero]
  repeat' (first
    | (refine br_intro (fun h => ?_) (fun h => ?_) <;> try simp -implicitDefEqProofs only [h, zzfr, zzfm, zzfq, zzfg, zzfn, zziu, zzir, zziv, zzin, zzim, zzig, zzcd, zzfs, zzhr, zzhp, zzhw, zzhx, zzht, zzhz, zzdn, zzdm, zzka, zzhe, zzfy, zzgv, zzgs, zzjx, zzjw, zzce, zzjt, zzie, zzgf, zzdi, zzhg, zzhf, zzha, br_true, br_false, List.map_cons, List.map_nil, Option.map_some, Nat.reduceAdd, Nat.reduceSub, Nat.reduceEqDiff, if_true, if_false, PV.fg, fgL, zzdf, Nat.add_one_ne_zero, zzgz, zzfv, zzhc, zzdg, Term.eta, zzfb])
    | (refine qcall_intro (c21 _ _) ?_; try simp -implicitDefEqProofs only [zzfg, zziu, zziv, zzcd, zzdn, zzka, zzhe, zzfy, br_false, Nat.reduceSub, Nat.reduceEqDiff, if_true, if_false, Nat.add_one_ne_zero]))
  · exact endK_raw rfl
  · exact endK_raw rfl
  refine kcall_intro (c64 name key 3 _) ?_
  rintro r H1 ⟨b, c, rfl, hA⟩
  have hroom : (if (0 : Int) > 3 then (0 : Int) else 3) = 3 := by decide
  rw [hroom] at hA
  simp -implicitDefEqProofs only [zzfm, zzfq, zziu, zzim, zzig, zzhr, zzhp, zzdn, zzka, zzhe, zzfy, zzgv, zzgs, zzjx, zzjw, zzce, zzjt, zzie, zzgf, zzdi, zzhg, zzhf, zzha, List.map_cons, List.map_nil, Option.map_some, Nat.reduceAdd, Nat.reduceSub, Nat.reduceEqDiff, if_true, if_false, PV.fg, fgL, zzdf, Nat.add_one_ne_zero, zzfv, Term.eta, zzfb]
  refine kcall_intro (c65n hA (by decide) now t) ?_
  rintro r H2 ⟨rfl, te, tl, hA2⟩
  clear hA2 hA
  have herr := fun h => accept_err (name := name) (key := key) (room := 3) (es := []) (now := now) (t := t) h
  have hok := fun h => accept_ok (name := name) (key := key) (room := 3) (es := []) (now := now) (t := t) h
  generalize acceptT name key 3 [] now t = R at herr hok ⊢
  simp -implicitDefEqProofs only [encX_cells, zzfm, zzfq, zzfg, zziu, zzii, zziz, zzig, zzih, zzcd, zzhr, zzhh, zzhj, zzdn, zzdm, zzka, zzhe, zzhd, zzfy, zzgv, zzgs, zzie, zzdl, zzjg, zzjm, zzjl, zzag, zzjd, zzds, zzja, zzkb, zzaz, zzas, zzai, List.length_cons, List.length_nil, List.cons_append, List.nil_append, List.all_cons, List.all_nil, zzbv, zzbt, zzbr, zzbq, zzbs, Option.map_some, Nat.reduceAdd, Nat.reduceSub, Nat.reduceEqDiff, Nat.zero_add, Bool.and_self, and_self, if_true, if_false, Nat.add_one_ne_zero]
  refine br_intro (fun b1 => ?_) (fun b1 => ?_)
  · have hz := herr b1
    clear herr hok
    obtain ⟨R1, R2, R3⟩ := R
    simp only at hz b1
    subst hz
    have hq : seqB ⟨#[]⟩ ⟨#[]⟩ = true := by kernel_rfl
    simp -implicitDefEqProofs only [zX, zA, zK, zT, hq, zzfm, zzfq, zzir, zziv, zzin, zzig, zzcd, zzft, zzhr, zzhi, zzho, zzhp, zzhh, zzhk, zzdn, zzdm, zzka, zzhe, zzfy, zzgv, zzgs, zzjx, zzjw, zzce, zzjt, zzie, zzge, zzgf, zzdl, zzdi, zzbb, zzdk, zzbg, zzhg, zzhf, zzha, zzdu, zzja, zzkb, zzaz, zzav, zzai, br_true, List.map_cons, List.map_nil, Option.map_some, Nat.reduceAdd, Nat.reduceSub, Nat.reduceEqDiff, Nat.add_zero, Nat.zero_add, if_true, if_false, PV.fg, fgL, zzdf, Nat.add_one_ne_zero, zzgz, k_mk, s_mk, n_mk, l_mk, zzfb, zzfc]
    refine qcall_intro (c41 zT zT) ?_
    have hz2 : sameT zT zT = true := by kernel_rfl
    simp -implicitDefEqProofs only [hz2, zzfn, zziu, zziv, zzcd, zzhr, zzhw, zzhx, zzht, zzhz, zzdn, zzka, zzhe, zzfy, br_true, Nat.reduceSub, Nat.reduceEqDiff, if_true, if_false, Nat.add_one_ne_zero, zzhc, zzdg]
    exact endK_raw rfl
  · obtain ⟨tk, x, hT⟩ := hok b1
    clear herr hok
    obtain ⟨R1, R2, R3⟩ := R
    simp only at hT b1
    have htk : takeT t ⟨#[97, 112, 45, 114, 101, 113]⟩ 2 = ([tk, x], 0) := hT.take
    simp -implicitDefEqProofs only [zzfr, zzfm, zzfq, zzin, zzig, zzhp, zzdn, zzdm, zzka, zzhe, zzfy, zzgv, zzgs, zzjx, zzjw, zzce, zzjt, zzie, zzgf, zzdi, zzhg, zzhf, zzha, List.map_cons, List.map_nil, Option.map_some, Nat.reduceAdd, Nat.reduceSub, Nat.reduceEqDiff, if_true, if_false, PV.fg, fgL, zzdf, Nat.add_one_ne_zero, zzgz, Term.eta, zzfb]
    refine qcall_intro (c35 t _ 2) ?_
    rw [htk]
    have n0 : nth (encL [tk, x]) 0 = some (enc tk) := rfl
    have n1 : nth (encL [tk, x]) 1 = some (enc x) := rfl
    have hln : (encL [tk, x]).length = 2 := rfl
    simp -implicitDefEqProofs only [n0, hln, zzfr, zzfm, zzfq, zzfg, zziu, zzir, zziv, zzin, zzig, zzcd, zzfs, zzhr, zzhp, zzhh, zzhl, zzhn, zzhj, zzdn, zzdm, zzka, zzhe, zzfy, zzgv, zzgs, zzjx, zzjw, zzce, zzjt, zzie, zzid, zzgf, zzdl, zzdi, zzhg, zzhf, zzha, zzaf, zzae, zzfw, zzcf, zzgj, zzds, zzja, zzkb, zzaz, zzas, zzai, br_false, List.map_cons, List.map_nil, List.length_cons, List.length_nil, Option.map_some, Nat.reduceAdd, Nat.reduceSub, Nat.reduceEqDiff, Nat.zero_add, if_true, if_false, fgL, zzdf, Nat.add_one_ne_zero, zzgz, zzde, Term.eta, zzfb, Int.toNat_zero, Int.le_refl, zzbj, Int.reduceBNe]
    refine qcall_intro (c30 tk key) ?_
    simp -implicitDefEqProofs only [n1, hT.opn, zzfm, zzfq, zziu, zzii, zziz, zzin, zzig, zzih, zzhr, zzhp, zzhk, zzhl, zzhj, zzdn, zzdm, zzka, zzhe, zzhd, zzfy, zzgv, zzgs, zzjx, zzjw, zzce, zzjt, zzie, zzid, zzgf, zzdl, zzdi, zzjg, zzjm, zzjl, zzag, zzjd, zzhg, zzhf, zzha, zzdu, zzaf, zzae, zzfw, zzcf, zzds, List.map_cons, List.map_nil, List.length_cons, List.length_nil, List.cons_append, List.nil_append, List.all_cons, List.all_nil, zzbv, zzbt, zzbr, zzbs, Option.map_some, Nat.reduceAdd, Nat.reduceSub, Nat.reduceEqDiff, Nat.zero_add, Bool.and_self, and_self, if_true, if_false, PV.fg, fgL, zzdf, Nat.add_one_ne_zero, zzgz, zzde, Term.eta, zzfb, zzcr, Int.toNat_one, Int.reduceLE]
    refine qcall_intro (c37 x (openT tk key).1.key 11) ?_
    simp -implicitDefEqProofs only [hT.box, zzfm, zzfq, zziu, zzii, zziz, zzin, zzig, zzih, zzhr, zzhp, zzhk, zzhj, zzdn, zzka, zzhe, zzhd, zzfy, zzgv, zzgs, zzjx, zzjw, zzce, zzjt, zzie, zzgf, zzdl, zzdi, zzjg, zzjm, zzjl, zzag, zzjd, zzhg, zzhf, zzha, zzdu, zzds, List.map_cons, List.map_nil, List.length_cons, List.length_nil, List.cons_append, List.nil_append, List.all_cons, List.all_nil, zzbv, zzbt, zzbr, zzbs, Option.map_some, Nat.reduceAdd, Nat.reduceSub, Nat.reduceEqDiff, Nat.zero_add, Bool.and_self, and_self, if_true, if_false, fgL, zzdf, Nat.add_one_ne_zero, zzgz, zzde, Term.eta, zzfb]
    refine qcall_intro (c70 (openT tk key).1.auth key) ?_
    have hto := hT.to
    have hhi := hT.hi
    have hlo := hT.lo
    simp -implicitDefEqProofs only [hT.srv, zzfm, zzfq, zziu, zzir, zziv, zzii, zziz, zzin, zzig, zzih, zzcd, zzft, zzhr, zzhp, zzhh, zzhk, zzhj, zzdn, zzdm, zzka, zzhe, zzhd, zzfy, zzgv, zzgs, zzjx, zzjw, zzce, zzjt, zzie, zzgf, zzdl, zzdi, zzjg, zzjm, zzjl, zzag, zzjd, zzhg, zzhf, zzha, zzdu, zzds, zzja, zzkb, zzaz, zzan, zzai, br_true, List.map_cons, List.map_nil, List.length_cons, List.length_nil, List.cons_append, List.nil_append, List.all_cons, List.all_nil, zzbv, zzbt, zzbr, zzbq, zzbs, Option.map_some, Nat.reduceAdd, Nat.reduceSub, Nat.reduceEqDiff, Nat.add_zero, Nat.zero_add, Bool.and_self, and_self, if_true, if_false, fgL, beq_self_eq_true, Nat.add_one_ne_zero, zzgz, zzcg, zzch, zzeb]
    have hsame : sameA (serverT (openT tk key).1.auth key).1 R1.auth = true := by rw [hT.auth]; exact sameA_self _
    refine qcall_intro (c69 (serverT (openT tk key).1.auth key).1 R1.auth) ?_
    simp -implicitDefEqProofs only [hsame, hT.svc, hT.usr, decide_eq_true hto, decide_eq_true hhi, decide_eq_true hlo, zzfn, zziu, zzir, zziv, zzig, zzcd, zzft, zzhr, zzho, zzhh, zzhk, zzhw, zzhx, zzht, zzhz, zzdn, zzka, zzhe, zzfy, zzgv, zzgs, zzie, zzge, zzdl, zzdu, zzja, zzkb, zzaz, zzar, zzao, zzav, zzai, br_true, Option.map_some, Nat.reduceAdd, Nat.reduceSub, Nat.reduceEqDiff, Nat.add_zero, Nat.zero_add, if_true, if_false, Nat.add_one_ne_zero, zzhc, zzdg]
    exact endK_raw rfl
end Go.Pv

import Derived.Test.YtlgaolpkeejmdaaMQ
import Derived.Test.YtlgaolpkeejmdaaMP
import Derived.Test.YtlgaolpkeejmdaaML
set_option linter.unusedSimpArgs false
set_option linter.unusedVariables false
namespace Go.Pv
open Go.Proofs
theorem callsD_of {P : Program} {q : RPar} {f : FuncId} {fn : Func} {n : Nat} {rs : List RRes} {rc : RCode} (hm : P.follows .mixedOrders = true) (hf : P.funcs[f]? = some fn) (hr : fnRes P q fn = some (n, rs, rc)) {args : List PV} {H : PH} {K : PV → PH → Prop} (hlen : args.length ≤ n)
    (h : go P (fnPost rs K) [.code rc] (initE args) [] H) : PCallsD P f args H K := by
  unfold fnRes at hr
  split at hr
  · cases hr
  · rename_i hn
    split at hr
    · rename_i c hb
      split at hr
      · rename_i rc' rs' h1 h2
        cases hr
        exact fn_callsD (q := q) hm hf hb (by simpa using hn) rfl h1 h2 hlen h
      · cases hr
    · cases hr
def zX : Tn := ⟨zA, zK, zT⟩
def cellsX (t1 t2 t3 t4 t5 : Tok) (x : Tn) : List PV := [.scal (.string x.auth.user), .list t1 (ints x.auth.groups), .scal (.int .i64 x.auth.origin), .list t2 (strs x.auth.transited), .scal (.string x.auth.service), .scal (.bool x.auth.fwd), .scal (.int .i64 x.auth.to),
  .scal (.string x.tick.service), .scal (.int .i64 x.tick.flags), .scal (.int .i64 x.tick.key.k), .scal (.string x.tick.key.s), .scal (.int .i64 x.tick.key.n), .list t3 (encL x.tick.key.l), .scal (.string x.tick.client), .scal (.int .i64 x.tick.span.lo), .scal (.int .i64 x.tick.span.hi), .scal (.int .i64 x.tick.auth.k), .scal (.string x.tick.auth.s), .scal (.int .i64 x.tick.auth.n), .list t4 (encL x.tick.auth.l),
  .scal (.int .i64 x.term.k), .scal (.string x.term.s), .scal (.int .i64 x.term.n), .list t5 (encL x.term.l)]
theorem cellsX_fg (t1 t2 t3 t4 t5 : Tok) (x : Tn) : (PV.agg (cellsX t1 t2 t3 t4 t5 x)).fg = encX x := by simp only [cellsX, encX, PV.fg, fgL, zzcv, zzgf, zzkp]
structure Loc (H : PH) (p3 p4 p6 p7 b c : Nat) (now : Int) (t1 t2 t3 t4 t5 : Tok) (x : Tn) (e : Int) (name : ByteArray) (key : Term) (room : Int) (es : List (Term × Int)) (te : PV) (lg : List PV) (tl : Tok) : Prop where
  g3 : H.get p3 = some (.cells [.ptr b 0])
  g4 : H.get p4 = some (.cells [.scal (.int .i64 now)])
  g6 : H.get p6 = some (.cells (cellsX t1 t2 t3 t4 t5 x))
  g7 : H.get p7 = some (.cells [.scal (.int .i64 e)])
  acc : Acc H b c name key room es te lg tl
set_option maxRecDepth 10000 in
theorem c100 {H : PH} {b c p3 p4 p6 p7 : Nat} {now : Int} {t1 t2 t3 t4 t5 : Tok} {x : Tn} {e : Int} {name : ByteArray} {key : Term} {room : Int} {es : List (Term × Int)} {te : PV} {lg : List PV} {tl : Tok} (h : Loc H p3 p4 p6 p7 b c now t1 t2 t3 t4 t5 x e name key room es te lg tl) (hlen : lg.length < 1000000) (n6 : p6 ≠ b) (n7 : p7 ≠ b) :
    PCallsD Try.prog 100 [.ptr p3 0, .ptr p4 0, .ptr p6 0, .ptr p7 0] H fun r H' => H'.get p6 = some (.cells (cellsX t1 t2 t3 t4 t5 x)) ∧ H'.get p7 = some (.cells [.scal (.int .i64 e)]) ∧ ∃ tl', Acc H' b c name key room es te (lg ++ [evP now name x e]) tl' := by
  refine callsD_of hmix Try.func100 ok100 (by simp) ?_
  obtain ⟨h3, h4, h6, h7, ha⟩ := h
  have h6' := h6
  simp only [cellsX] at h6'
  simp -implicitDefEqProofs only [rc100, h3, h4, h6', h7, zzfp, zzjm, zzjg, zzil, zzim, zzdn, zzlb, zzhz, zzge, zzhq, zzhn, zzky, zzkx, zzce, zzku, zzjf, zzjc, zzgk, zzgl, zzdl, zzdi, zzib, zzia, zzhv, List.map_cons, List.map_nil, Nat.reduceAdd, Nat.reduceSub, Nat.reduceEqDiff, if_true, if_false, PV.fg, fgL, zzcv, zzgf, zzkp, Nat.add_one_ne_zero, zzgb]
  have hfg := cellsX_fg t1 t2 t3 t4 t5 x
  refine kcall_intro (K := fun r H' => r = .tup [] ∧ Kx H b H' ∧ ∃ tl', Acc H' b c name key room es te (lg ++ [evP now name x e]) tl') (by have := c101 ha hlen now x e; simpa only [encX, zzgf, zzkp, zzcv] using this) ?_
  rintro r H1 ⟨rfl, hk, tl', hA⟩
  simp -implicitDefEqProofs only [zzfo, zzju, zziw, zziy, zzhz, zzhw, zzdg]
  exact endK_raw ⟨hk _ _ n6 h6, hk _ _ n7 h7, tl', hA⟩
end Go.Pv

set_option linter.unusedSimpArgs false
set_option linter.unusedVariables false
namespace Go.Pv
open Go.Proofs
theorem run_allocH' {P : Program} {Q : RX → St → Prop} {env : Nat → EV} {L : List (List PV)} {H : PH} {k : List SI} {ops : List RI} {d : Option Nat} {z : List PV} : run P Q (⟨d, none, .allocH z⟩ :: ops) k env L H = bH P Q z d ops k env L H := nr rfl
theorem Acc.other {H : PH} {b c : Nat} {name : ByteArray} {key : Term} {room : Int} {es : List (Term × Int)} {te : PV} {lg : List PV} {tl : Tok} (h : Acc H b c name key room es te lg tl) {x : Nat} {o : PObj} (hb : x ≠ b) (hc : x ≠ c) (he : elB te ≠ some x) (hx : H.get x = none ∨ ∃ cs, H.get x = some (.cells cs)) : Acc (H.set x o) b c name key room es te lg tl := by
  have nt : ∀ {tok : Tok} {n sz : Nat}, Grow H tok n sz → tokB tok ≠ some x := by
    intro tok n sz hg
    rcases hx with hx | ⟨cs, hx⟩
    · rcases hg with rfl | ⟨b', t, rfl, hg⟩
      · intro e; cases e
      · intro e; cases e; rw [hg] at hx; cases hx
    · exact hg.not_cells hx
  exact ⟨by rw [PH.get_set, if_neg (fun e => hb e.symm)]; exact h.acc, h.ch.set hc he, h.ne, h.gl.set_cells (nt h.gl), h.vb, h.ap, h.sl⟩
theorem Acc.new {H : PH} {b c : Nat} {name : ByteArray} {key : Term} {room : Int} {es : List (Term × Int)} {te : PV} {lg : List PV} {tl : Tok} (h : Acc H b c name key room es te lg tl) {x : Nat} (hx : H.get x = none) : elB te ≠ some x := by
  intro e
  obtain ⟨cs, hcs⟩ := h.ch.el.get e
  rw [hx] at hcs; cases hcs
def acceptT (name : ByteArray) (key : Term) (room : Int) (es : List (Term × Int)) (now : Int) (t : Term) : Tn × Int × List (Term × Int) :=
  if (shownD t key).2.2.2 != 0 then (zX, (shownD t key).2.2.2, es) else
  if (whoT name key now (shownD t key).1).2 != 0 then (zX, (whoT name key now (shownD t key).1).2, es) else
  if !nearT (shownD t key).2.1 now 300 then (zX, 30, es) else
  match t.l with
  | [_, x1, x2] =>
    if (putE2 room es x2 (IntKind.i64.wrap (now + 601)) now).1 != 0 then (zX, (putE2 room es x2 (IntKind.i64.wrap (now + 601)) now).1, (putE2 room es x2 (IntKind.i64.wrap (now + 601)) now).2)
    else (⟨(whoT name key now (shownD t key).1).1, (shownD t key).1, x1⟩, 0, (putE2 room es x2 (IntKind.i64.wrap (now + 601)) now).2)
  | _ => (zX, 0, es)
theorem shownD_ok {t key : Term} (h : ((shownD t key).2.2.2 != 0) = false) : ∃ x0 x1 x2, t.l = [x0, x1, x2] := by
  unfold shownD at h
  split at h
  · rename_i g; simp only [g] at h; cases h
  · rename_i g
    have := (takeT_ok (n := 2) (by simpa using g)).1
    have h3 : (t.l.length : Int) = 3 := by rw [this]; rfl
    exact three_of (by rw [h3]; rfl)
section
variable {H : PH} {b c p3 p4 p6 p7 : Nat} {now : Int} {t1 t2 t3 t4 t5 : Tok} {x : Tn} {e : Int} {name : ByteArray} {key : Term} {room : Int} {es : List (Term × Int)} {te : PV} {lg : List PV} {tl : Tok}
structure Dist (b c p3 p4 p6 p7 : Nat) (te : PV) : Prop where
  n6b : p6 ≠ b
  n7b : p7 ≠ b
  n6c : p6 ≠ c
  n7c : p7 ≠ c
  n36 : p3 ≠ p6
  n37 : p3 ≠ p7
  n46 : p4 ≠ p6
  n47 : p4 ≠ p7
  n67 : p6 ≠ p7
  n3c : p3 ≠ c
  n4c : p4 ≠ c
  e3 : elB te ≠ some p3
  e4 : elB te ≠ some p4
  e6 : elB te ≠ some p6
  e7 : elB te ≠ some p7
theorem Loc.set6 (h : Loc H p3 p4 p6 p7 b c now t1 t2 t3 t4 t5 x e name key room es te lg tl) (d : Dist b c p3 p4 p6 p7 te) (u1 u2 u3 u4 u5 : Tok) (y : Tn) : Loc (H.set p6 (.cells (cellsX u1 u2 u3 u4 u5 y))) p3 p4 p6 p7 b c now u1 u2 u3 u4 u5 y e name key room es te lg tl :=
  ⟨by rw [PH.get_set, if_neg d.n36]; exact h.g3, by rw [PH.get_set, if_neg d.n46]; exact h.g4, get_same _ _ _, by rw [PH.get_set, if_neg (fun e => d.n67 e.symm)]; exact h.g7, h.acc.other d.n6b d.n6c d.e6 (.inr ⟨_, h.g6⟩)⟩
theorem Loc.set7 (h : Loc H p3 p4 p6 p7 b c now t1 t2 t3 t4 t5 x e name key room es te lg tl) (d : Dist b c p3 p4 p6 p7 te) (e' : Int) : Loc (H.set p7 (.cells [.scal (.int .i64 e')])) p3 p4 p6 p7 b c now t1 t2 t3 t4 t5 x e' name key room es te lg tl :=
  ⟨by rw [PH.get_set, if_neg d.n37]; exact h.g3, by rw [PH.get_set, if_neg d.n47]; exact h.g4, by rw [PH.get_set, if_neg d.n67]; exact h.g6, get_same _ _ _, h.acc.other d.n7b d.n7c d.e7 (.inr ⟨_, h.g7⟩)⟩
theorem accept_end {K : PV → PH → Prop} {env : Nat → EV} {L : List (List PV)} (h : Loc H p3 p4 p6 p7 b c now t1 t2 t3 t4 t5 x e name key room es te lg tl) (hlen : lg.length < 1000000) (d : Dist b c p3 p4 p6 p7 te)
    (e6 : env 6 = .v (.ptr p6 0)) (e7 : env 7 = .v (.ptr p7 0)) (e13 : env 13 = .v (.fn (.func 100) [] [.ptr p3 0, .ptr p4 0, .ptr p6 0, .ptr p7 0]))
    (hK : ∀ H' tl', Acc H' b c name key room es te (lg ++ [evP now name x e]) tl' → K (.tup [encX x, .scal (.int .i64 e)]) H') :
    endD Try.prog [.cellA 6 24, .cell1 7] (.t 13) K 100 [.ptr p3 0, .ptr p4 0, .ptr p6 0, .ptr p7 0] .ret ⟨env, L, H⟩ := by
  refine ⟨e13, (c100 h hlen d.n6b d.n7b).mono ?_⟩
  rintro r H' ⟨g6, g7, tl', hA⟩
  have : resV [.cellA 6 24, .cell1 7] ⟨env, L, H'⟩ = some [.agg (cellsX t1 t2 t3 t4 t5 x), .scal (.int .i64 e)] := by
    simp only [resV, e6, e7, cellsAt, g6, g7]
    rfl
  rw [this]
  refine ⟨H', HLe.refl _, _, .inl rfl, ?_⟩
  have hr : (retV [.agg (cellsX t1 t2 t3 t4 t5 x), .scal (.int .i64 e)]).fg = .tup [encX x, .scal (.int .i64 e)] := by
    have := cellsX_fg t1 t2 t3 t4 t5 x
    simp only [retV, PV.fg, fgL] at this ⊢
    rw [← this]
  rw [hr]
  exact hK _ _ hA
end
end Go.Pv

set_option linter.unusedSimpArgs false
set_option linter.unusedVariables false
namespace Go.Pv
open Go.Proofs
set_option maxRecDepth 20000 in
set_option maxHeartbeats 4000000 in
theorem c65 {H : PH} {b c : Nat} {name : ByteArray} {key : Term} {room : Int} {es : List (Term × Int)} {te : PV} {lg : List PV} {tl : Tok} (h : Acc H b c name key room es te lg tl) (hes : es.length < 1000000) (hlen : lg.length < 1000000) (now : Int) (t : Term) :
    PCalls Try.prog 65 [.ptr b 0, .scal (.int .i64 now), enc t] H fun r H' => r = .tup [encX (acceptT name key room es now t).1, .scal (.int .i64 (acceptT name key room es now t).2.1)] ∧
      ∃ te' tl', Acc H' b c name key room (acceptT name key room es now t).2.2 te' (lg ++ [evP now name (acceptT name key room es now t).1 (acceptT name key room es now t).2.1]) tl' := by
  refine defers_of (g := 100) hmix Try.func65 okD65 (by simp) ?_
  simp -implicitDefEqProofs only [rcA65, zzjl, zzbe, zzfp, zzdn, zzge, zzbz, Nat.reduceSub, if_true, zzjl, zzbe]
  refine bH_intro fun p3 f3 => ?_
  simp -implicitDefEqProofs only [zzjl, zzbe, zzdn, zzlb, zzhz, zzge, zzca, Nat.reduceSub, Nat.reduceEqDiff, if_true, if_false, Nat.add_one_ne_zero, zzjl, zzbe]
  refine bH_intro fun p4 f4 => ?_
  simp -implicitDefEqProofs only [run_allocH', zzjk, zzbd, zzdn, zzlb, zzhz, zzge, List.length_nil, List.nil_append, Nat.reduceSub, Nat.reduceEqDiff, if_true, if_false, Nat.add_one_ne_zero, zzde]
  refine bH_intro fun p6 f6 => ?_
  simp -implicitDefEqProofs only [run_allocH', zzhz]
  refine bH_intro fun p7 f7 => ?_
  have some_ne : ∀ {H : PH} {x y : Nat} {o : PObj}, H.get x = none → H.get y = some o → x ≠ y := fun h1 h2 e => by subst e; rw [h1] at h2; cases h2
  have n3b := some_ne f3 h.acc
  have n3c := some_ne f3 h.ch.cache
  have e3 := h.new f3
  have a1 := h.other (o := .cells [.ptr b 0]) n3b n3c e3 (.inl f3)
  have n4b := some_ne f4 a1.acc
  have n4c := some_ne f4 a1.ch.cache
  have e4 := a1.new f4
  have a2 := a1.other (o := .cells [.scal (.int .i64 now)]) n4b n4c e4 (.inl f4)
  have n43 : p4 ≠ p3 := some_ne f4 (get_same _ _ _)
  have n6b := some_ne f6 a2.acc
  have n6c := some_ne f6 a2.ch.cache
  have e6 := a2.new f6
  have a3 := a2.other (o := .cells (cellsX .full .full .full .full .full zX)) n6b n6c e6 (.inl f6)
  have n64 : p6 ≠ p4 := some_ne f6 (get_same _ _ _)
  have n63 : p6 ≠ p3 := some_ne f6 (by rw [PH.get_set, if_neg (fun e => n43 e.symm)]; exact get_same _ _ _)
  have n7b := some_ne f7 a3.acc
  have n7c := some_ne f7 a3.ch.cache
  have e7 := a3.new f7
  have n76 : p7 ≠ p6 := some_ne f7 (get_same _ _ _)
  have n74 : p7 ≠ p4 := some_ne f7 (by rw [PH.get_set, if_neg (fun e => n64 e.symm)]; exact get_same _ _ _)
  have n73 : p7 ≠ p3 := some_ne f7 (by rw [PH.get_set, if_neg (fun e => n63 e.symm), PH.get_set, if_neg (fun e => n43 e.symm)]; exact get_same _ _ _)
  have a4 := a3.other (o := .cells [.scal (.int .i64 0)]) n7b n7c e7 (.inl f7)
  have d : Dist b c p3 p4 p6 p7 te := ⟨n6b, n7b, n6c, n7c, fun e => n63 e.symm, fun e => n73 e.symm, fun e => n64 e.symm, fun e => n74 e.symm, fun e => n76 e.symm, n3c, n4c, e3, e4, e6, e7⟩
  have hL : Loc ((((H.set p3 (.cells [.ptr b 0])).set p4 (.cells [.scal (.int .i64 now)])).set p6 (.cells (cellsX .full .full .full .full .full zX))).set p7 (.cells [.scal (.int .i64 0)])) p3 p4 p6 p7 b c now .full .full .full .full .full zX 0 name key room es te lg tl :=
    ⟨by rw [PH.get_set, if_neg d.n37, PH.get_set, if_neg d.n36, PH.get_set, if_neg (fun e => n43 e.symm)]; exact get_same _ _ _, by rw [PH.get_set, if_neg d.n47, PH.get_set, if_neg d.n46]; exact get_same _ _ _, by rw [PH.get_set, if_neg d.n67]; exact get_same _ _ _, get_same _ _ _, a4⟩
  have hz : [PV.scal (.string ⟨#[]⟩), .list .full [], .scal (.int .i64 0), .list .full [], .scal (.string ⟨#[]⟩), .scal (.bool false), .scal (.int .i64 0), .scal (.string ⟨#[]⟩), .scal (.int .i64 0), .scal (.int .i64 0), .scal (.string ⟨#[]⟩), .scal (.int .i64 0), .list .full [], .scal (.string ⟨#[]⟩), .scal (.int .i64 0), .scal (.int .i64 0), .scal (.int .i64 0), .scal (.string ⟨#[]⟩), .scal (.int .i64 0), .list .full [], .scal (.int .i64 0), .scal (.string ⟨#[]⟩), .scal (.int .i64 0), .list .full []] = cellsX .full .full .full .full .full zX := rfl
  rw [hz]
  clear a1 a2 a3 a4 f4 f6 f7
  generalize ((((H.set p3 (.cells [.ptr b 0])).set p4 (.cells [.scal (.int .i64 now)])).set p6 (.cells (cellsX .full .full .full .full .full zX))).set p7 (.cells [.scal (.int .i64 0)])) = H1 at hL ⊢
  simp -implicitDefEqProofs only [zzfl, rpre65, zzjt, zzha, zzju, zzjg, zzdn, zzlb, zzhz, zzge, zzib, zzia, zzhv, List.map_cons, List.map_nil, Nat.reduceSub, Nat.reduceEqDiff, if_true, if_false, zzfl, Nat.add_one_ne_zero, zzjt, zzha]
  refine ⟨[.ptr p3 0, .ptr p4 0, .ptr p6 0, .ptr p7 0], rfl, rfl, ?_⟩
  have h3 := hL.g3
  have h7 := hL.g7
  have hb := hL.acc.acc
  simp only [accC] at hb
  simp -implicitDefEqProofs only [rcB65, h3, hb, zzfp, zzft, zzjn, zzjg, zzil, zzim, zzir, zzif, zzdn, zzlb, zzhz, zzge, zzhq, zzhn, zzky, zzkx, zzce, zzku, zzje, zzjf, zzjc, zzgk, zzgl, zzdl, zzdi, zzib, zzia, zzhv, zzhk, zzdw, List.map_cons, List.map_nil, Option.map_some, Nat.reduceAdd, Nat.reduceSub, Nat.reduceEqDiff, Nat.zero_add, if_true, if_false, fgL, zzdf, Nat.add_one_ne_zero, zzhu, Term.eta, zzfc]
  refine qcall_intro (c56 t key) ?_
  simp -implicitDefEqProofs only [h7, get_same, zzfp, zzft, zzfh, zzju, zzji, zzjz, zzjg, zzjh, zzcd, zziq, zzil, zzic, zzie, zzdn, zzdm, zzlb, zzhz, zzhy, zzge, zzhq, zzhn, zzje, zzjf, zzjc, zzgk, zzdl, zzkh, zzkn, zzko, zzkm, zzag, zzah, zzke, zzdt, zzkb, zzlc, zzaz, zzas, zzai, zzca, List.length_cons, List.length_nil, List.cons_append, List.nil_append, List.all_cons, List.all_nil, zzbv, zzbt, zzbr, zzbs, Option.map_some, Nat.reduceAdd, Nat.reduceSub, Nat.reduceEqDiff, Nat.zero_add, Bool.and_self, and_self, if_true, if_false, Nat.add_one_ne_zero, zzcr]
  have hL2 := hL.set7 d (shownD t key).2.2.2
  generalize H1.set p7 (.cells [.scal (.int .i64 (shownD t key).2.2.2)]) = H2 at hL2 ⊢
  clear hL h3 h7 hb
  have h3 := hL2.g3
  have h4 := hL2.g4
  have h6 := hL2.g6
  have h7 := hL2.g7
  have hb := hL2.acc.acc
  have hn : ∀ o, PH.get (H2.set p6 o) p7 = H2.get p7 := fun o => by rw [PH.get_set, if_neg (fun e => d.n67 e.symm)]
  simp only [accC] at hb
  simp only [cellsX] at h6
  refine br_intro (fun b1 => ?_) (fun b1 => ?_)
  · simp -implicitDefEqProofs only [go_sreg, zzft, zzjg, zzid, zzil, zzdn, zzlb, zzhz, zzge, zzjf, zzdi, zzbb, zzdk, zzbg, Nat.reduceSub, Nat.reduceEqDiff, if_true, if_false, Nat.add_one_ne_zero]
    refine ⟨⟨d.n67.symm, trivial⟩, ?_⟩
    simp -implicitDefEqProofs only [h6, h7, hn, zzfq, zzju, zzjz, zzjg, zzjh, zzdn, zzlb, zzhz, zzhy, zzge, zzhq, zzhn, zzjf, zzjc, zzgk, zzdl, zzkh, zzko, zzkm, zzah, zzbw, zzca, List.length_cons, List.length_nil, List.all_cons, List.all_nil, zzbv, zzbt, zzbr, zzbq, zzbs, Nat.reduceAdd, Nat.reduceSub, Nat.reduceEqDiff, Nat.zero_add, Bool.and_self, and_self, if_true, if_false, Nat.add_one_ne_zero]
    refine accept_end ((hL2.set6 d .full .full .full .full .full zX).set7 d (shownD t key).2.2.2) hlen d rfl rfl rfl ?_
    intro H' tl' hA
    refine ⟨?_, te, tl', ?_⟩
    · simp only [acceptT, b1, if_true]
    · simp only [acceptT, b1, if_true]; exact hA
  · simp -implicitDefEqProofs only [h3, h4, zzfu, zzfp, zzft, zzjm, zzjg, zzil, zzim, zzdn, zzlb, zzhz, zzge, zzhq, zzhn, zzky, zzkx, zzce, zzku, zzje, zzjf, zzjc, zzgk, zzgl, zzdl, zzdi, zzib, zzia, zzhv, List.map_cons, List.map_nil, Option.map_some, Nat.reduceAdd, Nat.reduceSub, Nat.reduceEqDiff, if_true, if_false, PV.fg, fgL, Nat.add_one_ne_zero, zzgb, Term.eta, zzcs, zzeq]
    refine kcall_intro (c102 hL2.acc now (shownD t key).1) ?_
    rintro r H3 ⟨rfl, rfl⟩
    simp -implicitDefEqProofs only [h7, get_same, zzfp, zzft, zzfh, zzju, zzji, zzjz, zzjg, zzjh, zzcd, zziq, zzil, zzic, zzie, zzdn, zzdm, zzlb, zzhz, zzhy, zzge, zzhq, zzhn, zzje, zzjf, zzjc, zzgk, zzdl, zzkh, zzkn, zzko, zzkm, zzag, zzah, zzke, zzdt, zzkb, zzlc, zzaz, zzas, zzai, zzca, List.length_cons, List.length_nil, List.cons_append, List.nil_append, List.all_cons, List.all_nil, zzbv, zzbt, zzbr, zzbq, zzbs, Option.map_some, Nat.reduceAdd, Nat.reduceSub, Nat.reduceEqDiff, Nat.zero_add, Bool.and_self, and_self, if_true, if_false, Nat.add_one_ne_zero, zzcg]
    have hL3 := hL2.set7 d (whoT name key now (shownD t key).1).2
    generalize H3.set p7 (.cells [.scal (.int .i64 (whoT name key now (shownD t key).1).2)]) = H4 at hL3 ⊢
    clear hL2 h3 h4 h6 h7 hb hn
    have h3 := hL3.g3
    have h4 := hL3.g4
    have h6 := hL3.g6
    have h7 := hL3.g7
    have hb := hL3.acc.acc
    have hn : ∀ o, PH.get (PH.set H4 p6 o) p7 = PH.get H4 p7 := fun o => by rw [PH.get_set, if_neg (fun e => d.n67 e.symm)]
    simp only [accC] at hb
    simp only [cellsX] at h6
    refine br_intro (fun b2 => ?_) (fun b2 => ?_)
    · simp -implicitDefEqProofs only [go_sreg, zzft, zzjg, zzid, zzil, zzdn, zzlb, zzhz, zzge, zzjf, zzdi, zzbb, zzdk, zzbg, Nat.reduceSub, Nat.reduceEqDiff, if_true, if_false, Nat.add_one_ne_zero]
      refine ⟨⟨d.n67.symm, trivial⟩, ?_⟩
      simp -implicitDefEqProofs only [h6, h7, hn, zzfq, zzju, zzjz, zzjg, zzjh, zzdn, zzlb, zzhz, zzhy, zzge, zzhq, zzhn, zzjf, zzjc, zzgk, zzdl, zzkh, zzko, zzkm, zzah, zzbw, zzca, List.length_cons, List.length_nil, List.all_cons, List.all_nil, zzbv, zzbt, zzbr, zzbq, zzbs, Nat.reduceAdd, Nat.reduceSub, Nat.reduceEqDiff, Nat.zero_add, Bool.and_self, and_self, if_true, if_false, Nat.add_one_ne_zero]
      refine accept_end ((hL3.set6 d .full .full .full .full .full zX).set7 d (whoT name key now (shownD t key).1).2) hlen d rfl rfl rfl ?_
      intro H' tl' hA
      refine ⟨?_, te, tl', ?_⟩
      · simp only [acceptT, b1, b2, Bool.false_eq_true, if_false, if_true]
      · simp only [acceptT, b1, b2, Bool.false_eq_true, if_false, if_true]; exact hA
    · simp -implicitDefEqProofs only [h4, zzfu, zzfp, zzft, zzjn, zzjg, zziq, zzil, zzdn, zzdm, zzlb, zzhz, zzge, zzhq, zzhn, zzjf, zzjc, zzgk, zzdl, zzib, zzia, zzhv, List.map_cons, List.map_nil, Nat.reduceSub, Nat.reduceEqDiff, if_true, if_false, PV.fg, fgL, Nat.add_one_ne_zero, zzhu]
      refine qcall_intro (c103 _ _ _) ?_
      simp -implicitDefEqProofs only [zzfh, zzju, zzjg, zzcd, r_un, zzdn, zzlb, zzhz, zzge, zzla, Nat.reduceSub, Nat.reduceEqDiff, if_true, if_false, Nat.add_one_ne_zero]
      refine br_intro (fun b3 => ?_) (fun b3 => ?_)
      · simp -implicitDefEqProofs only [h6, h7, hn, zzfp, zzft, zzfq, zzju, zzjz, zzjg, zzjh, zzid, zzdn, zzdm, zzlb, zzhz, zzhy, zzge, zzjf, zzjc, zzdi, zzbb, zzdk, zzbg, zzkh, zzko, zzkm, zzah, zzbw, zzca, List.length_cons, List.length_nil, List.all_cons, List.all_nil, zzbv, zzbt, zzbr, zzbq, zzbs, Nat.reduceAdd, Nat.reduceSub, Nat.reduceEqDiff, Nat.zero_add, Bool.and_self, and_self, if_true, if_false, Nat.add_one_ne_zero]
        refine accept_end ((hL3.set6 d .full .full .full .full .full zX).set7 d 30) hlen d rfl rfl rfl ?_
        intro H' tl' hA
        refine ⟨?_, te, tl', ?_⟩
        · simp only [acceptT, b1, b2, b3, Bool.false_eq_true, if_false, if_true]
        · simp only [acceptT, b1, b2, b3, Bool.false_eq_true, if_false, if_true]; exact hA
      · obtain ⟨x0, x1, x2, hl⟩ := shownD_ok b1
        have n1 : nth t.l 1 = some x1 := by rw [hl]; rfl
        have n2 : nth t.l 2 = some x2 := by rw [hl]; rfl
        have hT : acceptT name key room es now t = if (putE2 room es x2 (IntKind.i64.wrap (now + 601)) now).1 != 0 then (zX, (putE2 room es x2 (IntKind.i64.wrap (now + 601)) now).1, (putE2 room es x2 (IntKind.i64.wrap (now + 601)) now).2) else (⟨(whoT name key now (shownD t key).1).1, (shownD t key).1, x1⟩, 0, (putE2 room es x2 (IntKind.i64.wrap (now + 601)) now).2) := by
          simp only [acceptT, b1, b2, b3, hl, Bool.false_eq_true, if_false]
        rw [hT]
        simp -implicitDefEqProofs only [h3, h4, hb, n2, zzfu, zzfp, zzft, zzjm, zzjg, zzil, zzim, zzir, zzic, zzif, zzig, zzdn, zzdm, zzlb, zzhz, zzge, zzhq, zzhn, zzky, zzkx, zzce, zzku, zzje, zzjd, zzjf, zzjc, zzgk, zzgl, zzdl, zzdi, zzib, zzia, zzhv, zzhk, zzdv, zzdw, zzaf, zzae, zzgc, zzcf, zzkb, zzlc, zzaz, zzal, zzaj, List.map_cons, List.map_nil, List.length_cons, List.length_nil, Option.map_some, Nat.reduceAdd, Nat.reduceSub, Nat.reduceEqDiff, Nat.zero_add, if_true, if_false, PV.fg, fgL, zzdf, zzcx, Nat.add_one_ne_zero, zzgb, zzde, Term.eta, zzfc, Int.reduceLE, Int.reduceToNat]
        refine kcall_intro (c104 hL3.acc.ch hes x2 _ now) ?_
        rintro r H5 ⟨rfl, te', hC5, hF5⟩
        have hA5 := hL3.acc.put hC5 hF5
        have hL5 : Loc H5 p3 p4 p6 p7 b c now .full .full .full .full .full zX (whoT name key now (shownD t key).1).2 name key room (putE2 room es x2 (IntKind.i64.wrap (now + 601)) now).2 te' lg tl :=
          ⟨hF5.keep _ _ h3 d.n3c d.e3, hF5.keep _ _ h4 d.n4c d.e4, hF5.keep _ _ hL3.g6 d.n6c d.e6, hF5.keep _ _ h7 d.n7c d.e7, hA5⟩
        have old : ∀ {x : Nat} {o : PObj}, H4.get x = some o → elB te ≠ some x → elB te' ≠ some x := by
          intro x o hx hn e
          rcases hF5.new _ e with e2 | e2
          · exact hn e2
          · rw [hx] at e2; cases e2
        have d : Dist b c p3 p4 p6 p7 te' := ⟨d.n6b, d.n7b, d.n6c, d.n7c, d.n36, d.n37, d.n46, d.n47, d.n67, d.n3c, d.n4c, old h3 d.e3, old h4 d.e4, old hL3.g6 d.e6, old h7 d.e7⟩
        clear h3 h4 h6 h7 hb hn old hF5 hC5
        have h3 := hL5.g3
        have h4 := hL5.g4
        have h6 := hL5.g6
        have h7 := hL5.g7
        have hb := hL5.acc.acc
        have hn : ∀ o, PH.get (PH.set H5 p6 o) p7 = PH.get H5 p7 := fun o => by rw [PH.get_set, if_neg (fun e => d.n67 e.symm)]
        simp only [accC] at hb
        simp only [cellsX] at h6
        simp -implicitDefEqProofs only [zzfp, zzft, zzfh, zzju, zzjg, zzcd, zziq, zzic, zzdn, zzdm, zzlb, zzhz, zzge, zzkb, zzlc, zzaz, zzas, zzai, Nat.reduceSub, Nat.reduceEqDiff, if_true, if_false, Nat.add_one_ne_zero]
        refine br_intro (fun b4 => ?_) (fun b4 => ?_)
        · simp -implicitDefEqProofs only [h6, h7, hn, zzfp, zzft, zzfq, zzju, zzjz, zzjg, zzjh, zziq, zzid, zzdn, zzlb, zzhz, zzhy, zzge, zzjf, zzjc, zzdi, zzbb, zzdk, zzbg, zzkh, zzko, zzkm, zzah, zzbw, zzca, List.length_cons, List.length_nil, List.all_cons, List.all_nil, zzbv, zzbt, zzbr, zzbq, zzbs, Nat.reduceAdd, Nat.reduceSub, Nat.reduceEqDiff, Nat.zero_add, Bool.and_self, and_self, if_true, if_false, Nat.add_one_ne_zero]
          refine accept_end ((hL5.set6 d .full .full .full .full .full zX).set7 d (putE2 room es x2 (IntKind.i64.wrap (now + 601)) now).1) hlen d rfl rfl rfl ?_
          intro H' tl' hA
          refine ⟨?_, te', tl', ?_⟩
          · simp only [b4, if_true]
          · simp only [b4, if_true]; exact hA
        · simp -implicitDefEqProofs only [h6, h7, hn, n1, zzcr, zzfu, zzfp, zzft, zzfq, zzju, zzjz, zzjg, zzjh, zzid, zzil, zzim, zzif, zzig, zzdn, zzdm, zzlb, zzhz, zzhy, zzge, zzhq, zzhn, zzky, zzkx, zzce, zzku, zzje, zzjd, zzjf, zzjc, zzgk, zzgl, zzdl, zzdi, zzbb, zzdk, zzdj, zzht, zzba, zzbg, zzbf, zzki, zzkj, zzkh, Nat.reduceBEq, zzkk, zzko, zzkm, zzah, zzdv, zzaf, zzae, zzgc, zzcf, zzbw, zzca, List.length_cons, List.length_nil, List.all_cons, List.all_nil, zzbv, zzbt, zzbr, zzbq, zzbs, Option.map_some, Nat.reduceAdd, Nat.reduceSub, Nat.reduceEqDiff, Nat.zero_add, Bool.and_self, and_self, if_true, if_false, zzcx, Nat.add_one_ne_zero, zzde, Term.eta, zzfc, zzcr, zzeq, zzcg, zzec, Int.toNat_one, Int.reduceLE, Int.reduceBEq]
          refine accept_end ((hL5.set6 d .foreign .foreign .foreign .foreign .foreign ⟨(whoT name key now (shownD t key).1).1, (shownD t key).1, x1⟩).set7 d 0) hlen d rfl rfl rfl ?_
          intro H' tl' hA
          refine ⟨?_, te', tl', ?_⟩
          · simp only [b4, Bool.false_eq_true, if_false]
          · simp only [b4, Bool.false_eq_true, if_false]; exact hA
end Go.Pv

set_option linter.unusedSimpArgs false
set_option linter.unusedVariables false
namespace Go.Pv
open Go.Proofs
def madeT (a : Au) (key centre session : Term) (from_ : Int) : Cr × Bool :=
  (⟨a.service, a.user, (makeT ⟨a.service, 1, session, a.user, ⟨from_, a.to⟩, (buildT a key centre).1⟩ key).1, session, 1, ⟨from_, a.to⟩⟩, (buildT a key centre).2 == 0 && (makeT ⟨a.service, 1, session, a.user, ⟨from_, a.to⟩, (buildT a key centre).1⟩ key).2 == 0)
set_option maxRecDepth 10000 in
set_option maxHeartbeats 4000000 in
theorem c63 (a : Au) (key centre session : Term) (from_ : Int) : PPure Try.prog 63 [encA a, enc key, enc centre, enc session, .scal (.int .i64 from_)] (.tup [encD (madeT a key centre session from_).1, .scal (.bool (madeT a key centre session from_).2)]) := by
  refine pure_of hmix Try.func63 ok63 (by simp) ?_
  try simp -implicitDefEqProofs only [rc63, zzfp, zzft, zzju, zzji, zzjk, zzbd, zzjn, zzjg, zziq, zzim, zzdn, zzdm, zzlb, zzhz, zzge, zzhq, zzhn, zzky, zzkx, zzce, zzku, zzje, zzgl, zzdi, zzib, zzia, zzhv, List.map_cons, List.map_nil, List.length_cons, List.length_nil, List.cons_append, List.nil_append, Option.map_some, Nat.reduceAdd, Nat.reduceSub, Nat.reduceEqDiff, Nat.zero_add, if_true, if_false, fgL, zzdf, Nat.add_one_ne_zero, zzhu, zzde, Term.eta, zzfc, zzcg, zzch, zzec]
  repeat' (first
    | (refine br_intro (fun h => ?_) (fun h => ?_) <;> try simp -implicitDefEqProofs only [h, zzfq, zzju, zzjr, zzjv, zzjz, zzjg, zzjh, zzcd, zzfz, zziq, zzic, zzeb, zzdh, zziw, zzix, zziv, zzit, zzja, zzdn, zzdm, zzlb, zzhz, zzhy, zzge, zzhq, zzhn, zzky, zzkx, zzce, zzku, zzje, zzgl, zzdi, zzkh, zzkn, zzkm, zzag, zzke, zzkb, zzlc, zzaz, zzan, zzai, br_true, br_false, List.length_cons, List.length_nil, List.all_cons, List.all_nil, zzbv, zzbt, zzbr, zzbs, Option.map_some, Nat.reduceAdd, Nat.reduceSub, Nat.reduceEqDiff, Nat.zero_add, Bool.and_self, and_self, if_true, if_false, PV.fg, fgL, Nat.add_one_ne_zero, Term.eta, zzcp, zzcq, zzeg])
    | (refine qcall_intro (c98 _ _ _) ?_; try simp -implicitDefEqProofs only [zzfp, zzft, zzju, zzji, zzjz, zzjn, zzjg, zzjh, zziq, zzid, zzil, zzim, zzif, zzie, zzdn, zzdm, zzlb, zzhz, zzhy, zzge, zzhq, zzhn, zzky, zzkx, zzce, zzku, zzje, zzgk, zzgl, zzdl, zzdi, zzbb, zzdk, zzdj, zzht, zzba, zzbg, zzbf, zzki, zzkj, zzkh, Nat.reduceBEq, zzkk, zzkn, zzkm, zzag, zzke, zzib, zzia, zzhv, zzdv, zzdt, zzca, List.map_cons, List.map_nil, List.length_cons, List.length_nil, List.cons_append, List.nil_append, List.all_cons, List.all_nil, zzbv, zzbt, zzbr, zzbs, Option.map_some, Nat.reduceAdd, Nat.reduceSub, Nat.reduceEqDiff, Nat.add_zero, Nat.zero_add, Bool.and_self, and_self, if_true, if_false, fgL, zzdf, Nat.add_one_ne_zero, zzhu, zzde, Term.eta, zzfc, zzdb, zzfb, zzcs, zzeq, Int.reduceBEq])
    | (refine qcall_intro (c22 _ _) ?_; try simp -implicitDefEqProofs only [zzfp, zzft, zzju, zzjr, zzji, zzjz, zzjg, zzjh, zzfz, zziq, zzid, zzil, zzim, zzic, zzif, zzie, zzdn, zzdm, zzlb, zzhz, zzhy, zzge, zzhq, zzhn, zzky, zzkx, zzce, zzku, zzje, zzgk, zzgl, zzdl, zzdi, zzbb, zzdk, zzdj, zzht, zzba, zzbg, zzbf, zzki, zzkj, zzkh, Nat.reduceBEq, zzkk, zzkn, zzkm, zzag, zzke, zzdv, zzdt, zzkb, zzlc, zzaz, zzan, zzai, zzca, List.length_cons, List.length_nil, List.cons_append, List.nil_append, List.all_cons, List.all_nil, zzbv, zzbt, zzbr, zzbs, Option.map_some, Nat.reduceAdd, Nat.reduceSub, Nat.reduceEqDiff, Nat.add_zero, Nat.zero_add, Bool.and_self, and_self, if_true, if_false, Nat.add_one_ne_zero, zzde, Term.eta, zzfc, zzdb, zzfb, Int.reduceBEq, zzeg]))
  all_goals simp only [madeT, encD, zzcg, encA, *, Bool.true_and, Bool.false_and, Bool.and_true, Bool.and_false, Bool.true_or, Bool.false_or, Bool.or_true, Bool.or_false, Bool.not_true, Bool.not_false, Bool.not_not, decide_true, decide_false, if_true, if_false, Bool.false_eq_true, reduceIte, and_self, and_true, true_and, beq_self_eq_true, bne_self_eq_false, decide_not]
end Go.Pv

set_option linter.unusedSimpArgs false
set_option linter.unusedVariables false
namespace Go.Pv
open Go.Proofs
def isnE (P : Program) (neg : Bool) (e : EV) : Option EV := opVal P (.isnil neg (.t 0)) (fun _ => e) [] []
theorem r_isnil {P : Program} {Q : RX → St → Prop} {env : Nat → EV} {L : List (List PV)} {H : PH} {k : List SI} {ops : List RI} {d : Option Nat} {neg : Bool} {x : RO} : run P Q (⟨d, none, .isnil neg x⟩ :: ops) k env L H = run1 P Q (isnE P neg (evalE env x)) d ops k env L H := by
  rw [run_val rfl]; rfl
theorem isnE_p {P : Program} {b o : Nat} : isnE P false (.v (.ptr b o)) = some (.v (.scal (.bool false))) := nr rfl
def annA900 : Au := ⟨⟨#[97, 110, 110]⟩, [], 0, [], ⟨#[119, 101, 98]⟩, false, 900⟩
def madeS : Cr × Bool := madeT annA900 (keyT webB 1) (keyT centreB 1) (keyT ⟨#[]⟩ 7) 100
def showS : Term × Int := showT madeS.1 200 1
def acc1 : Tn × Int × List (Term × Int) := acceptT webB (keyT webB 1) 5 [] 200 showS.1
def acc2 : Tn × Int × List (Term × Int) := acceptT webB (keyT webB 1) 5 acc1.2.2 201 showS.1
theorem madeS_ok : madeS.2 = true := by kernel_rfl
theorem showS_ok : showS.2 = 0 := by kernel_rfl
theorem acc1_ok : acc1.2.1 = 0 := by kernel_rfl
theorem acc1_user : acc1.1.auth.user = ⟨#[97, 110, 110]⟩ := by kernel_rfl
theorem acc1_len : acc1.2.2.length = 1 := by kernel_rfl
theorem acc2_code : acc2.2.1 = 52 := by kernel_rfl
set_option maxRecDepth 10000 in
set_option maxHeartbeats 4000000 in
theorem c61 : PPure Try.prog 61 [] (.scal (.bool true)) := by
  show PCalls Try.prog 61 [] [] fun r' _ => r' = .scal (.bool true)
  refine calls_of hmix Try.func61 ok61 (by simp) ?_
  simp -implicitDefEqProofs only [rc61, zzfp, zzft, zzju, zzjn, zzjg, zziq, zzid, zzdm, zzhz, zzce, zzdi, zzbb, zzdk, zzdj, zzht, zzba, zzbg, zzbf, zzki, zzkj, zzkh, Nat.reduceBEq, zzkk, zzib, zzia, zzhv, zzca, List.map_cons, List.map_nil, List.length_cons, List.length_nil, Nat.reduceSub, Nat.zero_add, if_true, PV.fg, fgL, zzhu, Int.reduceBEq]
  repeat' (refine qcall_intro (c62 _ _) ?_; simp -implicitDefEqProofs only [zzjn, zzdn, zzdm, zzlb, zzhz, zzib, zzia, zzhv, List.map_cons, List.map_nil, Nat.reduceEqDiff, if_true, if_false, PV.fg, fgL, zzdf, Nat.add_one_ne_zero, zzhu, zzef])
  have hm : madeT ⟨⟨#[97, 110, 110]⟩, [], 0, [], ⟨#[119, 101, 98]⟩, false, 900⟩ (keyT ⟨#[119, 101, 98]⟩ 1) (keyT ⟨#[99, 101, 110, 116, 114, 101]⟩ 1) (keyT ⟨#[]⟩ 7) 100 = madeS := rfl
  refine qcall_intro (c63 ⟨⟨#[97, 110, 110]⟩, [], 0, [], ⟨#[119, 101, 98]⟩, false, 900⟩ _ _ _ _) ?_
  rw [hm]
  simp -implicitDefEqProofs only [madeS_ok, zzfp, zzft, zzju, zzji, zzjz, zzjn, zzjg, zzjh, zziq, zzie, zzdn, zzdm, zzlb, zzhz, zzhy, zzhq, zzhn, zzje, zzdl, zzkh, zzkn, zzkm, zzag, zzke, zzib, zzia, zzhv, zzdt, List.map_cons, List.map_nil, List.length_cons, List.length_nil, List.nil_append, List.all_cons, List.all_nil, zzbv, zzbt, zzbr, zzbs, Option.map_some, Nat.reduceAdd, Nat.reduceSub, Nat.reduceEqDiff, Nat.zero_add, Bool.and_self, and_self, if_true, if_false, PV.fg, fgL, Nat.add_one_ne_zero, zzhu, zzcp]
  repeat' (refine qcall_intro (c62 _ _) ?_; simp -implicitDefEqProofs only [zzjm, zzdn, zzdm, zzlb, zzhz, zzib, zzia, zzhv, List.map_cons, List.map_nil, Nat.reduceEqDiff, if_true, if_false, PV.fg, fgL, zzdf, Nat.add_one_ne_zero, zzgb])
  refine kcall_intro (c64 _ _ _ _) ?_
  rintro r H1 ⟨b, c, rfl, hA⟩
  simp -implicitDefEqProofs only [r_isnil, isnE_p, zzfu, zzfp, zzft, zzfh, zzju, zzjr, zzjv, zzjn, zzjg, zzcd, zzfy, zziq, zzim, r_un, zzdn, zzdm, zzlb, zzhz, zzhq, zzhn, zzky, zzkx, zzce, zzku, zzje, zzgl, zzdi, zzib, zzia, zzhv, zzla, br_false, List.map_cons, List.map_nil, Option.map_some, Nat.reduceAdd, Nat.reduceSub, Nat.reduceEqDiff, if_true, if_false, PV.fg, fgL, Nat.add_one_ne_zero, zzhu, Term.eta, Bool.not_true, zzcq, zzeg]
  have hroom : (if (0 : Int) > 5 then (0 : Int) else 5) = 5 := by decide
  rw [hroom] at hA
  refine qcall_intro (c49 madeS.1 200 1) ?_
  have hs : showT madeS.1 200 1 = showS := rfl
  rw [hs]
  simp -implicitDefEqProofs only [zzfp, zzft, zzju, zzji, zzjz, zzjm, zzjg, zzjh, zziq, zzim, zzie, zzdn, zzdm, zzlb, zzhz, zzhy, zzhq, zzhn, zzky, zzkx, zzce, zzku, zzje, zzgl, zzdl, zzdi, zzkh, zzkn, zzkm, zzag, zzke, zzib, zzia, zzhv, zzdt, List.map_cons, List.map_nil, List.length_cons, List.length_nil, List.cons_append, List.nil_append, List.all_cons, List.all_nil, zzbv, zzbt, zzbr, zzbs, Option.map_some, Nat.reduceAdd, Nat.reduceSub, Nat.reduceEqDiff, Nat.zero_add, Bool.and_self, and_self, if_true, if_false, PV.fg, fgL, zzdf, Nat.add_one_ne_zero, zzgb, zzde, Term.eta, zzfc]
  refine kcall_intro (c65 hA (by decide) (by decide) 200 showS.1) ?_
  have ha1 : acceptT ⟨#[119, 101, 98]⟩ (keyT ⟨#[119, 101, 98]⟩ 1) 5 [] 200 showS.1 = acc1 := rfl
  rw [ha1]
  rintro r H2 ⟨rfl, te, tl, hA2⟩
  simp -implicitDefEqProofs only [encX_cells, zzfp, zzft, zzju, zzji, zzjz, zzjm, zzjg, zzjh, zziq, zzim, zzie, zzdn, zzdm, zzlb, zzhz, zzhy, zzhq, zzhn, zzky, zzkx, zzce, zzku, zzje, zzgl, zzdl, zzdi, zzkh, zzkn, zzkm, zzag, zzke, zzib, zzia, zzhv, zzdt, List.map_cons, List.map_nil, List.length_cons, List.length_nil, List.cons_append, List.nil_append, List.all_cons, List.all_nil, zzbv, zzbt, zzbr, zzbq, zzbs, Option.map_some, Nat.reduceAdd, Nat.reduceSub, Nat.reduceEqDiff, Nat.zero_add, Bool.and_self, and_self, if_true, if_false, PV.fg, fgL, zzdf, Nat.add_one_ne_zero, zzgb, Term.eta, zzfc]
  refine kcall_intro (c65 hA2 (by rw [acc1_len]; decide) (by decide) 201 showS.1) ?_
  have ha2 : acceptT ⟨#[119, 101, 98]⟩ (keyT ⟨#[119, 101, 98]⟩ 1) 5 acc1.2.2 201 showS.1 = acc2 := rfl
  rw [ha2]
  rintro r H3 ⟨rfl, te2, tl2, hA3⟩
  simp -implicitDefEqProofs only [encX_cells, zzfp, zzft, zzju, zzji, zzjz, zzjm, zzjg, zzjh, zziq, zzie, zzdn, zzlb, zzhz, zzhy, zzhq, zzhn, zzje, zzdl, zzkh, zzkn, zzkm, zzag, zzke, zzib, zzia, zzhv, zzdt, List.map_cons, List.map_nil, List.length_cons, List.length_nil, List.cons_append, List.nil_append, List.all_cons, List.all_nil, zzbv, zzbt, zzbr, zzbq, zzbs, Option.map_some, Nat.reduceAdd, Nat.reduceSub, Nat.reduceEqDiff, Nat.zero_add, Bool.and_self, and_self, if_true, if_false, PV.fg, fgL, Nat.add_one_ne_zero, zzgb]
  refine kcall_intro (c97 hA3) ?_
  rintro r H4 ⟨rfl, hA4⟩
  have hq : seqB ⟨#[97, 110, 110]⟩ ⟨#[97, 110, 110]⟩ = true := by kernel_rfl
  have e1 : evP 200 ⟨#[119, 101, 98]⟩ acc1.1 acc1.2.1 = .agg [.scal (.int .i64 4), .scal (.int .i64 200), .scal (.string acc1.1.auth.user), .scal (.string acc1.1.tick.client), .scal (.string ⟨#[119, 101, 98]⟩), .list .foreign (strs acc1.1.auth.transited), .scal (.int .i64 acc1.1.tick.flags), .scal (.int .i64 acc1.1.auth.to), .scal (.bool false), .scal (.int .i64 0)] := by
    rw [acc1_ok]; rfl
  have e2 : evP 201 ⟨#[119, 101, 98]⟩ acc2.1 acc2.2.1 = .agg [.scal (.int .i64 5), .scal (.int .i64 201), .scal (.string ⟨#[]⟩), .scal (.string ⟨#[]⟩), .scal (.string ⟨#[119, 101, 98]⟩), .list .full [], .scal (.int .i64 0), .scal (.int .i64 0), .scal (.bool false), .scal (.int .i64 52)] := by
    rw [acc2_code]; rfl
  have hlg : fgL ([] ++ [evP 200 ⟨#[119, 101, 98]⟩ acc1.1 acc1.2.1] ++ [evP 201 ⟨#[119, 101, 98]⟩ acc2.1 acc2.2.1]) = [.agg [.scal (.int .i64 4), .scal (.int .i64 200), .scal (.string acc1.1.auth.user), .scal (.string acc1.1.tick.client), .scal (.string ⟨#[119, 101, 98]⟩), .list .foreign (strs acc1.1.auth.transited), .scal (.int .i64 acc1.1.tick.flags), .scal (.int .i64 acc1.1.auth.to), .scal (.bool false), .scal (.int .i64 0)],
      .agg [.scal (.int .i64 5), .scal (.int .i64 201), .scal (.string ⟨#[]⟩), .scal (.string ⟨#[]⟩), .scal (.string ⟨#[119, 101, 98]⟩), .list .foreign [], .scal (.int .i64 0), .scal (.int .i64 0), .scal (.bool false), .scal (.int .i64 52)]] := by
    rw [e1, e2]
    simp only [List.nil_append, List.cons_append, fgL, PV.fg, zzkp]
  rw [hlg]
  simp -implicitDefEqProofs only [showS_ok, acc1_ok, acc2_code, acc1_user, hq, zzfp, zzft, zzfq, zzju, zzjr, zzjv, zzjg, zzcd, zzfz, zziq, zzil, zzic, zzif, zzig, zzij, zziw, zzix, zzit, zziz, zzdn, zzdm, zzlb, zzhz, zzhq, zzhn, zzho, zzje, zzjd, zzgk, zzdl, zzdv, zzdu, zzaf, zzae, zzgc, zzcf, zzgp, zzkb, zzlc, zzaz, zzan, zzav, zzai, br_true, zzbw, List.length_cons, List.length_nil, Option.map_some, Nat.reduceAdd, Nat.reduceSub, Nat.reduceEqDiff, Nat.add_zero, Nat.zero_add, if_true, if_false, beq_self_eq_true, Nat.add_one_ne_zero, zzhx, zzdg, Int.toNat_one, Int.toNat_zero, List.drop_zero, Int.le_refl, Int.reduceLE, zzbj]
  exact endK_raw rfl
end Go.Pv

set_option linter.unusedSimpArgs false
set_option linter.unusedVariables false
namespace Go.Pv
open Go.Proofs
structure Took (name : ByteArray) (key : Term) (now : Int) (t : Term) (a : Tn) (tk x : Term) : Prop where
  take : takeT t apName 2 = ([tk, x], 0)
  opn : (openT tk key).2 = 0
  box : (boxT x (openT tk key).1.key 11).2 = 0
  srv : (serverT (openT tk key).1.auth key).2 = 0
  auth : a.auth = (serverT (openT tk key).1.auth key).1
  tick : a.tick = (openT tk key).1
  svc : seqB (serverT (openT tk key).1.auth key).1.service name = true
  usr : seqB (serverT (openT tk key).1.auth key).1.user (openT tk key).1.client = true
  to : now < (serverT (openT tk key).1.auth key).1.to
  hi : now < (openT tk key).1.span.hi
  lo : (openT tk key).1.span.lo ≤ now
theorem eqI_self : ∀ l : List Int, eqI l l = true
  | [] => rfl
  | x :: l => by simp only [eqI, beq_self_eq_true, eqI_self l, Bool.and_self]
theorem eqS_self : ∀ l : List ByteArray, eqS l l = true
  | [] => rfl
  | x :: l => by simp only [eqS, seqB_self, eqS_self l, Bool.and_self]
theorem sameA_self (a : Au) : sameA a a = true := by simp only [sameA, seqB_self, eqI_self, eqS_self, beq_self_eq_true, Bool.and_self]
end Go.Pv


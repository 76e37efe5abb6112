import Derived.Test.YtlgaolpkeejmdaaGreatMD
import Derived.Test.YtlgaolpkeejmdaaGreatMG
import Derived.Test.YtlgaolpkeejmdaaGreatMB
import Derived.Test.YtlgaolpkeejmdaaGreatML
import Derived.Test.YtlgaolpkeejmdaaGreatMC
import Derived.Test.YtlgaolpkeejmdaaGreatMP
set_option linter.unusedSimpArgs false
set_option linter.unusedVariables false
namespace Go.Pv
open Go.Proofs
/-! ### a cache: a list that is written in place -/
/-- What came, and until when. -/
def entP (e : Term × Int) : PV := .agg [.scal (.int .i64 e.1.k), .scal (.string e.1.s), .scal (.int .i64 e.1.n), .list .foreign (encL e.1.l), .scal (.int .i64 e.2)]
def ents (l : List (Term × Int)) : List PV := l.map entP
theorem ents_len (l : List (Term × Int)) : (ents l).length = l.length := by simp [ents]
theorem ents_sz (l : List (Term × Int)) : allSz 5 (ents l) = true := allSz_map 5 entP (fun _ => rfl) _
theorem ents_app (l m : List (Term × Int)) : ents (l ++ m) = ents l ++ ents m := by simp [ents]
theorem flat_app : ∀ xs ys : List PV, flat (xs ++ ys) = flat xs ++ flat ys
  | [], ys => rfl
  | x :: xs, ys => by simp [flat, flat_app xs ys]
theorem fl_len (l : List (Term × Int)) : (flat (ents l)).length = l.length * 5 := by rw [flat_length (allSz_iff.1 (ents_sz l)), ents_len]
theorem fl_cons (e : Term × Int) (l : List (Term × Int)) : flat (ents (e :: l)) = (entP e).cells ++ flat (ents l) := rfl
theorem fl_cell : ∀ l : List (Term × Int), (flat (ents l)).all cellP = true
  | [] => rfl
  | e :: l => by rw [fl_cons, List.all_append, fl_cell l]; rfl
def hasE (es : List (Term × Int)) (m : Term) (now : Int) : Bool := es.any fun e => decide (now < e.2) && sameT e.1 m
/-- A cache's list, and the value that stands for it. -/
def EL (H : PH) (v : PV) (es : List (Term × Int)) : Prop :=
  (v = .list .full [] ∧ es = []) ∨ ∃ b cap tl, v = mslc b 0 es.length cap ∧ H.get b = some (.cells (flat (ents es) ++ tl)) ∧ es.length * 5 + tl.length = cap * 5
def elB : PV → Option Nat
  | .scal (.slice (some ⟨b, _, _⟩) _ _) => some b
  | _ => none
theorem elB_m (b o l c : Nat) : elB (mslc b o l c) = some b := rfl
theorem EL.set {H : PH} {v : PV} {es : List (Term × Int)} (h : EL H v es) {x : Nat} {o : PObj} (hx : elB v ≠ some x) : EL (H.set x o) v es := by
  rcases h with h | ⟨b, cap, tl, rfl, hb, hl⟩
  · exact .inl h
  · exact .inr ⟨b, cap, tl, rfl, by rw [PH.get_set, if_neg (fun e => hx (by rw [elB_m, e]))]; exact hb, hl⟩
def cacheC (room : Int) (v : PV) : List PV := [.scal (.int .i64 room), v]
structure Ch (H : PH) (c : Nat) (room : Int) (es : List (Term × Int)) (v : PV) : Prop where
  cache : H.get c = some (.cells (cacheC room v))
  el : EL H v es
  ne : elB v ≠ some c
/-- What a cache's turns leave alone. -/
structure Frm (H : PH) (c : Nat) (v : PV) (H' : PH) (v' : PV) : Prop where
  keep : ∀ x o, H.get x = some o → x ≠ c → elB v ≠ some x → H'.get x = some o
  new : ∀ x, elB v' = some x → elB v = some x ∨ H.get x = none
  dom : ∀ x, H.get x ≠ none → H'.get x ≠ none
theorem Frm.refl (H : PH) (c : Nat) (v : PV) : Frm H c v H v := ⟨fun _ _ h _ _ => h, fun _ h => .inl h, fun _ h => h⟩
theorem Frm.trans {H H1 H2 : PH} {c : Nat} {v v1 v2 : PV} (h : Frm H c v H1 v1) (k : Frm H1 c v1 H2 v2) : Frm H c v H2 v2 := by
  have hn : ∀ x o, H.get x = some o → elB v ≠ some x → elB v1 ≠ some x := by
    intro x o hx hv e
    rcases h.new x e with h | h
    · exact hv h
    · rw [hx] at h; cases h
  refine ⟨fun x o hx hc hv => k.keep x o (h.keep x o hx hc hv) hc (hn x o hx hv), fun x hx => ?_, fun x hx => k.dom x (h.dom x hx)⟩
  rcases k.new x hx with h1 | h1
  · exact h.new x h1
  · refine .inr ?_
    cases hg : H.get x with
    | none => rfl
    | some o => exact absurd h1 (h.dom x (by rw [hg]; simp))
theorem get_same (H : PH) (b : Nat) (o : PObj) : PH.get (PH.set H b o) b = some o := by rw [PH.get_set, if_pos rfl]
theorem dom_set {H : PH} {b : Nat} {o : PObj} : ∀ x, H.get x ≠ none → PH.get (PH.set H b o) x ≠ none := by
  intro x hx
  rw [PH.get_set]
  split
  · simp
  · exact hx
/-- What a store in the cache's list, and one in the cache itself, leave alone. -/
theorem Frm.two {H : PH} {c b : Nat} {v v' : PV} {o o' : PObj} (hb : elB v = some b ∨ H.get b = none) (hv : ∀ x, elB v' = some x → x = b ∨ elB v = some x) : Frm H c v (PH.set (PH.set H b o) c o') v' := by
  refine ⟨fun x o2 hx hc hvx => ?_, fun x hx => ?_, fun x hx => dom_set x (dom_set x hx)⟩
  · rw [PH.get_set, if_neg hc, PH.get_set]
    split
    · rename_i e; subst e
      rcases hb with hb | hb
      · exact absurd hb hvx
      · rw [hx] at hb; cases hb
    · exact hx
  · rcases hv x hx with rfl | h
    · exact hb
    · exact .inl h
theorem flat_sub {sz : Nat} : ∀ {ps : List PV} {i : Nat} {p : PV} {tl : List PV}, allSz sz ps = true → nth ps i = some p → sub (flat ps ++ tl) (i * sz) sz = some p.cells
  | [], i, p, tl, _, h => by simp [nth] at h
  | q :: ps, 0, p, tl, hs, h => by
    have hq := allSz_iff.1 hs q (by simp)
    simp only [nth, List.getElem?_cons_zero, Option.some.injEq] at h
    subst h
    simp only [sub, flat, Nat.zero_mul, List.drop_zero, List.append_assoc]
    rw [if_pos (by simp; omega), List.take_append_of_le_length (by omega), List.take_of_length_le (by omega)]
  | q :: ps, i + 1, p, tl, hs, h => by
    have hq := allSz_iff.1 hs q (by simp)
    have hs' : allSz sz ps = true := allSz_iff.2 fun p hp => allSz_iff.1 hs p (by simp [hp])
    have ih := flat_sub (tl := tl) hs' (i := i) (p := p) (by simpa [nth] using h)
    simp only [sub, flat, List.append_assoc] at ih ⊢
    rw [Nat.succ_mul]
    have e : (q.cells ++ (flat ps ++ tl)).drop (i * sz + sz) = (flat ps ++ tl).drop (i * sz) := by
      rw [show i * sz + sz = q.cells.length + i * sz by omega, ← List.drop_drop, List.drop_left]
    rw [e]
    split at ih
    · rw [if_pos (by simp at *; omega)]; exact ih
    · cases ih
theorem flat_nth {sz : Nat} {ps : List PV} {i j : Nat} {p q : PV} {tl : List PV} (hs : allSz sz ps = true) (h : nth ps i = some p) (hj : nth p.cells j = some q) : nth (flat ps ++ tl) (i * sz + j) = some q := by
  have h1 := flat_sub (tl := tl) hs h
  have hp : p ∈ ps := List.mem_of_getElem? h
  have hq := allSz_iff.1 hs p hp
  simp only [sub] at h1
  split at h1
  · rename_i hle
    have hlt : j < p.cells.length := (List.getElem?_eq_some_iff.1 hj).1
    have : nth ((((flat ps ++ tl).drop (i * sz)).take sz)) j = some q := by
      cases h1' : (((flat ps ++ tl).drop (i * sz)).take sz) with
      | _ => rw [Option.some.injEq] at h1; rw [← h1', h1]; exact hj
    rw [nth, List.getElem?_take_of_lt (by omega), List.getElem?_drop] at this
    exact this
  · cases h1
set_option maxRecDepth 10000 in
theorem c61 (room : Int) (H : PH) : PCalls Tryz.prog 61 [.scal (.int .i64 room)] H fun r H' => ∃ c, H.get c = none ∧ r = .ptr c 0 ∧ H' = H.set c (.cells (cacheC (if 0 > room then 0 else room) (.list .full []))) := by
  refine calls_of hmix Tryz.func61 ok61 (by simp) ?_
  simp -implicitDefEqProofs only [rc61, r_b, zzax, zzjp, zzbe, zzfp, zzft, zzjy, zzjk, zziu, zzih, zzdn, zzdm, zzlf, zzid, zzgi, zzce, zzdi, zzbb, zzdk, zzdj, zzhx, zzba, zzbg, zzbf, zzkm, zzko, zzif, zzie, zzhz, zzbw, zzca, List.map_cons, List.map_nil, List.length_cons, List.length_nil, Nat.reduceSub, Nat.reduceEqDiff, Nat.zero_add, if_true, if_false, r_b, zzax, Nat.add_one_ne_zero, zzjp, zzbe]
  refine bH_intro fun c hc => ?_
  simp -implicitDefEqProofs only [zzfq, zzjy, zziu, zzja, zzjb, zzix, zzjd, zzdn, zzlf, zzid, zzgi, Nat.reduceSub, Nat.reduceEqDiff, if_true, if_false, Nat.add_one_ne_zero, zzib, zzdg]
  refine endK_raw ⟨c, hc, rfl, rfl⟩
theorem EL.len {H : PH} {v : PV} {es : List (Term × Int)} (h : EL H v es) : lenMM (.v v) = some (.v (.scal (.int .i64 es.length))) := by
  rcases h with ⟨rfl, rfl⟩ | ⟨b, cap, tl, rfl, _⟩ <;> rfl
theorem EL.at {H : PH} {v : PV} {es : List (Term × Int)} (h : EL H v es) {i : Nat} {e : Term × Int} (he : nth es i = some e) :
    ∃ b cs, iadM 5 (.v v) (some (i : Int)) = some (.v (.ptr b (i * 5))) ∧ H.get b = some (.cells cs) ∧ sub cs (i * 5) 5 = some (entP e).cells ∧ nth cs (i * 5 + 4) = some (.scal (.int .i64 e.2)) := by
  have hlt : i < es.length := (List.getElem?_eq_some_iff.1 he).1
  rcases h with ⟨rfl, rfl⟩ | ⟨b, cap, tl, rfl, hb, hl⟩
  · simp at hlt
  · have hn : nth (ents es) i = some (entP e) := by simp only [ents, zzht, he, Option.map_some]
    refine ⟨b, _, ?_, hb, flat_sub (ents_sz es) hn, flat_nth (ents_sz es) hn rfl⟩
    rw [iadM_m, if_pos ⟨by omega, by omega⟩, Int.toNat_natCast, Nat.zero_add]
set_option maxRecDepth 10000 in
theorem c115 {H : PH} {c : Nat} {room : Int} {es : List (Term × Int)} {v : PV} (hc : Ch H c room es v) (hlen : es.length ≤ lenB) (m : Term) (now : Int) :
    PCalls Tryz.prog 115 [.ptr c 0, enc m, .scal (.int .i64 now)] H fun r H' => r = .scal (.bool (hasE es m now)) ∧ H' = H := by
  refine calls_of hmix Tryz.func115 ok115 (by simp) ?_
  have hc0 := hc.cache
  have hel := hc.el.len
  simp only [cacheC] at hc0
  simp -implicitDefEqProofs only [rc115, hc0, hel, zzfp, zzft, zzff, zzjy, zzjo, zzbd, zzjk, zziu, zzip, zziv, zzij, zzdn, zzdm, zzlf, zzid, zzgi, zzhu, zzhr, zzjj, zzjg, zzgo, zzdl, zzho, zzdw, List.length_nil, List.nil_append, Nat.reduceSub, Nat.reduceEqDiff, Nat.zero_add, if_true, if_false, Nat.add_one_ne_zero, zzde, zzio]
  refine go_loop (fun n s => ∃ i ex, i ≤ es.length ∧ n = es.length - i ∧ s.env 14 = .v (.scal (.int .i64 i)) ∧ s.env 13 = .v (.scal (.int .i64 es.length)) ∧ s.env 12 = .v v ∧ s.env 4 = .l 0 0 ∧ s.env 2 = .v (.scal (.int .i64 now)) ∧
      s.L = [.scal (.int .i64 m.k), .scal (.string m.s), .scal (.int .i64 m.n), .list .foreign (encL m.l)] :: ex ∧ s.H = H ∧ hasE es m now = hasE (es.drop i) m now) es.length ?_ ?_
  · exact ⟨0, [], by omega, by omega, rfl, rfl, rfl, rfl, rfl, rfl, rfl, rfl⟩
  rintro n env L H' ⟨i, ex, hi, rfl, h14, h13, h12, h4, h2, rfl, rfl, ho⟩
  simp only at h14 h13 h12 h4 h2
  simp -implicitDefEqProofs only [h14, h13, zzfp, zzft, zzfh, zzjy, zzjk, zzcd, zzig, zzdn, zzlf, zzid, zzkf, zzlg, zzaz, zzar, zzai, if_true]
  refine br_intro (fun b1 => ?_) (fun b1 => ?_)
  · have hlt : i < es.length := by simpa using b1
    obtain ⟨e, he⟩ : ∃ e, nth es i = some e := ⟨_, nth_of hlt⟩
    obtain ⟨b, cs, k1, k2, k3, k4⟩ := hc.el.at he
    simp only [entP, PV.cells] at k3
    have next : (decide (now < e.2) && sameT e.1 m) = false → hasE es m now = hasE (es.drop (i + 1)) m now := by
      intro hf
      have e1 := List.getElem?_eq_some_iff.1 he
      rw [ho, List.drop_eq_getElem_cons e1.1, e1.2]
      simp only [hasE, List.any_cons, hf, Bool.false_or]
    have found : (decide (now < e.2) && sameT e.1 m) = true → hasE es m now = true := by
      intro hf
      have e1 := List.getElem?_eq_some_iff.1 he
      rw [ho, List.drop_eq_getElem_cons e1.1, e1.2]
      simp only [hasE, List.any_cons, hf, Bool.true_or]
    simp -implicitDefEqProofs only [h14, h12, h2, k1, k2, k3, zzfu, zzfp, zzft, zzff, zzjy, zzjv, zzjm, zzkd, zzjk, zzjl, zzgd, zziu, zzip, zziq, zzig, zzij, zzdn, zzlf, zzid, zzic, zzhu, zzhr, zzji, zzjj, zzjg, zzgo, zzgp, zzdl, zzdi, zzkl, zzkr, zzkq, zzag, zzki, zzdv, zzae, zzkf, zzlg, zzaz, zzap, zzai, zzbw, List.length_cons, List.length_nil, List.cons_append, List.all_cons, List.all_nil, zzbv, zzbt, zzbr, zzbs, Option.map_some, Nat.reduceAdd, Nat.reduceSub, Nat.reduceEqDiff, Nat.zero_add, Bool.and_self, and_self, if_true, if_false, Nat.add_one_ne_zero, Nat.add_sub_cancel, zzkg, zzhp, zzim]
    refine br_intro (fun b2 => ?_) (fun b2 => ?_)
    · simp -implicitDefEqProofs only [b2, h4, zzjv, zzjr, zzjk, zzgd, zziq, zzij, zzdn, zzlf, zzid, zzhu, zzhr, zzlc, zzlb, zzce, zzky, zzji, zzgp, zzdi, zzif, zzie, zzhz, zzdv, br_true, List.map_cons, List.map_nil, Option.map_some, Nat.reduceAdd, Nat.reduceSub, Nat.reduceEqDiff, Nat.add_zero, if_true, if_false, fgL, zzdf, Nat.add_one_ne_zero, Nat.add_sub_cancel, zzhp, zzhy, Term.eta, zzfc]
      refine qcall_intro (c35 e.1 m) ?_
      simp -implicitDefEqProofs only [zzfh, zzjy, zzjz, zzcd, zzdn, zzlf, zzid, br_true, Nat.reduceEqDiff, if_true, if_false]
      refine br_intro (fun b3 => ?_) (fun b3 => ?_)
      · simp -implicitDefEqProofs only [b3, zzfp, zzft, zzfq, zzjy, zziu, zzja, zzjb, zzix, zzjd, zzdm, zzlf, zzid, Nat.reduceEqDiff, if_true, if_false, zzib, zzdg]
        refine endK_raw ⟨by rw [found (by rw [b2, b3]; rfl)], rfl⟩
      · simp -implicitDefEqProofs only [b3, h14, wrap_add hlt hlen, zzfu, zzfp, zzfe, zzjy, zzjk, zziu, zzig, zzdn, zzdm, zzlf, zzid, zzkf, zzlg, zzaz, zzal, zzaj, Nat.reduceEqDiff, if_true, if_false, true_and, Bool.true_and, zzfl]
        refine ⟨_, ?_, i + 1, _, hlt, rfl, rfl, ?_, ?_, ?_, ?_, rfl, next (by rw [b2, b3]; rfl)⟩
        · omega
        all_goals (simp only [zzlf, reduceIte, Nat.reduceEqDiff, h13, h12, h4, h2]; done)
    · simp -implicitDefEqProofs only [b2, h14, wrap_add hlt hlen, zzfu, zzfp, zzfh, zzfe, zzjy, zzjv, zzjz, zzjk, zzcd, zzgd, zziu, zzig, zzdn, zzdm, zzlf, zzid, zzkf, zzlg, zzaz, zzal, zzaj, br_false, Nat.reduceEqDiff, if_true, if_false, true_and, Bool.true_and, zzfl]
      refine ⟨_, ?_, i + 1, _, hlt, rfl, rfl, ?_, ?_, ?_, ?_, rfl, next (by rw [b2]; rfl)⟩
      · omega
      all_goals (simp only [zzlf, reduceIte, Nat.reduceEqDiff, h13, h12, h4, h2]; done)
  · have hge : i = es.length := by
      have : ¬ i < es.length := by simpa using b1
      omega
    simp -implicitDefEqProofs only [b1, zzfp, zzft, zzfq, zzfj, zzdp, zzdo, zzjy, zziu, zzja, zzjb, zzix, zzjd, zzdm, zzlf, zzid, Nat.reduceEqDiff, if_true, if_false, zzdq, zzib, zzdg]
    refine endK_raw ⟨?_, rfl⟩
    rw [ho, hge, List.drop_of_length_le (Nat.le_refl _)]; rfl
/-- What lives. -/
def liveE (es : List (Term × Int)) (now : Int) : List (Term × Int) := es.filter fun e => decide (now < e.2)
theorem fl_splice (l : List (Term × Int)) (e : Term × Int) (r : List (Term × Int)) (tl : List PV) :
    splice (flat (ents (l ++ e :: r)) ++ tl) (l.length * 5) (flat (ents r)) = flat (ents (l ++ r)) ++ ((entP e).cells ++ (flat (ents r) ++ tl)).drop (flat (ents r)).length := by
  have h := splice_mid (flat (ents r)) (flat (ents l)) ((entP e).cells ++ (flat (ents r) ++ tl)) (by simp; omega)
  rw [fl_len] at h
  simp only [ents_app, flat_app, List.append_assoc] at h ⊢
  rw [fl_cons]
  simpa only [List.append_assoc] using h
end Go.Pv


set_option linter.unusedSimpArgs false
set_option linter.unusedVariables false
namespace Go.Pv
open Go.Proofs
def rcB116 : RCode := match rc116 with | .jscope _ _ (.seq _ b) => b | _ => .skip
theorem rc116_eq : rc116 = .jscope 0 (.seq (.region false [⟨(some 4), none, .mov (.c (.scal (.int .i64 0)))⟩]) (.seq (.label 0) rcB116)) (.seq .skip rcB116) := by rfl
theorem live_cons (e : Term × Int) (l : List (Term × Int)) (now : Int) : liveE (e :: l) now = if decide (now < e.2) = true then e :: liveE l now else liveE l now := by
  simp only [liveE, List.filter_cons]
set_option maxRecDepth 10000 in
set_option maxHeartbeats 1000000 in
theorem c116 {H : PH} {c : Nat} {room : Int} {es : List (Term × Int)} {v : PV} (hc : Ch H c room es v) (hlen : es.length ≤ lenB) (now : Int) :
    PCalls Tryz.prog 116 [.ptr c 0, .scal (.int .i64 now)] H fun r H' => r = .tup [] ∧ ∃ v', Ch H' c room (liveE es now) v' ∧ Frm H c v H' v' := by
  refine calls_of hmix Tryz.func116 ok116 (by simp) ?_
  have body : ∀ (J : St → Prop) (env : Nat → EV) (L : List (List PV)) (H1 : PH) (l r : List (Term × Int)) (v1 : PV), env 0 = .v (.ptr c 0) → env 1 = .v (.scal (.int .i64 now)) → env 4 = .v (.scal (.int .i64 l.length)) →
      Ch H1 c room (l ++ r) v1 → Frm H c v H1 v1 → liveE es now = l ++ liveE r now → l.length + r.length ≤ es.length →
      (∀ env' L' H2 l' r' v2, r'.length < r.length → env' 0 = .v (.ptr c 0) → env' 1 = .v (.scal (.int .i64 now)) → env' 4 = .v (.scal (.int .i64 (l' : List (Term × Int)).length)) → Ch H2 c room (l' ++ r') v2 → Frm H c v H2 v2 → liveE es now = l' ++ liveE r' now → l'.length + r'.length ≤ es.length → J ⟨env', L', H2⟩) →
      go Tryz.prog (fnPost [] fun r H' => r = .tup [] ∧ ∃ v', Ch H' c room (liveE es now) v' ∧ Frm H c v H' v') [.code rcB116, .jmp 0 J] env L H1 := by
    intro J env L H1 l r v1 h0 h1 h4 hc1 hf hl hle hJ
    have hc0 := hc1.cache
    have hel := hc1.el.len
    simp only [cacheC] at hc0
    simp -implicitDefEqProofs only [rcB116, rc116, h0, h4, hc0, hel, zzfp, zzft, zzfh, zzjy, zzjk, zzcd, zziu, zzip, zziv, zzig, zzij, zzdn, zzlf, zzid, zzhu, zzhr, zzjj, zzjg, zzgo, zzdl, zzho, zzdw, zzkf, zzlg, zzaz, zzao, zzai, Nat.reduceSub, Nat.reduceEqDiff, Nat.zero_add, if_true, if_false, List.length_append, Nat.add_one_ne_zero, zzio]
    refine br_intro (fun b1 => ?_) (fun b1 => ?_)
    · have hr : r = [] := by
        simp only [decide_eq_true_eq, List.length_append] at b1
        exact List.eq_nil_of_length_eq_zero (by omega)
      subst hr
      simp -implicitDefEqProofs only [zzfq, zzja, zzjc, List.length_nil, Nat.add_zero, zzib, zzdg, decide_true, Int.le_refl]
      refine endK_raw ⟨rfl, v1, ?_, hf⟩
      rw [hl]; exact hc1
    · obtain ⟨e, r', rfl⟩ : ∃ e r', r = e :: r' := by
        cases r with
        | nil => simp only [decide_eq_false_iff_not, List.length_nil] at b1; omega
        | cons e r' => exact ⟨e, r', rfl⟩
      have he : nth (l ++ e :: r') l.length = some e := by simp [nth]
      obtain ⟨b, cs, k1, k2, k3, k4⟩ := hc1.el.at he
      have hlB : l.length < es.length := by simp only [List.length_cons] at hle; omega
      simp -implicitDefEqProofs only [h0, h1, h4, hc0, k1, k2, k4, zzfu, zzfp, zzft, zzfh, zzjy, zzjk, zzcd, zziu, zzip, zziv, zzig, zzij, zzdn, zzlf, zzid, zzhu, zzhr, zzjj, zzjg, zzgo, zzdl, zzho, zzdw, zzae, zzkf, zzlg, zzaz, zzap, zzai, List.length_cons, Nat.reduceSub, Nat.reduceEqDiff, Nat.zero_add, if_true, if_false, Nat.add_one_ne_zero, zzim]
      refine br_intro (fun b2 => ?_) (fun b2 => ?_)
      · simp -implicitDefEqProofs only [h4, wrap_add hlB hlen, zzfp, zzft, zzjy, zzjk, zziu, zzig, zzdn, zzdm, zzlf, zzid, zzkf, zzlg, zzaz, zzal, zzaj, Nat.reduceEqDiff, if_true, if_false, true_and, Bool.true_and, zzfk, zzga, zzgb]
        refine hJ _ _ _ (l ++ [e]) r' v1 (by simp) ?_ ?_ ?_ (by simpa using hc1) hf ?_ (by simp only [List.length_append, List.length_cons, List.length_nil] at hle ⊢; omega)
        · simp only [zzlf, reduceIte, Nat.reduceEqDiff, h0]
        · simp only [zzlf, reduceIte, Nat.reduceEqDiff, h1]
        · simp only [zzlf, reduceIte, Nat.reduceEqDiff, List.length_append, List.length_cons, List.length_nil, Nat.zero_add]
        · rw [hl, live_cons, if_pos b2]; simp
      · rcases hc1.el with ⟨_, h⟩ | ⟨b', cap, tl, rfl, hb, hcap⟩
        · simp at h
        have hne : c ≠ b' := fun e => hc1.ne (by rw [elB_m, e])
        simp only [List.length_append, List.length_cons] at hcap
        have hle2 : l.length + (r'.length + 1) ≤ cap := by omega
        obtain ⟨N, hN⟩ : ∃ N, N = (l ++ e :: r').length := ⟨_, rfl⟩
        obtain ⟨M, hM⟩ : ∃ M, M = (l ++ r').length := ⟨_, rfl⟩
        rw [← hN] at hc0
        have hN' : N = l.length + (r'.length + 1) := by rw [hN]; simp
        have hM' : M = l.length + r'.length := by rw [hM]; simp
        have s1 : slmE 5 (.v (mslc b' 0 N cap)) (some (some (l.length : Int))) (some none) = some (.v (mslc b' (l.length * 5) (r'.length + 1) (cap - l.length))) := by
          rw [slmE_m]
          simp only [Option.getD_some, Option.getD_none, Int.toNat_natCast]
          rw [if_pos (by omega), if_neg (by omega), Nat.zero_add]
          rw [show ((N : Int) - (l.length : Int)).toNat = r'.length + 1 by omega]
        obtain ⟨o2, ho2, s2⟩ : ∃ o2, (o2 = (l.length + 1) * 5 ∨ r'.length = 0 ∧ o2 = 0) ∧ slmE 5 (.v (mslc b' 0 N cap)) (some (some ((l.length + 1 : Nat) : Int))) (some none) = some (.v (mslc b' o2 r'.length (cap - (l.length + 1)))) := by
          rw [slmE_m]
          simp only [Option.getD_some, Option.getD_none, Int.toNat_natCast]
          rw [if_pos (by omega)]
          rw [show ((N : Int) - ((l.length + 1 : Nat) : Int)).toNat = r'.length by omega]
          by_cases hz : cap = l.length + 1
          · exact ⟨0, .inr ⟨by omega, rfl⟩, by rw [if_pos hz]⟩
          · exact ⟨(l.length + 1) * 5, .inl rfl, by rw [if_neg hz, Nat.zero_add]⟩
        have s3 : slmE 5 (.v (mslc b' 0 N cap)) (some none) (some (some (M : Int))) = some (.v (mslc b' 0 M cap)) := by
          rw [slmE_m]
          simp only [Option.getD_some, Option.getD_none]
          rw [if_pos (by omega)]
          simp
        have hw : IntKind.i64.wrap ((N : Int) - 1) = (M : Int) := by
          rw [lenB_eq] at hlen
          simp only [List.length_cons] at hle
          rw [wrap_in (by omega) (by omega)]
          omega
        have hwl := wrap_add hlB hlen
        simp -implicitDefEqProofs only [h0, h4, hc0, hwl, s1, s2, zzfu, zzfp, zzft, zzjk, zziu, zzip, zziv, zzig, zzij, zzdn, zzdm, zzlf, zzid, zzhu, zzhr, zzjj, zzjg, zzgo, zzdl, zzho, zzdw, zzae, zzkf, zzlg, zzaz, zzal, zzaj, List.map_cons, List.map_nil, List.length_cons, Nat.reduceSub, Nat.reduceEqDiff, Nat.zero_add, if_true, if_false, List.length_append, Nat.add_one_ne_zero, zzhv, zzhw, zzkk, zziw, zzke]
        have hfl := fl_len (l ++ e :: r')
        simp only [List.length_append, List.length_cons] at hfl
        have hseg : (((flat (ents (l ++ e :: r')) ++ tl).drop o2).take (r'.length * 5)) = flat (ents r') := by
          rcases ho2 with rfl | ⟨hz, rfl⟩
          · rw [ents_app, flat_app, fl_cons]
            have : (flat (ents l) ++ ((entP e).cells ++ flat (ents r')) ++ tl).drop ((l.length + 1) * 5) = flat (ents r') ++ tl := by
              have h5 : (flat (ents l) ++ (entP e).cells).length = (l.length + 1) * 5 := by
                rw [List.length_append, fl_len]; show l.length * 5 + 5 = _; omega
              rw [← h5, show flat (ents l) ++ ((entP e).cells ++ flat (ents r')) ++ tl = (flat (ents l) ++ (entP e).cells) ++ (flat (ents r') ++ tl) by simp only [List.append_assoc], List.drop_left]
            rw [this, ← fl_len, List.take_left]
          · have : r' = [] := List.eq_nil_of_length_eq_zero hz
            subst this
            simp [ents, flat]
        refine xrun_cpy (q := r'.length) (by omega) hb hb (by simp only [List.length_append, hfl]; omega) ?_ (by rw [hseg]; exact fl_cell _) ?_
        · simp only [List.length_append, hfl]
          rcases ho2 with rfl | ⟨hz, rfl⟩ <;> omega
        rw [hseg, fl_splice]
        have hc2 : PH.get (H1.set b' (.cells (flat (ents (l ++ r')) ++ ((entP e).cells ++ (flat (ents r') ++ tl)).drop (flat (ents r')).length))) c = some (.cells [.scal (.int .i64 room), mslc b' 0 N cap]) := by
          rw [PH.get_set, if_neg hne]; exact hc0
        have hb2 := get_same H1 b' (.cells (flat (ents (l ++ r')) ++ ((entP e).cells ++ (flat (ents r') ++ tl)).drop (flat (ents r')).length))
        have hf2 : Frm H c v ((H1.set b' (.cells (flat (ents (l ++ r')) ++ ((entP e).cells ++ (flat (ents r') ++ tl)).drop (flat (ents r')).length))).set c (.cells [.scal (.int .i64 room), mslc b' 0 M cap])) (mslc b' 0 M cap) :=
          hf.trans (Frm.two (.inl (elB_m _ _ _ _)) fun x hx => .inl (by rw [elB_m] at hx; cases hx; rfl))
        generalize H1.set b' (.cells (flat (ents (l ++ r')) ++ ((entP e).cells ++ (flat (ents r') ++ tl)).drop (flat (ents r')).length)) = H2 at hc2 hb2 hf2 ⊢
        simp -implicitDefEqProofs only [h0, hc2, zzgv, hw, s3, zzfp, zzft, zzjy, zzkd, zzjk, zzjl, zziu, zzip, zziv, zzig, zzij, zzdn, zzdm, zzlf, zzid, zzic, zzhu, zzhr, zzce, zzjj, zzjg, zzgo, zzdl, zzkn, zzkl, Nat.reduceBEq, zzks, zzkq, zzah, zzho, zzdw, zzae, zzkf, zzlg, zzaz, zzau, zzaj, List.length_cons, List.length_nil, List.all_cons, List.all_nil, Nat.reduceSub, Nat.reduceEqDiff, Nat.zero_add, Bool.and_self, and_self, if_true, if_false, true_and, Bool.true_and, Nat.add_one_ne_zero, zzhv, zzhw, zzkk, Int.reduceBEq, zziw, zzio, zzgv, zzhj, zzhi, zzfk, zzgb]
        refine hJ _ _ _ l r' _ (by simp) ?_ ?_ ?_ ⟨get_same _ _ _, .inr ⟨b', cap, _, by rw [hM], by rw [PH.get_set, if_neg (fun e => hne e.symm)]; exact hb2, ?_⟩, by rw [elB_m]; exact fun e => hne (by cases e; rfl)⟩ hf2 ?_ (by simp only [List.length_cons] at hle; omega)
        · simp only [zzlf, reduceIte, Nat.reduceEqDiff, h0]
        · simp only [zzlf, reduceIte, Nat.reduceEqDiff, h1]
        · simp only [zzlf, reduceIte, Nat.reduceEqDiff, h4]
        · simp only [List.length_drop, List.length_append, fl_len]
          have : (entP e).cells.length = 5 := rfl
          omega
        · rw [hl, live_cons, if_neg (by rw [b2]; simp)]
  rw [rc116_eq]
  refine go_jscope (fun n s => ∃ l r v1, n = (r : List (Term × Int)).length ∧ s.env 0 = .v (.ptr c 0) ∧ s.env 1 = .v (.scal (.int .i64 now)) ∧ s.env 4 = .v (.scal (.int .i64 (l : List (Term × Int)).length)) ∧
      Ch s.H c room (l ++ r) v1 ∧ Frm H c v s.H v1 ∧ liveE es now = l ++ liveE r now ∧ l.length + r.length ≤ es.length) ?_ ?_
  · simp -implicitDefEqProofs only [zzfp, zzft, zzfn, zzjy, zziu, zzdm, zzid]
    refine body _ _ _ _ [] es v rfl rfl rfl hc (Frm.refl _ _ _) rfl (by simp) ?_
    intro env' L' H2 l' r' v2 hlt a0 a1 a4 a5 a6 a7 a8
    exact ⟨_, l', r', v2, rfl, a0, a1, a4, a5, a6, a7, a8⟩
  · rintro n env L H1 ⟨l, r, v1, rfl, h0, h1, h4, h5, h6, h7, h8⟩
    simp -implicitDefEqProofs only [zzfu, zzft]
    refine body _ _ _ _ l r v1 h0 h1 h4 h5 h6 h7 h8 ?_
    intro env' L' H2 l' r' v2 hlt a0 a1 a4 a5 a6 a7 a8
    exact ⟨_, hlt, l', r', v2, rfl, a0, a1, a4, a5, a6, a7, a8⟩
/-- What a cache does. -/
def putE2 (room : Int) (es : List (Term × Int)) (m : Term) (until_ now : Int) : Int × List (Term × Int) :=
  if hasE es m now then (52, es) else if decide (((liveE es now).length : Int) ≥ room) then (53, liveE es now) else (0, liveE es now ++ [(m, until_)])
theorem live_le (es : List (Term × Int)) (now : Int) : (liveE es now).length ≤ es.length := List.length_filter_le _ _
set_option maxRecDepth 10000 in
theorem c68 {H : PH} {c : Nat} {room : Int} {es : List (Term × Int)} {v : PV} (h : Ch H c room es v) (hlen : es.length < 1000000) (m : Term) (until_ now : Int) :
    PCalls Tryz.prog 68 [.ptr c 0, enc m, .scal (.int .i64 until_), .scal (.int .i64 now)] H fun r H' => r = .scal (.int .i64 (putE2 room es m until_ now).1) ∧ ∃ v', Ch H' c room (putE2 room es m until_ now).2 v' ∧ Frm H c v H' v' := by
  refine calls_of hmix Tryz.func68 ok68 (by simp) ?_
  have hle : es.length ≤ lenB := by rw [lenB_eq]; omega
  simp -implicitDefEqProofs only [rc68, zzfp, zzft, zzjy, zzjo, zzbd, zzjq, zzjk, zziu, zziq, zzdn, zzdm, zzlf, zzid, zzgi, zzhu, zzhr, zzlc, zzlb, zzce, zzky, zzji, zzgp, zzdi, zzif, zzie, zzhz, List.map_cons, List.map_nil, List.length_nil, List.nil_append, Option.map_some, Nat.reduceAdd, Nat.reduceSub, Nat.reduceEqDiff, if_true, if_false, PV.fg, fgL, zzdf, Nat.add_one_ne_zero, zzgf, zzde, Term.eta, zzfc]
  refine kcall_intro (c115 h hle m now) ?_
  rintro r H1 ⟨rfl, rfl⟩
  simp -implicitDefEqProofs only [zzfh, zzjy, zzcd, zzdn, zzlf, zzid, zzgi, Nat.reduceSub, Nat.reduceEqDiff, if_true, if_false, Nat.add_one_ne_zero]
  refine br_intro (fun b1 => ?_) (fun b1 => ?_)
  · simp -implicitDefEqProofs only [zzfp, zzft, zzfq, zzjy, zziu, zzja, zzjb, zzix, zzjd, zzdm, zzlf, zzid, zzgi, Nat.reduceSub, Nat.reduceEqDiff, if_true, if_false, Nat.add_one_ne_zero, zzib, zzdg]
    refine endK_raw ⟨?_, v, ?_, Frm.refl _ _ _⟩
    · simp only [putE2, b1, if_true]
    · simp only [putE2, b1, if_true]; exact h
  · simp -implicitDefEqProofs only [zzfu, zzfp, zzft, zzjq, zziu, zzdn, zzlf, zzid, zzgi, zzif, zzie, zzhz, List.map_cons, List.map_nil, Nat.reduceSub, Nat.reduceEqDiff, if_true, if_false, PV.fg, fgL, Nat.add_one_ne_zero, zzgf]
    refine kcall_intro (c116 h hle now) ?_
    rintro r H2 ⟨rfl, v2, hc2, hf2⟩
    have hlv := live_le es now
    have hP : putE2 room es m until_ now = if decide (((liveE es now).length : Int) ≥ room) then (53, liveE es now) else (0, liveE es now ++ [(m, until_)]) := by
      simp only [putE2, b1, Bool.false_eq_true, if_false]
    rw [hP]
    clear hP
    generalize liveE es now = lv at hc2 hlv ⊢
    have hc0 := hc2.cache
    have hel := hc2.el.len
    simp only [cacheC] at hc0
    simp -implicitDefEqProofs only [hc0, hel, zzfp, zzft, zzfh, zzjy, zzjk, zzcd, zziu, zzip, zziv, zzig, zzij, zzdn, zzlf, zzid, zzgi, zzhu, zzhr, zzjj, zzjg, zzgo, zzdl, zzho, zzdw, zzkf, zzlg, zzaz, zzao, zzai, Nat.reduceSub, Nat.reduceEqDiff, Nat.add_zero, Nat.zero_add, if_true, if_false, Nat.add_one_ne_zero, zzio]
    refine br_intro (fun b2 => ?_) (fun b2 => ?_)
    · simp -implicitDefEqProofs only [zzfp, zzft, zzfq, zzjy, zziu, zzja, zzjb, zzix, zzjd, zzdm, zzlf, zzid, zzgi, Nat.reduceSub, Nat.reduceEqDiff, if_true, if_false, Nat.add_one_ne_zero, zzib, zzdg]
      refine endK_raw ⟨?_, v2, ?_, hf2⟩
      · simp only [b2, ge_iff_le, if_true]
      · simp only [b2, ge_iff_le, if_true]; exact hc2
    · simp -implicitDefEqProofs only [hc0, zzfu, zzfp, zzft, zzjk, zziu, zzih, zzis, zzip, zziq, zziv, zzij, zzdn, zzlf, zzid, zzgi, zzhu, zzhr, zzlc, zzlb, zzce, zzky, zzji, zzjj, zzjg, zzgo, zzgp, zzdl, zzdi, zzbb, zzdk, zzdj, zzhx, zzba, zzbg, zzbf, zzkm, zzkn, zzkl, Nat.reduceBEq, zzko, zzif, zzie, zzhz, zzho, zzdw, zzhf, zzbw, zzca, List.map_cons, List.map_nil, List.length_cons, List.length_nil, Option.map_some, Nat.reduceAdd, Nat.reduceSub, Nat.reduceEqDiff, Nat.reduceLeDiff, Nat.zero_add, Bool.and_self, and_self, if_true, if_false, zzac, zzab, zzgs, zzgh, beq_self_eq_true, Nat.add_one_ne_zero, zzde, Term.eta, zzfc, Int.reduceBEq, zzke]
      have hy : [PV.agg [.scal (.int .i64 m.k), .scal (.string m.s), .scal (.int .i64 m.n), .list .foreign (encL m.l), .scal (.int .i64 until_)]] = ents [(m, until_)] := rfl
      rw [hy]
      have hcell : ∀ p ∈ ents [(m, until_)], p.cells.all cellP = true := by
        intro p hp
        simp only [ents, List.map_cons, List.map_nil, List.mem_singleton] at hp
        subst hp; rfl
      have fin : ∀ (b' cap' : Nat) (tl' : List PV) (H3 : PH), (elB v2 = some b' ∨ H2.get b' = none) → b' ≠ c → H3 = H2.set b' (.cells (flat (ents (lv ++ [(m, until_)])) ++ tl')) → (lv.length + 1) * 5 + tl'.length = cap' * 5 →
          Ch (H3.set c (.cells [.scal (.int .i64 room), mslc b' 0 (lv.length + 1) cap'])) c room (lv ++ [(m, until_)]) (mslc b' 0 (lv.length + 1) cap') ∧ Frm H1 c v (H3.set c (.cells [.scal (.int .i64 room), mslc b' 0 (lv.length + 1) cap'])) (mslc b' 0 (lv.length + 1) cap') := by
        rintro b' cap' tl' H3 hn hne rfl hl
        refine ⟨⟨get_same _ _ _, .inr ⟨b', cap', tl', by simp, by rw [PH.get_set, if_neg hne]; exact get_same _ _ _, by simpa using hl⟩, by rw [elB_m]; exact fun e => hne (by cases e; rfl)⟩, hf2.trans (Frm.two hn fun x hx => .inl (by rw [elB_m] at hx; cases hx; rfl))⟩
      have hone : (ents [(m, until_)]).length = 1 := rfl
      have stop : ∀ (b' cap' : Nat) (tl' : List PV) (H3 : PH), (elB v2 = some b' ∨ H2.get b' = none) → b' ≠ c → H3 = H2.set b' (.cells (flat (ents (lv ++ [(m, until_)])) ++ tl')) → (lv.length + 1) * 5 + tl'.length = cap' * 5 → H3.get c = some (.cells [.scal (.int .i64 room), v2]) := by
        rintro b' cap' tl' H3 hn hne rfl hl
        rw [PH.get_set, if_neg (fun e => hne e.symm)]; exact hc0
      rcases hc2.el with ⟨rfl, hnil⟩ | ⟨b, cap, tl, rfl, hb, hcap⟩
      · subst hnil
        refine xrun_app0 (by decide) (by simp [ents]) (ents_sz _) hcell (by rw [hone, lenB_eq]; decide) (by decide) ?_
        intro b' cap' pad hnew hl hpad
        have hne : b' ≠ c := fun e => by subst e; rw [hnew] at hc0; cases hc0
        have hH := stop b' cap' pad _ (.inr hnew) hne rfl (by rw [hone] at hl hpad; simp only [List.length_nil, Nat.zero_add]; omega)
        have hF := fin b' cap' pad _ (.inr hnew) hne rfl (by rw [hone] at hl hpad; simp only [List.length_nil, Nat.zero_add]; omega)
        simp only [List.nil_append, List.length_nil, Nat.zero_add] at hH hF
        rw [hone]
        generalize H2.set b' (.cells (flat (ents [(m, until_)]) ++ pad)) = H3 at hH hF ⊢
        have b2' : decide (room ≤ (0 : Int)) = false := b2
        simp -implicitDefEqProofs only [hH, zzfp, zzft, zzfq, zzjy, zzkd, zzjk, zzjl, zziu, zziv, zzij, zzja, zzjb, zzix, zzjd, zzdn, zzdm, zzlf, zzid, zzic, zzgi, zzce, zzjj, zzjg, zzkn, zzkl, Nat.reduceBEq, zzks, zzkq, zzah, zzho, zzdw, List.length_cons, List.length_nil, List.nil_append, List.all_cons, List.all_nil, Nat.reduceSub, Nat.reduceEqDiff, Nat.zero_add, Bool.and_self, and_self, if_true, if_false, Nat.add_one_ne_zero, zzib, zzdg, zzbh, Int.reduceBEq, zzhj, zzhi]
        refine endK_raw ⟨?_, _, ?_, hF.2⟩
        · simp only [b2', ge_iff_le, Bool.false_eq_true, if_false]
        · simp only [b2', ge_iff_le, Bool.false_eq_true, if_false]; exact hF.1
      · have hne : b ≠ c := fun e => hc2.ne (by rw [elB_m, e])
        refine xrun_appM (by decide) (by simp [ents]) (ents_sz _) hcell hb (by rw [hone, lenB_eq]; omega) (by decide) (by omega) (by simp only [List.length_append, fl_len]; omega) ?_ ?_
        · intro hin
          rw [hone] at hin ⊢
          have hsp : splice (flat (ents lv) ++ tl) (0 + lv.length * 5) (flat (ents [(m, until_)])) = flat (ents (lv ++ [(m, until_)])) ++ tl.drop 5 := by
            have := splice_mid (flat (ents [(m, until_)])) (flat (ents lv)) tl (by rw [fl_len]; simp only [List.length_cons, List.length_nil]; omega)
            rw [fl_len] at this
            rw [Nat.zero_add, this, ents_app, flat_app]
            rfl
          rw [hsp]
          have hH := stop b cap (tl.drop 5) _ (.inl (elB_m _ _ _ _)) hne rfl (by rw [List.length_drop]; omega)
          have hF := fin b cap (tl.drop 5) _ (.inl (elB_m _ _ _ _)) hne rfl (by rw [List.length_drop]; omega)
          generalize H2.set b (.cells (flat (ents (lv ++ [(m, until_)])) ++ tl.drop 5)) = H3 at hH hF ⊢
          simp -implicitDefEqProofs only [hH, zzfp, zzft, zzfq, zzjy, zzkd, zzjk, zzjl, zziu, zziv, zzij, zzja, zzjb, zzix, zzjd, zzdn, zzdm, zzlf, zzid, zzic, zzgi, zzce, zzjj, zzjg, zzkn, zzkl, Nat.reduceBEq, zzks, zzkq, zzah, zzho, zzdw, List.length_cons, List.length_nil, List.all_cons, List.all_nil, Nat.reduceSub, Nat.reduceEqDiff, Nat.zero_add, Bool.and_self, and_self, if_true, if_false, Nat.add_one_ne_zero, zzib, zzdg, Int.reduceBEq, zzhj, zzhi]
          refine endK_raw ⟨?_, _, ?_, hF.2⟩
          · simp only [b2, ge_iff_le, Bool.false_eq_true, if_false]
          · simp only [b2, ge_iff_le, Bool.false_eq_true, if_false]; exact hF.1
        · intro hlt b' cap' pad hnew hl hpad
          have hne' : b' ≠ c := fun e => by subst e; rw [hnew] at hc0; cases hc0
          rw [hone] at hl hpad ⊢
          have hsp : ((flat (ents lv) ++ tl).drop 0).take (lv.length * 5) ++ flat (ents [(m, until_)]) ++ pad = flat (ents (lv ++ [(m, until_)])) ++ pad := by
            rw [List.drop_zero, ← fl_len, List.take_left, ents_app, flat_app]
          rw [hsp]
          have hH := stop b' cap' pad _ (.inr hnew) hne' rfl (by omega)
          have hF := fin b' cap' pad _ (.inr hnew) hne' rfl (by omega)
          generalize H2.set b' (.cells (flat (ents (lv ++ [(m, until_)])) ++ pad)) = H3 at hH hF ⊢
          simp -implicitDefEqProofs only [hH, zzfp, zzft, zzfq, zzjy, zzkd, zzjk, zzjl, zziu, zziv, zzij, zzja, zzjb, zzix, zzjd, zzdn, zzdm, zzlf, zzid, zzic, zzgi, zzce, zzjj, zzjg, zzkn, zzkl, Nat.reduceBEq, zzks, zzkq, zzah, zzho, zzdw, List.length_cons, List.length_nil, List.all_cons, List.all_nil, Nat.reduceSub, Nat.reduceEqDiff, Nat.zero_add, Bool.and_self, and_self, if_true, if_false, Nat.add_one_ne_zero, zzib, zzdg, Int.reduceBEq, zzhj, zzhi]
          refine endK_raw ⟨?_, _, ?_, hF.2⟩
          · simp only [b2, ge_iff_le, Bool.false_eq_true, if_false]
          · simp only [b2, ge_iff_le, Bool.false_eq_true, if_false]; exact hF.1
end Go.Pv


set_option linter.unusedSimpArgs false
set_option linter.unusedVariables false
namespace Go.Pv
open Go.Proofs
/-! ### the acceptor's heap -/
def accC (name : ByteArray) (key : Term) (c : Nat) (tl : Tok) (lg : List PV) : List PV :=
  [.scal (.string name), .scal (.int .i64 key.k), .scal (.string key.s), .scal (.int .i64 key.n), .list .foreign (encL key.l), .ptr c 0, .list tl lg]
structure Acc (H : PH) (b c : Nat) (name : ByteArray) (key : Term) (room : Int) (es : List (Term × Int)) (te : PV) (lg : List PV) (tl : Tok) : Prop where
  acc : H.get b = some (.cells (accC name key c tl lg))
  ch : Ch H c room es te
  ne : b ≠ c
  gl : Grow H tl lg.length 10
  vb : elB te ≠ some b
  ap : ∀ x, elB te = some x → tokB tl ≠ some x
  sl : allSz 10 lg = true
theorem keep_at {tok tok' : Tok} {H H' : PH} (h : ∀ H0, Keep H0 tok H → Keep H0 tok' H') {x : Nat} {o : PObj} (hx : H.get x = some o) (hn : tokB tok ≠ some x) : H'.get x = some o ∧ tokB tok' ≠ some x := by
  refine h [(x, o)] ?_ x o (by rw [PH.get_cons, if_pos rfl])
  intro y o' hy
  rw [PH.get_cons] at hy
  split at hy
  · rename_i e; cases hy; subst e; exact ⟨hx, hn⟩
  · simp at hy
theorem Grow.not_cells {H : PH} {tok : Tok} {n sz b : Nat} {cs : List PV} (h : Grow H tok n sz) (hb : H.get b = some (.cells cs)) : tokB tok ≠ some b := by
  rcases h with rfl | ⟨b', t, rfl, h⟩
  · intro e; cases e
  · intro e; cases e; rw [h] at hb; cases hb
theorem Grow.set_cells {H : PH} {tok : Tok} {n sz b : Nat} {o : PObj} (h : Grow H tok n sz) (hb : tokB tok ≠ some b) : Grow (H.set b o) tok n sz := by
  rcases h with rfl | ⟨b', t, rfl, h⟩
  · exact .inl rfl
  · refine .inr ⟨b', t, rfl, ?_⟩
    rw [PH.get_set, if_neg (fun e => hb (by rw [e]; rfl))]; exact h
theorem Ch.set {H : PH} {c : Nat} {room : Int} {es : List (Term × Int)} {te : PV} (h : Ch H c room es te) {x : Nat} {o : PObj} (hc : x ≠ c) (hx : elB te ≠ some x) : Ch (H.set x o) c room es te :=
  ⟨by rw [PH.get_set, if_neg (fun e => hc e.symm)]; exact h.cache, h.el.set hx, h.ne⟩
theorem EL.get {H : PH} {v : PV} {es : List (Term × Int)} (h : EL H v es) {x : Nat} (hx : elB v = some x) : ∃ cs, H.get x = some (.cells cs) := by
  rcases h with ⟨rfl, rfl⟩ | ⟨b, cap, tl, rfl, hb, _⟩
  · cases hx
  · rw [elB_m] at hx; cases hx; exact ⟨_, hb⟩
/-- A cache beside a list that grows. -/
theorem Ch.beside {tok tok' : Tok} {H H5 : PH} {n sz c : Nat} {room : Int} {es : List (Term × Int)} {te : PV} (h : Ch H c room es te) (hg : Grow H tok n sz) (hK : ∀ H0, Keep H0 tok H → Keep H0 tok' H5) (ha : ∀ x, elB te = some x → tokB tok ≠ some x) :
    Ch H5 c room es te ∧ ∀ x, elB te = some x → tokB tok' ≠ some x := by
  have kc := keep_at hK h.cache (hg.not_cells h.cache)
  refine ⟨⟨kc.1, ?_, h.ne⟩, fun x hx => ?_⟩
  · rcases h.el with h0 | ⟨b, cap, tl, rfl, hb, hl⟩
    · exact .inl h0
    · exact .inr ⟨b, cap, tl, rfl, (keep_at hK hb (hg.not_cells hb)).1, hl⟩
  · obtain ⟨cs, hcs⟩ := h.el.get hx
    exact (keep_at hK hcs (hg.not_cells hcs)).2
/-- An acceptor, its cache turned. -/
theorem Acc.put {H H' : PH} {b c : Nat} {name : ByteArray} {key : Term} {room : Int} {es es' : List (Term × Int)} {te te' : PV} {lg : List PV} {tl : Tok} (h : Acc H b c name key room es te lg tl) (hc : Ch H' c room es' te') (hf : Frm H c te H' te') : Acc H' b c name key room es' te' lg tl := by
  refine ⟨hf.keep _ _ h.acc h.ne h.vb, hc, h.ne, ?_, ?_, ?_, h.sl⟩
  · rcases h.gl with e | ⟨b', t, e, hb⟩
    · exact .inl e
    · refine .inr ⟨b', t, e, hf.keep _ _ hb ?_ ?_⟩
      · intro e2; subst e2; rw [h.ch.cache] at hb; cases hb
      · intro e2; exact h.ap _ e2 (by rw [e]; rfl)
  · intro e
    rcases hf.new _ e with e2 | e2
    · exact h.vb e2
    · rw [h.acc] at e2; cases e2
  · intro x hx e
    rcases hf.new _ hx with e2 | e2
    · exact h.ap _ e2 e
    · rcases h.gl with e3 | ⟨b', t, e3, hb⟩
      · rw [e3] at e; cases e
      · rw [e3] at e; cases e; rw [hb] at e2; cases e2
set_option maxRecDepth 10000 in
theorem c14 (name : ByteArray) (key : Term) (room : Int) (H : PH) : PCalls Tryz.prog 14 [.scal (.string name), enc key, .scal (.int .i64 room)] H fun r H' => ∃ b c, r = .ptr b 0 ∧ Acc H' b c name key (if 0 > room then 0 else room) [] (.list .full []) [] .full := by
  refine calls_of hmix Tryz.func14 ok14 (by simp) ?_
  simp -implicitDefEqProofs only [rc14, go_sreg, zzfp, zzft, zzjy, zzjo, zzbd, zzjq, zzjk, zziu, zziq, zzdn, zzdm, zzlf, zzid, zzgi, zzhu, zzhr, zzlc, zzlb, zzce, zzky, zzji, zzgp, zzdi, zzif, zzie, zzhz, List.map_cons, List.map_nil, List.length_nil, List.nil_append, Option.map_some, Nat.reduceAdd, Nat.reduceSub, Nat.reduceEqDiff, if_true, if_false, PV.fg, fgL, Nat.add_one_ne_zero, zzgf, zzde, Term.eta, zzfc]
  refine ⟨⟨trivial, trivial⟩, ?_⟩
  refine kcall_intro (c61 room H) ?_
  rintro r H1 ⟨c, hc, rfl, rfl⟩
  simp -implicitDefEqProofs only [zzjp, zzbe, zzjk, zzih, zzdn, zzlf, zzid, zzgi, zzce, zzdi, zzbb, zzdk, zzdj, zzhx, zzba, zzbg, zzbf, zzkm, zzkn, Nat.reduceBEq, zzko, zzbw, zzca, zzbz, List.length_cons, List.length_nil, Nat.reduceAdd, Nat.reduceSub, Nat.reduceEqDiff, Nat.zero_add, if_true, if_false, Nat.add_one_ne_zero, zzjp, zzbe, zzde, Int.reduceBEq]
  refine bH_intro fun b hb => ?_
  simp -implicitDefEqProofs only [zzfq, zzjy, zziu, zzja, zzjb, zzix, zzjd, zzdn, zzlf, zzid, zzgi, Nat.reduceSub, Nat.reduceEqDiff, if_true, if_false, Nat.add_one_ne_zero, zzib, zzdg]
  have hbc : b ≠ c := fun e => by subst e; rw [PH.get_set, if_pos rfl] at hb; cases hb
  refine endK_raw ⟨b, c, rfl, ?_, ⟨?_, .inl ⟨rfl, rfl⟩, by simp [elB]⟩, hbc, .inl rfl, by simp [elB], fun _ h => (by cases h), rfl⟩
  · rw [PH.get_set, if_pos rfl]; rfl
  · rw [PH.get_set, if_neg (fun e => hbc e.symm), PH.get_set, if_pos rfl]
set_option maxRecDepth 10000 in
theorem c16 {H : PH} {b c : Nat} {name : ByteArray} {key : Term} {room : Int} {es : List (Term × Int)} {te : PV} {lg : List PV} {tl : Tok} (h : Acc H b c name key room es te lg tl) (key' : Term) :
    PCalls Tryz.prog 16 [.ptr b 0, enc key'] H fun r H' => r = .tup [] ∧ Acc H' b c name key' room es te lg tl := by
  refine calls_of hmix Tryz.func16 ok16 (by simp) ?_
  have hb := h.acc
  simp only [accC] at hb
  simp -implicitDefEqProofs only [rc16, hb, zzfo, zzfp, zzft, zzjy, zzjo, zzbd, zzkd, zzjk, zzjl, zziu, zziq, zziv, zzij, zzja, zzjc, zzdn, zzlf, zzid, zzic, zzgi, zzhu, zzhr, zzlc, zzlb, zzce, zzky, zzji, zzjj, zzjg, zzgp, zzdi, zzkm, zzkn, Nat.reduceBEq, zzko, zzks, zzkq, zzah, zzho, zzdw, List.length_cons, List.length_nil, List.nil_append, List.all_cons, List.all_nil, zzbv, zzbt, zzbr, zzbs, Option.map_some, Nat.reduceAdd, Nat.reduceSub, Nat.reduceEqDiff, Nat.zero_add, Bool.and_self, and_self, if_true, if_false, Nat.add_one_ne_zero, zzia, zzdg, zzde, Term.eta, zzfc, Int.reduceBEq]
  have hnl := h.gl.not_cells h.acc
  refine endK_raw ⟨rfl, ?_, h.ch.set h.ne h.vb, h.ne, h.gl.set_cells hnl, h.vb, h.ap, h.sl⟩
  rw [PH.get_set, if_pos rfl]; rfl
set_option maxRecDepth 10000 in
theorem c23 {H : PH} {b c : Nat} {name : ByteArray} {key : Term} {room : Int} {es : List (Term × Int)} {te : PV} {lg : List PV} {tl : Tok} (h : Acc H b c name key room es te lg tl) :
    PCalls Tryz.prog 23 [.ptr b 0] H fun r H' => r = .list .foreign (fgL lg) ∧ Acc H' b c name key room es te [] .full := by
  refine calls_of hmix Tryz.func23 ok23 (by simp) ?_
  have hb := h.acc
  simp only [accC] at hb
  simp -implicitDefEqProofs only [rc23, hb, zzfp, zzft, zzfq, zzjy, zzkd, zzjk, zzjl, zziu, zzip, zziv, zzij, zzja, zzjb, zzix, zzjd, zzdn, zzdm, zzlf, zzid, zzic, zzgi, zzhu, zzhr, zzce, zzjj, zzjg, zzgo, zzdl, zzkn, zzkl, Nat.reduceBEq, zzks, zzkq, zzah, zzho, zzdw, zzby, List.length_cons, List.length_nil, List.all_cons, List.all_nil, zzbt, Nat.reduceSub, Nat.reduceEqDiff, Nat.zero_add, Bool.and_self, and_self, if_true, if_false, Nat.add_one_ne_zero, zzib, zzdg, Int.reduceBEq]
  refine ⟨_, HLe.refl _, _, .inl rfl, ?_, ?_, h.ch.set h.ne h.vb, h.ne, .inl rfl, h.vb, fun _ _ e => (by cases e), rfl⟩
  · rfl
  · rw [PH.get_set, if_pos rfl]; rfl
/-- All cells but one block's stay. -/
def Kx (H : PH) (b : Nat) (H' : PH) : Prop := ∀ x cs, x ≠ b → H.get x = some (.cells cs) → H'.get x = some (.cells cs)
theorem Kx.refl (H : PH) (b : Nat) : Kx H b H := fun _ _ _ h => h
theorem Kx.of {tok tok' : Tok} {H H5 : PH} {n sz b : Nat} {o : PObj} (hg : Grow H tok n sz) (hK : ∀ H0, Keep H0 tok H → Keep H0 tok' H5) : Kx H b (H5.set b o) := by
  intro x cs hx h
  rw [PH.get_set, if_neg hx]
  exact (keep_at hK h (hg.not_cells h)).1
/-- What is noted. -/
structure Tn where
  auth : Au
  tick : Tk
  term : Term
def encX (x : Tn) : PV := .agg [.scal (.string x.auth.user), .list .foreign (ints x.auth.groups), .scal (.int .i64 x.auth.origin), .list .foreign (strs x.auth.transited), .scal (.string x.auth.service), .scal (.bool x.auth.fwd), .scal (.int .i64 x.auth.to),
  .scal (.string x.tick.service), .scal (.int .i64 x.tick.flags), .scal (.int .i64 x.tick.key.k), .scal (.string x.tick.key.s), .scal (.int .i64 x.tick.key.n), .list .foreign (encL x.tick.key.l), .scal (.string x.tick.client), .scal (.int .i64 x.tick.span.lo), .scal (.int .i64 x.tick.span.hi), .scal (.int .i64 x.tick.auth.k), .scal (.string x.tick.auth.s), .scal (.int .i64 x.tick.auth.n), .list .foreign (encL x.tick.auth.l),
  .scal (.int .i64 x.term.k), .scal (.string x.term.s), .scal (.int .i64 x.term.n), .list .foreign (encL x.term.l)]
theorem encX_cells (x : Tn) : (encX x).cells = [.scal (.string x.auth.user), .list .foreign (ints x.auth.groups), .scal (.int .i64 x.auth.origin), .list .foreign (strs x.auth.transited), .scal (.string x.auth.service), .scal (.bool x.auth.fwd), .scal (.int .i64 x.auth.to),
  .scal (.string x.tick.service), .scal (.int .i64 x.tick.flags), .scal (.int .i64 x.tick.key.k), .scal (.string x.tick.key.s), .scal (.int .i64 x.tick.key.n), .list .foreign (encL x.tick.key.l), .scal (.string x.tick.client), .scal (.int .i64 x.tick.span.lo), .scal (.int .i64 x.tick.span.hi), .scal (.int .i64 x.tick.auth.k), .scal (.string x.tick.auth.s), .scal (.int .i64 x.tick.auth.n), .list .foreign (encL x.tick.auth.l),
  .scal (.int .i64 x.term.k), .scal (.string x.term.s), .scal (.int .i64 x.term.n), .list .foreign (encL x.term.l)] := nr rfl
def evP (now : Int) (name : ByteArray) (x : Tn) (e : Int) : PV :=
  if e != 0 then .agg [.scal (.int .i64 5), .scal (.int .i64 now), .scal (.string ⟨#[]⟩), .scal (.string ⟨#[]⟩), .scal (.string name), .list .full [], .scal (.int .i64 0), .scal (.int .i64 0), .scal (.bool false), .scal (.int .i64 e)]
  else .agg [.scal (.int .i64 4), .scal (.int .i64 now), .scal (.string x.auth.user), .scal (.string x.tick.client), .scal (.string name), .list .foreign (strs x.auth.transited), .scal (.int .i64 x.tick.flags), .scal (.int .i64 x.auth.to), .scal (.bool false), .scal (.int .i64 0)]
theorem evP_sz (now : Int) (name : ByteArray) (x : Tn) (e : Int) : (evP now name x e).cells.length = 10 := by unfold evP; split <;> rfl
theorem evP_ok (now : Int) (name : ByteArray) (x : Tn) (e : Int) : ((evP now name x e).cells.all cellP) = true := by unfold evP; split <;> rfl
set_option maxRecDepth 10000 in
theorem c64 {H : PH} {b c : Nat} {name : ByteArray} {key : Term} {room : Int} {es : List (Term × Int)} {te : PV} {lg : List PV} {tl : Tok} (h : Acc H b c name key room es te lg tl) (hlen : lg.length < 1000000) (now : Int) (x : Tn) (e : Int) :
    PCalls Tryz.prog 64 [.ptr b 0, .scal (.int .i64 now), encX x, .scal (.int .i64 e)] H fun r H' => r = .tup [] ∧ Kx H b H' ∧ ∃ tl', Acc H' b c name key room es te (lg ++ [evP now name x e]) tl' := by
  refine calls_of hmix Tryz.func64 ok64 (by simp) ?_
  have hb := h.acc
  simp only [accC] at hb
  have done : ∀ tl' H5, Grow H5 tl' (lg.length + [evP now name x e].length) 10 → (∀ H0, Keep H0 tl H → Keep H0 tl' H5) → Acc (H5.set b (.cells (accC name key c tl' (lg ++ [evP now name x e])))) b c name key room es te (lg ++ [evP now name x e]) tl' := by
    intro tl' H5 hG5 hK5
    have hnb := h.gl.not_cells h.acc
    have kb := keep_at hK5 h.acc hnb
    have ke := h.ch.beside h.gl hK5 h.ap
    refine ⟨by rw [PH.get_set, if_pos rfl], ke.1.set h.ne h.vb, h.ne, ?_, h.vb, ke.2, ?_⟩
    · refine Grow.set_cells ?_ kb.2
      rw [List.length_append]; exact hG5
    · rw [allSz_iff]
      intro p hp
      rcases List.mem_append.1 hp with hp | hp
      · exact allSz_iff.1 h.sl p hp
      · rw [List.mem_singleton] at hp; subst hp; exact evP_sz _ _ _ _
  simp -implicitDefEqProofs only [rc64, encX_cells, zzfp, zzft, zzfh, zzjy, zzjo, zzbd, zzjk, zzcd, zziu, zzig, zzdn, zzdm, zzlf, zzid, zzgi, zzkf, zzlg, zzaz, zzas, zzai, List.length_nil, List.nil_append, Nat.reduceSub, Nat.reduceEqDiff, if_true, if_false, Nat.add_one_ne_zero]
  refine br_intro (fun b1 => ?_) (fun b1 => ?_)
  · have hev : evP now name x e = .agg [.scal (.int .i64 5), .scal (.int .i64 now), .scal (.string ⟨#[]⟩), .scal (.string ⟨#[]⟩), .scal (.string name), .list .full [], .scal (.int .i64 0), .scal (.int .i64 0), .scal (.bool false), .scal (.int .i64 e)] := by simp only [evP, b1, if_true]
    simp -implicitDefEqProofs only [hb, zzjw, zzfp, zzft, zzjk, zziu, zzih, zzis, zzip, zziv, zzij, zzdn, zzdm, zzlf, zzid, zzgi, zzhu, zzhr, zzce, zzjj, zzjg, zzgo, zzdl, zzdi, zzbb, zzdk, zzdj, zzhx, zzba, zzbg, zzbf, zzkm, zzkn, zzkl, Nat.reduceBEq, zzko, zzif, zzie, zzhz, zzho, zzdw, zzaf, zzhf, zzbw, zzca, List.map_cons, List.map_nil, List.length_cons, List.length_nil, Nat.reduceAdd, Nat.reduceSub, Nat.reduceEqDiff, Nat.reduceLeDiff, Nat.add_zero, Nat.zero_add, Bool.and_self, and_self, if_true, if_false, zzac, zzab, zzgs, zzgh, beq_self_eq_true, Nat.add_one_ne_zero, zzjw, Int.reduceBEq]
    rw [← hev]
    refine kapp_keep (ys := [evP now name x e]) h.gl h.sl (by rw [allSz_iff]; intro p hp; rw [List.mem_singleton] at hp; subst hp; exact evP_sz _ _ _ _) (by rw [lenB_eq]; simp only [List.length_cons, List.length_nil]; omega) (by decide) (by simp) (by decide) (by simp only [List.all_cons, List.all_nil, Bool.and_true]; exact evP_ok _ _ _ _) ?_
    intro tl' H5 hG5 hK5
    have hc5 := (keep_at hK5 h.acc (h.gl.not_cells h.acc)).1
    simp only [accC] at hc5
    simp -implicitDefEqProofs only [hc5, zzfq, zzjy, zzkd, zzjk, zzjl, zziv, zzij, zzja, zzjc, zzdn, zzlf, zzid, zzic, zzgi, zzce, zzjj, zzjg, zzkn, zzkl, Nat.reduceBEq, zzks, zzkq, zzah, zzho, zzdw, zzby, List.length_cons, List.length_nil, List.all_cons, List.all_nil, zzbt, Nat.reduceSub, Nat.reduceEqDiff, Nat.zero_add, Bool.and_self, and_self, if_true, if_false, Nat.add_one_ne_zero, zzib, zzdg, Int.reduceBEq]
    exact endK_raw ⟨rfl, Kx.of h.gl hK5, tl', done tl' H5 hG5 hK5⟩
  · have he : e = 0 := by simpa using b1
    have hev : evP now name x e = .agg [.scal (.int .i64 4), .scal (.int .i64 now), .scal (.string x.auth.user), .scal (.string x.tick.client), .scal (.string name), .list .foreign (strs x.auth.transited), .scal (.int .i64 x.tick.flags), .scal (.int .i64 x.auth.to), .scal (.bool false), .scal (.int .i64 0)] := by simp only [evP, b1, Bool.false_eq_true, if_false]
    simp -implicitDefEqProofs only [hb, zzfu, zzfp, zzjr, zzjk, zziu, zzip, zziv, zzij, zzdn, zzlf, zzid, zzgi, zzhu, zzhr, zzji, zzjj, zzjg, zzgo, zzdl, zzif, zzie, zzhz, zzho, zzdv, zzdw, List.map_cons, List.map_nil, Option.map_some, Nat.reduceAdd, Nat.reduceSub, Nat.reduceEqDiff, Nat.add_zero, Nat.zero_add, if_true, if_false, PV.fg, fgL, zzkt, Nat.add_one_ne_zero, zzhy]
    refine qcall_intro (c92 _) ?_
    simp -implicitDefEqProofs only [zzjw, zzjk, zzih, zzis, zzip, zzij, zzdn, zzdm, zzlf, zzid, zzgi, zzhu, zzhr, zzce, zzji, zzgo, zzdl, zzdi, zzbb, zzdk, zzdj, zzhx, zzba, zzbg, zzbf, zzkm, zzkn, Nat.reduceBEq, zzko, zzif, zzie, zzhz, zzdv, zzaf, zzhf, zzbw, zzca, zzby, List.map_cons, List.map_nil, List.length_cons, List.length_nil, Option.map_some, Nat.reduceAdd, Nat.reduceSub, Nat.reduceEqDiff, Nat.reduceLeDiff, Nat.add_zero, Nat.zero_add, Bool.and_self, and_self, if_true, if_false, zzac, zzab, zzgs, zzgh, beq_self_eq_true, Nat.add_one_ne_zero, zzjw, Int.reduceBEq]
    rw [← hev]
    refine kapp_keep (ys := [evP now name x e]) h.gl h.sl (by rw [allSz_iff]; intro p hp; rw [List.mem_singleton] at hp; subst hp; exact evP_sz _ _ _ _) (by rw [lenB_eq]; simp only [List.length_cons, List.length_nil]; omega) (by decide) (by simp) (by decide) (by simp only [List.all_cons, List.all_nil, Bool.and_true]; exact evP_ok _ _ _ _) ?_
    intro tl' H5 hG5 hK5
    have hc5 := (keep_at hK5 h.acc (h.gl.not_cells h.acc)).1
    simp only [accC] at hc5
    simp -implicitDefEqProofs only [hc5, zzfo, zzjy, zzkd, zzjk, zzjl, zziv, zzij, zzja, zzjc, zzdn, zzlf, zzid, zzic, zzgi, zzce, zzjj, zzjg, zzkn, zzkl, Nat.reduceBEq, zzks, zzkq, zzah, zzho, zzdw, zzby, List.length_cons, List.length_nil, List.all_cons, List.all_nil, zzbt, Nat.reduceSub, Nat.reduceEqDiff, Nat.zero_add, Bool.and_self, and_self, if_true, if_false, Nat.add_one_ne_zero, zzia, zzdg, Int.reduceBEq]
    exact endK_raw ⟨rfl, Kx.of h.gl hK5, tl', done tl' H5 hG5 hK5⟩
def whoT (name : ByteArray) (key : Term) (now : Int) (k : Tk) : Au × Int :=
  if !seqB k.service name then (zA, 50) else
  if checkS k.span now 0 != 0 then (zA, checkS k.span now 0) else
  if (serverT k.auth key).2 != 0 then (zA, (serverT k.auth key).2) else
  if !seqB (serverT k.auth key).1.service name then (zA, 62) else
  if !seqB (serverT k.auth key).1.user k.client then (zA, 51) else
  if decide ((serverT k.auth key).1.to ≤ now) then (zA, 32) else ((serverT k.auth key).1, 0)
set_option maxRecDepth 10000 in
theorem c66 {H : PH} {b c : Nat} {name : ByteArray} {key : Term} {room : Int} {es : List (Term × Int)} {te : PV} {lg : List PV} {tl : Tok} (h : Acc H b c name key room es te lg tl) (now : Int) (k : Tk) :
    PCalls Tryz.prog 66 [.ptr b 0, .scal (.int .i64 now), encK k] H fun r H' => r = .tup [encA (whoT name key now k).1, .scal (.int .i64 (whoT name key now k).2)] ∧ H' = H := by
  obtain ⟨sv, fl, ky, cl, ⟨lo, hi⟩, au⟩ := k
  refine calls_of hmix Tryz.func66 ok66 (by simp) ?_
  have hb := h.acc
  simp only [accC] at hb
  try simp -implicitDefEqProofs only [rc66, hb, zzfp, zzft, zzfh, zzjy, zzjm, zzjo, zzbd, zzjk, zzcd, zziu, zzip, zziv, zzig, zzij, zzdn, zzdm, zzlf, zzid, zzgi, zzhu, zzhr, zzji, zzjj, zzjg, zzgo, zzdl, zzho, zzdv, zzdw, zzkf, zzlg, zzaz, zzaw, zzai, List.length_cons, List.length_nil, List.cons_append, List.nil_append, Option.map_some, Nat.reduceSub, Nat.reduceEqDiff, Nat.add_zero, Nat.zero_add, if_true, if_false, Nat.add_one_ne_zero, zzcr]
  repeat' (first
    | (refine br_intro (fun h => ?_) (fun h => ?_) <;> try simp -implicitDefEqProofs only [h, hb, zzfu, zzfp, zzft, zzfh, zzfe, zzfq, zzjy, zzkd, zzjr, zzjk, zzjl, zzcd, zziu, zzih, zzip, zziq, zziv, zzig, zzij, zzja, zzjb, zziz, zzix, zzje, zzdn, zzdm, zzlf, zzid, zzic, zzgi, zzhu, zzhr, zzlc, zzlb, zzce, zzky, zzji, zzjj, zzjg, zzgo, zzgp, zzdl, zzdi, zzbb, zzdk, zzbg, zzkl, zzkr, zzkq, zzag, zzki, zzif, zzie, zzhz, zzho, zzdv, zzdw, zzkf, zzlg, zzaz, zzao, zzaw, zzai, zzbw, List.map_cons, List.map_nil, List.length_cons, List.length_nil, List.all_cons, List.all_nil, zzbv, zzbt, zzbr, zzbq, zzbs, Option.map_some, Nat.reduceAdd, Nat.reduceSub, Nat.reduceEqDiff, Nat.add_zero, Nat.zero_add, Bool.and_self, and_self, if_true, if_false, PV.fg, fgL, zzdf, Nat.add_one_ne_zero, zzhy, zzib, zzdg, Term.eta, zzfc, zzdc, zzfb, zzcg, zzec])
    | (refine qcall_intro (c113 _ _ _ neg0) ?_; try simp -implicitDefEqProofs only [zzfp, zzft, zzfh, zzjy, zzjk, zzcd, zziu, zzig, zzdn, zzdm, zzlf, zzid, zzgi, zzkf, zzlg, zzaz, zzas, zzai, Nat.reduceSub, Nat.reduceEqDiff, if_true, if_false, Nat.add_one_ne_zero])
    | (refine qcall_intro (c109 _ _) ?_; try simp -implicitDefEqProofs only [zzfp, zzft, zzfh, zzff, zzjy, zzjm, zzkd, zzjk, zzjl, zzcd, zziu, zzig, zzii, zzdn, zzdm, zzlf, zzid, zzic, zzgi, zzhu, zzhr, zzji, zzdl, zzkl, zzkr, zzkq, zzag, zzki, zzdt, zzkf, zzlg, zzaz, zzas, zzai, List.length_cons, List.length_nil, List.cons_append, List.nil_append, List.all_cons, List.all_nil, zzbv, zzbt, zzbr, zzbq, zzbs, Option.map_some, Nat.reduceAdd, Nat.reduceSub, Nat.reduceEqDiff, Nat.zero_add, Bool.and_self, and_self, if_true, if_false, Nat.add_one_ne_zero, zzcg]))
  all_goals refine endK_intro ⟨?_, rfl⟩
  all_goals simp only [retV, PV.fg, fgL, zzgj, zzkt]
  all_goals clear hb
  all_goals simp only [whoT, zA, encA, *, Bool.true_and, Bool.false_and, Bool.and_true, Bool.and_false, Bool.true_or, Bool.false_or, Bool.or_true, Bool.or_false, Bool.not_true, Bool.not_false, Bool.not_not, decide_true, decide_false, if_true, if_false, Bool.false_eq_true, reduceIte, and_self, and_true, true_and, beq_self_eq_true, bne_self_eq_false, decide_not]
  all_goals first | rfl | simp only [PV.fg, fgL, zzgj, zzkt]
end Go.Pv


set_option linter.unusedSimpArgs false
set_option linter.unusedVariables false
namespace Go.Pv
open Go.Proofs
def timeR (n : Int) : Bool := decide (0 ≤ n) && decide (n ≤ 1099511627776)
theorem timeR_ok (n : Int) : timeR n = timeOk n := by
  rw [Bool.eq_iff_iff]
  simp only [timeR, timeOk, Bool.and_eq_true, decide_eq_true_eq, Bool.not_eq_true', Bool.or_eq_false_iff, decide_eq_false_iff_not]
  omega
set_option maxRecDepth 10000 in
theorem c139 (n : Int) : PPure Tryz.prog 139 [.scal (.int .i64 n)] (.scal (.bool (timeOk n))) := by
  rw [← timeR_ok]
  refine pure_of hmix Tryz.func139 ok139 (by simp) ?_
  try simp -implicitDefEqProofs only [rc139, zzfp, zzft, zzjy, zzjv, zzjk, zzgd, zziu, zzig, zzdn, zzdm, zzlf, zzid, zzgi, zzkf, zzlg, zzaz, zzao, zzai, Nat.reduceSub, Nat.reduceEqDiff, if_true, if_false, Nat.add_one_ne_zero]
  repeat' (first
    | (refine br_intro (fun h => ?_) (fun h => ?_) <;> try simp -implicitDefEqProofs only [h, zzfq, zzjy, zzjv, zzjz, zzjk, zzcd, zzgd, zziu, zzig, zzeb, zzdh, zzja, zzjb, zzix, zzjd, zzdn, zzdm, zzlf, zzid, zzgi, zzkf, zzlg, zzaz, zzaq, zzai, br_true, br_false, Nat.reduceSub, Nat.reduceEqDiff, if_true, if_false, PV.fg, Nat.add_one_ne_zero]))
  all_goals simp only [timeR, *, Bool.true_and, Bool.false_and, Bool.and_true, Bool.and_false, Bool.true_or, Bool.false_or, Bool.or_true, Bool.or_false, Bool.not_true, Bool.not_false, Bool.not_not, decide_true, decide_false, if_true, if_false, Bool.false_eq_true, reduceIte, and_self, and_true, true_and, beq_self_eq_true, bne_self_eq_false, decide_not]
set_option maxRecDepth 10000 in
theorem c102 (a b skew : Int) : PPure Tryz.prog 102 [.scal (.int .i64 a), .scal (.int .i64 b), .scal (.int .i64 skew)] (.scal (.bool (nearT a b skew))) := by
  refine pure_of hmix Tryz.func102 ok102 (by simp) ?_
  have key : nearT a b skew = (timeOk a && (timeOk b && (timeOk skew && (decide (IntKind.i64.wrap (a - b) ≤ skew) && decide (IntKind.i64.wrap (b - a) ≤ skew))))) := by
    simp only [nearT]
    cases ha : timeOk a with
    | false => rfl
    | true =>
      cases hb : timeOk b with
      | false => rfl
      | true =>
        have r1 := time_rng ha
        have r2 := time_rng hb
        rw [wrap_of (by omega) (by omega), wrap_of (by omega) (by omega)]
        cases timeOk skew with
        | false => rfl
        | true =>
          simp only [Bool.true_and]
          rw [Bool.eq_iff_iff]
          simp only [decide_eq_true_eq, Bool.and_eq_true]
          split <;> omega
  rw [key]
  try simp -implicitDefEqProofs only [rc102, zzfp, zzft, zzjy, zzjr, zziu, zzdn, zzdm, zzlf, zzid, zzgi, zzif, zzie, zzhz, List.map_cons, List.map_nil, Nat.reduceSub, Nat.reduceEqDiff, if_true, if_false, PV.fg, fgL, Nat.add_one_ne_zero, zzhy]
  repeat' (first
    | (refine br_intro (fun h => ?_) (fun h => ?_) <;> try simp -implicitDefEqProofs only [h, zzfq, zzjy, zzjv, zzjz, zzjr, zzjk, zzcd, zzgd, zziu, zzig, zzeb, zzdh, zzja, zzjb, zzix, zzjd, zzdn, zzdm, zzlf, zzid, zzgi, zzif, zzie, zzhz, zzkf, zzlg, zzaz, zzaq, zzau, zzai, zzaj, br_true, br_false, List.map_cons, List.map_nil, Nat.reduceSub, Nat.reduceEqDiff, if_true, if_false, true_and, PV.fg, fgL, Bool.true_and, Nat.add_one_ne_zero, zzhy])
    | (refine qcall_intro (c139 _) ?_; try simp -implicitDefEqProofs only [zzjv, zzjz, zzcd, zzgd, zziu, zzdn, zzlf, zzid, zzgi, br_true, Nat.reduceSub, Nat.reduceEqDiff, if_true, if_false, Nat.add_one_ne_zero]))
  all_goals simp only [*, Bool.true_and, Bool.false_and, Bool.and_true, Bool.and_false, Bool.true_or, Bool.false_or, Bool.or_true, Bool.or_false, Bool.not_true, Bool.not_false, Bool.not_not, decide_true, decide_false, if_true, if_false, Bool.false_eq_true, reduceIte, and_self, and_true, true_and, beq_self_eq_true, bne_self_eq_false, decide_not]
set_option maxRecDepth 10000 in
theorem c118 (s : Sp) (at_ : Int) : PPure Tryz.prog 118 [encS s, .scal (.int .i64 at_), .scal (.int .i64 0)] (.scal (.int .i64 (checkS s at_ 0))) := by
  obtain ⟨lo, hi⟩ := s
  refine pure_of hmix Tryz.func118 ok118 (by simp) ?_
  have t0 : timeOk 0 = true := by decide
  have key : checkS ⟨lo, hi⟩ at_ 0 = if !spanOk ⟨lo, hi⟩ then 1 else if !timeOk at_ then 1 else if decide (IntKind.i64.wrap (at_ + 0) < lo) then 31 else if decide (hi ≤ IntKind.i64.wrap (at_ - 0)) then 32 else 0 := by
    unfold checkS
    rw [t0]
    cases hs : spanOk ⟨lo, hi⟩ with
    | false => rfl
    | true =>
      cases ht : timeOk at_ with
      | false => rfl
      | true =>
        have r := time_rng ht
        rw [wrap_of (by omega) (by omega), wrap_of (by omega) (by omega)]
        simp only [Bool.not_true, Bool.and_self, Bool.or_self, Bool.false_eq_true, if_false, decide_eq_true_eq, Int.neg_zero, Int.add_zero, Int.sub_zero]
        by_cases h1 : at_ < lo
        · rw [if_pos (by omega), if_pos h1]
        · rw [if_neg (by omega), if_neg h1]
          by_cases h2 : hi ≤ at_
          · rw [if_pos (by omega), if_pos h2]
          · rw [if_neg (by omega), if_neg h2]
  rw [key]
  try simp -implicitDefEqProofs only [rc118, zzfp, zzft, zzjy, zzjo, zzbd, zzjr, zzjk, zziu, zziq, zzdn, zzdm, zzlf, zzid, zzgi, zzhu, zzhr, zzlc, zzlb, zzce, zzky, zzji, zzgp, zzdi, zzif, zzie, zzhz, List.map_cons, List.map_nil, List.length_nil, List.nil_append, Option.map_some, Nat.reduceAdd, Nat.reduceSub, Nat.reduceEqDiff, if_true, if_false, fgL, Nat.add_one_ne_zero, zzhy, zzdb, zzdc, zzfb]
  repeat' (first
    | (refine br_intro (fun h => ?_) (fun h => ?_) <;> try simp -implicitDefEqProofs only [h, zzfu, zzfp, zzft, zzfh, zzfq, zzjy, zzjv, zzjz, zzjr, zzjk, zzcd, zzgc, zziu, zzip, zzig, zzij, zzeb, zzdh, zzja, zzjb, zzix, zzjd, zzdn, zzdm, zzlf, zzid, zzgi, zzhu, zzhr, zzji, zzgo, zzdl, zzif, zzie, zzhz, zzdv, zzkf, zzlg, zzaz, zzao, zzau, zzai, zzaj, br_true, br_false, List.map_cons, List.map_nil, Option.map_some, Nat.reduceSub, Nat.reduceEqDiff, Nat.zero_add, if_true, if_false, PV.fg, fgL, Nat.add_one_ne_zero, zzhy, Bool.false_eq_true])
    | (refine qcall_intro (c140 _) ?_; try simp -implicitDefEqProofs only [zzjv, zzjk, zzgc, zziu, r_un, zzdn, zzlf, zzid, zzgi, zzle, Nat.reduceSub, Nat.reduceEqDiff, if_true, if_false, Nat.add_one_ne_zero])
    | (refine qcall_intro (c139 _) ?_; try simp -implicitDefEqProofs only [t0, zzfu, zzfp, zzft, zzfh, zzjy, zzjv, zzjz, zzjk, zzcd, zzgc, zziu, zzip, zzig, r_un, zzij, zzdn, zzlf, zzid, zzgi, zzhu, zzhr, zzji, zzgo, zzdl, zzdv, zzkf, zzlg, zzaz, zzle, zzar, zzal, zzai, zzaj, br_false, Option.map_some, Nat.reduceSub, Nat.reduceEqDiff, Nat.add_zero, if_true, if_false, Nat.add_one_ne_zero, Bool.not_true]))
  all_goals simp only [*, Bool.true_and, Bool.false_and, Bool.and_true, Bool.and_false, Bool.true_or, Bool.false_or, Bool.or_true, Bool.or_false, Bool.not_true, Bool.not_false, Bool.not_not, decide_true, decide_false, if_true, if_false, Bool.false_eq_true, reduceIte, and_self, and_true, true_and, beq_self_eq_true, bne_self_eq_false, decide_not]
set_option maxRecDepth 10000 in
theorem c143 (k : Term) (u : Int) (b : Term) : PPure Tryz.prog 143 [enc k, .scal (.int .i64 u), enc b] (enc (sumT k u b)) := by
  refine pure_of hmix Tryz.func143 ok143 (by simp) ?_
  simp -implicitDefEqProofs only [rc143, zzfp, zzft, zzfq, zzjy, zzjm, zzjo, zzbd, zzkd, zzjk, zzjl, zziu, zzih, zzis, zziq, zzeb, zzdh, zzja, zziz, zzix, zzjd, zzdn, zzdm, zzlf, zzid, zzic, zzgi, zzhu, zzhr, zzlc, zzlb, zzce, zzky, zzji, zzgp, zzdi, zzbb, zzdk, zzdj, zzhx, zzba, zzbg, zzbf, zzkm, zzkn, zzkl, Nat.reduceBEq, zzko, zzkr, zzkq, zzag, zzki, zzif, zzie, zzhz, zzhf, zzbw, zzca, zzby, List.map_cons, List.map_nil, List.length_cons, List.length_nil, List.cons_append, List.nil_append, List.all_cons, List.all_nil, zzbv, zzbt, zzbr, zzbs, Option.map_some, Nat.reduceAdd, Nat.reduceSub, Nat.reduceEqDiff, Nat.reduceLeDiff, Nat.zero_add, Bool.and_self, and_self, if_true, if_false, PV.fg, fgL, zzcv, zzac, zzab, zzgs, zzgh, beq_self_eq_true, Nat.add_one_ne_zero, zzde, Term.eta, zzfc, zzev, Int.reduceBEq]
  rfl
set_option maxRecDepth 10000 in
theorem c119 (t key : Term) : PPure Tryz.prog 119 [enc t, enc key] (.tup [encA (serverT t key).1, .scal (.int .i64 (serverT t key).2)]) := by
  refine pure_of hmix Tryz.func119 ok119 (by simp) ?_
  simp -implicitDefEqProofs only [rc119, zzfp, zzft, zzjy, zzjm, zzjo, zzbd, zzjr, zzjk, zziu, zziq, zzdn, zzdm, zzlf, zzid, zzgi, zzhu, zzhr, zzlc, zzlb, zzce, zzky, zzji, zzgp, zzdi, zzif, zzie, zzhz, List.map_cons, List.map_nil, List.length_cons, List.length_nil, List.cons_append, List.nil_append, Option.map_some, Nat.reduceAdd, Nat.reduceSub, Nat.reduceEqDiff, Nat.zero_add, if_true, if_false, fgL, zzdf, Nat.add_one_ne_zero, zzhy, zzde, Term.eta, zzfc]
  refine qcall_intro (c152i t) ?_
  simp -implicitDefEqProofs only [zzfp, zzft, zzfh, zzjy, zzjm, zzkd, zzjk, zzjl, zzcd, zziu, zzig, zzii, zzdn, zzdm, zzlf, zzid, zzic, zzgi, zzhu, zzhr, zzji, zzdl, zzkl, zzkr, zzkq, zzag, zzki, zzdt, zzkf, zzlg, zzaz, zzas, zzai, List.length_cons, List.length_nil, List.cons_append, List.nil_append, List.all_cons, List.all_nil, zzbv, zzbt, zzbr, zzbq, zzbs, Option.map_some, Nat.reduceAdd, Nat.reduceSub, Nat.reduceEqDiff, Nat.zero_add, Bool.and_self, and_self, if_true, if_false, Nat.add_one_ne_zero, zzcg]
  refine br_intro (fun h => ?_) (fun h => ?_)
  · simp -implicitDefEqProofs only [zzfp, zzft, zzfq, zzjy, zzkd, zzjk, zzjl, zziu, zzih, zzeb, zzdh, zzja, zzjb, zziz, zzix, zzje, zzdn, zzlf, zzid, zzic, zzgi, zzhu, zzhr, zzlc, zzlb, zzce, zzky, zzji, zzgp, zzdi, zzbb, zzdk, zzbg, zzkl, zzkr, zzkq, zzag, zzki, zzbw, List.length_cons, List.length_nil, List.all_cons, List.all_nil, zzbv, zzbt, zzbr, zzbq, zzbs, Option.map_some, Nat.reduceAdd, Nat.reduceSub, Nat.reduceEqDiff, Nat.zero_add, Bool.and_self, and_self, if_true, if_false, PV.fg, fgL, Nat.add_one_ne_zero, zzef]
    simp only [serverT, h, if_true, zA]
  · obtain ⟨x, y, z, hl⟩ := readI_ok h
    obtain ⟨k, s, n, l⟩ := t
    simp only [Term.l] at hl
    subst hl
    have h0 : (readI (.mk k s n [x, y, z])).2 = 0 := by simpa using h
    have e : serverT (.mk k s n [x, y, z]) key = if !sameT y (sumT key 18 x) then (zA, 62) else if key.k != 2 then (zA, 62) else ((readI (.mk k s n [x, y, z])).1, 0) := by
      unfold serverT
      rw [if_neg (by rw [h]; simp)]
      show (if (!summedT y key 18 x) = true then (zA, 62) else ((readI (.mk k s n [x, y, z])).1, 0)) = _
      unfold summedT
      cases hs : sameT y (sumT key 18 x) <;> cases hk : (key.k == 2) <;> simp [bne, hk]
    rw [e]
    clear e
    try simp -implicitDefEqProofs only [h, zzfu, zzfp, zzft, zzjr, zzjk, zzip, zziq, zzij, zzik, zzdn, zzdm, zzlf, zzid, zzgi, zzhu, zzhr, zzlc, zzlb, zzce, zzky, zzji, zzjh, zzgo, zzgp, zzdl, zzdi, zzif, zzie, zzhz, zzdv, zzaf, zzae, zzgg, zzcf, List.map_cons, List.map_nil, List.length_cons, List.length_nil, Option.map_some, Nat.reduceAdd, Nat.reduceSub, Nat.reduceEqDiff, Nat.zero_add, if_true, if_false, PV.fg, fgL, zzdf, zzcx, Nat.add_one_ne_zero, zzhy, zzde, Term.eta, k_mk, s_mk, n_mk, l_mk, zzfc, Int.toNat_one, Int.toNat_zero, Int.le_refl, Int.reduceLE]
    repeat' (first
      | (refine br_intro (fun h => ?_) (fun h => ?_) <;> try simp -implicitDefEqProofs only [h, h, zzfu, zzfp, zzft, zzfh, zzfq, zzjy, zzjv, zzjz, zzkd, zzjk, zzjl, zzcd, zzgc, zziu, zzih, zzip, zziq, zzig, zzij, zzeb, zzdh, zzja, zzjb, zziz, zzix, zzje, zzdn, zzdm, zzlf, zzid, zzic, zzgi, zzhu, zzhr, zzlc, zzlb, zzce, zzky, zzji, zzgo, zzgp, zzdl, zzdi, zzbb, zzdk, zzbg, zzkl, zzkr, zzkq, zzag, zzki, zzdv, zzkf, zzlg, zzaz, zzas, zzai, br_true, br_false, zzbw, List.length_cons, List.length_nil, List.all_cons, List.all_nil, zzbv, zzbt, zzbr, zzbq, zzbs, Option.map_some, Nat.reduceAdd, Nat.reduceSub, Nat.reduceEqDiff, Nat.add_zero, Nat.zero_add, Bool.and_self, and_self, if_true, if_false, PV.fg, fgL, Nat.add_one_ne_zero, zzcg, zzch, zzec, zzef, Bool.false_eq_true])
      | (refine qcall_intro (c143 _ _ _) ?_; try simp -implicitDefEqProofs only [zzjr, zzdn, zzlf, zzid, zzgi, zzif, zzie, zzhz, List.map_cons, List.map_nil, Nat.reduceSub, Nat.reduceEqDiff, if_true, if_false, fgL, zzdf, Nat.add_one_ne_zero, zzhy])
      | (refine qcall_intro (c21 _ _) ?_; try simp -implicitDefEqProofs only [zzfp, zzft, zzjy, zzjv, zzjk, zzgc, zziu, r_un, zzdn, zzlf, zzid, zzgi, zzle, Nat.reduceSub, Nat.reduceEqDiff, if_true, if_false, Nat.add_one_ne_zero]))
    all_goals simp only [zA, *, Bool.true_and, Bool.false_and, Bool.and_true, Bool.and_false, Bool.true_or, Bool.false_or, Bool.or_true, Bool.or_false, Bool.not_true, Bool.not_false, Bool.not_not, decide_true, decide_false, if_true, if_false, Bool.false_eq_true, reduceIte, and_self, and_true, true_and, beq_self_eq_true, bne_self_eq_false, decide_not]
end Go.Pv

set_option linter.unusedSimpArgs false
set_option linter.unusedVariables false
namespace Go.Pv
open Go.Proofs
/-! ### the document's cache: a list that is made anew -/
structure RCh (H : PH) (c : Nat) (room : Int) (es : List (Term × Int)) (te : Tok) : Prop where
  cache : H.get c = some (.cells [.scal (.int .i64 room), .list te (ents es)])
  gr : Grow H te es.length 5
structure RFrm (H : PH) (c : Nat) (te : Tok) (H' : PH) (te' : Tok) : Prop where
  keep : ∀ x o, H.get x = some o → x ≠ c → tokB te ≠ some x → H'.get x = some o ∧ tokB te' ≠ some x
theorem RFrm.refl (H : PH) (c : Nat) (te : Tok) : RFrm H c te H te := ⟨fun _ _ h _ h2 => ⟨h, h2⟩⟩
set_option maxRecDepth 10000 in
theorem c62 (room : Int) (H : PH) : PCalls Tryz.prog 62 [.scal (.int .i64 room)] H fun r H' => ∃ c, H.get c = none ∧ r = .ptr c 0 ∧ H' = H.set c (.cells [.scal (.int .i64 (if 0 > room then 0 else room)), .list .full []]) := by
  refine calls_of hmix Tryz.func62 ok62 (by simp) ?_
  simp -implicitDefEqProofs only [rc62, r_b, zzax, zzjp, zzbe, zzfp, zzft, zzjy, zzjk, zziu, zzih, zzdn, zzdm, zzlf, zzid, zzgi, zzce, zzdi, zzbb, zzdk, zzdj, zzhx, zzba, zzbg, zzbf, zzkm, zzko, zzif, zzie, zzhz, zzbw, zzca, List.map_cons, List.map_nil, List.length_cons, List.length_nil, Nat.reduceSub, Nat.reduceEqDiff, Nat.zero_add, if_true, if_false, r_b, zzax, Nat.add_one_ne_zero, zzjp, zzbe]
  refine bH_intro fun c hc => ?_
  simp -implicitDefEqProofs only [zzfq, zzjy, zziu, zzja, zzjb, zzix, zzjd, zzdn, zzlf, zzid, zzgi, Nat.reduceSub, Nat.reduceEqDiff, if_true, if_false, Nat.add_one_ne_zero, zzib, zzdg]
  refine endK_raw ⟨c, hc, rfl, rfl⟩
set_option maxRecDepth 10000 in
theorem c146 {H : PH} {c : Nat} {room : Int} {es : List (Term × Int)} {te : Tok} (hc : H.get c = some (.cells [.scal (.int .i64 room), .list te (ents es)])) (hlen : es.length ≤ lenB) (m : Term) (now : Int) :
    PCalls Tryz.prog 146 [.ptr c 0, enc m, .scal (.int .i64 now)] H fun r H' => r = .scal (.bool (hasE es m now)) ∧ H' = H := by
  refine calls_of hmix Tryz.func146 ok146 (by simp) ?_
  simp -implicitDefEqProofs only [rc146, zzfp, zzft, zzff, zzjy, zzjo, zzbd, zziu, zzdn, zzdm, zzid, zzgi, List.length_nil, List.nil_append, Nat.reduceSub, if_true, if_false, Nat.add_one_ne_zero, zzde]
  refine go_loop (fun n s => ∃ i, i ≤ es.length ∧ n = es.length - i ∧ s.env 7 = .v (.scal (.int .i64 (i : Nat))) ∧ s.env 0 = .v (.ptr c 0) ∧ s.env 4 = .l 0 0 ∧ s.env 2 = .v (.scal (.int .i64 now)) ∧
      s.L = [[.scal (.int .i64 m.k), .scal (.string m.s), .scal (.int .i64 m.n), .list .foreign (encL m.l)]] ∧ s.H = H ∧ hasE es m now = hasE (es.drop i) m now) es.length ?_ ?_
  · exact ⟨0, by omega, by omega, rfl, rfl, rfl, rfl, rfl, rfl, rfl⟩
  rintro n env L H' ⟨i, hi, rfl, h7, h0, h4, h2, rfl, rfl, ho⟩
  simp only at h7 h0 h4 h2
  simp -implicitDefEqProofs only [h7, h0, hc, ents_len, zzfp, zzft, zzfh, zzjy, zzjk, zzcd, zziu, zzip, zziv, zzig, zzij, zzin, zzdn, zzlf, zzid, zzhu, zzhr, zzjj, zzjg, zzgo, zzdl, zzho, zzdw, zzgt, zzkf, zzlg, zzaz, zzar, zzai, Nat.reduceSub, Nat.reduceEqDiff, Nat.zero_add, if_true, if_false, Nat.add_one_ne_zero]
  refine br_intro (fun b1 => ?_) (fun b1 => ?_)
  · have hlt : i < es.length := by simpa using b1
    obtain ⟨e, he⟩ : ∃ e, nth es i = some e := ⟨_, nth_of hlt⟩
    have hn : nth (ents es) i = some (.agg [.scal (.int .i64 e.1.k), .scal (.string e.1.s), .scal (.int .i64 e.1.n), .list .foreign (encL e.1.l), .scal (.int .i64 e.2)]) := by
      simp only [ents, zzht, he]; rfl
    have next : (decide (now < e.2) && sameT e.1 m) = false → hasE es m now = hasE (es.drop (i + 1)) m now := by
      intro hf
      have e1 := List.getElem?_eq_some_iff.1 he
      rw [ho, List.drop_eq_getElem_cons e1.1, e1.2]
      simp only [hasE, List.any_cons, hf, Bool.false_or]
    have found : (decide (now < e.2) && sameT e.1 m) = true → hasE es m now = true := by
      intro hf
      have e1 := List.getElem?_eq_some_iff.1 he
      rw [ho, List.drop_eq_getElem_cons e1.1, e1.2]
      simp only [hasE, List.any_cons, hf, Bool.true_or]
    simp -implicitDefEqProofs only [h7, h0, h4, hc, hn, zzfu, zzfp, zzft, zzff, zzjr, zzjk, zziu, zzip, zziq, zziv, zzij, zzik, zzdn, zzlf, zzid, zzhu, zzhr, zzlc, zzlb, zzce, zzky, zzji, zzjh, zzjj, zzjg, zzgo, zzgp, zzdl, zzdi, zzif, zzie, zzhz, zzho, zzdw, zzdu, zzaf, zzae, zzgg, zzcf, zzbw, List.map_cons, List.map_nil, List.length_cons, List.length_nil, Option.map_some, Nat.reduceAdd, Nat.reduceSub, Nat.reduceEqDiff, Nat.zero_add, if_true, if_false, fgL, zzdf, zzhl, Int.toNat_natCast, Nat.add_one_ne_zero, zzhy, Term.eta, zzfc, List.drop_zero]
    refine qcall_intro (c21 e.1 m) ?_
    simp -implicitDefEqProofs only [zzfp, zzft, zzjy, zzjv, zzgd, zziu, zzdn, zzlf, zzid, Nat.reduceEqDiff, if_true, if_false]
    refine br_intro (fun b2 => ?_) (fun b2 => ?_)
    · simp -implicitDefEqProofs only [b2, h7, h0, h2, hc, hn, zzfh, zzjy, zzjv, zzjz, zzjk, zzcd, zzgd, zziu, zzip, zziv, zzig, zzij, zzik, zzdn, zzlf, zzid, zzhu, zzhr, zzhs, zzjh, zzjj, zzjg, zzgo, zzdl, zzho, zzdw, zzdu, zzaf, zzae, zzgg, zzcf, zzkf, zzlg, zzaz, zzap, zzai, br_true, zzbw, List.length_cons, List.length_nil, Nat.reduceAdd, Nat.reduceSub, Nat.reduceEqDiff, Nat.add_zero, Nat.zero_add, if_true, if_false, zzhl, Int.toNat_natCast, Nat.add_one_ne_zero]
      refine br_intro (fun b3 => ?_) (fun b3 => ?_)
      · simp -implicitDefEqProofs only [b3, zzfp, zzft, zzfq, zzjy, zziu, zzja, zzjb, zzix, zzjd, zzdm, zzlf, zzid, Nat.reduceEqDiff, if_true, if_false, zzib, zzdg]
        refine endK_raw ⟨by rw [found (by rw [b2, b3]; rfl)], rfl⟩
      · simp -implicitDefEqProofs only [b3, h7, h0, h4, h2, wrap_add hlt hlen, zzfu, zzfp, zzfe, zzjy, zzjk, zziu, zzig, zzdn, zzdm, zzlf, zzid, zzkf, zzlg, zzaz, zzal, zzaj, Nat.reduceEqDiff, if_true, if_false, true_and, Bool.true_and, zzfl]
        exact ⟨_, by omega, i + 1, hlt, rfl, rfl, next (by rw [b3]; rfl)⟩
    · simp -implicitDefEqProofs only [b2, h7, h0, h4, h2, wrap_add hlt hlen, zzfu, zzfp, zzfh, zzfe, zzjy, zzjv, zzjz, zzjk, zzcd, zzgd, zziu, zzig, zzdn, zzdm, zzlf, zzid, zzkf, zzlg, zzaz, zzal, zzaj, br_false, Nat.reduceEqDiff, if_true, if_false, true_and, Bool.true_and, zzfl]
      exact ⟨_, by omega, i + 1, hlt, rfl, rfl, next (by rw [b2, Bool.and_false])⟩
  · have hge : i = es.length := by
      have : ¬ i < es.length := by simpa using b1
      omega
    simp -implicitDefEqProofs only [b1, zzfp, zzft, zzfq, zzfj, zzdp, zzdo, zzjy, zziu, zzja, zzjb, zzix, zzjd, zzdm, zzlf, zzid, Nat.reduceEqDiff, if_true, if_false, zzdq, zzib, zzdg]
    refine endK_raw ⟨?_, rfl⟩
    rw [ho, hge, List.drop_of_length_le (Nat.le_refl _)]; rfl
theorem Keep.refl {H : PH} : Keep H .full H := fun _ _ h => ⟨h, by simp [tokB]⟩
theorem live_take {es : List (Term × Int)} {i : Nat} {e : Term × Int} (he : nth es i = some e) (now : Int) : liveE (es.take (i + 1)) now = if decide (now < e.2) = true then liveE (es.take i) now ++ [e] else liveE (es.take i) now := by
  have e1 : es[i]? = some e := he
  rw [List.take_add_one, e1]
  simp only [liveE, Option.toList_some, List.filter_append, List.filter_cons, List.filter_nil]
  split
  · rfl
  · simp
set_option maxRecDepth 10000 in
set_option maxHeartbeats 1000000 in
theorem c107 {H : PH} {c : Nat} {room : Int} {es : List (Term × Int)} {te : Tok} (h : RCh H c room es te) (hlen : es.length < 1000000) (m : Term) (until_ now : Int) :
    PCalls Tryz.prog 107 [.ptr c 0, enc m, .scal (.int .i64 until_), .scal (.int .i64 now)] H fun r H' => r = .scal (.int .i64 (putE2 room es m until_ now).1) ∧ ∃ te', RCh H' c room (putE2 room es m until_ now).2 te' ∧ RFrm H c te H' te' := by
  refine calls_of hmix Tryz.func107 ok107 (by simp) ?_
  have hle : es.length ≤ lenB := by rw [lenB_eq]; omega
  have hc := h.cache
  simp -implicitDefEqProofs only [rc107, zzfp, zzft, zzjy, zzjo, zzbd, zzjq, zzjk, zziu, zziq, zzdn, zzdm, zzlf, zzid, zzgi, zzhu, zzhr, zzlc, zzlb, zzce, zzky, zzji, zzgp, zzdi, zzif, zzie, zzhz, List.map_cons, List.map_nil, List.length_nil, List.nil_append, Option.map_some, Nat.reduceAdd, Nat.reduceSub, Nat.reduceEqDiff, if_true, if_false, PV.fg, fgL, zzdf, Nat.add_one_ne_zero, zzgf, zzde, Term.eta, zzfc]
  refine kcall_intro (c146 h.cache hle m now) ?_
  rintro r H1 ⟨rfl, rfl⟩
  simp -implicitDefEqProofs only [zzfh, zzjy, zzcd, zzdn, zzlf, zzid, zzgi, Nat.reduceSub, Nat.reduceEqDiff, if_true, if_false, Nat.add_one_ne_zero]
  refine br_intro (fun b1 => ?_) (fun b1 => ?_)
  · simp -implicitDefEqProofs only [zzfp, zzft, zzfq, zzjy, zziu, zzja, zzjb, zzix, zzjd, zzdm, zzlf, zzid, zzgi, Nat.reduceSub, Nat.reduceEqDiff, if_true, if_false, Nat.add_one_ne_zero, zzib, zzdg]
    refine endK_raw ⟨?_, te, ?_, RFrm.refl _ _ _⟩
    · simp only [putE2, b1, if_true]
    · simp only [putE2, b1, if_true]; exact h
  have hP : putE2 room es m until_ now = if decide (((liveE es now).length : Int) ≥ room) then (53, liveE es now) else (0, liveE es now ++ [(m, until_)]) := by
    simp only [putE2, b1, Bool.false_eq_true, if_false]
  rw [hP]
  simp -implicitDefEqProofs only [zzfu, zzfp, zzft, zzff, zzjy, zziu, zzdm, zzid]
  refine go_loop (fun n s => ∃ (i : Nat) (tk : Tok), i ≤ es.length ∧ n = es.length - i ∧ s.env 10 = .v (.scal (.int .i64 (i : Nat))) ∧ s.env 0 = .v (.ptr c 0) ∧ s.env 5 = .l 0 0 ∧ s.env 2 = .v (.scal (.int .i64 until_)) ∧ s.env 3 = .v (.scal (.int .i64 now)) ∧ s.env 9 = .v (.list tk (ents (liveE (es.take i) now))) ∧
      s.L = [[.scal (.int .i64 m.k), .scal (.string m.s), .scal (.int .i64 m.n), .list .foreign (encL m.l)]] ∧ Grow s.H tk (liveE (es.take i) now).length 5 ∧ Keep H1 tk s.H) es.length ?_ ?_
  · exact ⟨0, .full, by omega, by omega, rfl, rfl, rfl, rfl, rfl, rfl, rfl, .inl rfl, Keep.refl⟩
  rintro n env L H2 ⟨i, tk, hi, rfl, h10, h0, h5, h2, h3, h9, rfl, hg, hK⟩
  simp only at h10 h0 h5 h2 h3 h9 hg hK
  have hc2 := (hK _ _ hc).1
  have hcn := (hK _ _ hc).2
  simp -implicitDefEqProofs only [h10, h0, hc2, ents_len, zzfp, zzft, zzfh, zzjy, zzjk, zzcd, zziu, zzip, zziv, zzig, zzij, zzin, zzdn, zzlf, zzid, zzhu, zzhr, zzjj, zzjg, zzgo, zzdl, zzho, zzdw, zzgt, zzkf, zzlg, zzaz, zzar, zzai, Nat.reduceSub, Nat.reduceEqDiff, Nat.zero_add, if_true, if_false, Nat.add_one_ne_zero]
  refine br_intro (fun b2 => ?_) (fun b2 => ?_)
  · have hlt : i < es.length := by simpa using b2
    obtain ⟨e, he⟩ : ∃ e, nth es i = some e := ⟨_, nth_of hlt⟩
    have hn : nth (ents es) i = some (.agg [.scal (.int .i64 e.1.k), .scal (.string e.1.s), .scal (.int .i64 e.1.n), .list .foreign (encL e.1.l), .scal (.int .i64 e.2)]) := by
      simp only [ents, zzht, he]; rfl
    have hlt2 := live_take he now
    simp -implicitDefEqProofs only [h10, h0, h3, hc2, hn, zzfu, zzfp, zzft, zzfh, zzff, zzjy, zzjk, zzcd, zziu, zzip, zziv, zzig, zzij, zzik, zzdn, zzlf, zzid, zzhu, zzhr, zzhs, zzjh, zzjj, zzjg, zzgo, zzdl, zzho, zzdw, zzdu, zzaf, zzae, zzgg, zzcf, zzkf, zzlg, zzaz, zzap, zzai, zzbw, List.length_cons, List.length_nil, Nat.reduceAdd, Nat.reduceSub, Nat.reduceEqDiff, Nat.add_zero, Nat.zero_add, if_true, if_false, zzhl, Int.toNat_natCast, Nat.add_one_ne_zero]
    refine br_intro (fun b3 => ?_) (fun b3 => ?_)
    · rw [if_pos b3] at hlt2
      simp -implicitDefEqProofs only [h10, h0, h9, hc2, hn, zzjw, zzfp, zzjk, zziu, zzis, zzip, zziq, zziv, zzij, zzik, zzdn, zzlf, zzid, zzhu, zzhr, zzlc, zzlb, zzce, zzky, zzjh, zzjj, zzjg, zzgo, zzgp, zzdl, zzdi, zzif, zzie, zzhz, zzho, zzdw, zzaf, zzae, zzgg, zzcf, zzhf, zzbw, List.map_cons, List.map_nil, List.length_cons, List.length_nil, Nat.reduceAdd, Nat.reduceSub, Nat.reduceEqDiff, Nat.reduceLeDiff, Nat.zero_add, Bool.and_self, and_self, if_true, if_false, zzac, zzab, zzgs, zzgh, beq_self_eq_true, zzhl, Int.toNat_natCast, Nat.add_one_ne_zero, zzjw]
      have hll : (liveE (es.take i) now).length ≤ es.length := Nat.le_trans (live_le _ _) (by simp; omega)
      refine kapp_keep (ys := ents [e]) (by rw [ents_len]; exact hg) (ents_sz _) (ents_sz _) (by rw [ents_len, lenB_eq]; simp only [ents_len, List.length_cons, List.length_nil]; omega) (by decide) (by simp [ents]) (by decide) (by simp only [ents, List.map_cons, List.map_nil, entP, PV.cells, List.all_cons, List.all_nil, Bool.and_true]; rfl) ?_
      intro tk' H5 hG5 hK5
      simp -implicitDefEqProofs only [h10, h0, h5, h2, h3, wrap_add hlt hle, zzfp, zzfe, zzjy, zzjk, zziu, zzig, zzdn, zzdm, zzlf, zzid, zzkf, zzlg, zzaz, zzal, zzaj, Nat.reduceEqDiff, if_true, if_false, true_and, Bool.true_and, zzfl]
      refine ⟨_, ?_, i + 1, tk', hlt, rfl, rfl, ?_, ?_, hK5 _ hK⟩
      · omega
      · rw [hlt2, ents_app]
      · rw [hlt2, List.length_append]
        simpa only [ents_len, List.length_cons, List.length_nil] using hG5
    · rw [if_neg (by rw [b3]; simp)] at hlt2
      simp -implicitDefEqProofs only [h10, h0, h5, h2, h3, h9, wrap_add hlt hle, zzfu, zzfp, zzfe, zzjy, zzjk, zziu, zzig, zzdn, zzdm, zzlf, zzid, zzkf, zzlg, zzaz, zzal, zzaj, Nat.reduceEqDiff, if_true, if_false, true_and, Bool.true_and, zzfl]
      refine ⟨_, ?_, i + 1, tk, hlt, rfl, rfl, ?_, ?_, hK⟩
      · omega
      · rw [hlt2]
      · rw [hlt2]; exact hg
  · have hge : i = es.length := by
      have : ¬ i < es.length := by simpa using b2
      omega
    subst hge
    rw [List.take_length] at h9 hg
    have hlv := live_le es now
    generalize liveE es now = lv at h9 hg hlv ⊢
    simp -implicitDefEqProofs only [b2, h0, h9, hc2, ents_len, get_same, zzfp, zzft, zzfh, zzfj, zzdp, zzdo, zzjy, zzkd, zzjk, zzjl, zzcd, zziu, zzip, zziv, zzig, zzij, zzin, zzdn, zzlf, zzid, zzic, zzhu, zzhr, zzce, zzjj, zzjg, zzgo, zzdl, zzkn, zzkl, Nat.reduceBEq, zzks, zzkq, zzah, zzho, zzdw, zzgt, zzkf, zzlg, zzaz, zzao, zzai, zzby, List.length_cons, List.length_nil, List.all_cons, List.all_nil, zzbt, Nat.reduceSub, Nat.reduceEqDiff, Nat.add_zero, Nat.zero_add, Bool.and_self, and_self, if_true, if_false, zzdq, Int.reduceBEq]
    have fin : ∀ (t' : Tok) (lv' : List (Term × Int)) (H5 : PH), Grow H5 t' lv'.length 5 → Keep H1 t' H5 → RCh (H5.set c (.cells [.scal (.int .i64 room), .list t' (ents lv')])) c room lv' t' ∧ RFrm H1 c te (H5.set c (.cells [.scal (.int .i64 room), .list t' (ents lv')])) t' := by
      intro t' lv' H5 hg5 hk5
      refine ⟨⟨get_same _ _ _, hg5.set_cells (hk5 _ _ hc).2⟩, ⟨fun x o hx hxc _ => ⟨by rw [PH.get_set, if_neg hxc]; exact (hk5 _ _ hx).1, (hk5 _ _ hx).2⟩⟩⟩
    refine br_intro (fun b4 => ?_) (fun b4 => ?_)
    · simp -implicitDefEqProofs only [b4, zzfp, zzft, zzfq, zzjy, zziu, zzja, zzjb, zzix, zzjd, zzdm, zzlf, zzid, Nat.reduceEqDiff, if_true, if_false, zzib, zzdg]
      have hf := fin tk lv H2 hg hK
      refine endK_raw ⟨?_, tk, ?_, hf.2⟩
      · first | rfl | simp only [b4, ge_iff_le, if_true]
      · first | exact hf.1 | (simp only [b4, ge_iff_le, if_true]; exact hf.1)
    · simp -implicitDefEqProofs only [b4, h0, h5, h2, get_same, zzjw, zzfu, zzfp, zzft, zzjk, zziu, zzih, zzis, zzip, zziq, zziv, zzij, zzdn, zzlf, zzid, zzhu, zzhr, zzlc, zzlb, zzce, zzky, zzji, zzjj, zzjg, zzgo, zzgp, zzdl, zzdi, zzbb, zzdk, zzdj, zzhx, zzba, zzbg, zzbf, zzkm, zzkn, zzkl, Nat.reduceBEq, zzko, zzif, zzie, zzhz, zzho, zzdw, zzaf, zzhf, zzbw, zzca, List.map_cons, List.map_nil, List.length_cons, List.length_nil, Option.map_some, Nat.reduceAdd, Nat.reduceSub, Nat.reduceEqDiff, Nat.reduceLeDiff, Nat.zero_add, Bool.and_self, and_self, if_true, if_false, zzac, zzab, zzgs, zzgh, beq_self_eq_true, Nat.add_one_ne_zero, zzjw, zzde, Term.eta, zzfc, Bool.false_eq_true, Int.reduceBEq]
      have hg3 : Grow (H2.set c (.cells [.scal (.int .i64 room), .list tk (ents lv)])) tk lv.length 5 := hg.set_cells hcn
      refine kapp_keep (ys := ents [(m, until_)]) (by rw [ents_len]; exact hg3) (ents_sz _) (ents_sz _) (by rw [ents_len, lenB_eq]; simp only [ents_len, List.length_cons, List.length_nil]; omega) (by decide) (by simp [ents]) (by decide) (by simp only [ents, List.map_cons, List.map_nil, entP, PV.cells, List.all_cons, List.all_nil, Bool.and_true]; rfl) ?_
      intro t' H5 hG5 hK5
      have hc5 := (keep_at hK5 (get_same H2 c (.cells [.scal (.int .i64 room), .list tk (ents lv)])) hcn).1
      have hcn5 := (keep_at hK5 (get_same H2 c (.cells [.scal (.int .i64 room), .list tk (ents lv)])) hcn).2
      simp -implicitDefEqProofs only [hc5, zzfp, zzft, zzfq, zzjy, zzkd, zzjk, zzjl, zziu, zziv, zzij, zzja, zzjb, zzix, zzjd, zzdn, zzdm, zzlf, zzid, zzic, zzce, zzjj, zzjg, zzkn, zzkl, Nat.reduceBEq, zzks, zzkq, zzah, zzho, zzdw, zzby, List.length_cons, List.length_nil, List.all_cons, List.all_nil, zzbt, Nat.reduceSub, Nat.reduceEqDiff, Nat.zero_add, Bool.and_self, and_self, if_true, if_false, zzib, zzdg, Int.reduceBEq]
      have e1 : ents lv ++ ents [(m, until_)] = ents (lv ++ [(m, until_)]) := (ents_app _ _).symm
      rw [e1]
      refine endK_raw ⟨?_, t', ⟨?_, ?_⟩, ⟨?_⟩⟩
      · first | rfl | simp only [b4, ge_iff_le, Bool.false_eq_true, if_false]
      · first | exact get_same _ _ _ | (simp only [b4, ge_iff_le, Bool.false_eq_true, if_false]; exact get_same _ _ _)
      · try simp only [b4, ge_iff_le, Bool.false_eq_true, if_false]
        refine Grow.set_cells ?_ hcn5
        simpa only [ents_len, List.length_append, List.length_cons, List.length_nil] using hG5
      · intro x o hx hxc _
        have hk := hK _ _ hx
        have hx2 : PH.get (H2.set c (.cells [.scal (.int .i64 room), .list tk (ents lv)])) x = some o := by rw [PH.get_set, if_neg hxc]; exact hk.1
        have := keep_at hK5 hx2 hk.2
        exact ⟨by rw [PH.get_set, if_neg hxc]; exact this.1, this.2⟩
end Go.Pv

namespace Go.Pv
open Go.Proofs
def rcA17 : RCode := (.region false [⟨(some 3), none, .boxH (.t 0)⟩,
  ⟨(some 4), none, .boxH (.t 1)⟩,
  ⟨(some 5), none, .box (.t 2)⟩,
  ⟨(some 6), none, .allocH [(.scal (.string ⟨#[]⟩)), (.list .full []), (.scal (.int .i64 0)), (.list .full []), (.scal (.string ⟨#[]⟩)), (.scal (.bool false)), (.scal (.int .i64 0)), (.scal (.string ⟨#[]⟩)), (.scal (.int .i64 0)), (.scal (.int .i64 0)), (.scal (.string ⟨#[]⟩)), (.scal (.int .i64 0)), (.list .full []), (.scal (.string ⟨#[]⟩)), (.scal (.int .i64 0)), (.scal (.int .i64 0)), (.scal (.int .i64 0)), (.scal (.string ⟨#[]⟩)), (.scal (.int .i64 0)), (.list .full []), (.scal (.int .i64 0)), (.scal (.string ⟨#[]⟩)), (.scal (.int .i64 0)), (.list .full [])]⟩,
  ⟨(some 7), none, .allocH [(.scal (.int .i64 0))]⟩])
def rpre17 : List RI := [⟨(some 13), none, .mkfn (.func 63) [] [(.t 3), (.t 4), (.t 6), (.t 7)]⟩]
def rcB17 : RCode := (.seq (.region true [⟨(some 15), none, .loadA 4 (.t 5)⟩,
  ⟨(some 16), none, .load1 (.t 3)⟩,
  ⟨(some 17), none, .nilchk (.t 16)⟩,
  ⟨(some 18), none, .faddr 1 (.t 17)⟩,
  ⟨(some 19), none, .loadA 4 (.t 18)⟩,
  ⟨(some 20), none, .callP 65 [(.t 15), (.t 19)]⟩,
  ⟨(some 14), none, .mov (.t 20)⟩,
  ⟨(some 21), none, .ext (.t 14) 0⟩,
  ⟨(some 22), none, .ext (.t 14) 1⟩,
  ⟨(some 23), none, .ext (.t 14) 2⟩,
  ⟨(some 24), none, .ext (.t 14) 3⟩,
  ⟨(some 8), none, .alloc [(.scal (.string ⟨#[]⟩)), (.scal (.int .i64 0)), (.scal (.int .i64 0)), (.scal (.string ⟨#[]⟩)), (.scal (.int .i64 0)), (.list .full []), (.scal (.string ⟨#[]⟩)), (.scal (.int .i64 0)), (.scal (.int .i64 0)), (.scal (.int .i64 0)), (.scal (.string ⟨#[]⟩)), (.scal (.int .i64 0)), (.list .full [])]⟩,
  ⟨none, none, .store 13 (.t 8) (.t 21)⟩,
  ⟨(some 9), none, .mov (.t 22)⟩,
  ⟨(some 10), none, .mov (.t 23)⟩,
  ⟨none, none, .store 1 (.t 7) (.t 24)⟩])
 (.seq (.seq (.region false [⟨(some 25), none, .load1 (.t 7)⟩,
  ⟨(some 26), none, .bin .neq 51 (.t 25) (.c (.scal (.int .i64 0)))⟩])
 (.cond (.t 26) (.seq (.sreg [.ne 7 6] [⟨(some 27), none, .build [(.scal (.string ⟨#[]⟩)), (.list .full []), (.scal (.int .i64 0)), (.list .full []), (.scal (.string ⟨#[]⟩)), (.scal (.bool false)), (.scal (.int .i64 0)), (.scal (.string ⟨#[]⟩)), (.scal (.int .i64 0)), (.scal (.int .i64 0)), (.scal (.string ⟨#[]⟩)), (.scal (.int .i64 0)), (.list .full []), (.scal (.string ⟨#[]⟩)), (.scal (.int .i64 0)), (.scal (.int .i64 0)), (.scal (.int .i64 0)), (.scal (.string ⟨#[]⟩)), (.scal (.int .i64 0)), (.list .full []), (.scal (.int .i64 0)), (.scal (.string ⟨#[]⟩)), (.scal (.int .i64 0)), (.list .full [])] []⟩,
  ⟨(some 28), none, .load1 (.t 7)⟩,
  ⟨none, none, .store 24 (.t 6) (.t 27)⟩,
  ⟨none, none, .store 1 (.t 7) (.t 28)⟩])
 .ret)
 .skip))
 (.seq (.region false [⟨(some 30), none, .load1 (.t 3)⟩,
  ⟨(some 31), none, .load1 (.t 4)⟩,
  ⟨(some 32), none, .loadA 13 (.t 8)⟩,
  ⟨(some 33), none, .callF 66 [(.t 30), (.t 31), (.t 32)]⟩,
  ⟨(some 29), none, .mov (.t 33)⟩,
  ⟨(some 34), none, .ext (.t 29) 0⟩,
  ⟨(some 35), none, .ext (.t 29) 1⟩,
  ⟨(some 11), none, .alloc [(.scal (.string ⟨#[]⟩)), (.list .full []), (.scal (.int .i64 0)), (.list .full []), (.scal (.string ⟨#[]⟩)), (.scal (.bool false)), (.scal (.int .i64 0))]⟩,
  ⟨none, none, .store 7 (.t 11) (.t 34)⟩,
  ⟨none, none, .store 1 (.t 7) (.t 35)⟩])
 (.seq (.seq (.region false [⟨(some 36), none, .load1 (.t 7)⟩,
  ⟨(some 37), none, .bin .neq 51 (.t 36) (.c (.scal (.int .i64 0)))⟩])
 (.cond (.t 37) (.seq (.sreg [.ne 7 6] [⟨(some 38), none, .build [(.scal (.string ⟨#[]⟩)), (.list .full []), (.scal (.int .i64 0)), (.list .full []), (.scal (.string ⟨#[]⟩)), (.scal (.bool false)), (.scal (.int .i64 0)), (.scal (.string ⟨#[]⟩)), (.scal (.int .i64 0)), (.scal (.int .i64 0)), (.scal (.string ⟨#[]⟩)), (.scal (.int .i64 0)), (.list .full []), (.scal (.string ⟨#[]⟩)), (.scal (.int .i64 0)), (.scal (.int .i64 0)), (.scal (.int .i64 0)), (.scal (.string ⟨#[]⟩)), (.scal (.int .i64 0)), (.list .full []), (.scal (.int .i64 0)), (.scal (.string ⟨#[]⟩)), (.scal (.int .i64 0)), (.list .full [])] []⟩,
  ⟨(some 39), none, .load1 (.t 7)⟩,
  ⟨none, none, .store 24 (.t 6) (.t 38)⟩,
  ⟨none, none, .store 1 (.t 7) (.t 39)⟩])
 .ret)
 .skip))
 (.seq (.seq (.region false [⟨(some 40), none, .mov (.t 9)⟩,
  ⟨(some 41), none, .load1 (.t 4)⟩,
  ⟨(some 42), none, .callP 67 [(.t 40), (.t 41), (.c (.scal (.int .i64 300)))]⟩,
  ⟨(some 43), none, .un .not (.t 42)⟩])
 (.cond (.t 43) (.seq (.region false [⟨(some 44), none, .build [(.scal (.string ⟨#[]⟩)), (.list .full []), (.scal (.int .i64 0)), (.list .full []), (.scal (.string ⟨#[]⟩)), (.scal (.bool false)), (.scal (.int .i64 0)), (.scal (.string ⟨#[]⟩)), (.scal (.int .i64 0)), (.scal (.int .i64 0)), (.scal (.string ⟨#[]⟩)), (.scal (.int .i64 0)), (.list .full []), (.scal (.string ⟨#[]⟩)), (.scal (.int .i64 0)), (.scal (.int .i64 0)), (.scal (.int .i64 0)), (.scal (.string ⟨#[]⟩)), (.scal (.int .i64 0)), (.list .full []), (.scal (.int .i64 0)), (.scal (.string ⟨#[]⟩)), (.scal (.int .i64 0)), (.list .full [])] []⟩,
  ⟨none, none, .store 24 (.t 6) (.t 44)⟩,
  ⟨none, none, .store 1 (.t 7) (.c (.scal (.int .i64 30)))⟩])
 .ret)
 .skip))
 (.seq (.seq (.region true [⟨(some 45), none, .load1 (.t 3)⟩,
  ⟨(some 46), none, .nilchk (.t 45)⟩,
  ⟨(some 47), none, .faddr 5 (.t 46)⟩,
  ⟨(some 48), none, .load1 (.t 47)⟩,
  ⟨(some 49), none, .faddr 3 (.t 5)⟩,
  ⟨(some 50), none, .load1 (.t 49)⟩,
  ⟨(some 51), none, .iaddr 4 (.t 50) (.c (.scal (.int .i64 2)))⟩,
  ⟨(some 52), none, .loadA 4 (.t 51)⟩,
  ⟨(some 53), none, .load1 (.t 4)⟩,
  ⟨(some 54), none, .bin .add 3 (.t 53) (.c (.scal (.int .i64 601)))⟩,
  ⟨(some 55), none, .load1 (.t 4)⟩,
  ⟨(some 56), none, .callF 68 [(.t 48), (.t 52), (.t 54), (.t 55)]⟩,
  ⟨(some 12), none, .mov (.t 56)⟩])
 (.seq (.region false [⟨(some 57), none, .mov (.t 12)⟩,
  ⟨(some 58), none, .bin .neq 51 (.t 57) (.c (.scal (.int .i64 0)))⟩])
 (.cond (.t 58) (.seq (.region false [⟨(some 59), none, .build [(.scal (.string ⟨#[]⟩)), (.list .full []), (.scal (.int .i64 0)), (.list .full []), (.scal (.string ⟨#[]⟩)), (.scal (.bool false)), (.scal (.int .i64 0)), (.scal (.string ⟨#[]⟩)), (.scal (.int .i64 0)), (.scal (.int .i64 0)), (.scal (.string ⟨#[]⟩)), (.scal (.int .i64 0)), (.list .full []), (.scal (.string ⟨#[]⟩)), (.scal (.int .i64 0)), (.scal (.int .i64 0)), (.scal (.int .i64 0)), (.scal (.string ⟨#[]⟩)), (.scal (.int .i64 0)), (.list .full []), (.scal (.int .i64 0)), (.scal (.string ⟨#[]⟩)), (.scal (.int .i64 0)), (.list .full [])] []⟩,
  ⟨(some 60), none, .mov (.t 12)⟩,
  ⟨none, none, .store 24 (.t 6) (.t 59)⟩,
  ⟨none, none, .store 1 (.t 7) (.t 60)⟩])
 .ret)
 .skip)))
 (.seq (.region true [⟨(some 61), none, .loadA 7 (.t 11)⟩,
  ⟨(some 62), none, .loadA 13 (.t 8)⟩,
  ⟨(some 63), none, .faddr 3 (.t 5)⟩,
  ⟨(some 64), none, .load1 (.t 63)⟩,
  ⟨(some 65), none, .iaddr 4 (.t 64) (.c (.scal (.int .i64 1)))⟩,
  ⟨(some 66), none, .loadA 4 (.t 65)⟩,
  ⟨(some 67), none, .build [(.scal (.string ⟨#[]⟩)), (.list .full []), (.scal (.int .i64 0)), (.list .full []), (.scal (.string ⟨#[]⟩)), (.scal (.bool false)), (.scal (.int .i64 0)), (.scal (.string ⟨#[]⟩)), (.scal (.int .i64 0)), (.scal (.int .i64 0)), (.scal (.string ⟨#[]⟩)), (.scal (.int .i64 0)), (.list .full []), (.scal (.string ⟨#[]⟩)), (.scal (.int .i64 0)), (.scal (.int .i64 0)), (.scal (.int .i64 0)), (.scal (.string ⟨#[]⟩)), (.scal (.int .i64 0)), (.list .full []), (.scal (.int .i64 0)), (.scal (.string ⟨#[]⟩)), (.scal (.int .i64 0)), (.list .full [])] [(0, 7, (.t 61)), (7, 13, (.t 62)), (20, 4, (.t 66))]⟩,
  ⟨none, none, .store 24 (.t 6) (.t 67)⟩,
  ⟨none, none, .store 1 (.t 7) (.c (.scal (.int .i64 0)))⟩])
 .ret)))))))
theorem okD17 : deferRes Tryz.prog ⟨pf2, fun d => ([3,4,6,7] : List Nat).contains d, fun d => ([] : List Nat).contains d⟩ Tryz.f17 = some (68, [.cellA 6 24, .cell1 7], rcA17, rpre17, (.t 13), rcB17) := by kernel_rfl
end Go.Pv

set_option linter.unusedSimpArgs false
set_option linter.unusedVariables false
namespace Go.Pv
open Go.Proofs
theorem callsD_of {P : Program} {q : RPar} {f : FuncId} {fn : Func} {n : Nat} {rs : List RRes} {rc : RCode} (hm : P.follows .mixedOrders = true) (hf : P.funcs[f]? = some fn) (hr : fnRes P q fn = some (n, rs, rc)) {args : List PV} {H : PH} {K : PV → PH → Prop} (hlen : args.length ≤ n)
    (h : go P (fnPost rs K) [.code rc] (initE args) [] H) : PCallsD P f args H K := by
  unfold fnRes at hr
  split at hr
  · cases hr
  · rename_i hn
    split at hr
    · rename_i c hb
      split at hr
      · rename_i rc' rs' h1 h2
        cases hr
        exact fn_callsD (q := q) hm hf hb (by simpa using hn) rfl h1 h2 hlen h
      · cases hr
    · cases hr
def zX : Tn := ⟨zA, zK, zT⟩
def cellsX (t1 t2 t3 t4 t5 : Tok) (x : Tn) : List PV := [.scal (.string x.auth.user), .list t1 (ints x.auth.groups), .scal (.int .i64 x.auth.origin), .list t2 (strs x.auth.transited), .scal (.string x.auth.service), .scal (.bool x.auth.fwd), .scal (.int .i64 x.auth.to),
  .scal (.string x.tick.service), .scal (.int .i64 x.tick.flags), .scal (.int .i64 x.tick.key.k), .scal (.string x.tick.key.s), .scal (.int .i64 x.tick.key.n), .list t3 (encL x.tick.key.l), .scal (.string x.tick.client), .scal (.int .i64 x.tick.span.lo), .scal (.int .i64 x.tick.span.hi), .scal (.int .i64 x.tick.auth.k), .scal (.string x.tick.auth.s), .scal (.int .i64 x.tick.auth.n), .list t4 (encL x.tick.auth.l),
  .scal (.int .i64 x.term.k), .scal (.string x.term.s), .scal (.int .i64 x.term.n), .list t5 (encL x.term.l)]
theorem cellsX_fg (t1 t2 t3 t4 t5 : Tok) (x : Tn) : (PV.agg (cellsX t1 t2 t3 t4 t5 x)).fg = encX x := by simp only [cellsX, encX, PV.fg, fgL, zzcv, zzgj, zzkt]
structure Loc (H : PH) (p3 p4 p6 p7 b c : Nat) (now : Int) (t1 t2 t3 t4 t5 : Tok) (x : Tn) (e : Int) (name : ByteArray) (key : Term) (room : Int) (es : List (Term × Int)) (te : PV) (lg : List PV) (tl : Tok) : Prop where
  g3 : H.get p3 = some (.cells [.ptr b 0])
  g4 : H.get p4 = some (.cells [.scal (.int .i64 now)])
  g6 : H.get p6 = some (.cells (cellsX t1 t2 t3 t4 t5 x))
  g7 : H.get p7 = some (.cells [.scal (.int .i64 e)])
  acc : Acc H b c name key room es te lg tl
set_option maxRecDepth 10000 in
theorem c63 {H : PH} {b c p3 p4 p6 p7 : Nat} {now : Int} {t1 t2 t3 t4 t5 : Tok} {x : Tn} {e : Int} {name : ByteArray} {key : Term} {room : Int} {es : List (Term × Int)} {te : PV} {lg : List PV} {tl : Tok} (h : Loc H p3 p4 p6 p7 b c now t1 t2 t3 t4 t5 x e name key room es te lg tl) (hlen : lg.length < 1000000) (n6 : p6 ≠ b) (n7 : p7 ≠ b) :
    PCallsD Tryz.prog 63 [.ptr p3 0, .ptr p4 0, .ptr p6 0, .ptr p7 0] H fun r H' => H'.get p6 = some (.cells (cellsX t1 t2 t3 t4 t5 x)) ∧ H'.get p7 = some (.cells [.scal (.int .i64 e)]) ∧ ∃ tl', Acc H' b c name key room es te (lg ++ [evP now name x e]) tl' := by
  refine callsD_of hmix Tryz.func63 ok63 (by simp) ?_
  obtain ⟨h3, h4, h6, h7, ha⟩ := h
  have h6' := h6
  simp only [cellsX] at h6'
  simp -implicitDefEqProofs only [rc63, h3, h4, h6', h7, zzfp, zzjq, zzjk, zzip, zziq, zzdn, zzlf, zzid, zzgi, zzhu, zzhr, zzlc, zzlb, zzce, zzky, zzjj, zzjg, zzgo, zzgp, zzdl, zzdi, zzif, zzie, zzhz, List.map_cons, List.map_nil, Nat.reduceAdd, Nat.reduceSub, Nat.reduceEqDiff, if_true, if_false, PV.fg, fgL, zzcv, zzgj, zzkt, Nat.add_one_ne_zero, zzgf]
  have hfg := cellsX_fg t1 t2 t3 t4 t5 x
  refine kcall_intro (K := fun r H' => r = .tup [] ∧ Kx H b H' ∧ ∃ tl', Acc H' b c name key room es te (lg ++ [evP now name x e]) tl') (by have := c64 ha hlen now x e; simpa only [encX, zzgj, zzkt, zzcv] using this) ?_
  rintro r H1 ⟨rfl, hk, tl', hA⟩
  simp -implicitDefEqProofs only [zzfo, zzjy, zzja, zzjc, zzid, zzia, zzdg]
  exact endK_raw ⟨hk _ _ n6 h6, hk _ _ n7 h7, tl', hA⟩
end Go.Pv


set_option linter.unusedSimpArgs false
set_option linter.unusedVariables false
namespace Go.Pv
open Go.Proofs
theorem run_allocH' {P : Program} {Q : RX → St → Prop} {env : Nat → EV} {L : List (List PV)} {H : PH} {k : List SI} {ops : List RI} {d : Option Nat} {z : List PV} : run P Q (⟨d, none, .allocH z⟩ :: ops) k env L H = bH P Q z d ops k env L H := nr rfl
theorem Acc.other {H : PH} {b c : Nat} {name : ByteArray} {key : Term} {room : Int} {es : List (Term × Int)} {te : PV} {lg : List PV} {tl : Tok} (h : Acc H b c name key room es te lg tl) {x : Nat} {o : PObj} (hb : x ≠ b) (hc : x ≠ c) (he : elB te ≠ some x) (hx : H.get x = none ∨ ∃ cs, H.get x = some (.cells cs)) : Acc (H.set x o) b c name key room es te lg tl := by
  have nt : ∀ {tok : Tok} {n sz : Nat}, Grow H tok n sz → tokB tok ≠ some x := by
    intro tok n sz hg
    rcases hx with hx | ⟨cs, hx⟩
    · rcases hg with rfl | ⟨b', t, rfl, hg⟩
      · intro e; cases e
      · intro e; cases e; rw [hg] at hx; cases hx
    · exact hg.not_cells hx
  exact ⟨by rw [PH.get_set, if_neg (fun e => hb e.symm)]; exact h.acc, h.ch.set hc he, h.ne, h.gl.set_cells (nt h.gl), h.vb, h.ap, h.sl⟩
theorem Acc.new {H : PH} {b c : Nat} {name : ByteArray} {key : Term} {room : Int} {es : List (Term × Int)} {te : PV} {lg : List PV} {tl : Tok} (h : Acc H b c name key room es te lg tl) {x : Nat} (hx : H.get x = none) : elB te ≠ some x := by
  intro e
  obtain ⟨cs, hcs⟩ := h.ch.el.get e
  rw [hx] at hcs; cases hcs
def acceptT (name : ByteArray) (key : Term) (room : Int) (es : List (Term × Int)) (now : Int) (t : Term) : Tn × Int × List (Term × Int) :=
  if (shownD t key).2.2.2 != 0 then (zX, (shownD t key).2.2.2, es) else
  if (whoT name key now (shownD t key).1).2 != 0 then (zX, (whoT name key now (shownD t key).1).2, es) else
  if !nearT (shownD t key).2.1 now 300 then (zX, 30, es) else
  match t.l with
  | [_, x1, x2] =>
    if (putE2 room es x2 (IntKind.i64.wrap (now + 601)) now).1 != 0 then (zX, (putE2 room es x2 (IntKind.i64.wrap (now + 601)) now).1, (putE2 room es x2 (IntKind.i64.wrap (now + 601)) now).2)
    else (⟨(whoT name key now (shownD t key).1).1, (shownD t key).1, x1⟩, 0, (putE2 room es x2 (IntKind.i64.wrap (now + 601)) now).2)
  | _ => (zX, 0, es)
theorem shownD_ok {t key : Term} (h : ((shownD t key).2.2.2 != 0) = false) : ∃ x0 x1 x2, t.l = [x0, x1, x2] := by
  unfold shownD at h
  split at h
  · rename_i g; simp only [g] at h; cases h
  · rename_i g
    have := (takeT_ok (n := 2) (by simpa using g)).1
    have h3 : (t.l.length : Int) = 3 := by rw [this]; rfl
    exact three_of (by rw [h3]; rfl)
section
variable {H : PH} {b c p3 p4 p6 p7 : Nat} {now : Int} {t1 t2 t3 t4 t5 : Tok} {x : Tn} {e : Int} {name : ByteArray} {key : Term} {room : Int} {es : List (Term × Int)} {te : PV} {lg : List PV} {tl : Tok}
structure Dist (b c p3 p4 p6 p7 : Nat) (te : PV) : Prop where
  n6b : p6 ≠ b
  n7b : p7 ≠ b
  n6c : p6 ≠ c
  n7c : p7 ≠ c
  n36 : p3 ≠ p6
  n37 : p3 ≠ p7
  n46 : p4 ≠ p6
  n47 : p4 ≠ p7
  n67 : p6 ≠ p7
  n3c : p3 ≠ c
  n4c : p4 ≠ c
  e3 : elB te ≠ some p3
  e4 : elB te ≠ some p4
  e6 : elB te ≠ some p6
  e7 : elB te ≠ some p7
theorem Loc.set6 (h : Loc H p3 p4 p6 p7 b c now t1 t2 t3 t4 t5 x e name key room es te lg tl) (d : Dist b c p3 p4 p6 p7 te) (u1 u2 u3 u4 u5 : Tok) (y : Tn) : Loc (H.set p6 (.cells (cellsX u1 u2 u3 u4 u5 y))) p3 p4 p6 p7 b c now u1 u2 u3 u4 u5 y e name key room es te lg tl :=
  ⟨by rw [PH.get_set, if_neg d.n36]; exact h.g3, by rw [PH.get_set, if_neg d.n46]; exact h.g4, get_same _ _ _, by rw [PH.get_set, if_neg (fun e => d.n67 e.symm)]; exact h.g7, h.acc.other d.n6b d.n6c d.e6 (.inr ⟨_, h.g6⟩)⟩
theorem Loc.set7 (h : Loc H p3 p4 p6 p7 b c now t1 t2 t3 t4 t5 x e name key room es te lg tl) (d : Dist b c p3 p4 p6 p7 te) (e' : Int) : Loc (H.set p7 (.cells [.scal (.int .i64 e')])) p3 p4 p6 p7 b c now t1 t2 t3 t4 t5 x e' name key room es te lg tl :=
  ⟨by rw [PH.get_set, if_neg d.n37]; exact h.g3, by rw [PH.get_set, if_neg d.n47]; exact h.g4, by rw [PH.get_set, if_neg d.n67]; exact h.g6, get_same _ _ _, h.acc.other d.n7b d.n7c d.e7 (.inr ⟨_, h.g7⟩)⟩
theorem accept_end {K : PV → PH → Prop} {env : Nat → EV} {L : List (List PV)} (h : Loc H p3 p4 p6 p7 b c now t1 t2 t3 t4 t5 x e name key room es te lg tl) (hlen : lg.length < 1000000) (d : Dist b c p3 p4 p6 p7 te)
    (e6 : env 6 = .v (.ptr p6 0)) (e7 : env 7 = .v (.ptr p7 0)) (e13 : env 13 = .v (.fn (.func 63) [] [.ptr p3 0, .ptr p4 0, .ptr p6 0, .ptr p7 0]))
    (hK : ∀ H' tl', Acc H' b c name key room es te (lg ++ [evP now name x e]) tl' → K (.tup [encX x, .scal (.int .i64 e)]) H') :
    endD Tryz.prog [.cellA 6 24, .cell1 7] (.t 13) K 63 [.ptr p3 0, .ptr p4 0, .ptr p6 0, .ptr p7 0] .ret ⟨env, L, H⟩ := by
  refine ⟨e13, (c63 h hlen d.n6b d.n7b).mono ?_⟩
  rintro r H' ⟨g6, g7, tl', hA⟩
  have : resV [.cellA 6 24, .cell1 7] ⟨env, L, H'⟩ = some [.agg (cellsX t1 t2 t3 t4 t5 x), .scal (.int .i64 e)] := by
    simp only [resV, e6, e7, cellsAt, g6, g7]
    rfl
  rw [this]
  refine ⟨H', HLe.refl _, _, .inl rfl, ?_⟩
  have hr : (retV [.agg (cellsX t1 t2 t3 t4 t5 x), .scal (.int .i64 e)]).fg = .tup [encX x, .scal (.int .i64 e)] := by
    have := cellsX_fg t1 t2 t3 t4 t5 x
    simp only [retV, PV.fg, fgL] at this ⊢
    rw [← this]
  rw [hr]
  exact hK _ _ hA
end
end Go.Pv


set_option linter.unusedSimpArgs false
set_option linter.unusedVariables false
namespace Go.Pv
open Go.Proofs
set_option maxRecDepth 20000 in
set_option maxHeartbeats 4000000 in
theorem c17 {H : PH} {b c : Nat} {name : ByteArray} {key : Term} {room : Int} {es : List (Term × Int)} {te : PV} {lg : List PV} {tl : Tok} (h : Acc H b c name key room es te lg tl) (hes : es.length < 1000000) (hlen : lg.length < 1000000) (now : Int) (t : Term) :
    PCalls Tryz.prog 17 [.ptr b 0, .scal (.int .i64 now), enc t] H fun r H' => r = .tup [encX (acceptT name key room es now t).1, .scal (.int .i64 (acceptT name key room es now t).2.1)] ∧
      ∃ te' tl', Acc H' b c name key room (acceptT name key room es now t).2.2 te' (lg ++ [evP now name (acceptT name key room es now t).1 (acceptT name key room es now t).2.1]) tl' := by
  refine defers_of (g := 63) hmix Tryz.func17 okD17 (by simp) ?_
  simp -implicitDefEqProofs only [rcA17, zzjp, zzbe, zzfp, zzdn, zzgi, zzbz, Nat.reduceSub, if_true, zzjp, zzbe]
  refine bH_intro fun p3 f3 => ?_
  simp -implicitDefEqProofs only [zzjp, zzbe, zzdn, zzlf, zzid, zzgi, zzca, Nat.reduceSub, Nat.reduceEqDiff, if_true, if_false, Nat.add_one_ne_zero, zzjp, zzbe]
  refine bH_intro fun p4 f4 => ?_
  simp -implicitDefEqProofs only [run_allocH', zzjo, zzbd, zzdn, zzlf, zzid, zzgi, List.length_nil, List.nil_append, Nat.reduceSub, Nat.reduceEqDiff, if_true, if_false, Nat.add_one_ne_zero, zzde]
  refine bH_intro fun p6 f6 => ?_
  simp -implicitDefEqProofs only [run_allocH', zzid]
  refine bH_intro fun p7 f7 => ?_
  have some_ne : ∀ {H : PH} {x y : Nat} {o : PObj}, H.get x = none → H.get y = some o → x ≠ y := fun h1 h2 e => by subst e; rw [h1] at h2; cases h2
  have n3b := some_ne f3 h.acc
  have n3c := some_ne f3 h.ch.cache
  have e3 := h.new f3
  have a1 := h.other (o := .cells [.ptr b 0]) n3b n3c e3 (.inl f3)
  have n4b := some_ne f4 a1.acc
  have n4c := some_ne f4 a1.ch.cache
  have e4 := a1.new f4
  have a2 := a1.other (o := .cells [.scal (.int .i64 now)]) n4b n4c e4 (.inl f4)
  have n43 : p4 ≠ p3 := some_ne f4 (get_same _ _ _)
  have n6b := some_ne f6 a2.acc
  have n6c := some_ne f6 a2.ch.cache
  have e6 := a2.new f6
  have a3 := a2.other (o := .cells (cellsX .full .full .full .full .full zX)) n6b n6c e6 (.inl f6)
  have n64 : p6 ≠ p4 := some_ne f6 (get_same _ _ _)
  have n63 : p6 ≠ p3 := some_ne f6 (by rw [PH.get_set, if_neg (fun e => n43 e.symm)]; exact get_same _ _ _)
  have n7b := some_ne f7 a3.acc
  have n7c := some_ne f7 a3.ch.cache
  have e7 := a3.new f7
  have n76 : p7 ≠ p6 := some_ne f7 (get_same _ _ _)
  have n74 : p7 ≠ p4 := some_ne f7 (by rw [PH.get_set, if_neg (fun e => n64 e.symm)]; exact get_same _ _ _)
  have n73 : p7 ≠ p3 := some_ne f7 (by rw [PH.get_set, if_neg (fun e => n63 e.symm), PH.get_set, if_neg (fun e => n43 e.symm)]; exact get_same _ _ _)
  have a4 := a3.other (o := .cells [.scal (.int .i64 0)]) n7b n7c e7 (.inl f7)
  have d : Dist b c p3 p4 p6 p7 te := ⟨n6b, n7b, n6c, n7c, fun e => n63 e.symm, fun e => n73 e.symm, fun e => n64 e.symm, fun e => n74 e.symm, fun e => n76 e.symm, n3c, n4c, e3, e4, e6, e7⟩
  have hL : Loc ((((H.set p3 (.cells [.ptr b 0])).set p4 (.cells [.scal (.int .i64 now)])).set p6 (.cells (cellsX .full .full .full .full .full zX))).set p7 (.cells [.scal (.int .i64 0)])) p3 p4 p6 p7 b c now .full .full .full .full .full zX 0 name key room es te lg tl :=
    ⟨by rw [PH.get_set, if_neg d.n37, PH.get_set, if_neg d.n36, PH.get_set, if_neg (fun e => n43 e.symm)]; exact get_same _ _ _, by rw [PH.get_set, if_neg d.n47, PH.get_set, if_neg d.n46]; exact get_same _ _ _, by rw [PH.get_set, if_neg d.n67]; exact get_same _ _ _, get_same _ _ _, a4⟩
  have hz : [PV.scal (.string ⟨#[]⟩), .list .full [], .scal (.int .i64 0), .list .full [], .scal (.string ⟨#[]⟩), .scal (.bool false), .scal (.int .i64 0), .scal (.string ⟨#[]⟩), .scal (.int .i64 0), .scal (.int .i64 0), .scal (.string ⟨#[]⟩), .scal (.int .i64 0), .list .full [], .scal (.string ⟨#[]⟩), .scal (.int .i64 0), .scal (.int .i64 0), .scal (.int .i64 0), .scal (.string ⟨#[]⟩), .scal (.int .i64 0), .list .full [], .scal (.int .i64 0), .scal (.string ⟨#[]⟩), .scal (.int .i64 0), .list .full []] = cellsX .full .full .full .full .full zX := rfl
  rw [hz]
  clear a1 a2 a3 a4 f4 f6 f7
  generalize ((((H.set p3 (.cells [.ptr b 0])).set p4 (.cells [.scal (.int .i64 now)])).set p6 (.cells (cellsX .full .full .full .full .full zX))).set p7 (.cells [.scal (.int .i64 0)])) = H1 at hL ⊢
  simp -implicitDefEqProofs only [zzfl, rpre17, zzjx, zzhe, zzjy, zzjk, zzdn, zzlf, zzid, zzgi, zzif, zzie, zzhz, List.map_cons, List.map_nil, Nat.reduceSub, Nat.reduceEqDiff, if_true, if_false, zzfl, Nat.add_one_ne_zero, zzjx, zzhe]
  refine ⟨[.ptr p3 0, .ptr p4 0, .ptr p6 0, .ptr p7 0], rfl, rfl, ?_⟩
  have h3 := hL.g3
  have h7 := hL.g7
  have hb := hL.acc.acc
  simp only [accC] at hb
  simp -implicitDefEqProofs only [rcB17, h3, hb, zzfp, zzft, zzjr, zzjk, zzip, zziq, zziv, zzij, zzdn, zzlf, zzid, zzgi, zzhu, zzhr, zzlc, zzlb, zzce, zzky, zzji, zzjj, zzjg, zzgo, zzgp, zzdl, zzdi, zzif, zzie, zzhz, zzho, zzdw, List.map_cons, List.map_nil, Option.map_some, Nat.reduceAdd, Nat.reduceSub, Nat.reduceEqDiff, Nat.zero_add, if_true, if_false, fgL, zzdf, Nat.add_one_ne_zero, zzhy, Term.eta, zzfc]
  refine qcall_intro (c65 t key) ?_
  simp -implicitDefEqProofs only [h7, get_same, zzfp, zzft, zzfh, zzjy, zzjm, zzkd, zzjk, zzjl, zzcd, zziu, zzip, zzig, zzii, zzdn, zzdm, zzlf, zzid, zzic, zzgi, zzhu, zzhr, zzji, zzjj, zzjg, zzgo, zzdl, zzkl, zzkr, zzks, zzkq, zzag, zzah, zzki, zzdt, zzkf, zzlg, zzaz, zzas, zzai, zzca, List.length_cons, List.length_nil, List.cons_append, List.nil_append, List.all_cons, List.all_nil, zzbv, zzbt, zzbr, zzbs, Option.map_some, Nat.reduceAdd, Nat.reduceSub, Nat.reduceEqDiff, Nat.zero_add, Bool.and_self, and_self, if_true, if_false, Nat.add_one_ne_zero, zzcr]
  have hL2 := hL.set7 d (shownD t key).2.2.2
  generalize H1.set p7 (.cells [.scal (.int .i64 (shownD t key).2.2.2)]) = H2 at hL2 ⊢
  clear hL h3 h7 hb
  have h3 := hL2.g3
  have h4 := hL2.g4
  have h6 := hL2.g6
  have h7 := hL2.g7
  have hb := hL2.acc.acc
  have hn : ∀ o, PH.get (H2.set p6 o) p7 = H2.get p7 := fun o => by rw [PH.get_set, if_neg (fun e => d.n67 e.symm)]
  simp only [accC] at hb
  simp only [cellsX] at h6
  refine br_intro (fun b1 => ?_) (fun b1 => ?_)
  · simp -implicitDefEqProofs only [go_sreg, zzft, zzjk, zzih, zzip, zzdn, zzlf, zzid, zzgi, zzjj, zzdi, zzbb, zzdk, zzbg, Nat.reduceSub, Nat.reduceEqDiff, if_true, if_false, Nat.add_one_ne_zero]
    refine ⟨⟨d.n67.symm, trivial⟩, ?_⟩
    simp -implicitDefEqProofs only [h6, h7, hn, zzfq, zzjy, zzkd, zzjk, zzjl, zzdn, zzlf, zzid, zzic, zzgi, zzhu, zzhr, zzjj, zzjg, zzgo, zzdl, zzkl, zzks, zzkq, zzah, zzbw, zzca, List.length_cons, List.length_nil, List.all_cons, List.all_nil, zzbv, zzbt, zzbr, zzbq, zzbs, Nat.reduceAdd, Nat.reduceSub, Nat.reduceEqDiff, Nat.zero_add, Bool.and_self, and_self, if_true, if_false, Nat.add_one_ne_zero]
    refine accept_end ((hL2.set6 d .full .full .full .full .full zX).set7 d (shownD t key).2.2.2) hlen d rfl rfl rfl ?_
    intro H' tl' hA
    refine ⟨?_, te, tl', ?_⟩
    · simp only [acceptT, b1, if_true]
    · simp only [acceptT, b1, if_true]; exact hA
  · simp -implicitDefEqProofs only [h3, h4, zzfu, zzfp, zzft, zzjq, zzjk, zzip, zziq, zzdn, zzlf, zzid, zzgi, zzhu, zzhr, zzlc, zzlb, zzce, zzky, zzji, zzjj, zzjg, zzgo, zzgp, zzdl, zzdi, zzif, zzie, zzhz, List.map_cons, List.map_nil, Option.map_some, Nat.reduceAdd, Nat.reduceSub, Nat.reduceEqDiff, if_true, if_false, PV.fg, fgL, Nat.add_one_ne_zero, zzgf, Term.eta, zzcs, zzeq]
    refine kcall_intro (c66 hL2.acc now (shownD t key).1) ?_
    rintro r H3 ⟨rfl, rfl⟩
    simp -implicitDefEqProofs only [h7, get_same, zzfp, zzft, zzfh, zzjy, zzjm, zzkd, zzjk, zzjl, zzcd, zziu, zzip, zzig, zzii, zzdn, zzdm, zzlf, zzid, zzic, zzgi, zzhu, zzhr, zzji, zzjj, zzjg, zzgo, zzdl, zzkl, zzkr, zzks, zzkq, zzag, zzah, zzki, zzdt, zzkf, zzlg, zzaz, zzas, zzai, zzca, List.length_cons, List.length_nil, List.cons_append, List.nil_append, List.all_cons, List.all_nil, zzbv, zzbt, zzbr, zzbq, zzbs, Option.map_some, Nat.reduceAdd, Nat.reduceSub, Nat.reduceEqDiff, Nat.zero_add, Bool.and_self, and_self, if_true, if_false, Nat.add_one_ne_zero, zzcg]
    have hL3 := hL2.set7 d (whoT name key now (shownD t key).1).2
    generalize H3.set p7 (.cells [.scal (.int .i64 (whoT name key now (shownD t key).1).2)]) = H4 at hL3 ⊢
    clear hL2 h3 h4 h6 h7 hb hn
    have h3 := hL3.g3
    have h4 := hL3.g4
    have h6 := hL3.g6
    have h7 := hL3.g7
    have hb := hL3.acc.acc
    have hn : ∀ o, PH.get (PH.set H4 p6 o) p7 = PH.get H4 p7 := fun o => by rw [PH.get_set, if_neg (fun e => d.n67 e.symm)]
    simp only [accC] at hb
    simp only [cellsX] at h6
    refine br_intro (fun b2 => ?_) (fun b2 => ?_)
    · simp -implicitDefEqProofs only [go_sreg, zzft, zzjk, zzih, zzip, zzdn, zzlf, zzid, zzgi, zzjj, zzdi, zzbb, zzdk, zzbg, Nat.reduceSub, Nat.reduceEqDiff, if_true, if_false, Nat.add_one_ne_zero]
      refine ⟨⟨d.n67.symm, trivial⟩, ?_⟩
      simp -implicitDefEqProofs only [h6, h7, hn, zzfq, zzjy, zzkd, zzjk, zzjl, zzdn, zzlf, zzid, zzic, zzgi, zzhu, zzhr, zzjj, zzjg, zzgo, zzdl, zzkl, zzks, zzkq, zzah, zzbw, zzca, List.length_cons, List.length_nil, List.all_cons, List.all_nil, zzbv, zzbt, zzbr, zzbq, zzbs, Nat.reduceAdd, Nat.reduceSub, Nat.reduceEqDiff, Nat.zero_add, Bool.and_self, and_self, if_true, if_false, Nat.add_one_ne_zero]
      refine accept_end ((hL3.set6 d .full .full .full .full .full zX).set7 d (whoT name key now (shownD t key).1).2) hlen d rfl rfl rfl ?_
      intro H' tl' hA
      refine ⟨?_, te, tl', ?_⟩
      · simp only [acceptT, b1, b2, Bool.false_eq_true, if_false, if_true]
      · simp only [acceptT, b1, b2, Bool.false_eq_true, if_false, if_true]; exact hA
    · simp -implicitDefEqProofs only [h4, zzfu, zzfp, zzft, zzjr, zzjk, zziu, zzip, zzdn, zzdm, zzlf, zzid, zzgi, zzhu, zzhr, zzjj, zzjg, zzgo, zzdl, zzif, zzie, zzhz, List.map_cons, List.map_nil, Nat.reduceSub, Nat.reduceEqDiff, if_true, if_false, PV.fg, fgL, Nat.add_one_ne_zero, zzhy]
      refine qcall_intro (c67 _ _ _) ?_
      simp -implicitDefEqProofs only [zzfh, zzjy, zzjk, zzcd, r_un, zzdn, zzlf, zzid, zzgi, zzle, Nat.reduceSub, Nat.reduceEqDiff, if_true, if_false, Nat.add_one_ne_zero]
      refine br_intro (fun b3 => ?_) (fun b3 => ?_)
      · simp -implicitDefEqProofs only [h6, h7, hn, zzfp, zzft, zzfq, zzjy, zzkd, zzjk, zzjl, zzih, zzdn, zzdm, zzlf, zzid, zzic, zzgi, zzjj, zzjg, zzdi, zzbb, zzdk, zzbg, zzkl, zzks, zzkq, zzah, zzbw, zzca, List.length_cons, List.length_nil, List.all_cons, List.all_nil, zzbv, zzbt, zzbr, zzbq, zzbs, Nat.reduceAdd, Nat.reduceSub, Nat.reduceEqDiff, Nat.zero_add, Bool.and_self, and_self, if_true, if_false, Nat.add_one_ne_zero]
        refine accept_end ((hL3.set6 d .full .full .full .full .full zX).set7 d 30) hlen d rfl rfl rfl ?_
        intro H' tl' hA
        refine ⟨?_, te, tl', ?_⟩
        · simp only [acceptT, b1, b2, b3, Bool.false_eq_true, if_false, if_true]
        · simp only [acceptT, b1, b2, b3, Bool.false_eq_true, if_false, if_true]; exact hA
      · obtain ⟨x0, x1, x2, hl⟩ := shownD_ok b1
        have n1 : nth t.l 1 = some x1 := by rw [hl]; rfl
        have n2 : nth t.l 2 = some x2 := by rw [hl]; rfl
        have hT : acceptT name key room es now t = if (putE2 room es x2 (IntKind.i64.wrap (now + 601)) now).1 != 0 then (zX, (putE2 room es x2 (IntKind.i64.wrap (now + 601)) now).1, (putE2 room es x2 (IntKind.i64.wrap (now + 601)) now).2) else (⟨(whoT name key now (shownD t key).1).1, (shownD t key).1, x1⟩, 0, (putE2 room es x2 (IntKind.i64.wrap (now + 601)) now).2) := by
          simp only [acceptT, b1, b2, b3, hl, Bool.false_eq_true, if_false]
        rw [hT]
        simp -implicitDefEqProofs only [h3, h4, hb, n2, zzfu, zzfp, zzft, zzjq, zzjk, zzip, zziq, zziv, zzig, zzij, zzik, zzdn, zzdm, zzlf, zzid, zzgi, zzhu, zzhr, zzlc, zzlb, zzce, zzky, zzji, zzjh, zzjj, zzjg, zzgo, zzgp, zzdl, zzdi, zzif, zzie, zzhz, zzho, zzdv, zzdw, zzaf, zzae, zzgg, zzcf, zzkf, zzlg, zzaz, zzal, zzaj, List.map_cons, List.map_nil, List.length_cons, List.length_nil, Option.map_some, Nat.reduceAdd, Nat.reduceSub, Nat.reduceEqDiff, Nat.zero_add, if_true, if_false, PV.fg, fgL, zzdf, zzcx, Nat.add_one_ne_zero, zzgf, zzde, Term.eta, zzfc, Int.reduceLE, Int.reduceToNat]
        refine kcall_intro (c68 hL3.acc.ch hes x2 _ now) ?_
        rintro r H5 ⟨rfl, te', hC5, hF5⟩
        have hA5 := hL3.acc.put hC5 hF5
        have hL5 : Loc H5 p3 p4 p6 p7 b c now .full .full .full .full .full zX (whoT name key now (shownD t key).1).2 name key room (putE2 room es x2 (IntKind.i64.wrap (now + 601)) now).2 te' lg tl :=
          ⟨hF5.keep _ _ h3 d.n3c d.e3, hF5.keep _ _ h4 d.n4c d.e4, hF5.keep _ _ hL3.g6 d.n6c d.e6, hF5.keep _ _ h7 d.n7c d.e7, hA5⟩
        have old : ∀ {x : Nat} {o : PObj}, H4.get x = some o → elB te ≠ some x → elB te' ≠ some x := by
          intro x o hx hn e
          rcases hF5.new _ e with e2 | e2
          · exact hn e2
          · rw [hx] at e2; cases e2
        have d : Dist b c p3 p4 p6 p7 te' := ⟨d.n6b, d.n7b, d.n6c, d.n7c, d.n36, d.n37, d.n46, d.n47, d.n67, d.n3c, d.n4c, old h3 d.e3, old h4 d.e4, old hL3.g6 d.e6, old h7 d.e7⟩
        clear h3 h4 h6 h7 hb hn old hF5 hC5
        have h3 := hL5.g3
        have h4 := hL5.g4
        have h6 := hL5.g6
        have h7 := hL5.g7
        have hb := hL5.acc.acc
        have hn : ∀ o, PH.get (PH.set H5 p6 o) p7 = PH.get H5 p7 := fun o => by rw [PH.get_set, if_neg (fun e => d.n67 e.symm)]
        simp only [accC] at hb
        simp only [cellsX] at h6
        simp -implicitDefEqProofs only [zzfp, zzft, zzfh, zzjy, zzjk, zzcd, zziu, zzig, zzdn, zzdm, zzlf, zzid, zzgi, zzkf, zzlg, zzaz, zzas, zzai, Nat.reduceSub, Nat.reduceEqDiff, if_true, if_false, Nat.add_one_ne_zero]
        refine br_intro (fun b4 => ?_) (fun b4 => ?_)
        · simp -implicitDefEqProofs only [h6, h7, hn, zzfp, zzft, zzfq, zzjy, zzkd, zzjk, zzjl, zziu, zzih, zzdn, zzlf, zzid, zzic, zzgi, zzjj, zzjg, zzdi, zzbb, zzdk, zzbg, zzkl, zzks, zzkq, zzah, zzbw, zzca, List.length_cons, List.length_nil, List.all_cons, List.all_nil, zzbv, zzbt, zzbr, zzbq, zzbs, Nat.reduceAdd, Nat.reduceSub, Nat.reduceEqDiff, Nat.zero_add, Bool.and_self, and_self, if_true, if_false, Nat.add_one_ne_zero]
          refine accept_end ((hL5.set6 d .full .full .full .full .full zX).set7 d (putE2 room es x2 (IntKind.i64.wrap (now + 601)) now).1) hlen d rfl rfl rfl ?_
          intro H' tl' hA
          refine ⟨?_, te', tl', ?_⟩
          · simp only [b4, if_true]
          · simp only [b4, if_true]; exact hA
        · simp -implicitDefEqProofs only [h6, h7, hn, n1, zzcr, zzfu, zzfp, zzft, zzfq, zzjy, zzkd, zzjk, zzjl, zzih, zzip, zziq, zzij, zzik, zzdn, zzdm, zzlf, zzid, zzic, zzgi, zzhu, zzhr, zzlc, zzlb, zzce, zzky, zzji, zzjh, zzjj, zzjg, zzgo, zzgp, zzdl, zzdi, zzbb, zzdk, zzdj, zzhx, zzba, zzbg, zzbf, zzkm, zzkn, zzkl, Nat.reduceBEq, zzko, zzks, zzkq, zzah, zzdv, zzaf, zzae, zzgg, zzcf, zzbw, zzca, List.length_cons, List.length_nil, List.all_cons, List.all_nil, zzbv, zzbt, zzbr, zzbq, zzbs, Option.map_some, Nat.reduceAdd, Nat.reduceSub, Nat.reduceEqDiff, Nat.zero_add, Bool.and_self, and_self, if_true, if_false, zzcx, Nat.add_one_ne_zero, zzde, Term.eta, zzfc, zzcr, zzeq, zzcg, zzec, Int.toNat_one, Int.reduceLE, Int.reduceBEq]
          refine accept_end ((hL5.set6 d .foreign .foreign .foreign .foreign .foreign ⟨(whoT name key now (shownD t key).1).1, (shownD t key).1, x1⟩).set7 d 0) hlen d rfl rfl rfl ?_
          intro H' tl' hA
          refine ⟨?_, te', tl', ?_⟩
          · simp only [b4, Bool.false_eq_true, if_false]
          · simp only [b4, Bool.false_eq_true, if_false]; exact hA
end Go.Pv



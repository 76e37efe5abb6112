import Derived.Test.YtlgaolpkeejmdaaGreatMD
import Derived.Test.YtlgaolpkeejmdaaGreatMG
import Derived.Test.YtlgaolpkeejmdaaGreatMB
import Derived.Test.YtlgaolpkeejmdaaGreatML
import Derived.Test.YtlgaolpkeejmdaaGreatMC
import Derived.Test.YtlgaolpkeejmdaaGreatMP
set_option linter.unusedSimpArgs false
set_option linter.unusedVariables false
namespace Go.Pv
open Go.Proofs
/-! ### a cache: a list that is written in place -/
/-- What came, and until when. -/
def entP (e : Term × Int) : PV := .agg [.scal (.int .i64 e.1.k), .scal (.string e.1.s), .scal (.int .i64 e.1.n), .list .foreign (encL e.1.l), .scal (.int .i64 e.2)]
def ents (l : List (Term × Int)) : List PV := l.map entP
theorem ents_len (l : List (Term × Int)) : (ents l).length = l.length := by simp [ents]
theorem ents_sz (l : List (Term × Int)) : allSz 5 (ents l) = true := allSz_map 5 entP (fun _ => rfl) _
theorem ents_app (l m : List (Term × Int)) : ents (l ++ m) = ents l ++ ents m := by simp [ents]
theorem flat_app : ∀ xs ys : List PV, flat (xs ++ ys) = flat xs ++ flat ys
  | [], ys => rfl
  | x :: xs, ys => by simp [flat, flat_app xs ys]
theorem fl_len (l : List (Term × Int)) : (flat (ents l)).length = l.length * 5 := by rw [flat_length (allSz_iff.1 (ents_sz l)), ents_len]
theorem fl_cons (e : Term × Int) (l : List (Term × Int)) : flat (ents (e :: l)) = (entP e).cells ++ flat (ents l) := rfl
theorem fl_cell : ∀ l : List (Term × Int), (flat (ents l)).all cellP = true
  | [] => rfl
  | e :: l => by rw [fl_cons, List.all_append, fl_cell l]; rfl
def hasE (es : List (Term × Int)) (m : Term) (now : Int) : Bool := es.any fun e => decide (now < e.2) && sameT e.1 m
/-- A cache's list, and the value that stands for it. -/
def EL (H : PH) (v : PV) (es : List (Term × Int)) : Prop :=
  (v = .list .full [] ∧ es = []) ∨ ∃ b cap tl, v = mslc b 0 es.length cap ∧ H.get b = some (.cells (flat (ents es) ++ tl)) ∧ es.length * 5 + tl.length = cap * 5
def elB : PV → Option Nat
  | .scal (.slice (some ⟨b, _, _⟩) _ _) => some b
  | _ => none
theorem elB_m (b o l c : Nat) : elB (mslc b o l c) = some b := rfl
theorem EL.set {H : PH} {v : PV} {es : List (Term × Int)} (h : EL H v es) {x : Nat} {o : PObj} (hx : elB v ≠ some x) : EL (H.set x o) v es := by
  rcases h with h | ⟨b, cap, tl, rfl, hb, hl⟩
  · exact .inl h
  · exact .inr ⟨b, cap, tl, rfl, by rw [PH.get_set, if_neg (fun e => hx (by rw [elB_m, e]))]; exact hb, hl⟩
def cacheC (room : Int) (v : PV) : List PV := [.scal (.int .i64 room), v]
structure Ch (H : PH) (c : Nat) (room : Int) (es : List (Term × Int)) (v : PV) : Prop where
  cache : H.get c = some (.cells (cacheC room v))
  el : EL H v es
  ne : elB v ≠ some c
/-- What a cache's turns leave alone. -/
structure Frm (H : PH) (c : Nat) (v : PV) (H' : PH) (v' : PV) : Prop where
  keep : ∀ x o, H.get x = some o → x ≠ c → elB v ≠ some x → H'.get x = some o
  new : ∀ x, elB v' = some x → elB v = some x ∨ H.get x = none
  dom : ∀ x, H.get x ≠ none → H'.get x ≠ none
theorem Frm.refl (H : PH) (c : Nat) (v : PV) : Frm H c v H v := ⟨fun _ _ h _ _ => h, fun _ h => .inl h, fun _ h => h⟩
theorem Frm.trans {H H1 H2 : PH} {c : Nat} {v v1 v2 : PV} (h : Frm H c v H1 v1) (k : Frm H1 c v1 H2 v2) : Frm H c v H2 v2 := by
  have hn : ∀ x o, H.get x = some o → elB v ≠ some x → elB v1 ≠ some x := by
    intro x o hx hv e
    rcases h.new x e with h | h
    · exact hv h
    · rw [hx] at h; cases h
  refine ⟨fun x o hx hc hv => k.keep x o (h.keep x o hx hc hv) hc (hn x o hx hv), fun x hx => ?_, fun x hx => k.dom x (h.dom x hx)⟩
  rcases k.new x hx with h1 | h1
  · exact h.new x h1
  · refine .inr ?_
    cases hg : H.get x with
    | none => rfl
    | some o => exact absurd h1 (h.dom x (by rw [hg]; simp))
theorem get_same (H : PH) (b : Nat) (o : PObj) : PH.get (PH.set H b o) b = some o := by rw [PH.get_set, if_pos rfl]
theorem dom_set {H : PH} {b : Nat} {o : PObj} : ∀ x, H.get x ≠ none → PH.get (PH.set H b o) x ≠ none := by
  intro x hx
  rw [PH.get_set]
  split
  · simp
  · exact hx
/-- What a store in the cache's list, and one in the cache itself, leave alone. -/
theorem Frm.two {H : PH} {c b : Nat} {v v' : PV} {o o' : PObj} (hb : elB v = some b ∨ H.get b = none) (hv : ∀ x, elB v' = some x → x = b ∨ elB v = some x) : Frm H c v (PH.set (PH.set H b o) c o') v' := by
  refine ⟨fun x o2 hx hc hvx => ?_, fun x hx => ?_, fun x hx => dom_set x (dom_set x hx)⟩
  · rw [PH.get_set, if_neg hc, PH.get_set]
    split
    · rename_i e; subst e
      rcases hb with hb | hb
      · exact absurd hb hvx
      · rw [hx] at hb; cases hb
    · exact hx
  · rcases hv x hx with rfl | h
    · exact hb
    · exact .inl h
theorem flat_sub {sz : Nat} : ∀ {ps : List PV} {i : Nat} {p : PV} {tl : List PV}, allSz sz ps = true → nth ps i = some p → sub (flat ps ++ tl) (i * sz) sz = some p.cells
  | [], i, p, tl, _, h => by simp [nth] at h
  | q :: ps, 0, p, tl, hs, h => by
    have hq := allSz_iff.1 hs q (by simp)
    simp only [nth, List.getElem?_cons_zero, Option.some.injEq] at h
    subst h
    simp only [sub, flat, Nat.zero_mul, List.drop_zero, List.append_assoc]
    rw [if_pos (by simp; omega), List.take_append_of_le_length (by omega), List.take_of_length_le (by omega)]
  | q :: ps, i + 1, p, tl, hs, h => by
    have hq := allSz_iff.1 hs q (by simp)
    have hs' : allSz sz ps = true := allSz_iff.2 fun p hp => allSz_iff.1 hs p (by simp [hp])
    have ih := flat_sub (tl := tl) hs' (i := i) (p := p) (by simpa [nth] using h)
    simp only [sub, flat, List.append_assoc] at ih ⊢
    rw [Nat.succ_mul]
    have e : (q.cells ++ (flat ps ++ tl)).drop (i * sz + sz) = (flat ps ++ tl).drop (i * sz) := by
      rw [show i * sz + sz = q.cells.length + i * sz by omega, ← List.drop_drop, List.drop_left]
    rw [e]
    split at ih
    · rw [if_pos (by simp at *; omega)]; exact ih
    · cases ih
theorem flat_nth {sz : Nat} {ps : List PV} {i j : Nat} {p q : PV} {tl : List PV} (hs : allSz sz ps = true) (h : nth ps i = some p) (hj : nth p.cells j = some q) : nth (flat ps ++ tl) (i * sz + j) = some q := by
  have h1 := flat_sub (tl := tl) hs h
  have hp : p ∈ ps := List.mem_of_getElem? h
  have hq := allSz_iff.1 hs p hp
  simp only [sub] at h1
  split at h1
  · rename_i hle
    have hlt : j < p.cells.length := (List.getElem?_eq_some_iff.1 hj).1
    have : nth ((((flat ps ++ tl).drop (i * sz)).take sz)) j = some q := by
      cases h1' : (((flat ps ++ tl).drop (i * sz)).take sz) with
      | _ => rw [Option.some.injEq] at h1; rw [← h1', h1]; exact hj
    rw [nth, List.getElem?_take_of_lt (by omega), List.getElem?_drop] at this
    exact this
  · cases h1
set_option maxRecDepth 10000 in
theorem c61 (room : Int) (H : PH) : PCalls Tryz.prog 61 [.scal (.int .i64 room)] H fun r H' => ∃ c, H.get c = none ∧ r = .ptr c 0 ∧ H' = H.set c (.cells (cacheC (if 0 > room then 0 else room) (.list .full []))) := by
  refine calls_of hmix Tryz.func61 ok61 (by simp) ?_
  simp -implicitDefEqProofs only [rc61, r_b, zzax, zzjp, zzbe, zzfp, zzft, zzjy, zzjk, zziu, zzih, zzdn, zzdm, zzlf, zzid, zzgi, zzce, zzdi, zzbb, zzdk, zzdj, zzhx, zzba, zzbg, zzbf, zzkm, zzko, zzif, zzie, zzhz, zzbw, zzca, List.map_cons, List.map_nil, List.length_cons, List.length_nil, Nat.reduceSub, Nat.reduceEqDiff, Nat.zero_add, if_true, if_false, r_b, zzax, Nat.add_one_ne_zero, zzjp, zzbe]
  refine bH_intro fun c hc => ?_
  simp -implicitDefEqProofs only [zzfq, zzjy, zziu, zzja, zzjb, zzix, zzjd, zzdn, zzlf, zzid, zzgi, Nat.reduceSub, Nat.reduceEqDiff, if_true, if_false, Nat.add_one_ne_zero, zzib, zzdg]
  refine endK_raw ⟨c, hc, rfl, rfl⟩
theorem EL.len {H : PH} {v : PV} {es : List (Term × Int)} (h : EL H v es) : lenMM (.v v) = some (.v (.scal (.int .i64 es.length))) := by
  rcases h with ⟨rfl, rfl⟩ | ⟨b, cap, tl, rfl, _⟩ <;> rfl
theorem EL.at {H : PH} {v : PV} {es : List (Term × Int)} (h : EL H v es) {i : Nat} {e : Term × Int} (he : nth es i = some e) :
    ∃ b cs, iadM 5 (.v v) (some (i : Int)) = some (.v (.ptr b (i * 5))) ∧ H.get b = some (.cells cs) ∧ sub cs (i * 5) 5 = some (entP e).cells ∧ nth cs (i * 5 + 4) = some (.scal (.int .i64 e.2)) := by
  have hlt : i < es.length := (List.getElem?_eq_some_iff.1 he).1
  rcases h with ⟨rfl, rfl⟩ | ⟨b, cap, tl, rfl, hb, hl⟩
  · simp at hlt
  · have hn : nth (ents es) i = some (entP e) := by simp only [ents, zzht, he, Option.map_some]
    refine ⟨b, _, ?_, hb, flat_sub (ents_sz es) hn, flat_nth (ents_sz es) hn rfl⟩
    rw [iadM_m, if_pos ⟨by omega, by omega⟩, Int.toNat_natCast, Nat.zero_add]
set_option maxRecDepth 10000 in
theorem c115 {H : PH} {c : Nat} {room : Int} {es : List (Term × Int)} {v : PV} (hc : Ch H c room es v) (hlen : es.length ≤ lenB) (m : Term) (now : Int) :
    PCalls Tryz.prog 115 [.ptr c 0, enc m, .scal (.int .i64 now)] H fun r H' => r = .scal (.bool (hasE es m now)) ∧ H' = H := by
  refine calls_of hmix Tryz.func115 ok115 (by simp) ?_
  have hc0 := hc.cache
  have hel := hc.el.len
  simp only [cacheC] at hc0
  simp -implicitDefEqProofs only [rc115, hc0, hel, zzfp, zzft, zzff, zzjy, zzjo, zzbd, zzjk, zziu, zzip, zziv, zzij, zzdn, zzdm, zzlf, zzid, zzgi, zzhu, zzhr, zzjj, zzjg, zzgo, zzdl, zzho, zzdw, List.length_nil, List.nil_append, Nat.reduceSub, Nat.reduceEqDiff, Nat.zero_add, if_true, if_false, Nat.add_one_ne_zero, zzde, zzio]
  refine go_loop (fun n s => ∃ i ex, i ≤ es.length ∧ n = es.length - i ∧ s.env 14 = .v (.scal (.int .i64 i)) ∧ s.env 13 = .v (.scal (.int .i64 es.length)) ∧ s.env 12 = .v v ∧ s.env 4 = .l 0 0 ∧ s.env 2 = .v (.scal (.int .i64 now)) ∧
      s.L = [.scal (.int .i64 m.k), .scal (.string m.s), .scal (.int .i64 m.n), .list .foreign (encL m.l)] :: ex ∧ s.H = H ∧ hasE es m now = hasE (es.drop i) m now) es.length ?_ ?_
  · exact ⟨0, [], by omega, by omega, rfl, rfl, rfl, rfl, rfl, rfl, rfl, rfl⟩
  rintro n env L H' ⟨i, ex, hi, rfl, h14, h13, h12, h4, h2, rfl, rfl, ho⟩
  simp only at h14 h13 h12 h4 h2
  simp -implicitDefEqProofs only [h14, h13, zzfp, zzft, zzfh, zzjy, zzjk, zzcd, zzig, zzdn, zzlf, zzid, zzkf, zzlg, zzaz, zzar, zzai, if_true]
  refine br_intro (fun b1 => ?_) (fun b1 => ?_)
  · have hlt : i < es.length := by simpa using b1
    obtain ⟨e, he⟩ : ∃ e, nth es i = some e := ⟨_, nth_of hlt⟩
    obtain ⟨b, cs, k1, k2, k3, k4⟩ := hc.el.at he
    simp only [entP, PV.cells] at k3
    have next : (decide (now < e.2) && sameT e.1 m) = false → hasE es m now = hasE (es.drop (i + 1)) m now := by
      intro hf
      have e1 := List.getElem?_eq_some_iff.1 he
      rw [ho, List.drop_eq_getElem_cons e1.1, e1.2]
      simp only [hasE, List.any_cons, hf, Bool.false_or]
    have found : (decide (now < e.2) && sameT e.1 m) = true → hasE es m now = true := by
      intro hf
      have e1 := List.getElem?_eq_some_iff.1 he
      rw [ho, List.drop_eq_getElem_cons e1.1, e1.2]
      simp only [hasE, List.any_cons, hf, Bool.true_or]
    simp -implicitDefEqProofs only [h14, h12, h2, k1, k2, k3, zzfu, zzfp, zzft, zzff, zzjy, zzjv, zzjm, zzkd, zzjk, zzjl, zzgd, zziu, zzip, zziq, zzig, zzij, zzdn, zzlf, zzid, zzic, zzhu, zzhr, zzji, zzjj, zzjg, zzgo, zzgp, zzdl, zzdi, zzkl, zzkr, zzkq, zzag, zzki, zzdv, zzae, zzkf, zzlg, zzaz, zzap, zzai, zzbw, List.length_cons, List.length_nil, List.cons_append, List.all_cons, List.all_nil, zzbv, zzbt, zzbr, zzbs, Option.map_some, Nat.reduceAdd, Nat.reduceSub, Nat.reduceEqDiff, Nat.zero_add, Bool.and_self, and_self, if_true, if_false, Nat.add_one_ne_zero, Nat.add_sub_cancel, zzkg, zzhp, zzim]
    refine br_intro (fun b2 => ?_) (fun b2 => ?_)
    · simp -implicitDefEqProofs only [b2, h4, zzjv, zzjr, zzjk, zzgd, zziq, zzij, zzdn, zzlf, zzid, zzhu, zzhr, zzlc, zzlb, zzce, zzky, zzji, zzgp, zzdi, zzif, zzie, zzhz, zzdv, br_true, List.map_cons, List.map_nil, Option.map_some, Nat.reduceAdd, Nat.reduceSub, Nat.reduceEqDiff, Nat.add_zero, if_true, if_false, fgL, zzdf, Nat.add_one_ne_zero, Nat.add_sub_cancel, zzhp, zzhy, Term.eta, zzfc]
      refine qcall_intro (c35 e.1 m) ?_
      simp -implicitDefEqProofs only [zzfh, zzjy, zzjz, zzcd, zzdn, zzlf, zzid, br_true, Nat.reduceEqDiff, if_true, if_false]
      refine br_intro (fun b3 => ?_) (fun b3 => ?_)
      · simp -implicitDefEqProofs only [b3, zzfp, zzft, zzfq, zzjy, zziu, zzja, zzjb, zzix, zzjd, zzdm, zzlf, zzid, Nat.reduceEqDiff, if_true, if_false, zzib, zzdg]
        refine endK_raw ⟨by rw [found (by rw [b2, b3]; rfl)], rfl⟩
      · simp -implicitDefEqProofs only [b3, h14, wrap_add hlt hlen, zzfu, zzfp, zzfe, zzjy, zzjk, zziu, zzig, zzdn, zzdm, zzlf, zzid, zzkf, zzlg, zzaz, zzal, zzaj, Nat.reduceEqDiff, if_true, if_false, true_and, Bool.true_and, zzfl]
        refine ⟨_, ?_, i + 1, _, hlt, rfl, rfl, ?_, ?_, ?_, ?_, rfl, next (by rw [b2, b3]; rfl)⟩
        · omega
        all_goals (simp only [zzlf, reduceIte, Nat.reduceEqDiff, h13, h12, h4, h2]; done)
    · simp -implicitDefEqProofs only [b2, h14, wrap_add hlt hlen, zzfu, zzfp, zzfh, zzfe, zzjy, zzjv, zzjz, zzjk, zzcd, zzgd, zziu, zzig, zzdn, zzdm, zzlf, zzid, zzkf, zzlg, zzaz, zzal, zzaj, br_false, Nat.reduceEqDiff, if_true, if_false, true_and, Bool.true_and, zzfl]
      refine ⟨_, ?_, i + 1, _, hlt, rfl, rfl, ?_, ?_, ?_, ?_, rfl, next (by rw [b2]; rfl)⟩
      · omega
      all_goals (simp only [zzlf, reduceIte, Nat.reduceEqDiff, h13, h12, h4, h2]; done)
  · have hge : i = es.length := by
      have : ¬ i < es.length := by simpa using b1
      omega
    simp -implicitDefEqProofs only [b1, zzfp, zzft, zzfq, zzfj, zzdp, zzdo, zzjy, zziu, zzja, zzjb, zzix, zzjd, zzdm, zzlf, zzid, Nat.reduceEqDiff, if_true, if_false, zzdq, zzib, zzdg]
    refine endK_raw ⟨?_, rfl⟩
    rw [ho, hge, List.drop_of_length_le (Nat.le_refl _)]; rfl
/-- What lives. -/
def liveE (es : List (Term × Int)) (now : Int) : List (Term × Int) := es.filter fun e => decide (now < e.2)
theorem fl_splice (l : List (Term × Int)) (e : Term × Int) (r : List (Term × Int)) (tl : List PV) :
    splice (flat (ents (l ++ e :: r)) ++ tl) (l.length * 5) (flat (ents r)) = flat (ents (l ++ r)) ++ ((entP e).cells ++ (flat (ents r) ++ tl)).drop (flat (ents r)).length := by
  have h := splice_mid (flat (ents r)) (flat (ents l)) ((entP e).cells ++ (flat (ents r) ++ tl)) (by simp; omega)
  rw [fl_len] at h
  simp only [ents_app, flat_app, List.append_assoc] at h ⊢
  rw [fl_cons]
  simpa only [List.append_assoc] using h
end Go.Pv


set_option linter.unusedSimpArgs false
set_option linter.unusedVariables false
namespace Go.Pv
open Go.Proofs
def rcB116 : RCode := match rc116 with | .jscope _ _ (.seq _ b) => b | _ => .skip
theorem rc116_eq : rc116 = .jscope 0 (.seq (.region false [⟨(some 4), none, .mov (.c (.scal (.int .i64 0)))⟩]) (.seq (.label 0) rcB116)) (.seq .skip rcB116) := by rfl
theorem live_cons (e : Term × Int) (l : List (Term × Int)) (now : Int) : liveE (e :: l) now = if decide (now < e.2) = true then e :: liveE l now else liveE l now := by
  simp only [liveE, List.filter_cons]
set_option maxRecDepth 10000 in
set_option maxHeartbeats 1000000 in
theorem c116 {H : PH} {c : Nat} {room : Int} {es : List (Term × Int)} {v : PV} (hc : Ch H c room es v) (hlen : es.length ≤ lenB) (now : Int) :
    PCalls Tryz.prog 116 [.ptr c 0, .scal (.int .i64 now)] H fun r H' => r = .tup [] ∧ ∃ v', Ch H' c room (liveE es now) v' ∧ Frm H c v H' v' := by
  refine calls_of hmix Tryz.func116 ok116 (by simp) ?_
  have body : ∀ (J : St → Prop) (env : Nat → EV) (L : List (List PV)) (H1 : PH) (l r : List (Term × Int)) (v1 : PV), env 0 = .v (.ptr c 0) → env 1 = .v (.scal (.int .i64 now)) → env 4 = .v (.scal (.int .i64 l.length)) →
      Ch H1 c room (l ++ r) v1 → Frm H c v H1 v1 → liveE es now = l ++ liveE r now → l.length + r.length ≤ es.length →
      (∀ env' L' H2 l' r' v2, r'.length < r.length → env' 0 = .v (.ptr c 0) → env' 1 = .v (.scal (.int .i64 now)) → env' 4 = .v (.scal (.int .i64 (l' : List (Term × Int)).length)) → Ch H2 c room (l' ++ r') v2 → Frm H c v H2 v2 → liveE es now = l' ++ liveE r' now → l'.length + r'.length ≤ es.length → J ⟨env', L', H2⟩) →
      go Tryz.prog (fnPost [] fun r H' => r = .tup [] ∧ ∃ v', Ch H' c room (liveE es now) v' ∧ Frm H c v H' v') [.code rcB116, .jmp 0 J] env L H1 := by
    intro J env L H1 l r v1 h0 h1 h4 hc1 hf hl hle hJ
    have hc0 := hc1.cache
    have hel := hc1.el.len
    simp only [cacheC] at hc0
    simp -implicitDefEqProofs only [rcB116, rc116, h0, h4, hc0, hel, zzfp, zzft, zzfh, zzjy, zzjk, zzcd, zziu, zzip, zziv, zzig, zzij, zzdn, zzlf, zzid, zzhu, zzhr, zzjj, zzjg, zzgo, zzdl, zzho, zzdw, zzkf, zzlg, zzaz, zzao, zzai, Nat.reduceSub, Nat.reduceEqDiff, Nat.zero_add, if_true, if_false, List.length_append, Nat.add_one_ne_zero, zzio]
    refine br_intro (fun b1 => ?_) (fun b1 => ?_)
    · have hr : r = [] := by
        simp only [decide_eq_true_eq, List.length_append] at b1
        exact List.eq_nil_of_length_eq_zero (by omega)
      subst hr
      simp -implicitDefEqProofs only [zzfq, zzja, zzjc, List.length_nil, Nat.add_zero, zzib, zzdg, decide_true, Int.le_refl]
      refine endK_raw ⟨rfl, v1, ?_, hf⟩
      rw [hl]; exact hc1
    · obtain ⟨e, r', rfl⟩ : ∃ e r', r = e :: r' := by
        cases r with
        | nil => simp only [decide_eq_false_iff_not, List.length_nil] at b1; omega
        | cons e r' => exact ⟨e, r', rfl⟩
      have he : nth (l ++ e :: r') l.length = some e := by simp [nth]
      obtain ⟨b, cs, k1, k2, k3, k4⟩ := hc1.el.at he
      have hlB : l.length < es.length := by simp only [List.length_cons] at hle; omega
      simp -implicitDefEqProofs only [h0, h1, h4, hc0, k1, k2, k4, zzfu, zzfp, zzft, zzfh, zzjy, zzjk, zzcd, zziu, zzip, zziv, zzig, zzij, zzdn, zzlf, zzid, zzhu, zzhr, zzjj, zzjg, zzgo, zzdl, zzho, zzdw, zzae, zzkf, zzlg, zzaz, zzap, zzai, List.length_cons, Nat.reduceSub, Nat.reduceEqDiff, Nat.zero_add, if_true, if_false, Nat.add_one_ne_zero, zzim]
      refine br_intro (fun b2 => ?_) (fun b2 => ?_)
      · simp -implicitDefEqProofs only [h4, wrap_add hlB hlen, zzfp, zzft, zzjy, zzjk, zziu, zzig, zzdn, zzdm, zzlf, zzid, zzkf, zzlg, zzaz, zzal, zzaj, Nat.reduceEqDiff, if_true, if_false, true_and, Bool.true_and, zzfk, zzga, zzgb]
        refine hJ _ _ _ (l ++ [e]) r' v1 (by simp) ?_ ?_ ?_ (by simpa using hc1) hf ?_ (by simp only [List.length_append, List.length_cons, List.length_nil] at hle ⊢; omega)
        · simp only [zzlf, reduceIte, Nat.reduceEqDiff, h0]
        · simp only [zzlf, reduceIte, Nat.reduceEqDiff, h1]
        · simp only [zzlf, reduceIte, Nat.reduceEqDiff, List.length_append, List.length_cons, List.length_nil, Nat.zero_add]
        · rw [hl, live_cons, if_pos b2]; simp
      · rcases hc1.el with ⟨_, h⟩ | ⟨b', cap, tl, rfl, hb, hcap⟩
        · simp at h
        have hne : c ≠ b' := fun e => hc1.ne (by rw [elB_m, e])
        simp only [List.length_append, List.length_cons] at hcap
        have hle2 : l.length + (r'.length + 1) ≤ cap := by omega
        obtain ⟨N, hN⟩ : ∃ N, N = (l ++ e :: r').length := ⟨_, rfl⟩
        obtain ⟨M, hM⟩ : ∃ M, M = (l ++ r').length := ⟨_, rfl⟩
        rw [← hN] at hc0
        have hN' : N = l.length + (r'.length + 1) := by rw [hN]; simp
        have hM' : M = l.length + r'.length := by rw [hM]; simp
        have s1 : slmE 5 (.v (mslc b' 0 N cap)) (some (some (l.length : Int))) (some none) = some (.v (mslc b' (l.length * 5) (r'.length + 1) (cap - l.length))) := by
          rw [slmE_m]
          simp only [Option.getD_some, Option.getD_none, Int.toNat_natCast]
          rw [if_pos (by omega), if_neg (by omega), Nat.zero_add]
          rw [show ((N : Int) - (l.length : Int)).toNat = r'.length + 1 by omega]
        obtain ⟨o2, ho2, s2⟩ : ∃ o2, (o2 = (l.length + 1) * 5 ∨ r'.length = 0 ∧ o2 = 0) ∧ slmE 5 (.v (mslc b' 0 N cap)) (some (some ((l.length + 1 : Nat) : Int))) (some none) = some (.v (mslc b' o2 r'.length (cap - (l.length + 1)))) := by
          rw [slmE_m]
          simp only [Option.getD_some, Option.getD_none, Int.toNat_natCast]
          rw [if_pos (by omega)]
          rw [show ((N : Int) - ((l.length + 1 : Nat) : Int)).toNat = r'.length by omega]
          by_cases hz : cap = l.length + 1
          · exact ⟨0, .inr ⟨by omega, rfl⟩, by rw [if_pos hz]⟩
          · exact ⟨(l.length + 1) * 5, .inl rfl, by rw [if_neg hz, Nat.zero_add]⟩
        have s3 : slmE 5 (.v (mslc b' 0 N cap)) (some none) (some (some (M : Int))) = some (.v (mslc b' 0 M cap)) := by
          rw [slmE_m]
          simp only [Option.getD_some, Option.getD_none]
          rw [if_pos (by omega)]
          simp
        have hw : IntKind.i64.wrap ((N : Int) - 1) = (M : Int) := by
          rw [lenB_eq] at hlen
          simp only [List.length_cons] at hle
          rw [wrap_in (by omega) (by omega)]
          omega
        have hwl := wrap_add hlB hlen
        simp -implicitDefEqProofs only [h0, h4, hc0, hwl, s1, s2, zzfu, zzfp, zzft, zzjk, zziu, zzip, zziv, zzig, zzij, zzdn, zzdm, zzlf, zzid, zzhu, zzhr, zzjj, zzjg, zzgo, zzdl, zzho, zzdw, zzae, zzkf, zzlg, zzaz, zzal, zzaj, List.map_cons, List.map_nil, List.length_cons, Nat.reduceSub, Nat.reduceEqDiff, Nat.zero_add, if_true, if_false, List.length_append, Nat.add_one_ne_zero, zzhv, zzhw, zzkk, zziw, zzke]
        have hfl := fl_len (l ++ e :: r')
        simp only [List.length_append, List.length_cons] at hfl
        have hseg : (((flat (ents (l ++ e :: r')) ++ tl).drop o2).take (r'.length * 5)) = flat (ents r') := by
          rcases ho2 with rfl | ⟨hz, rfl⟩
          · rw [ents_app, flat_app, fl_cons]
            have : (flat (ents l) ++ ((entP e).cells ++ flat (ents r')) ++ tl).drop ((l.length + 1) * 5) = flat (ents r') ++ tl := by
              have h5 : (flat (ents l) ++ (entP e).cells).length = (l.length + 1) * 5 := by
                rw [List.length_append, fl_len]; show l.length * 5 + 5 = _; omega
              rw [← h5, show flat (ents l) ++ ((entP e).cells ++ flat (ents r')) ++ tl = (flat (ents l) ++ (entP e).cells) ++ (flat (ents r') ++ tl) by simp only [List.append_assoc], List.drop_left]
            rw [this, ← fl_len, List.take_left]
          · have : r' = [] := List.eq_nil_of_length_eq_zero hz
            subst this
            simp [ents, flat]
        refine xrun_cpy (q := r'.length) (by omega) hb hb (by simp only [List.length_append, hfl]; omega) ?_ (by rw [hseg]; exact fl_cell _) ?_
        · simp only [List.length_append, hfl]
          rcases ho2 with rfl | ⟨hz, rfl⟩ <;> omega
        rw [hseg, fl_splice]
        have hc2 : PH.get (H1.set b' (.cells (flat (ents (l ++ r')) ++ ((entP e).cells ++ (flat (ents r') ++ tl)).drop (flat (ents r')).length))) c = some (.cells [.scal (.int .i64 room), mslc b' 0 N cap]) := by
          rw [PH.get_set, if_neg hne]; exact hc0
        have hb2 := get_same H1 b' (.cells (flat (ents (l ++ r')) ++ ((entP e).cells ++ (flat (ents r') ++ tl)).drop (flat (ents r')).length))
        have hf2 : Frm H c v ((H1.set b' (.cells (flat (ents (l ++ r')) ++ ((entP e).cells ++ (flat (ents r') ++ tl)).drop (flat (ents r')).length))).set c (.cells [.scal (.int .i64 room), mslc b' 0 M cap])) (mslc b' 0 M cap) :=
          hf.trans (Frm.two (.inl (elB_m _ _ _ _)) fun x hx => .inl (by rw [elB_m] at hx; cases hx; rfl))
        generalize H1.set b' (.cells (flat (ents (l ++ r')) ++ ((entP e).cells ++ (flat (ents r') ++ tl)).drop (flat (ents r')).length)) = H2 at hc2 hb2 hf2 ⊢
        simp -implicitDefEqProofs only [h0, hc2, zzgv, hw, s3, zzfp, zzft, zzjy, zzkd, zzjk, zzjl, zziu, zzip, zziv, zzig, zzij, zzdn, zzdm, zzlf, zzid, zzic, zzhu, zzhr, zzce, zzjj, zzjg, zzgo, zzdl, zzkn, zzkl, Nat.reduceBEq, zzks, zzkq, zzah, zzho, zzdw, zzae, zzkf, zzlg, zzaz, zzau, zzaj, List.length_cons, List.length_nil, List.all_cons, List.all_nil, Nat.reduceSub, Nat.reduceEqDiff, Nat.zero_add, Bool.and_self, and_self, if_true, if_false, true_and, Bool.true_and, Nat.add_one_ne_zero, zzhv, zzhw, zzkk, Int.reduceBEq, zziw, zzio, zzgv, zzhj, zzhi, zzfk, zzgb]
        refine hJ _ _ _ l r' _ (by simp) ?_ ?_ ?_ ⟨get_same _ _ _, .inr ⟨b', cap, _, by rw [hM], by rw [PH.get_set, if_neg (fun e => hne e.symm)]; exact hb2, ?_⟩, by rw [elB_m]; exact fun e => hne (by cases e; rfl)⟩ hf2 ?_ (by simp only [List.length_cons] at hle; omega)
        · simp only [zzlf, reduceIte, Nat.reduceEqDiff, h0]
        · simp only [zzlf, reduceIte, Nat.reduceEqDiff, h1]
        · simp only [zzlf, reduceIte, Nat.reduceEqDiff, h4]
        · simp only [List.length_drop, List.length_append, fl_len]
          have : (entP e).cells.length = 5 := rfl
          omega
        · rw [hl, live_cons, if_neg (by rw [b2]; simp)]
  rw [rc116_eq]
  refine go_jscope (fun n s => ∃ l r v1, n = (r : List (Term × Int)).length ∧ s.env 0 = .v (.ptr c 0) ∧ s.env 1 = .v (.scal (.int .i64 now)) ∧ s.env 4 = .v (.scal (.int .i64 (l : List (Term × Int)).length)) ∧
      Ch s.H c room (l ++ r) v1 ∧ Frm H c v s.H v1 ∧ liveE es now = l ++ liveE r now ∧ l.length + r.length ≤ es.length) ?_ ?_
  · simp -implicitDefEqProofs only [zzfp, zzft, zzfn, zzjy, zziu, zzdm, zzid]
    refine body _ _ _ _ [] es v rfl rfl rfl hc (Frm.refl _ _ _) rfl (by simp) ?_
    intro env' L' H2 l' r' v2 hlt a0 a1 a4 a5 a6 a7 a8
    exact ⟨_, l', r', v2, rfl, a0, a1, a4, a5, a6, a7, a8⟩
  · rintro n env L H1 ⟨l, r, v1, rfl, h0, h1, h4, h5, h6, h7, h8⟩
    simp -implicitDefEqProofs only [zzfu, zzft]
    refine body _ _ _ _ l r v1 h0 h1 h4 h5 h6 h7 h8 ?_
    intro env' L' H2 l' r' v2 hlt a0 a1 a4 a5 a6 a7 a8
    exact ⟨_, hlt, l', r', v2, rfl, a0, a1, a4, a5, a6, a7, a8⟩
/-- What a cache does. -/
def putE2 (room : Int) (es : List (Term × Int)) (m : Term) (until_ now : Int) : Int × List (Term × Int) :=
  if hasE es m now then (52, es) else if decide (((liveE es now).length : Int) ≥ room) then (53, liveE es now) else (0, liveE es now ++ [(m, until_)])
theorem live_le (es : List (Term × Int)) (now : Int) : (liveE es now).length ≤ es.length := List.length_filter_le _ _
set_option maxRecDepth 10000 in
theorem c68 {H : PH} {c : Nat} {room : Int} {es : List (Term × Int)} {v : PV} (h : Ch H c room es v) (hlen : es.length < 1000000) (m : Term) (until_ now : Int) :
    PCalls Tryz.prog 68 [.ptr c 0, enc m, .scal (.int .i64 until_), .scal (.int .i64 now)] H fun r H' => r = .scal (.int .i64 (putE2 room es m until_ now).1) ∧ ∃ v', Ch H' c room (putE2 room es m until_ now).2 v' ∧ Frm H c v H' v' := by
  refine calls_of hmix Tryz.func68 ok68 (by simp) ?_
  have hle : es.length ≤ lenB := by rw [lenB_eq]; omega
  simp -implicitDefEqProofs only [rc68, zzfp, zzft, zzjy, zzjo, zzbd, zzjq, zzjk, zziu, zziq, zzdn, zzdm, zzlf, zzid, zzgi, zzhu, zzhr, zzlc, zzlb, zzce, zzky, zzji, zzgp, zzdi, zzif, zzie, zzhz, List.map_cons, List.map_nil, List.length_nil, List.nil_append, Option.map_some, Nat.reduceAdd, Nat.reduceSub, Nat.reduceEqDiff, if_true, if_false, PV.fg, fgL, zzdf, Nat.add_one_ne_zero, zzgf, zzde, Term.eta, zzfc]
  refine kcall_intro (c115 h hle m now) ?_
  rintro r H1 ⟨rfl, rfl⟩
  simp -implicitDefEqProofs only [zzfh, zzjy, zzcd, zzdn, zzlf, zzid, zzgi, Nat.reduceSub, Nat.reduceEqDiff, if_true, if_false, Nat.add_one_ne_zero]
  refine br_intro (fun b1 => ?_) (fun b1 => ?_)
  · simp -implicitDefEqProofs only [zzfp, zzft, zzfq, zzjy, zziu, zzja, zzjb, zzix, zzjd, zzdm, zzlf, zzid, zzgi, Nat.reduceSub, Nat.reduceEqDiff, if_true, if_false, Nat.add_one_ne_zero, zzib, zzdg]
    refine endK_raw ⟨?_, v, ?_, Frm.refl _ _ _⟩
    · simp only [putE2, b1, if_true]
    · simp only [putE2, b1, if_true]; exact h
  · simp -implicitDefEqProofs only [zzfu, zzfp, zzft, zzjq, zziu, zzdn, zzlf, zzid, zzgi, zzif, zzie, zzhz, List.map_cons, List.map_nil, Nat.reduceSub, Nat.reduceEqDiff, if_true, if_false, PV.fg, fgL, Nat.add_one_ne_zero, zzgf]
    refine kcall_intro (c116 h hle now) ?_
    rintro r H2 ⟨rfl, v2, hc2, hf2⟩
    have hlv := live_le es now
    have hP : putE2 room es m until_ now = if decide (((liveE es now).length : Int) ≥ room) then (53, liveE es now) else (0, liveE es now ++ [(m, until_)]) := by
      simp only [putE2, b1, Bool.false_eq_true, if_false]
    rw [hP]
    clear hP
    generalize liveE es now = lv at hc2 hlv ⊢
    have hc0 := hc2.cache
    have hel := hc2.el.len
    simp only [cacheC] at hc0
    simp -implicitDefEqProofs only [hc0, hel, zzfp, zzft, zzfh, zzjy, zzjk, zzcd, zziu, zzip, zziv, zzig, zzij, zzdn, zzlf, zzid, zzgi, zzhu, zzhr, zzjj, zzjg, zzgo, zzdl, zzho, zzdw, zzkf, zzlg, zzaz, zzao, zzai, Nat.reduceSub, Nat.reduceEqDiff, Nat.add_zero, Nat.zero_add, if_true, if_false, Nat.add_one_ne_zero, zzio]
    refine br_intro (fun b2 => ?_) (fun b2 => ?_)
    · simp -implicitDefEqProofs only [zzfp, zzft, zzfq, zzjy, zziu, zzja, zzjb, zzix, zzjd, zzdm, zzlf, zzid, zzgi, Nat.reduceSub, Nat.reduceEqDiff, if_true, if_false, Nat.add_one_ne_zero, zzib, zzdg]
      refine endK_raw ⟨?_, v2, ?_, hf2⟩
      · simp only [b2, ge_iff_le, if_true]
      · simp only [b2, ge_iff_le, if_true]; exact hc2
    · simp -implicitDefEqProofs only [hc0, zzfu, zzfp, zzft, zzjk, zziu, zzih, zzis, zzip, zziq, zziv, zzij, zzdn, zzlf, zzid, zzgi, zzhu, zzhr, zzlc, zzlb, zzce, zzky, zzji, zzjj, zzjg, zzgo, zzgp, zzdl, zzdi, zzbb, zzdk, zzdj, zzhx, zzba, zzbg, zzbf, zzkm, zzkn, zzkl, Nat.reduceBEq, zzko, zzif, zzie, zzhz, zzho, zzdw, zzhf, zzbw, zzca, List.map_cons, List.map_nil, List.length_cons, List.length_nil, Option.map_some, Nat.reduceAdd, Nat.reduceSub, Nat.reduceEqDiff, Nat.reduceLeDiff, Nat.zero_add, Bool.and_self, and_self, if_true, if_false, zzac, zzab, zzgs, zzgh, beq_self_eq_true, Nat.add_one_ne_zero, zzde, Term.eta, zzfc, Int.reduceBEq, zzke]
      have hy : [PV.agg [.scal (.int .i64 m.k), .scal (.string m.s), .scal (.int .i64 m.n), .list .foreign (encL m.l), .scal (.int .i64 until_)]] = ents [(m, until_)] := rfl
      rw [hy]
      have hcell : ∀ p ∈ ents [(m, until_)], p.cells.all cellP = true := by
        intro p hp
        simp only [ents, List.map_cons, List.map_nil, List.mem_singleton] at hp
        subst hp; rfl
      have fin : ∀ (b' cap' : Nat) (tl' : List PV) (H3 : PH), (elB v2 = some b' ∨ H2.get b' = none) → b' ≠ c → H3 = H2.set b' (.cells (flat (ents (lv ++ [(m, until_)])) ++ tl')) → (lv.length + 1) * 5 + tl'.length = cap' * 5 →
          Ch (H3.set c (.cells [.scal (.int .i64 room), mslc b' 0 (lv.length + 1) cap'])) c room (lv ++ [(m, until_)]) (mslc b' 0 (lv.length + 1) cap') ∧ Frm H1 c v (H3.set c (.cells [.scal (.int .i64 room), mslc b' 0 (lv.length + 1) cap'])) (mslc b' 0 (lv.length + 1) cap') := by
        rintro b' cap' tl' H3 hn hne rfl hl
        refine ⟨⟨get_same _ _ _, .inr ⟨b', cap', tl', by simp, by rw [PH.get_set, if_neg hne]; exact get_same _ _ _, by simpa using hl⟩, by rw [elB_m]; exact fun e => hne (by cases e; rfl)⟩, hf2.trans (Frm.two hn fun x hx => .inl (by rw [elB_m] at hx; cases hx; rfl))⟩
      have hone : (ents [(m, until_)]).length = 1 := rfl
      have stop : ∀ (b' cap' : Nat) (tl' : List PV) (H3 : PH), (elB v2 = some b' ∨ H2.get b' = none) → b' ≠ c → H3 = H2.set b' (.cells (flat (ents (lv ++ [(m, until_)])) ++ tl')) → (lv.length + 1) * 5 + tl'.length = cap' * 5 → H3.get c = some (.cells [.scal (.int .i64 room), v2]) := by
        rintro b' cap' tl' H3 hn hne rfl hl
        rw [PH.get_set, if_neg (fun e => hne e.symm)]; exact hc0
      rcases hc2.el with ⟨rfl, hnil⟩ | ⟨b, cap, tl, rfl, hb, hcap⟩
      · subst hnil
        refine xrun_app0 (by decide) (by simp [ents]) (ents_sz _) hcell (by rw [hone, lenB_eq]; decide) (by decide) ?_
        intro b' cap' pad hnew hl hpad
        have hne : b' ≠ c := fun e => by subst e; rw [hnew] at hc0; cases hc0
        have hH := stop b' cap' pad _ (.inr hnew) hne rfl (by rw [hone] at hl hpad; simp only [List.length_nil, Nat.zero_add]; omega)
        have hF := fin b' cap' pad _ (.inr hnew) hne rfl (by rw [hone] at hl hpad; simp only [List.length_nil, Nat.zero_add]; omega)
        simp only [List.nil_append, List.length_nil, Nat.zero_add] at hH hF
        rw [hone]
        generalize H2.set b' (.cells (flat (ents [(m, until_)]) ++ pad)) = H3 at hH hF ⊢
        have b2' : decide (room ≤ (0 : Int)) = false := b2
        simp -implicitDefEqProofs only [hH, zzfp, zzft, zzfq, zzjy, zzkd, zzjk, zzjl, zziu, zziv, zzij, zzja, zzjb, zzix, zzjd, zzdn, zzdm, zzlf, zzid, zzic, zzgi, zzce, zzjj, zzjg, zzkn, zzkl, Nat.reduceBEq, zzks, zzkq, zzah, zzho, zzdw, List.length_cons, List.length_nil, List.nil_append, List.all_cons, List.all_nil, Nat.reduceSub, Nat.reduceEqDiff, Nat.zero_add, Bool.and_self, and_self, if_true, if_false, Nat.add_one_ne_zero, zzib, zzdg, zzbh, Int.reduceBEq, zzhj, zzhi]
        refine endK_raw ⟨?_, _, ?_, hF.2⟩
        · simp only [b2', ge_iff_le, Bool.false_eq_true, if_false]
        · simp only [b2', ge_iff_le, Bool.false_eq_true, if_false]; exact hF.1
      · have hne : b ≠ c := fun e => hc2.ne (by rw [elB_m, e])
        refine xrun_appM (by decide) (by simp [ents]) (ents_sz _) hcell hb (by rw [hone, lenB_eq]; omega) (by decide) (by omega) (by simp only [List.length_append, fl_len]; omega) ?_ ?_
        · intro hin
          rw [hone] at hin ⊢
          have hsp : splice (flat (ents lv) ++ tl) (0 + lv.length * 5) (flat (ents [(m, until_)])) = flat (ents (lv ++ [(m, until_)])) ++ tl.drop 5 := by
            have := splice_mid (flat (ents [(m, until_)])) (flat (ents lv)) tl (by rw [fl_len]; simp only [List.length_cons, List.length_nil]; omega)
            rw [fl_len] at this
            rw [Nat.zero_add, this, ents_app, flat_app]
            rfl
          rw [hsp]
          have hH := stop b cap (tl.drop 5) _ (.inl (elB_m _ _ _ _)) hne rfl (by rw [List.length_drop]; omega)
          have hF := fin b cap (tl.drop 5) _ (.inl (elB_m _ _ _ _)) hne rfl (by rw [List.length_drop]; omega)
          generalize H2.set b (.cells (flat (ents (lv ++ [(m, until_)])) ++ tl.drop 5)) = H3 at hH hF ⊢
          simp -implicitDefEqProofs only [hH, zzfp, zzft, zzfq, zzjy, zzkd, zzjk, zzjl, zziu, zziv, zzij, zzja, zzjb, zzix, zzjd, zzdn, zzdm, zzlf, zzid, zzic, zzgi, zzce, zzjj, zzjg, zzkn, zzkl, Nat.reduceBEq, zzks, zzkq, zzah, zzho, zzdw, List.length_cons, List.length_nil, List.all_cons, List.all_nil, Nat.reduceSub, Nat.reduceEqDiff, Nat.zero_add, Bool.and_self, and_self, if_true, if_false, Nat.add_one_ne_zero, zzib, zzdg, Int.reduceBEq, zzhj, zzhi]
          refine endK_raw ⟨?_, _, ?_, hF.2⟩
          · simp only [b2, ge_iff_le, Bool.false_eq_true, if_false]
          · simp only [b2, ge_iff_le, Bool.false_eq_true, if_false]; exact hF.1
        · intro hlt b' cap' pad hnew hl hpad
          have hne' : b' ≠ c := fun e => by subst e; rw [hnew] at hc0; cases hc0
          rw [hone] at hl hpad ⊢
          have hsp : ((flat (ents lv) ++ tl).drop 0).take (lv.length * 5) ++ flat (ents [(m, until_)]) ++ pad = flat (ents (lv ++ [(m, until_)])) ++ pad := by
            rw [List.drop_zero, ← fl_len, List.take_left, ents_app, flat_app]
          rw [hsp]
          have hH := stop b' cap' pad _ (.inr hnew) hne' rfl (by omega)
          have hF := fin b' cap' pad _ (.inr hnew) hne' rfl (by omega)
          generalize H2.set b' (.cells (flat (ents (lv ++ [(m, until_)])) ++ pad)) = H3 at hH hF ⊢
          simp -implicitDefEqProofs only [hH, zzfp, zzft, zzfq, zzjy, zzkd, zzjk, zzjl, zziu, zziv, zzij, zzja, zzjb, zzix, zzjd, zzdn, zzdm, zzlf, zzid, zzic, zzgi, zzce, zzjj, zzjg, zzkn, zzkl, Nat.reduceBEq, zzks, zzkq, zzah, zzho, zzdw, List.length_cons, List.length_nil, List.all_cons, List.all_nil, Nat.reduceSub, Nat.reduceEqDiff, Nat.zero_add, Bool.and_self, and_self, if_true, if_false, Nat.add_one_ne_zero, zzib, zzdg, Int.reduceBEq, zzhj, zzhi]
          refine endK_raw ⟨?_, _, ?_, hF.2⟩
          · simp only [b2, ge_iff_le, Bool.false_eq_true, if_false]
          · simp only [b2, ge_iff_le, Bool.false_eq_true, if_false]; exact hF.1
end Go.Pv


set_option linter.unusedSimpArgs false
set_option linter.unusedVariables false
namespace Go.Pv
open Go.Proofs
/-! ### the acceptor's heap -/
def accC (name : ByteArray) (key : Term) (c : Nat) (tl : Tok) (lg : List PV) : List PV :=
  [.scal (.string name), .scal (.int .i64 key.k), .scal (.string key.s), .scal (.int .i64 key.n), .list .foreign (encL key.l), .ptr c 0, .list tl lg]
structure Acc (H : PH) (b c : Nat) (name : ByteArray) (key : Term) (room : Int) (es : List (Term × Int)) (te : PV) (lg : List PV) (tl : Tok) : Prop where
  acc : H.get b = some (.cells (accC name key c tl lg))
  ch : Ch H c room es te
  ne : b ≠ c
  gl : Grow H tl lg.length 10
  vb : elB te ≠ some b
  ap : ∀ x, elB te = some x → tokB tl ≠ some x
  sl : allSz 10 lg = true
theorem keep_at {tok tok' : Tok} {H H' : PH} (h : ∀ H0, Keep H0 tok H → Keep H0 tok' H') {x : Nat} {o : PObj} (hx : H.get x = some o) (hn : tokB tok ≠ some x) : H'.get x = some o ∧ tokB tok' ≠ some x := by
  refine h [(x, o)] ?_ x o (by rw [PH.get_cons, if_pos rfl])
  intro y o' hy
  rw [PH.get_cons] at hy
  split at hy
  · rename_i e; cases hy; subst e; exact ⟨hx, hn⟩
  · simp at hy
theorem Grow.not_cells {H : PH} {tok : Tok} {n sz b : Nat} {cs : List PV} (h : Grow H tok n sz) (hb : H.get b = some (.cells cs)) : tokB tok ≠ some b := by
  rcases h with rfl | ⟨b', t, rfl, h⟩
  · intro e; cases e
  · intro e; cases e; rw [h] at hb; cases hb
theorem Grow.set_cells {H : PH} {tok : Tok} {n sz b : Nat} {o : PObj} (h : Grow H tok n sz) (hb : tokB tok ≠ some b) : Grow (H.set b o) tok n sz := by
  rcases h with rfl | ⟨b', t, rfl, h⟩
  · exact .inl rfl
  · refine .inr ⟨b', t, rfl, ?_⟩
    rw [PH.get_set, if_neg (fun e => hb (by rw [e]; rfl))]; exact h
theorem Ch.set {H : PH} {c : Nat} {room : Int} {es : List (Term × Int)} {te : PV} (h : Ch H c room es te) {x : Nat} {o : PObj} (hc : x ≠ c) (hx : elB te ≠ some x) : Ch (H.set x o) c room es te :=
  ⟨by rw [PH.get_set, if_neg (fun e => hc e.symm)]; exact h.cache, h.el.set hx, h.ne⟩
theorem EL.get {H : PH} {v : PV} {es : List (Term × Int)} (h : EL H v es) {x : Nat} (hx : elB v = some x) : ∃ cs, H.get x = some (.cells cs) := by
  rcases h with ⟨rfl, rfl⟩ | ⟨b, cap, tl, rfl, hb, _⟩
  · cases hx
  · rw [elB_m] at hx; cases hx; exact ⟨_, hb⟩
/-- A cache beside a list that grows. -/
theorem Ch.beside {tok tok' : Tok} {H H5 : PH} {n sz c : Nat} {room : Int} {es : List (Term × Int)} {te : PV} (h : Ch H c room es te) (hg : Grow H tok n sz) (hK : ∀ H0, Keep H0 tok H → Keep H0 tok' H5) (ha : ∀ x, elB te = some x → tokB tok ≠ some x) :
    Ch H5 c room es te ∧ ∀ x, elB te = some x → tokB tok' ≠ some x := by
  have kc := keep_at hK h.cache (hg.not_cells h.cache)
  refine ⟨⟨kc.1, ?_, h.ne⟩, fun x hx => ?_⟩
  · rcases h.el with h0 | ⟨b, cap, tl, rfl, hb, hl⟩
    · exact .inl h0
    · exact .inr ⟨b, cap, tl, rfl, (keep_at hK hb (hg.not_cells hb)).1, hl⟩
  · obtain ⟨cs, hcs⟩ := h.el.get hx
    exact (keep_at hK hcs (hg.not_cells hcs)).2
/-- An acceptor, its cache turned. -/
theorem Acc.put {H H' : PH} {b c : Nat} {name : ByteArray} {key : Term} {room : Int} {es es' : List (Term × Int)} {te te' : PV} {lg : List PV} {tl : Tok} (h : Acc H b c name key room es te lg tl) (hc : Ch H' c room es' te') (hf : Frm H c te H' te') : Acc H' b c name key room es' te' lg tl := by
  refine ⟨hf.keep _ _ h.acc h.ne h.vb, hc, h.ne, ?_, ?_, ?_, h.sl⟩
  · rcases h.gl with e | ⟨b', t, e, hb⟩
    · exact .inl e
    · refine .inr ⟨b', t, e, hf.keep _ _ hb ?_ ?_⟩
      · intro e2; subst e2; rw [h.ch.cache] at hb; cases hb
      · intro e2; exact h.ap _ e2 (by rw [e]; rfl)
  · intro e
    rcases hf.new _ e with e2 | e2
    · exact h.vb e2
    · rw [h.acc] at e2; cases e2
  · intro x hx e
    rcases hf.new _ hx with e2 | e2
    · exact h.ap _ e2 e
    · rcases h.gl with e3 | ⟨b', t, e3, hb⟩
      · rw [e3] at e; cases e
      · rw [e3] at e; cases e; rw [hb] at e2; cases e2
/-- All cells but one block's stay. -/
def Kx (H : PH) (b : Nat) (H' : PH) : Prop := ∀ x cs, x ≠ b → H.get x = some (.cells cs) → H'.get x = some (.cells cs)
theorem Kx.refl (H : PH) (b : Nat) : Kx H b H := fun _ _ _ h => h
theorem Kx.of {tok tok' : Tok} {H H5 : PH} {n sz b : Nat} {o : PObj} (hg : Grow H tok n sz) (hK : ∀ H0, Keep H0 tok H → Keep H0 tok' H5) : Kx H b (H5.set b o) := by
  intro x cs hx h
  rw [PH.get_set, if_neg hx]
  exact (keep_at hK h (hg.not_cells h)).1
/-- What is noted. -/
structure Tn where
  auth : Au
  tick : Tk
  term : Term
end Go.Pv


set_option linter.unusedSimpArgs false
set_option linter.unusedVariables false
namespace Go.Pv
open Go.Proofs
end Go.Pv

set_option linter.unusedSimpArgs false
set_option linter.unusedVariables false
namespace Go.Pv
open Go.Proofs
/-! ### the document's cache: a list that is made anew -/
structure RCh (H : PH) (c : Nat) (room : Int) (es : List (Term × Int)) (te : Tok) : Prop where
  cache : H.get c = some (.cells [.scal (.int .i64 room), .list te (ents es)])
  gr : Grow H te es.length 5
structure RFrm (H : PH) (c : Nat) (te : Tok) (H' : PH) (te' : Tok) : Prop where
  keep : ∀ x o, H.get x = some o → x ≠ c → tokB te ≠ some x → H'.get x = some o ∧ tokB te' ≠ some x
theorem RFrm.refl (H : PH) (c : Nat) (te : Tok) : RFrm H c te H te := ⟨fun _ _ h _ h2 => ⟨h, h2⟩⟩
theorem Keep.refl {H : PH} : Keep H .full H := fun _ _ h => ⟨h, by simp [tokB]⟩
end Go.Pv

namespace Go.Pv
open Go.Proofs
end Go.Pv

set_option linter.unusedSimpArgs false
set_option linter.unusedVariables false
namespace Go.Pv
open Go.Proofs
def cellsX (t1 t2 t3 t4 t5 : Tok) (x : Tn) : List PV := [.scal (.string x.auth.user), .list t1 (ints x.auth.groups), .scal (.int .i64 x.auth.origin), .list t2 (strs x.auth.transited), .scal (.string x.auth.service), .scal (.bool x.auth.fwd), .scal (.int .i64 x.auth.to),
  .scal (.string x.tick.service), .scal (.int .i64 x.tick.flags), .scal (.int .i64 x.tick.key.k), .scal (.string x.tick.key.s), .scal (.int .i64 x.tick.key.n), .list t3 (encL x.tick.key.l), .scal (.string x.tick.client), .scal (.int .i64 x.tick.span.lo), .scal (.int .i64 x.tick.span.hi), .scal (.int .i64 x.tick.auth.k), .scal (.string x.tick.auth.s), .scal (.int .i64 x.tick.auth.n), .list t4 (encL x.tick.auth.l),
  .scal (.int .i64 x.term.k), .scal (.string x.term.s), .scal (.int .i64 x.term.n), .list t5 (encL x.term.l)]
structure Loc (H : PH) (p3 p4 p6 p7 b c : Nat) (now : Int) (t1 t2 t3 t4 t5 : Tok) (x : Tn) (e : Int) (name : ByteArray) (key : Term) (room : Int) (es : List (Term × Int)) (te : PV) (lg : List PV) (tl : Tok) : Prop where
  g3 : H.get p3 = some (.cells [.ptr b 0])
  g4 : H.get p4 = some (.cells [.scal (.int .i64 now)])
  g6 : H.get p6 = some (.cells (cellsX t1 t2 t3 t4 t5 x))
  g7 : H.get p7 = some (.cells [.scal (.int .i64 e)])
  acc : Acc H b c name key room es te lg tl
end Go.Pv


set_option linter.unusedSimpArgs false
set_option linter.unusedVariables false
namespace Go.Pv
open Go.Proofs
theorem run_allocH' {P : Program} {Q : RX → St → Prop} {env : Nat → EV} {L : List (List PV)} {H : PH} {k : List SI} {ops : List RI} {d : Option Nat} {z : List PV} : run P Q (⟨d, none, .allocH z⟩ :: ops) k env L H = bH P Q z d ops k env L H := nr rfl
theorem Acc.other {H : PH} {b c : Nat} {name : ByteArray} {key : Term} {room : Int} {es : List (Term × Int)} {te : PV} {lg : List PV} {tl : Tok} (h : Acc H b c name key room es te lg tl) {x : Nat} {o : PObj} (hb : x ≠ b) (hc : x ≠ c) (he : elB te ≠ some x) (hx : H.get x = none ∨ ∃ cs, H.get x = some (.cells cs)) : Acc (H.set x o) b c name key room es te lg tl := by
  have nt : ∀ {tok : Tok} {n sz : Nat}, Grow H tok n sz → tokB tok ≠ some x := by
    intro tok n sz hg
    rcases hx with hx | ⟨cs, hx⟩
    · rcases hg with rfl | ⟨b', t, rfl, hg⟩
      · intro e; cases e
      · intro e; cases e; rw [hg] at hx; cases hx
    · exact hg.not_cells hx
  exact ⟨by rw [PH.get_set, if_neg (fun e => hb e.symm)]; exact h.acc, h.ch.set hc he, h.ne, h.gl.set_cells (nt h.gl), h.vb, h.ap, h.sl⟩
theorem Acc.new {H : PH} {b c : Nat} {name : ByteArray} {key : Term} {room : Int} {es : List (Term × Int)} {te : PV} {lg : List PV} {tl : Tok} (h : Acc H b c name key room es te lg tl) {x : Nat} (hx : H.get x = none) : elB te ≠ some x := by
  intro e
  obtain ⟨cs, hcs⟩ := h.ch.el.get e
  rw [hx] at hcs; cases hcs
section
variable {H : PH} {b c p3 p4 p6 p7 : Nat} {now : Int} {t1 t2 t3 t4 t5 : Tok} {x : Tn} {e : Int} {name : ByteArray} {key : Term} {room : Int} {es : List (Term × Int)} {te : PV} {lg : List PV} {tl : Tok}
structure Dist (b c p3 p4 p6 p7 : Nat) (te : PV) : Prop where
  n6b : p6 ≠ b
  n7b : p7 ≠ b
  n6c : p6 ≠ c
  n7c : p7 ≠ c
  n36 : p3 ≠ p6
  n37 : p3 ≠ p7
  n46 : p4 ≠ p6
  n47 : p4 ≠ p7
  n67 : p6 ≠ p7
  n3c : p3 ≠ c
  n4c : p4 ≠ c
  e3 : elB te ≠ some p3
  e4 : elB te ≠ some p4
  e6 : elB te ≠ some p6
  e7 : elB te ≠ some p7
end
end Go.Pv


set_option linter.unusedSimpArgs false
set_option linter.unusedVariables false
namespace Go.Pv
open Go.Proofs
end Go.Pv



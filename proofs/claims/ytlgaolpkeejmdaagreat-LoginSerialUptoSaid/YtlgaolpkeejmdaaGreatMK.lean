import Derived.Test.YtlgaolpkeejmdaaGreatME
import Derived.Test.YtlgaolpkeejmdaaGreatMJ
import Derived.Test.YtlgaolpkeejmdaaGreatRows
import Derived.WalkKit
import Derived.ProofKit
import Derived.OpenShut
import Derived.JoinedCond
namespace Go.Pv
open Go Go.Proofs Go.RowKit Go.WideShapes
set_option linter.unusedVariables false
section
variable {G : Type}
open YtlgaolpkeejmdaaGreat.Rows in
theorem bulk_pos : ∀ d : DataW G, 1 ≤ uptoBulk d
  | .lit l => by cases l <;> simp [uptoBulk]
  | .nil => by simp [uptoBulk]
  | .ptr d => by simp [uptoBulk]
  | .slice es sp => by simp [uptoBulk]
  | .agg ps => by simp [uptoBulk]
  | .iface _ d => by simp [uptoBulk]
  | .map es => by simp [uptoBulk]
  | .held _ => by simp [uptoBulk]
open YtlgaolpkeejmdaaGreat.Rows in
theorem bulk_len : ∀ ds : List (DataW G), ds.length ≤ uptoBulkAll ds
  | [] => by simp
  | d :: ds => by
    have h1 := bulk_pos d
    have h2 := bulk_len ds
    simp only [List.length_cons, uptoBulkAll]; omega
open YtlgaolpkeejmdaaGreat.Rows in
mutual
theorem fits_of : ∀ d : DataW G, uptoBulk d ≤ 1048576 → fits d = true
  | .lit l, h => by
    cases l <;> simp only [uptoBulk] at h <;> simp only [fits]
    rw [lenB_eq]; exact decide_eq_true (by omega)
  | .nil, _ => by simp only [fits]
  | .ptr _, _ => by simp only [fits]
  | .slice es sp, h => by
    simp only [uptoBulk] at h
    have h1 := bulk_len es
    simp only [fits, Bool.and_eq_true]
    exact ⟨by rw [lenB_eq]; exact decide_eq_true (by omega), fitsL_of es (by omega)⟩
  | .agg ps, h => by
    simp only [uptoBulk] at h
    simp only [fits]
    exact fitsL_of ps (by omega)
  | .iface _ _, _ => by simp only [fits]
  | .map _, _ => by simp only [fits]
  | .held _, _ => by simp only [fits]
theorem fitsL_of : ∀ ds : List (DataW G), uptoBulkAll ds ≤ 1048576 → fitsL ds = true
  | [], _ => rfl
  | d :: ds, h => by
    simp only [uptoBulkAll] at h
    simp only [fitsL, Bool.and_eq_true]
    exact ⟨fits_of d (by omega), fitsL_of ds (by omega)⟩
end
def Small (d : DataW G) : Prop := YtlgaolpkeejmdaaGreat.Rows.uptoBulk d ≤ 1048576
def eachLe : List (DataW G) → Prop
  | [] => True
  | d :: ds => Small d ∧ eachLe ds
theorem eachLe_of : ∀ ds : List (DataW G), YtlgaolpkeejmdaaGreat.Rows.uptoBulkAll ds ≤ 1048576 → eachLe ds
  | [], _ => trivial
  | d :: ds, h => by
    simp only [YtlgaolpkeejmdaaGreat.Rows.uptoBulkAll] at h
    exact ⟨show YtlgaolpkeejmdaaGreat.Rows.uptoBulk d ≤ _ by omega, eachLe_of ds (by omega)⟩
theorem bulk_parts {ds : List (DataW G)} (h : YtlgaolpkeejmdaaGreat.Rows.uptoSmall G ds = true) : eachLe ds := eachLe_of ds (of_decide_eq_true h)
end
theorem spanTy : SpanTy Tryz.prog 46 := ⟨fldOf Tryz.prog 46 0, fldOf Tryz.prog 46 1, by kernel_rfl, by kernel_rfl, by kernel_rfl⟩
theorem list_of {G α : Type} {f : α → PV} : ∀ {es : List (DataW G)}, (∀ y ∈ es, ∃ a, pvE y = f a) → ∃ l : List α, pvEs es = l.map f
  | [], _ => ⟨[], rfl⟩
  | y :: es, h => by
    obtain ⟨t, ht⟩ := h y (by simp)
    obtain ⟨l, hl⟩ := list_of (es := es) fun z hz => h z (List.mem_cons_of_mem _ hz)
    exact ⟨t :: l, by rw [pvEs, ht, hl, List.map_cons]⟩
theorem laidOk : laidOutB Tryz.prog = true := by kernel_rfl
section
variable {G : Type} {ec : TypeId × Value → G} {W : World} {base : Nat} {v : Value} {d : DataW G} {ps : List MemPlace}
theorem stays_of {t : TypeId} (hr : Tryz.prog.readableRec t = true) (hrow : t < Tryz.prog.types.size) {W' : World} (h : DataW.Trod ec Tryz.prog W 0 (fun _ => true) true t v d ps) (hb : Below W.heap.size W W') (hlt : ∀ x ∈ ps, x.block < W.heap.size) {sp : Nat → Bool} (hsp : ∀ x ∈ ps, sp x.block = true) :
    DataW.Trod ec Tryz.prog W' 0 sp true t v d ps := WideElems.Trod_stays laidOk hr hrow h (fun x hx => hb.same (hlt x hx)) hsp
end
theorem run_true {f : FuncId} {args : List PV} {vs : List Value} {W : World} (h : PPure Tryz.prog f args (.scal (.bool true))) (r : RepL (memOf W (hwOf W)) args vs) :
    Calls Tryz.prog f vs.toArray W fun e w' => e = .returned (.bool true) ∧ Below W.heap.size W w' := by
  refine (h.2 W (hwOf W) vs (WRep.old W) r).mono ?_
  rintro e w' ⟨v, hw', r, H', rfl, hx, hr, hv, rfl⟩
  simp only [Rep] at hv
  exact ⟨by rw [hv.1], ⟨hx.os, hx.tape, hx.output, hx.size, fun k hk => (hx.frame k hk rfl).1⟩⟩
end Go.Pv
namespace Go.Proofs.YtlgaolpkeejmdaaGreat
open Go.ChangeShapes Go.WideShapes Go.ChangeAt Go.RowKit
set_option linter.unusedVariables false
theorem own : ownKnob Tryz.prog.godebug = none := by kernel_rfl
theorem post_below {H : Type} {enc : TypeId × Value → H} {P : Program} {f : Func} {s : ChangeSpec} {apart fresh handsOn again : Bool} {W W' : World} {args : Array Value} {v : Value} {ds gs : List (DataW H)} {before pa pv : List MemPlace}
    (hW : DataW.Whole enc P f.params.toList s.vars apart W args.toList ds gs before) (hb : Below W.heap.size W W') (hps : before = pa ++ pv)
    (hres : ∀ (b : Nat) (sp : Nat → Bool) (hd : Bool), DataW.TrodAll enc P W' b sp hd f.resultTypes.toList (v.resultList f.resultTypes.size) (s.fn H (ds ++ gs)).results [])
    (hargs : ∀ sp : Nat → Bool, (∀ p ∈ before, sp p.block = true) → DataW.TrodAll enc P W' 0 sp true f.params.toList args.toList (s.fn H (ds ++ gs)).args pa)
    (hvars : ∀ sp : Nat → Bool, (∀ p ∈ before, sp p.block = true) → DataW.TrodVars enc P W' sp s.vars (s.fn H (ds ++ gs)).vars pv)
    (hok : ∀ (j : Nat) (t : TypeId) (r : Value), f.resultTypes[j]? = some t → (v.resultList f.resultTypes.size)[j]? = some r → Value.okWide P W' .any 0 t r) :
    s.post enc P f apart fresh handsOn again W args v W' := by
  have old : ∀ p ∈ before, p.block < W.heap.size := fun p hp => hW.lt p hp
  have mem : ∀ {p : MemPlace}, p ∈ before ↔ p ∈ [] ++ pa ++ pv := by intro p; rw [hps]; simp
  refine ⟨ds, gs, before, [], pa, pv, hW, hres _ _ _, hargs _ fun p hp => by simpa using old p hp, hvars _ fun p hp => by simpa using old p hp, World.keptBut_mono (fun p hp => ⟨hp, .inr (by rw [hps, List.mem_append] at hp; exact hp)⟩) (hb.frame (· ∈ before)), fun _ => ?_⟩
  obtain ⟨_, _, _, _, _, hz, hn⟩ := hW
  refine ⟨hok, _, _, ([] ++ pa) ++ pv, ⟨[] ++ pa, pv, trodAll_append (hargs _ fun _ _ => rfl) (hres _ _ _), hvars _ fun _ _ => rfl, rfl, fun b off hp => ?_, fun ha => ?_⟩, fun p hp _ => mem.2 hp⟩
  · have hp' := mem.2 hp
    rw [hb.frozen (p := ⟨b, off, none⟩) (old _ hp')]
    exact hz b off hp'
  · have h := hn ha
    rw [hps] at h
    simpa using h
end Go.Proofs.YtlgaolpkeejmdaaGreat


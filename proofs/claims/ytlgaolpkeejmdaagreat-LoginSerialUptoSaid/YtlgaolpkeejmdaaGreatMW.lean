import Derived.Test.YtlgaolpkeejmdaaGreatMC
import Derived.Test.YtlgaolpkeejmdaaGreatMO
namespace Go.Pv
open Go.Proofs
end Go.Pv

set_option linter.unusedSimpArgs false
set_option linter.unusedVariables false
namespace Go.Pv
open Go.Proofs
def fewP (l : List Pr) : Bool := !(l.any fun p => decide (30 < p.allowed.length) || (decide (30 < p.acts.length) || decide (30 < p.groups.length))) && decide (l.length ≤ 30)
theorem decG (a b : Nat) : decide ((b : Int) < (a : Int)) = decide (b < a) := by rw [decide_eq_decide]; omega
set_option maxRecDepth 10000 in
theorem c30 (l : List Pr) : PPure Tryz.prog 30 [.list .foreign (prs l)] (.scal (.bool (fewP l))) := by
  refine pure_ok_of hmix Tryz.func30 ok30 (by simp) fun hok => ?_
  have hlen : l.length ≤ lenB := by have := hok; simp only [okBL, okB, prs_len] at this; exact this.1.1
  simp -implicitDefEqProofs only [rc30, zzfp, zzft, zzff, zzjy, zziu, zzdm, zzid]
  refine go_loop (fun n s => ∃ i : Nat, i ≤ l.length ∧ n = l.length - i ∧ s.env 3 = .v (.scal (.int .i64 (i : Nat))) ∧ s.env 0 = .v (.list .foreign (prs l)) ∧ (l.any fun p => decide (30 < p.allowed.length) || (decide (30 < p.acts.length) || decide (30 < p.groups.length))) = ((l.drop i).any fun p => decide (30 < p.allowed.length) || (decide (30 < p.acts.length) || decide (30 < p.groups.length)))) l.length ?_ ?_
  · exact ⟨0, by omega, by omega, rfl, rfl, rfl⟩
  rintro n env L H ⟨i, hi, rfl, h3, h0, ho⟩
  simp only at h3 h0
  simp -implicitDefEqProofs only [h3, h0, prs_len, zzfp, zzft, zzfh, zzjy, zzjk, zzcd, zziu, zzig, zzin, zzdn, zzlf, zzid, zzgt, zzkf, zzlg, zzaz, zzar, zzai, Nat.reduceEqDiff, if_true, if_false]
  refine br_intro (fun b1 => ?_) (fun b1 => ?_)
  · have hlt : i < l.length := by simpa using b1
    obtain ⟨p, hp⟩ : ∃ p, nth l i = some p := ⟨_, nth_of hlt⟩
    have hp' : nth (prs l) i = some (.agg [.scal (.string p.name), .scal (.int .i64 p.version), .scal (.bool p.trans), .scal (.bool p.sens), .list .foreign (strs p.allowed), .list .foreign (strs p.acts), .list .foreign (ints p.groups), .scal (.int .i64 p.life)]) := by simp only [prs, zzht, hp, Option.map_some]; rfl
    rw [drop_cons' hp, List.any_cons] at ho
    have d1 := decG p.allowed.length 30
    have d2 := decG p.acts.length 30
    have d3 := decG p.groups.length 30
    simp only [Int.cast_ofNat_Int] at d1 d2 d3
    simp -implicitDefEqProofs only [h3, h0, hp', zzku, d1, zzfu, zzfp, zzft, zzff, zzjv, zzjk, zzgc, zziu, zzip, zzig, zzij, zzik, zzin, zzdn, zzdm, zzlf, zzid, zzhu, zzhr, zzhs, zzjh, zzgo, zzdl, zzdu, zzaf, zzae, zzgg, zzcf, zzgt, zzkf, zzlg, zzaz, zzap, zzai, zzbw, List.length_cons, List.length_nil, Nat.reduceAdd, Nat.reduceSub, Nat.reduceEqDiff, Nat.add_zero, Nat.zero_add, if_true, if_false, zzku, zzhl, Int.toNat_natCast, Nat.add_one_ne_zero]
    refine br_intro (fun b2 => ?_) (fun b2 => ?_)
    · simp -implicitDefEqProofs only [b2, zzfp, zzft, zzfh, zzfq, zzjy, zzjv, zzjz, zzcd, zzgc, zziu, zzeb, zzdh, zzja, zzjb, zzix, zzjd, zzdn, zzdm, zzlf, zzid, br_true, Nat.reduceEqDiff, if_true, if_false, PV.fg]
      simp only [fewP, ho, b2, Bool.true_or, Bool.not_true, Bool.false_and]
    simp -implicitDefEqProofs only [b2, h3, h0, hp', zzku, d2, zzjv, zzjz, zzjk, zzcd, zzgc, zziu, zzip, zzig, zzij, zzik, zzin, zzdn, zzdm, zzlf, zzid, zzhu, zzhr, zzhs, zzjh, zzgo, zzdl, zzdu, zzaf, zzae, zzgg, zzcf, zzgt, zzkf, zzlg, zzaz, zzap, zzai, br_false, zzbw, List.length_cons, List.length_nil, Nat.reduceAdd, Nat.reduceSub, Nat.reduceEqDiff, Nat.add_zero, Nat.zero_add, if_true, if_false, zzku, zzhl, Int.toNat_natCast, Nat.add_one_ne_zero]
    refine br_intro (fun b3 => ?_) (fun b3 => ?_)
    · simp -implicitDefEqProofs only [b3, zzfp, zzft, zzfh, zzfq, zzjy, zzjv, zzjz, zzcd, zzgc, zziu, zzeb, zzdh, zzja, zzjb, zzix, zzjd, zzdn, zzdm, zzlf, zzid, br_true, Nat.reduceEqDiff, if_true, if_false, PV.fg]
      simp only [fewP, ho, b3, Bool.true_or, Bool.or_true, Bool.not_true, Bool.false_and]
    simp -implicitDefEqProofs only [b3, h3, h0, hp', zzgk, d3, zzfh, zzjy, zzjv, zzjz, zzjk, zzcd, zzgc, zziu, zzip, zzig, zzij, zzik, zzin, zzdn, zzdm, zzlf, zzid, zzhu, zzhr, zzhs, zzjh, zzgo, zzdl, zzdu, zzaf, zzae, zzgg, zzcf, zzgt, zzkf, zzlg, zzaz, zzap, zzai, br_false, zzbw, List.length_cons, List.length_nil, Nat.reduceAdd, Nat.reduceSub, Nat.reduceEqDiff, Nat.add_zero, Nat.zero_add, if_true, if_false, zzgk, zzhl, Int.toNat_natCast, Nat.add_one_ne_zero]
    refine br_intro (fun b4 => ?_) (fun b4 => ?_)
    · simp -implicitDefEqProofs only [b4, zzfp, zzft, zzfq, zzjy, zziu, zzeb, zzdh, zzja, zzjb, zzix, zzjd, zzdm, zzlf, zzid, Nat.reduceEqDiff, if_true, if_false, PV.fg]
      simp only [fewP, ho, b4, Bool.true_or, Bool.or_true, Bool.not_true, Bool.false_and]
    simp -implicitDefEqProofs only [b4, h3, h0, wrap_add hlt hlen, zzfu, zzfp, zzfe, zzjy, zzjk, zziu, zzig, zzdn, zzdm, zzlf, zzid, zzkf, zzlg, zzaz, zzal, zzaj, Nat.reduceEqDiff, if_true, if_false, true_and, Bool.true_and, zzfl]
    refine ⟨_, by omega, i + 1, hlt, rfl, rfl, ?_⟩
    rw [ho, b2, b3, b4]; rfl
  · have hge : i = l.length := by
      have : ¬ i < l.length := by simpa using b1
      omega
    simp -implicitDefEqProofs only [b1, h0, prs_len, zzfp, zzft, zzfq, zzfj, zzdp, zzdo, zzjy, zzjk, zziu, zzig, zzin, zzeb, zzdh, zzja, zzjb, zzix, zzjd, zzdn, zzdm, zzlf, zzid, zzgt, zzkf, zzlg, zzaz, zzaq, zzai, Nat.reduceEqDiff, if_true, if_false, PV.fg, zzdq]
    rw [hge, List.drop_of_length_le (Nat.le_refl _), List.any_nil] at ho
    have e : decide ((l.length : Int) ≤ 30) = decide (l.length ≤ 30) := decN l.length 30
    simp only [fewP, ho, e, Bool.not_false, Bool.true_and]
theorem prs_fgL : ∀ l : List Pr, fgL (prs l) = prs l
  | [] => rfl
  | p :: l => by
    show (encPr p).fg :: fgL (prs l) = encPr p :: prs l
    rw [prs_fgL l, encPr_fg]
theorem Lg.sto {H : PH} {d b : Nat} {room : Int} {s : LS} (h : Lg H d b room s) : ∃ m ses, Sto H b m s.ps ses := by
  obtain ⟨HS, HC, m, ses, c, te, tl, hT, hS, hC⟩ := h.ex
  exact ⟨m, ses, hS.mono fun x o hx => hT.left hx⟩
end Go.Pv


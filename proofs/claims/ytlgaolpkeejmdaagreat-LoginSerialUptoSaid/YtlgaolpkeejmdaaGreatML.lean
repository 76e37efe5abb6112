import Derived.Test.YtlgaolpkeejmdaaGreatMC
import Derived.Test.YtlgaolpkeejmdaaGreatMB
import Derived.Test.YtlgaolpkeejmdaaGreatProg
import Derived.KernelRfl
namespace Go.Pv
open Go.Proofs
end Go.Pv

namespace Go.Pv
open Go.Proofs
end Go.Pv


set_option linter.unusedSimpArgs false
namespace Go.Pv
open Go.Proofs
theorem hmix : Tryz.prog.follows .mixedOrders = true := by kernel_rfl
theorem c160 (n : Int) : PPure Tryz.prog 160 [.scal (.int .i64 n)] (.scal (.bool false)) := by
  refine pure_of hmix Tryz.func160 ok160 (by simp) ?_
  simp -implicitDefEqProofs only [rc160, bne_self_eq_false, zzfp, zzft, zzfq, zzjy, zzjk, zziu, zzig, zzeb, zzdh, zzja, zzjb, zzix, zzjd, zzdn, zzdm, zzlf, zzid, zzgi, zzkf, zzlg, zzaz, zzas, zzai, Nat.reduceSub, Nat.reduceEqDiff, if_true, if_false, PV.fg, Nat.add_one_ne_zero]
theorem c158 (n : Int) : PPure Tryz.prog 158 [.scal (.int .i64 n)] (.scal (.bool false)) := by
  refine pure_of hmix Tryz.func158 ok158 (by simp) ?_
  simp -implicitDefEqProofs only [rc158, bne_self_eq_false, zzfp, zzft, zzfq, zzjy, zzjk, zziu, zzig, zzeb, zzdh, zzja, zzjb, zzix, zzjd, zzdn, zzdm, zzlf, zzid, zzgi, zzkf, zzlg, zzaz, zzas, zzai, Nat.reduceSub, Nat.reduceEqDiff, if_true, if_false, PV.fg, Nat.add_one_ne_zero]
theorem c130 (a b : Int) : PPure Tryz.prog 130 [.scal (.int .i64 a), .scal (.int .i64 b)] (.scal (.int .i64 (cmpI a b))) := by
  refine pure_of hmix Tryz.func130 ok130 (by simp) ?_
  simp -implicitDefEqProofs only [rc130, zzfp, zzft, zzjy, zzjr, zziu, zzdn, zzdm, zzlf, zzid, zzgi, zzif, zzie, zzhz, List.map_cons, List.map_nil, Nat.reduceSub, Nat.reduceEqDiff, if_true, if_false, Nat.add_one_ne_zero]
  refine pcall_intro (c160 _) ?_
  simp -implicitDefEqProofs only [zzfp, zzft, zzjy, zzjr, zziu, zzdn, zzlf, zzid, zzgi, zzif, zzie, zzhz, List.map_cons, List.map_nil, Nat.reduceSub, Nat.reduceEqDiff, if_true, if_false, Nat.add_one_ne_zero]
  refine pcall_intro (c160 _) ?_
  simp -implicitDefEqProofs only [zzfu, zzfp, zzft, zzfh, zzjy, zzjk, zzcd, zziu, zzig, zzdn, zzlf, zzid, zzgi, zzkf, zzlg, zzaz, zzar, zzai, br_false, Nat.reduceSub, Nat.reduceEqDiff, if_true, if_false, Nat.add_one_ne_zero]
  refine br_intro (fun h1 => ?_) (fun h1 => ?_) <;> simp -implicitDefEqProofs only [zzfu, zzfp, zzft, zzfh, zzfq, zzjy, zzjk, zzcd, zziu, zzig, zzeb, zzdh, zzja, zzjb, zzix, zzjd, zzdn, zzdm, zzlf, zzid, zzgi, zzkf, zzlg, zzaz, zzap, zzai, Nat.reduceSub, Nat.reduceEqDiff, if_true, if_false, PV.fg, Nat.add_one_ne_zero]
  · simp at h1; simp [cmpI, h1]
  · refine br_intro (fun h2 => ?_) (fun h2 => ?_) <;> simp -implicitDefEqProofs only [zzfu, zzfp, zzft, zzfq, zzjy, zziu, zzeb, zzdh, zzja, zzjb, zzix, zzjd, zzdm, zzlf, zzid, zzgi, Nat.reduceSub, Nat.reduceEqDiff, if_true, if_false, PV.fg, Nat.add_one_ne_zero]
    · simp at h1 h2; simp [cmpI, h2]; omega
    · simp at h1 h2; simp [cmpI]; omega
theorem c128 (a b : Int) : PPure Tryz.prog 128 [.scal (.int .i64 a), .scal (.int .i64 b)] (.scal (.int .i64 (cmpI a b))) := by
  refine pure_of hmix Tryz.func128 ok128 (by simp) ?_
  simp -implicitDefEqProofs only [rc128, zzfp, zzft, zzjy, zzjr, zziu, zzdn, zzdm, zzlf, zzid, zzgi, zzif, zzie, zzhz, List.map_cons, List.map_nil, Nat.reduceSub, Nat.reduceEqDiff, if_true, if_false, Nat.add_one_ne_zero]
  refine pcall_intro (c158 _) ?_
  simp -implicitDefEqProofs only [zzfp, zzft, zzjy, zzjr, zziu, zzdn, zzlf, zzid, zzgi, zzif, zzie, zzhz, List.map_cons, List.map_nil, Nat.reduceSub, Nat.reduceEqDiff, if_true, if_false, Nat.add_one_ne_zero]
  refine pcall_intro (c158 _) ?_
  simp -implicitDefEqProofs only [zzfu, zzfp, zzft, zzfh, zzjy, zzjk, zzcd, zziu, zzig, zzdn, zzlf, zzid, zzgi, zzkf, zzlg, zzaz, zzar, zzai, br_false, Nat.reduceSub, Nat.reduceEqDiff, if_true, if_false, Nat.add_one_ne_zero]
  refine br_intro (fun h1 => ?_) (fun h1 => ?_) <;> simp -implicitDefEqProofs only [zzfu, zzfp, zzft, zzfh, zzfq, zzjy, zzjk, zzcd, zziu, zzig, zzeb, zzdh, zzja, zzjb, zzix, zzjd, zzdn, zzdm, zzlf, zzid, zzgi, zzkf, zzlg, zzaz, zzap, zzai, Nat.reduceSub, Nat.reduceEqDiff, if_true, if_false, PV.fg, Nat.add_one_ne_zero]
  · simp at h1; simp [cmpI, h1]
  · refine br_intro (fun h2 => ?_) (fun h2 => ?_) <;> simp -implicitDefEqProofs only [zzfu, zzfp, zzft, zzfq, zzjy, zziu, zzeb, zzdh, zzja, zzjb, zzix, zzjd, zzdm, zzlf, zzid, zzgi, Nat.reduceSub, Nat.reduceEqDiff, if_true, if_false, PV.fg, Nat.add_one_ne_zero]
    · simp at h1 h2; simp [cmpI, h2]; omega
    · simp at h1 h2; simp [cmpI]; omega
end Go.Pv


set_option linter.unusedSimpArgs false
set_option linter.unusedVariables false
namespace Go.Pv
open Go.Proofs
theorem x148 (a b : ByteArray) : xE Tryz.prog 175 (some [.scal (.string a), .scal (.string b)]) = some (.v (.scal (.int .i64 (cmpS a b)))) := by
  have h : pureP Tryz.prog (callFunc 175 #[.string a, .string b]) = some (.value (.int .i64 (cmpS a b))) :=
    pureP_extern Tryz.func175 (by kernel_rfl) (by kernel_rfl) (by kernel_rfl) (e := Extern.BytealgCompare.compare) (by kernel_rfl) (pureP_cmp a b)
  simp only [xE, valsA?, PV.valA?, PV.val?, h]
  rfl
theorem x146 (s : ByteArray) (c : Int) : xE Tryz.prog 184 (some [.scal (.string s), .scal (.int .u8 c)]) = some (.v (.scal (.int .i64 (Lib.indexByte s.data.toList c.toNat.toUInt8)))) := by
  have h : pureP Tryz.prog (callFunc 184 #[.string s, .int .u8 c]) = some (.value (.int .i64 (Lib.indexByte s.data.toList c.toNat.toUInt8))) :=
    pureP_extern Tryz.func184 (by kernel_rfl) (by kernel_rfl) (by kernel_rfl) (e := Extern.BytealgIndexByte.indexByte) (by kernel_rfl) (pureP_idx s c)
  simp only [xE, valsA?, PV.valA?, PV.val?, h]
  rfl
theorem c159 (a b : ByteArray) : PPure Tryz.prog 159 [.scal (.string a), .scal (.string b)] (.scal (.int .i64 (cmpS a b))) := by
  refine pure_of hmix Tryz.func159 ok159 (by simp) ?_
  simp -implicitDefEqProofs only [rc159, x148, zzfp, zzft, zzfq, zzjy, zzjk, zziu, zzeb, zzdh, zzja, zzjb, zzix, zzjd, zzdn, zzdm, zzlf, zzid, zzgi, zzif, zzie, zzhz, List.map_cons, List.map_nil, Nat.reduceSub, Nat.reduceEqDiff, if_true, if_false, PV.fg, r_x, Nat.add_one_ne_zero]
theorem c129 (a b : ByteArray) : PPure Tryz.prog 129 [.scal (.string a), .scal (.string b)] (.scal (.int .i64 (cmpS a b))) := by
  refine pure_of hmix Tryz.func129 ok129 (by simp) ?_
  simp -implicitDefEqProofs only [rc129, zzfp, zzft, zzjy, zzjr, zziu, zzdn, zzdm, zzlf, zzid, zzgi, zzif, zzie, zzhz, List.map_cons, List.map_nil, Nat.reduceSub, Nat.reduceEqDiff, if_true, if_false, Nat.add_one_ne_zero]
  refine pcall_intro (c159 _ _) ?_
  simp -implicitDefEqProofs only [zzfq, zzjy, zziu, zzeb, zzdh, zzja, zzjb, zzix, zzjd, zzdn, zzlf, zzid, zzgi, Nat.reduceSub, Nat.reduceEqDiff, if_true, if_false, PV.fg, Nat.add_one_ne_zero]
theorem c177 (a : ByteArray) (c : Int) : PPure Tryz.prog 177 [.scal (.string a), .scal (.int .u8 c)] (.scal (.int .i64 (Lib.indexByte a.data.toList c.toNat.toUInt8))) := by
  refine pure_of hmix Tryz.func177 ok177 (by simp) ?_
  simp -implicitDefEqProofs only [rc177, x146, zzfp, zzft, zzfq, zzjy, zzjk, zziu, zzeb, zzdh, zzja, zzjb, zzix, zzjd, zzdn, zzdm, zzlf, zzid, zzgi, zzif, zzie, zzhz, List.map_cons, List.map_nil, Nat.reduceSub, Nat.reduceEqDiff, if_true, if_false, PV.fg, r_x, Nat.add_one_ne_zero]
theorem c166 (a : ByteArray) (c : Int) : PPure Tryz.prog 166 [.scal (.string a), .scal (.int .u8 c)] (.scal (.int .i64 (Lib.indexByte a.data.toList c.toNat.toUInt8))) := by
  refine pure_of hmix Tryz.func166 ok166 (by simp) ?_
  simp -implicitDefEqProofs only [rc166, zzfp, zzft, zzjy, zzjr, zziu, zzdn, zzdm, zzlf, zzid, zzgi, zzif, zzie, zzhz, List.map_cons, List.map_nil, Nat.reduceSub, Nat.reduceEqDiff, if_true, if_false, Nat.add_one_ne_zero]
  refine pcall_intro (c177 _ _) ?_
  simp -implicitDefEqProofs only [zzfq, zzjy, zziu, zzeb, zzdh, zzja, zzjb, zzix, zzjd, zzdn, zzlf, zzid, zzgi, Nat.reduceSub, Nat.reduceEqDiff, if_true, if_false, PV.fg, Nat.add_one_ne_zero]
theorem orr_drop {xs : List Int} {i : Nat} {x : Int} (h : nth xs i = some x) : orr (xs.drop i) = if x ≠ 0 then x else orr (xs.drop (i + 1)) := by
  have hi := (List.getElem?_eq_some_iff.1 h)
  rw [List.drop_eq_getElem_cons hi.1, hi.2]; rfl
theorem c127 (xs : List Int) : PPure Tryz.prog 127 [.list .foreign (ints xs)] (.scal (.int .i64 (orr xs))) := by
  refine pure_ok_of hmix Tryz.func127 ok127 (by simp) fun hok => ?_
  have hlen : xs.length ≤ lenB := by have := hok; simp only [okBL, okB, zzgk] at this; exact this.1.1
  simp -implicitDefEqProofs only [rc127, zzfp, zzft, zzff, zzjy, zzjk, zziu, zzin, zzdn, zzdm, zzlf, zzid, zzgi, zzgt, Nat.reduceSub, Nat.reduceEqDiff, if_true, if_false, zzgk, Nat.add_one_ne_zero]
  refine go_loop (fun n s => ∃ i, i ≤ xs.length ∧ n = xs.length - i ∧ s.env 8 = .v (.scal (.int .i64 i)) ∧ s.env 7 = .v (.scal (.int .i64 xs.length)) ∧ s.env 6 = .v (.list .foreign (ints xs)) ∧ s.env 3 = .v (.scal (.int .i64 0)) ∧ orr xs = orr (xs.drop i)) xs.length ?_ ?_
  · exact ⟨0, by simp, by simp, rfl, rfl, rfl, rfl, rfl⟩
  rintro n env L H ⟨i, hi, rfl, h8, h7, h6, h3, ho⟩
  simp only at h8 h7 h6 h3
  simp -implicitDefEqProofs only [h8, h7, zzfp, zzft, zzfh, zzjy, zzjk, zzcd, zzig, zzdn, zzlf, zzid, zzkf, zzlg, zzaz, zzar, zzai, if_true]
  refine br_intro (fun h1 => ?_) (fun h1 => ?_)
  · have hlt : i < xs.length := by simpa using h1
    obtain ⟨x, hx⟩ : ∃ x, nth xs i = some x := ⟨_, nth_of hlt⟩
    have hd := orr_drop hx
    simp -implicitDefEqProofs only [h8, h6, h3, hx, zzfu, zzfp, zzft, zzfh, zzff, zzjy, zzjk, zzcd, zziu, zzip, zzig, zzik, zzdn, zzlf, zzid, zzhu, zzhr, zzjh, zzgo, zzdl, zzaf, zzae, zzgg, zzcf, zzkf, zzlg, zzaz, zzas, zzai, zzca, List.length_cons, List.length_nil, Option.map_some, Nat.reduceSub, Nat.reduceEqDiff, Nat.zero_add, if_true, if_false, zzgl, zzhl, Int.toNat_natCast]
    refine br_intro (fun h2 => ?_) (fun h2 => ?_)
    · have h2' : x ≠ 0 := by simpa using h2
      simp -implicitDefEqProofs only [zzfp, zzft, zzfq, zzjy, zziu, zzeb, zzdh, zzja, zzjb, zzix, zzjd, zzdn, zzlf, zzid, Nat.reduceEqDiff, if_true, if_false, PV.fg]
      rw [ho, hd, if_pos h2']
    · have h2' : x = 0 := by simpa using h2
      subst h2'
      simp -implicitDefEqProofs only [h8, wrap_add hlt hlen, zzfu, zzfp, zzfe, zzjy, zzjk, zziu, zzig, zzdn, zzdm, zzlf, zzid, zzkf, zzlg, zzaz, zzal, zzaj, Nat.reduceEqDiff, if_true, if_false, zzfl]
      refine ⟨_, ?_, i + 1, hlt, rfl, rfl, ?_, ?_, ?_, ?_⟩
      · omega
      · simp only [zzlf, reduceIte, Nat.reduceEqDiff, h7]
      · simp only [zzlf, reduceIte, Nat.reduceEqDiff, h6]
      · simp only [zzlf, reduceIte, Nat.reduceEqDiff, h3]
      · rw [ho, hd]; simp
  · have hge : i = xs.length := by have : ¬ i < xs.length := by simpa using h1
                                   omega
    simp -implicitDefEqProofs only [h3, zzfp, zzft, zzfq, zzfj, zzdp, zzdo, zzjy, zziu, zzeb, zzdh, zzja, zzjb, zzix, zzjd, zzdn, zzlf, zzid, Nat.reduceEqDiff, if_true, if_false, PV.fg, zzdq]
    rw [ho, hge]; simp [orr]
theorem c131f (g : FuncId) (l r : List Term) (hg : ∀ a ∈ l, ∀ b ∈ r, PPure Tryz.prog g [enc a, enc b] (.scal (.int .i64 (ordT a b)))) :
    PPure Tryz.prog 131 [.list .foreign (encL l), .list .foreign (encL r), .fn (.func g) [] []] (.scal (.int .i64 (ordL l r))) := by
  refine pure_ok_of hmix Tryz.func131 ok131 (by simp) fun hok => ?_
  have hlen : l.length ≤ lenB := by have := hok; simp only [okBL, okB, zzcw] at this; exact this.1.1
  simp -implicitDefEqProofs only [rc131, zzfp, zzft, zzff, zzjy, zzjk, zziu, zzin, zzdn, zzdm, zzlf, zzid, zzgi, zzgt, Nat.reduceSub, Nat.reduceEqDiff, if_true, if_false, zzcw, Nat.add_one_ne_zero]
  refine go_loop (fun n s => ∃ i, i ≤ l.length ∧ i ≤ r.length ∧ n = l.length - i ∧ s.env 13 = .v (.scal (.int .i64 i)) ∧ s.env 12 = .v (.scal (.int .i64 l.length)) ∧ s.env 11 = .v (.list .foreign (encL l)) ∧ s.env 0 = .v (.list .foreign (encL l)) ∧ s.env 1 = .v (.list .foreign (encL r)) ∧ s.env 2 = .v (.fn (.func g) [] []) ∧ ordL l r = ordL (l.drop i) (r.drop i)) l.length ?_ ?_
  · exact ⟨0, by simp, by simp, by simp, rfl, rfl, rfl, rfl, rfl, rfl, rfl⟩
  rintro n env L H ⟨i, hi, hir, rfl, h13, h12, h11, h0, h1, h2, ho⟩
  simp only at h13 h12 h11 h0 h1 h2
  simp -implicitDefEqProofs only [h13, h12, zzfp, zzft, zzfh, zzjy, zzjk, zzcd, zzig, zzdn, zzlf, zzid, zzkf, zzlg, zzaz, zzar, zzai, if_true]
  refine br_intro (fun b1 => ?_) (fun b1 => ?_)
  · have hlt : i < l.length := by simpa using b1
    obtain ⟨x, hx⟩ : ∃ x, nth l i = some x := ⟨_, nth_of hlt⟩
    have hxm : x ∈ l := List.mem_of_getElem? hx
    simp -implicitDefEqProofs only [h13, h11, h1, hx, zzfu, zzfp, zzft, zzfh, zzff, zzjy, zzjm, zzkd, zzjk, zzjl, zzcd, zziu, zziq, zzig, zzik, zzin, zzdn, zzlf, zzid, zzic, zzhu, zzhr, zzji, zzjh, zzgp, zzdi, zzkl, zzkr, zzkq, zzag, zzki, zzaf, zzae, zzgg, zzcf, zzgt, zzkf, zzlg, zzaz, zzao, zzai, List.length_cons, List.length_nil, Option.map_some, Nat.reduceAdd, Nat.reduceSub, Nat.reduceEqDiff, Nat.zero_add, Bool.and_self, and_self, if_true, if_false, zzdd, zzcm, zzcn, zzco, zzaa, zzcw, zzcx, zzhl, Int.toNat_natCast, zzkg, zzhp]
    refine br_intro (fun b2 => ?_) (fun b2 => ?_)
    · have hge : r.length ≤ i := by simpa using b2
      simp -implicitDefEqProofs only [zzfp, zzft, zzfq, zzjy, zziu, zzeb, zzdh, zzja, zzjb, zzix, zzjd, zzdm, zzlf, zzid, Nat.reduceEqDiff, if_true, if_false, PV.fg]
      rw [ho, List.drop_of_length_le hge, List.drop_eq_getElem_cons hlt]; rfl
    · have hlt2 : i < r.length := by
        have : ¬ r.length ≤ i := by simpa using b2
        omega
      obtain ⟨y, hy⟩ : ∃ y, nth r i = some y := ⟨_, nth_of hlt2⟩
      have hym : y ∈ r := List.mem_of_getElem? hy
      simp -implicitDefEqProofs only [h1, h2, hy, zzfu, zzfp, zzft, zzjy, zzjm, zzkd, zzjk, zzjl, zziu, zziq, zzik, zzdn, zzlf, zzid, zzic, zzhu, zzhr, zzji, zzjh, zzgp, zzdi, zzkl, zzkr, zzkq, zzag, zzki, zzif, zzie, zzhz, zzaf, zzae, zzgg, zzcf, List.map_cons, List.map_nil, List.length_cons, List.length_nil, List.cons_append, List.nil_append, Option.map_some, Nat.reduceAdd, Nat.reduceSub, Nat.reduceEqDiff, Nat.zero_add, Bool.and_self, and_self, if_true, if_false, zzdd, zzcm, zzcn, zzco, zzaa, zzcx, List.length_append, zzhl, Int.toNat_natCast, Nat.add_one_ne_zero, zzkh, zzhp, zzhq, List.append_assoc, zzjt, zzlh, List.append_nil]
      refine pcall_intro (r := .scal (.int .i64 (ordT x y))) (by simpa only [fgL, zzdf] using hg x hxm y hym) ?_
      simp -implicitDefEqProofs only [zzfp, zzft, zzfh, zzjy, zzjk, zzcd, zziu, zzig, zzdn, zzdm, zzlf, zzid, zzkf, zzlg, zzaz, zzas, zzai, Nat.reduceEqDiff, if_true, if_false]
      have hsp : ordL l r = if ordT x y ≠ 0 then ordT x y else ordL (l.drop (i + 1)) (r.drop (i + 1)) := by
        have e1 := List.getElem?_eq_some_iff.1 hx
        have e2 := List.getElem?_eq_some_iff.1 hy
        rw [ho, List.drop_eq_getElem_cons hlt, List.drop_eq_getElem_cons hlt2, e1.2, e2.2]
        rfl
      refine br_intro (fun b3 => ?_) (fun b3 => ?_)
      · simp -implicitDefEqProofs only [zzfp, zzft, zzfq, zzjy, zziu, zzeb, zzdh, zzja, zzjb, zzix, zzjd, zzdn, zzlf, zzid, Nat.reduceEqDiff, if_true, if_false, PV.fg]
        rw [hsp, if_pos (by simpa using b3)]
      · simp -implicitDefEqProofs only [h13, wrap_add hlt hlen, zzfu, zzfp, zzfe, zzjy, zzjk, zziu, zzig, zzdn, zzdm, zzlf, zzid, zzkf, zzlg, zzaz, zzal, zzaj, Nat.reduceEqDiff, if_true, if_false, zzfl]
        refine ⟨_, ?_, i + 1, hlt, hlt2, rfl, rfl, ?_, ?_, ?_, ?_, ?_, ?_⟩
        · omega
        all_goals first | (simp only [zzlf, reduceIte, Nat.reduceEqDiff, h12, h11, h0, h1, h2]; done) | skip
        rw [hsp, if_neg (by simpa using b3)]
  · have hge : i = l.length := by
      have : ¬ i < l.length := by simpa using b1
      omega
    simp -implicitDefEqProofs only [h0, h1, zzfp, zzft, zzfh, zzfj, zzdp, zzdo, zzjy, zzjk, zzcd, zziu, zzig, zzin, zzdn, zzlf, zzid, zzgt, zzkf, zzlg, zzaz, zzar, zzai, Nat.reduceEqDiff, if_true, if_false, zzcw, zzdq]
    refine br_intro (fun b2 => ?_) (fun b2 => ?_)
    · simp -implicitDefEqProofs only [zzfp, zzft, zzfq, zzjy, zziu, zzeb, zzdh, zzja, zzjb, zzix, zzjd, zzdm, zzlf, zzid, Nat.reduceEqDiff, if_true, if_false, PV.fg]
      have h3 : l.length < r.length := by simpa using b2
      rw [ho, hge, List.drop_of_length_le (Nat.le_refl _), List.drop_eq_getElem_cons h3]; rfl
    · simp -implicitDefEqProofs only [zzfu, zzfp, zzft, zzfq, zzjy, zziu, zzeb, zzdh, zzja, zzjb, zzix, zzjd, zzdm, zzlf, zzid, Nat.reduceEqDiff, if_true, if_false, PV.fg]
      have h3 : ¬ l.length < r.length := by simpa using b2
      rw [ho, hge, List.drop_of_length_le (Nat.le_refl _), List.drop_of_length_le (by omega)]; rfl

theorem Term.lt_of_mem {t : Term} : ∀ {l : List Term}, t ∈ l → SizeOf.sizeOf t < SizeOf.sizeOf l
  | x :: l, h => by
    rcases List.mem_cons.1 h with rfl | h
    · simp only [List.cons.sizeOf_spec]; omega
    · have := Term.lt_of_mem h; simp only [List.cons.sizeOf_spec]; omega
theorem c87 : ∀ a b : Term, PPure Tryz.prog 87 [enc a, enc b] (.scal (.int .i64 (ordT a b)))
  | .mk k s n l, .mk k' s' n' l' => by
    refine pure_of hmix Tryz.func87 ok87 (by simp) ?_
    simp -implicitDefEqProofs only [rc87, zzfp, zzft, zzjy, zzjo, zzbd, zzjr, zzjk, zziu, zzip, zzij, zzdn, zzdm, zzlf, zzid, zzgi, zzhu, zzhr, zzji, zzgo, zzdl, zzif, zzie, zzhz, zzdv, List.map_cons, List.map_nil, List.length_cons, List.length_nil, List.cons_append, List.nil_append, Option.map_some, Nat.reduceSub, Nat.reduceEqDiff, Nat.add_zero, Nat.zero_add, if_true, if_false, zzdd, zzci, Nat.add_one_ne_zero]
    refine pcall_intro (c128 _ _) ?_
    simp -implicitDefEqProofs only [Term.k, zzjr, zzjk, zzip, zzij, zzdn, zzlf, zzid, zzgi, zzhu, zzhr, zzji, zzgo, zzdl, zzif, zzie, zzhz, zzdv, List.map_cons, List.map_nil, Option.map_some, Nat.reduceSub, Nat.reduceEqDiff, Nat.zero_add, if_true, if_false, zzcj, Nat.add_one_ne_zero]
    refine pcall_intro (c129 _ _) ?_
    simp -implicitDefEqProofs only [Term.s, zzjr, zzjk, zzip, zzij, zzdn, zzlf, zzid, zzgi, zzhu, zzhr, zzji, zzgo, zzdl, zzif, zzie, zzhz, zzdv, List.map_cons, List.map_nil, Option.map_some, Nat.reduceSub, Nat.reduceEqDiff, Nat.zero_add, if_true, if_false, zzck, Nat.add_one_ne_zero]
    refine pcall_intro (c130 _ _) ?_
    simp -implicitDefEqProofs only [Term.n, zzjr, zzjk, zzip, zzij, zzdn, zzdm, zzlf, zzid, zzgi, zzhu, zzhr, zzji, zzgo, zzdl, zzif, zzie, zzhz, zzdv, List.map_cons, List.map_nil, Option.map_some, Nat.reduceSub, Nat.reduceEqDiff, Nat.zero_add, if_true, if_false, zzcl, Nat.add_one_ne_zero]
    refine pcall_intro (r := .scal (.int .i64 (ordL l l'))) (by simpa only [fgL, PV.fg, zzcv, Term.l] using c131f 87 l l' (fun a ha b hb => c87 a b)) ?_
    simp -implicitDefEqProofs only [zzjr, zzjk, zzis, zzdn, zzlf, zzid, zzgi, zzif, zzie, zzhz, zzhf, zzca, List.map_cons, List.map_nil, List.length_cons, List.length_nil, Nat.reduceAdd, Nat.reduceSub, Nat.reduceEqDiff, Nat.reduceLeDiff, Nat.zero_add, Bool.and_self, and_self, if_true, if_false, zzac, zzab, zzgs, zzgh, beq_self_eq_true, Nat.add_one_ne_zero]
    refine pcall_intro (c127 [cmpI k k', cmpS s s', cmpI n n', ordL l l']) ?_
    simp -implicitDefEqProofs only [ordT, zzfq, zzjy, zziu, zzeb, zzdh, zzja, zzjb, zzix, zzjd, zzdn, zzlf, zzid, zzgi, Nat.reduceSub, Nat.reduceEqDiff, if_true, if_false, PV.fg, Nat.add_one_ne_zero]
termination_by a => SizeOf.sizeOf a
decreasing_by
  have := Term.lt_of_mem ha
  simp only [Term.mk.sizeOf_spec]
  omega
end Go.Pv


set_option linter.unusedSimpArgs false
set_option linter.unusedVariables false
namespace Go.Pv
open Go.Proofs
def okc (c : Int) : Bool := decide (97 ≤ c) && decide (c ≤ 122) || (decide (48 ≤ c) && decide (c ≤ 57) || decide (0 ≤ Lib.indexByte [45, 46, 47] c.toNat.toUInt8))
def nameAll (s : ByteArray) : Bool := decide (∀ i, i < s.size → okc (byteAt s i) = true)
def nameOk (s : ByteArray) : Bool := nameAll s && (decide (1 ≤ (s.size : Int)) && decide ((s.size : Int) ≤ 40))
def emp (s : ByteArray) : Bool := seqB s ⟨#[]⟩
theorem c165 (c : Int) : PPure Tryz.prog 165 [.scal (.int .u8 c)] (.scal (.bool (okc c))) := by
  refine pure_of hmix Tryz.func165 ok165 (by simp) ?_
  try simp -implicitDefEqProofs only [rc165, zzfp, zzft, zzjy, zzjv, zzjk, zzgd, zziu, zzig, zzdn, zzdm, zzlf, zzid, zzgi, zzkf, zzlg, zzaz, zzaq, zzai, Nat.reduceSub, Nat.reduceEqDiff, if_true, if_false, Nat.add_one_ne_zero]
  repeat' (first
    | (refine br_intro (fun h => ?_) (fun h => ?_) <;> try simp -implicitDefEqProofs only [h, zzfq, zzjy, zzjv, zzjz, zzjr, zzjk, zzcd, zzgd, zzgc, zzge, zziu, zzig, zzeb, zzdh, zzja, zzjb, zzix, zzjd, zzdn, zzdm, zzlf, zzid, zzgi, zzif, zzie, zzhz, zzkf, zzlg, zzaz, zzaq, zzai, br_true, br_false, List.map_cons, List.map_nil, Nat.reduceSub, Nat.reduceEqDiff, if_true, if_false, PV.fg, fgL, Nat.add_one_ne_zero, zzhy])
    | (refine qcall_intro (c166 _ _) ?_; try simp -implicitDefEqProofs only [zzfq, zzjy, zzjv, zzjz, zzjk, zzcd, zzgc, zziu, zzig, zzeb, zzdh, zzja, zzjb, zzix, zzjd, zzdn, zzdm, zzlf, zzid, zzgi, zzkf, zzlg, zzaz, zzao, zzai, br_false, Nat.reduceSub, Nat.reduceEqDiff, if_true, if_false, PV.fg, Nat.add_one_ne_zero]))
  all_goals simp only [okc, *, Bool.true_and, Bool.false_and, Bool.and_true, Bool.and_false, Bool.true_or, Bool.false_or, Bool.or_true, Bool.or_false, Bool.not_true, Bool.not_false, Bool.not_not, decide_true, decide_false, if_true, if_false, Bool.false_eq_true, reduceIte, and_self, and_true, true_and, beq_self_eq_true, bne_self_eq_false, decide_not]
theorem u9 : Tryz.prog.underlying 9 = some .string := by kernel_rfl
theorem c137 (s : ByteArray) : PPure Tryz.prog 137 [.scal (.string s)] (.scal (.bool (nameOk s))) := by
  refine pure_ok_of hmix Tryz.func137 ok137 (by simp) fun hok => ?_
  have hs : s.size ≤ lenB := by simpa [okBL, okB_str] using hok
  simp -implicitDefEqProofs only [rc137, biE_len u9, zzfp, zzft, zzff, zzjy, zzjk, zziu, zzdn, zzdm, zzlf, zzid, zzgi, zzif, zzie, zzhz, List.map_cons, List.map_nil, Nat.reduceSub, Nat.reduceEqDiff, if_true, if_false, r_b, Nat.add_one_ne_zero]
  refine go_loop (fun n st => ∃ i, i ≤ s.size ∧ n = s.size - i ∧ st.env 7 = .v (.scal (.int .i64 i)) ∧ st.env 6 = .v (.scal (.int .i64 s.size)) ∧ st.env 0 = .v (.scal (.string s)) ∧ st.env 3 = .v (.fn (.func 165) [] []) ∧ ∀ j, j < i → okc (byteAt s j) = true) s.size ?_ ?_
  · exact ⟨0, by simp, by simp, rfl, rfl, rfl, rfl, by simp⟩
  rintro n env L H ⟨i, hi, rfl, h7, h6, h0, h3, hall⟩
  simp only at h7 h6 h0 h3
  simp -implicitDefEqProofs only [h7, h6, zzfp, zzft, zzfh, zzjy, zzjk, zzcd, zzig, zzdn, zzlf, zzid, zzkf, zzlg, zzaz, zzar, zzai, if_true]
  refine br_intro (fun h1 => ?_) (fun h1 => ?_)
  · have hlt : i < s.size := by simpa using h1
    simp -implicitDefEqProofs only [h7, h0, h3, idxE_str u9 s i hlt, zzfu, zzfp, zzft, zzff, zzjy, zzjk, zziu, zzdn, zzlf, zzid, zzif, zzie, zzhz, zzae, List.map_cons, List.map_nil, List.nil_append, Nat.reduceEqDiff, if_true, if_false, PV.fg, fgL, r_is, zzjt, zzlh, List.append_nil, zzhy]
    refine qcall_intro (c165 _) ?_
    simp -implicitDefEqProofs only [zzfh, zzjy, zzjk, zzcd, r_un, zzdn, zzlf, zzid, zzle, Nat.reduceEqDiff, if_true, if_false]
    refine br_intro (fun h2 => ?_) (fun h2 => ?_)
    · simp -implicitDefEqProofs only [zzfp, zzft, zzfq, zzjy, zziu, zzeb, zzdh, zzja, zzjb, zzix, zzjd, zzdm, zzlf, zzid, Nat.reduceEqDiff, if_true, if_false, PV.fg]
      have : nameAll s = false := decide_eq_false fun hh => by simp [hh i hlt] at h2
      simp [nameOk, this]
    · simp -implicitDefEqProofs only [h7, wrap_add hlt hs, zzfu, zzfp, zzfe, zzjy, zzjk, zziu, zzig, zzdn, zzdm, zzlf, zzid, zzkf, zzlg, zzaz, zzal, zzaj, Nat.reduceEqDiff, if_true, if_false, zzfl]
      refine ⟨_, ?_, i + 1, hlt, rfl, rfl, ?_, ?_, ?_, ?_⟩
      · omega
      all_goals first | (simp only [zzlf, reduceIte, Nat.reduceEqDiff, h6, h0, h3]; done) | skip
      intro j hj
      by_cases e : j = i
      · subst e; simpa using h2
      · exact hall j (by omega)
  · have hge : i = s.size := by
      have : ¬ i < s.size := by simpa using h1
      omega
    have hA : nameAll s = true := decide_eq_true fun j hj => hall j (by omega)
    try simp -implicitDefEqProofs only [h0, biE_len u9, zzfp, zzft, zzfj, zzdp, zzdo, zzjv, zzjk, zzgd, zziu, zzig, zzdn, zzdm, zzlf, zzid, zzif, zzie, zzhz, zzkf, zzlg, zzaz, zzaq, zzai, List.map_cons, List.map_nil, Nat.reduceEqDiff, if_true, if_false, r_b, zzdq]
    repeat' (first
      | (refine br_intro (fun h => ?_) (fun h => ?_) <;> try simp -implicitDefEqProofs only [h, h0, biE_len u9, zzfq, zzjy, zzjv, zzjz, zzjk, zzcd, zzgd, zziu, zzig, zzeb, zzdh, zzja, zzjb, zzix, zzjd, zzdn, zzdm, zzlf, zzid, zzif, zzie, zzhz, zzkf, zzlg, zzaz, zzaq, zzai, br_true, br_false, List.map_cons, List.map_nil, Nat.reduceEqDiff, if_true, if_false, PV.fg, r_b]))
    all_goals simp only [nameOk, *, Bool.true_and, Bool.false_and, Bool.and_true, Bool.and_false, Bool.true_or, Bool.false_or, Bool.or_true, Bool.or_false, Bool.not_true, Bool.not_false, Bool.not_not, decide_true, decide_false, if_true, if_false, Bool.false_eq_true, reduceIte, and_self, and_true, true_and, beq_self_eq_true, bne_self_eq_false, decide_not]
end Go.Pv


set_option linter.unusedSimpArgs false
set_option linter.unusedVariables false
namespace Go.Pv
open Go.Proofs
def len0 (l : List Term) : Bool := (l.length : Int) == 0
def headKey (l : List Term) : Bool := match l with | x :: _ => x.k == 2 | [] => false
def shapeT (t : Term) : Bool :=
  if t.k == 0 then nameOk t.s && (t.n == 0 && len0 t.l)
  else if t.k == 1 then emp t.s && len0 t.l
  else if t.k == 2 then (emp t.s || nameOk t.s) && (decide (1 ≤ t.n) && len0 t.l)
  else if t.k == 3 then emp t.s && (t.n == 0 && decide ((t.l.length : Int) ≤ 64))
  else if t.k == 4 || t.k == 5 then emp t.s && (decide (1 ≤ t.n) && (decide (t.n ≤ 255) && ((t.l.length : Int) == 2 && headKey t.l)))
  else false
mutual
def validT (deep : Int) : Term → Bool
  | .mk k s n l => decide (deep ≤ 16) && (shapeT (.mk k s n l) && validL (deep + 1) l)
def validL (deep : Int) : List Term → Bool
  | [] => true
  | t :: l => validT deep t && validL deep l
end
theorem validL_all {deep : Int} : ∀ {l : List Term}, validL deep l = l.all (validT deep)
  | [] => by simp [validL]
  | t :: l => by simp [validL, validL_all (l := l)]
theorem two_of {l : List Term} (h : ((l.length : Int) == 2) = true) : ∃ x y, l = [x, y] := by
  match l, h with
  | [x, y], _ => exact ⟨x, y, rfl⟩
  | [], h => simp at h
  | [_], h => simp at h
  | _ :: _ :: _ :: _, h => simp at h; omega
theorem three_of {l : List Term} (h : ((l.length : Int) == 3) = true) : ∃ x y z, l = [x, y, z] := by
  match l, h with
  | [x, y, z], _ => exact ⟨x, y, z, rfl⟩
  | [], h => simp at h
  | [_], h => simp at h
  | [_, _], h => simp at h
  | _ :: _ :: _ :: _ :: _, h => simp at h; omega
theorem six_of {l : List Term} (h : ((l.length : Int) == 6) = true) : ∃ a b c d e f, l = [a, b, c, d, e, f] := by
  match l, h with
  | [a, b, c, d, e, f], _ => exact ⟨a, b, c, d, e, f, rfl⟩
  | [], h => simp at h
  | [_], h => simp at h
  | [_, _], h => simp at h
  | [_, _, _], h => simp at h
  | [_, _, _, _], h => simp at h
  | [_, _, _, _, _], h => simp at h
  | _ :: _ :: _ :: _ :: _ :: _ :: _ :: _, h => simp at h; omega
theorem c180 (t : Term) : PPure Tryz.prog 180 [enc t] (.scal (.bool (shapeT t))) := by
  refine pure_of hmix Tryz.func180 ok180 (by simp) ?_
  try simp -implicitDefEqProofs only [rc180, zzfp, zzft, zzfh, zzff, zzjy, zzjo, zzbd, zzjk, zzcd, zziu, zzip, zzig, zzij, zzdn, zzdm, zzlf, zzid, zzgi, zzhu, zzhr, zzji, zzgo, zzdl, zzdv, zzkf, zzlg, zzaz, zzan, zzai, List.length_nil, List.nil_append, Option.map_some, Nat.reduceSub, Nat.reduceEqDiff, Nat.add_zero, if_true, if_false, Nat.add_one_ne_zero, zzde]
  repeat' (first
    | (refine br_intro (fun h => ?_) (fun h => ?_) <;> try simp -implicitDefEqProofs only [h, zzfu, zzfp, zzft, zzfh, zzfe, zzfq, zzjy, zzjv, zzjz, zzjr, zzjk, zzcd, zzgd, zzgc, zziu, zzip, zzig, zzij, zzik, zzin, zzeb, zzdh, zzja, zzjb, zzix, zzjd, zzdn, zzdm, zzlf, zzid, zzgi, zzhu, zzhr, zzji, zzgo, zzdl, zzif, zzie, zzhz, zzdv, zzaf, zzae, zzgg, zzgt, zzkf, zzlg, zzaz, zzan, zzaq, zzao, zzav, zzai, br_true, br_false, List.map_cons, List.map_nil, Option.map_some, Nat.reduceSub, Nat.reduceEqDiff, Nat.zero_add, if_true, if_false, PV.fg, fgL, zzcw, zzcx, Nat.add_one_ne_zero, zzhy, Int.toNat_zero, Int.le_refl])
    | (refine qcall_intro (c137 _) ?_; try simp -implicitDefEqProofs only [zzjv, zzjz, zzcd, zzgd, zziu, zzdn, zzlf, zzid, zzgi, br_false, Nat.reduceSub, Nat.reduceEqDiff, if_true, if_false, Nat.add_one_ne_zero]))
  all_goals try simp only [shapeT, emp, len0, *, Bool.true_and, Bool.false_and, Bool.and_true, Bool.and_false, Bool.true_or, Bool.false_or, Bool.or_true, Bool.or_false, Bool.not_true, Bool.not_false, Bool.not_not, decide_true, decide_false, if_true, if_false, Bool.false_eq_true, reduceIte, and_self, and_true, true_and, beq_self_eq_true, bne_self_eq_false, decide_not]
  all_goals (obtain ⟨x, y, hl⟩ := two_of h)
  all_goals simp -implicitDefEqProofs only [hl, zzfq, zzjy, zzjv, zzjz, zzjk, zzcd, zzgd, zziu, zzip, zzig, zzij, zzeb, zzdh, zzja, zzjb, zzix, zzjd, zzdn, zzdm, zzlf, zzid, zzgi, zzhu, zzhr, zzjh, zzgo, zzdl, zzdu, zzcf, zzkf, zzlg, zzaz, zzan, zzai, br_true, List.length_cons, List.length_nil, Option.map_some, Nat.reduceAdd, Nat.reduceSub, Nat.reduceEqDiff, Nat.zero_add, if_true, if_false, PV.fg, Nat.add_one_ne_zero, zzde, List.drop_zero, zzbj]
  all_goals simp only [headKey, *, Bool.true_and, Bool.false_and, Bool.and_true, Bool.and_false, Bool.true_or, Bool.false_or, Bool.or_true, Bool.or_false, Bool.not_true, Bool.not_false, Bool.not_not, decide_true, decide_false, if_true, if_false, Bool.false_eq_true, reduceIte, and_self, and_true, true_and, beq_self_eq_true, bne_self_eq_false, decide_not]
theorem c185 (g : FuncId) (a c : List PV) (ha : fgL a = a) (hc : fgL c = c) (H : PH) (p : Term → Bool) (l : List Term) (hg : ∀ x ∈ l, PCalls Tryz.prog g (a ++ [enc x] ++ c) H fun r H' => r = .scal (.bool (p x)) ∧ H' = H) :
    PCalls Tryz.prog 185 [.list .foreign (encL l), .fn (.func g) a c] H fun r H' => (∃ i, r = .scal (.int .i64 i) ∧ decide (0 ≤ i) = l.any p) ∧ H' = H := by
  refine calls_ok_of hmix Tryz.func185 ok185 (by simp) fun hok => ?_
  have hlen : l.length ≤ lenB := by have := hok; simp only [okBL, okB, zzcw] at this; exact this.1.1
  simp -implicitDefEqProofs only [rc185, zzfp, zzft, zzff, zzjy, zzjk, zziu, zzin, zzdn, zzdm, zzlf, zzid, zzgi, zzgt, Nat.reduceSub, Nat.reduceEqDiff, if_true, if_false, zzcw, Nat.add_one_ne_zero, Int.reduceNeg]
  refine go_loop (fun n s => ∃ i, i ≤ l.length ∧ n = l.length - i ∧ s.env 8 = .v (.scal (.int .i64 i)) ∧ s.env 7 = .v (.scal (.int .i64 l.length)) ∧ s.env 0 = .v (.list .foreign (encL l)) ∧ s.env 1 = .v (.fn (.func g) a c) ∧ s.H = H ∧ (∀ j x, j < i → nth l j = some x → p x = false)) l.length ?_ ?_
  · exact ⟨0, by simp, by simp, rfl, rfl, rfl, rfl, rfl, by simp⟩
  rintro n env L H' ⟨i, hi, rfl, h8, h7, h0, h1, hH, hall⟩
  simp only at h8 h7 h0 h1 hH
  subst hH
  simp -implicitDefEqProofs only [h8, h7, zzfp, zzft, zzfh, zzjy, zzjk, zzcd, zzig, zzdn, zzlf, zzid, zzkf, zzlg, zzaz, zzar, zzai, if_true, Int.reduceNeg]
  refine br_intro (fun b1 => ?_) (fun b1 => ?_)
  · have hlt : i < l.length := by simpa using b1
    obtain ⟨x, hx⟩ : ∃ x, nth l i = some x := ⟨_, nth_of hlt⟩
    have hxm : x ∈ l := List.mem_of_getElem? hx
    simp -implicitDefEqProofs only [h8, h0, h1, hx, zzfu, zzfp, zzft, zzff, zzjy, zzjk, zziu, zziq, zzik, zzdn, zzlf, zzid, zzlc, zzlb, zzce, zzky, zzjh, zzgp, zzdi, zzif, zzie, zzhz, zzaf, zzae, zzgg, zzcf, List.map_cons, List.map_nil, List.length_cons, List.length_nil, List.cons_append, List.nil_append, Option.map_some, Nat.reduceAdd, Nat.reduceSub, Nat.reduceEqDiff, Nat.zero_add, if_true, if_false, zzcx, zzhl, Int.toNat_natCast, Nat.add_one_ne_zero, List.append_assoc, zzjs, zzli, zzgf, zzde, Term.eta, zzfc, Int.reduceNeg]
    refine kcall_intro (by simpa only [fgL_app, ha, hc, fgL, zzdf, List.append_assoc, List.cons_append, List.nil_append] using hg x hxm) ?_
    rintro r H2 ⟨rfl, rfl⟩
    simp -implicitDefEqProofs only [zzfh, zzjy, zzcd, zzdn, zzlf, zzid, Nat.reduceEqDiff, if_true, if_false, Int.reduceNeg]
    refine br_intro (fun b2 => ?_) (fun b2 => ?_)
    · simp -implicitDefEqProofs only [zzfp, zzft, zzfq, zzjy, zziu, zzja, zzjb, zzix, zzjd, zzdn, zzlf, zzid, Nat.reduceEqDiff, if_true, if_false, zzib, zzdg, Int.reduceNeg]
      refine endK_intro ⟨⟨_, rfl, ?_⟩, rfl⟩
      rw [decide_eq_true (Int.natCast_nonneg i)]
      exact (List.any_eq_true.2 ⟨x, hxm, b2⟩).symm
    · simp -implicitDefEqProofs only [h8, wrap_add hlt hlen, zzfu, zzfp, zzfe, zzjy, zzjk, zziu, zzig, zzdn, zzdm, zzlf, zzid, zzkf, zzlg, zzaz, zzal, zzaj, Nat.reduceEqDiff, if_true, if_false, true_and, Bool.true_and, zzfl, Int.reduceNeg]
      refine ⟨_, ?_, i + 1, hlt, rfl, rfl, ?_, ?_, ?_, ?_⟩
      · omega
      all_goals first | (simp only [zzlf, reduceIte, Nat.reduceEqDiff, h7, h0, h1]; done) | skip
      intro j y hj hy
      by_cases e : j = i
      · subst e; rw [hx] at hy; cases hy; exact b2
      · exact hall j y (by omega) hy
  · simp -implicitDefEqProofs only [zzfp, zzft, zzfq, zzfj, zzdp, zzdo, zzjy, zziu, zzja, zzjb, zzix, zzjd, zzdm, zzlf, zzid, Nat.reduceEqDiff, if_true, if_false, zzdq, zzib, zzdg, Int.reduceNeg]
    refine endK_intro ⟨⟨_, rfl, ?_⟩, rfl⟩
    have hge : i = l.length := by
      have : ¬ i < l.length := by simpa using b1
      omega
    symm
    rw [show decide ((0 : Int) ≤ -1) = false from rfl]
    rw [List.any_eq_false]
    intro x hx
    obtain ⟨j, hj⟩ := List.mem_iff_getElem?.1 hx
    have := hall j x (by have := (List.getElem?_eq_some_iff.1 hj).1; omega) hj
    simp [this]
theorem c181 (g : FuncId) (a c : List PV) (ha : fgL a = a) (hc : fgL c = c) (H : PH) (p : Term → Bool) (l : List Term) (hg : ∀ x ∈ l, PCalls Tryz.prog g (a ++ [enc x] ++ c) H fun r H' => r = .scal (.bool (p x)) ∧ H' = H) :
    PCalls Tryz.prog 181 [.list .foreign (encL l), .fn (.func g) a c] H fun r H' => r = .scal (.bool (l.any p)) ∧ H' = H := by
  refine calls_of hmix Tryz.func181 ok181 (by simp) ?_
  simp -implicitDefEqProofs only [rc181, ha, hc, zzfp, zzft, zzjy, zzjq, zziu, zzdn, zzdm, zzlf, zzid, zzgi, zzif, zzie, zzhz, List.map_cons, List.map_nil, Nat.reduceSub, Nat.reduceEqDiff, if_true, if_false, PV.fg, fgL, zzcv, Nat.add_one_ne_zero, zzgf]
  refine kcall_intro (by simpa only [ha, hc] using c185 g a c ha hc H p l hg) ?_
  rintro r H2 ⟨⟨i, rfl, hi⟩, rfl⟩
  simp -implicitDefEqProofs only [zzfq, zzjy, zzjk, zziu, zzig, zzja, zzjb, zzix, zzjd, zzdn, zzdm, zzlf, zzid, zzgi, zzkf, zzlg, zzaz, zzao, zzai, Nat.reduceSub, Nat.reduceEqDiff, if_true, if_false, Nat.add_one_ne_zero, zzib, zzdg]
  exact endK_intro ⟨by rw [← hi]; rfl, rfl⟩
theorem not_any_not (p : Term → Bool) : ∀ l : List Term, (!l.any fun x => !p x) = l.all p
  | [] => rfl
  | x :: l => by simp [← not_any_not p l]
theorem wrap_deep {d : Int} (h0 : 0 ≤ d) (h : d ≤ 16) : IntKind.i64.wrap (d + 1) = d + 1 := wrap_in (by omega) (by omega)
theorem c172 : ∀ (t : Term) (deep : Int), 0 ≤ deep → deep ≤ 17 → PPure Tryz.prog 172 [enc t, .scal (.int .i64 deep)] (.scal (.bool (validT deep t)))
  | .mk k s n l, deep, h0, h17 => by
    refine pure_of hmix Tryz.func172 ok172 (by simp) ?_
    simp -implicitDefEqProofs only [rc172, zzfp, zzft, zzjo, zzbd, zzdn, zzlf, zzid, zzgi, zzca, List.length_nil, List.nil_append, Nat.reduceSub, Nat.reduceEqDiff, if_true, if_false, Nat.add_one_ne_zero, zzjp, zzbe, zzde, k_mk, s_mk, n_mk, l_mk]
    refine bH_intro fun b hb => ?_
    simp -implicitDefEqProofs only [zzfp, zzft, zzjy, zzjv, zzjk, zzgd, zziu, zzip, zzig, zzdn, zzdm, zzlf, zzid, zzgi, zzhu, zzhr, zzjj, zzjg, zzgo, zzdl, zzkf, zzlg, zzaz, zzaq, zzai, Nat.reduceSub, Nat.reduceEqDiff, if_true, if_false, Nat.add_one_ne_zero, PH.get_set]
    refine br_intro (fun b1 => ?_) (fun b1 => ?_)
    · have h16 : deep ≤ 16 := by simpa using b1
      simp -implicitDefEqProofs only [b1, zzjv, zzjr, zzjk, zzgd, zziq, zzdn, zzlf, zzid, zzgi, zzhu, zzhr, zzlc, zzlb, zzce, zzky, zzji, zzgp, zzdi, zzif, zzie, zzhz, br_true, List.map_cons, List.map_nil, Option.map_some, Nat.reduceAdd, Nat.reduceSub, Nat.reduceEqDiff, if_true, if_false, fgL, zzdf, Nat.add_one_ne_zero, zzhy, zzfc]
      refine qcall_intro (c180 (.mk k s n l)) ?_
      simp -implicitDefEqProofs only [zzjv, zzjz, zzcd, zzgd, zziu, zzdn, zzlf, zzid, zzgi, br_true, Nat.reduceSub, Nat.reduceEqDiff, if_true, if_false, Nat.add_one_ne_zero]
      refine br_intro (fun b2 => ?_) (fun b2 => ?_)
      · simp -implicitDefEqProofs only [b2, zzjv, zzjq, zzjk, zzgd, zzip, zzij, zzdn, zzlf, zzid, zzgi, zzhu, zzhr, zzji, zzgo, zzdl, zzif, zzie, zzhz, zzdv, br_true, List.map_cons, List.map_nil, Option.map_some, Nat.reduceSub, Nat.reduceEqDiff, Nat.zero_add, if_true, if_false, PV.fg, fgL, zzcv, Nat.add_one_ne_zero, zzgf, zzjx, zzhe]
        refine kcall_intro (c181 182 [] [.ptr b 0] rfl rfl _ (fun x => !validT (deep + 1) x) l ?_) ?_
        · intro x hx
          refine calls_of hmix Tryz.func182 ok182 (by simp) ?_
          simp -implicitDefEqProofs only [rc182, zzfp, zzft, zzjy, zzjo, zzbd, zzjr, zzjk, zziu, zzip, zziq, zzig, zzdn, zzdm, zzlf, zzid, zzgi, zzhu, zzhr, zzlc, zzlb, zzce, zzky, zzji, zzjj, zzjg, zzgo, zzgp, zzdl, zzdi, zzif, zzie, zzhz, zzkf, zzlg, zzaz, zzal, zzaj, List.map_cons, List.map_nil, List.length_nil, List.cons_append, List.nil_append, Option.map_some, Nat.reduceAdd, Nat.reduceSub, Nat.reduceEqDiff, if_true, if_false, PV.fg, fgL, zzdf, Nat.add_one_ne_zero, zzhy, zzde, Term.eta, zzfc, PH.get_set]
          refine qcall_intro (by rw [wrap_deep h0 h16]; exact c172 x (deep + 1) (by omega) (by omega)) ?_
          simp -implicitDefEqProofs only [zzfq, zzjy, zzjk, zziu, r_un, zzja, zzjb, zzix, zzjd, zzdn, zzlf, zzid, zzgi, zzle, Nat.reduceSub, Nat.reduceEqDiff, if_true, if_false, Nat.add_one_ne_zero, zzib, zzdg]
          exact endK_intro ⟨rfl, rfl⟩
        · rintro r H2 ⟨rfl, rfl⟩
          simp -implicitDefEqProofs only [zzfq, zzjy, zzjv, zzjz, zzjk, zzcd, zzgd, zziu, r_un, zzeb, zzdh, zzja, zzjb, zzix, zzjd, zzdn, zzlf, zzid, zzgi, zzle, br_true, Nat.reduceSub, Nat.reduceEqDiff, if_true, if_false, PV.fg, Nat.add_one_ne_zero]
          simp only [validT, b1, b2, Bool.true_and, validL_all]
          congr 3
          exact not_any_not _ l
      · simp -implicitDefEqProofs only [b2, zzfq, zzjy, zzjv, zzjz, zzcd, zzgd, zziu, zzeb, zzdh, zzja, zzjb, zzix, zzjd, zzdn, zzdm, zzlf, zzid, zzgi, br_false, Nat.reduceSub, Nat.reduceEqDiff, if_true, if_false, PV.fg, Nat.add_one_ne_zero]
        simp only [validT, b1, b2, Bool.false_and, Bool.and_false]
    · simp -implicitDefEqProofs only [b1, zzfq, zzjy, zzjv, zzjz, zzcd, zzgd, zziu, zzeb, zzdh, zzja, zzjb, zzix, zzjd, zzdn, zzdm, zzlf, zzid, zzgi, br_false, Nat.reduceSub, Nat.reduceEqDiff, if_true, if_false, PV.fg, Nat.add_one_ne_zero]
      simp only [validT, b1, Bool.false_and]
termination_by t => SizeOf.sizeOf t
decreasing_by
  have := Term.lt_of_mem hx
  simp only [Term.mk.sizeOf_spec]
  omega
theorem c148 (t : Term) : PPure Tryz.prog 148 [enc t] (.scal (.bool (validT 0 t))) := by
  refine pure_of hmix Tryz.func148 ok148 (by simp) ?_
  try simp -implicitDefEqProofs only [rc148, zzfp, zzft, zzjy, zzjo, zzbd, zzjr, zzjk, zziu, zziq, zzdn, zzdm, zzlf, zzid, zzgi, zzhu, zzhr, zzlc, zzlb, zzce, zzky, zzji, zzgp, zzdi, zzif, zzie, zzhz, List.map_cons, List.map_nil, List.length_nil, List.nil_append, Option.map_some, Nat.reduceAdd, Nat.reduceSub, Nat.reduceEqDiff, if_true, if_false, PV.fg, fgL, zzdf, Nat.add_one_ne_zero, zzhy, zzde, Term.eta, zzfc]
  repeat' (first
    | (refine br_intro (fun h => ?_) (fun h => ?_) <;> try simp -implicitDefEqProofs only [zzfo])
    | (refine qcall_intro (c172 _ 0 (by omega) (by omega)) ?_; try simp -implicitDefEqProofs only [zzfq, zzjy, zziu, zzeb, zzdh, zzja, zzjb, zzix, zzjd, zzdn, zzlf, zzid, zzgi, Nat.reduceSub, Nat.reduceEqDiff, if_true, if_false, PV.fg, Nat.add_one_ne_zero]))
end Go.Pv


set_option linter.unusedSimpArgs false
set_option linter.unusedVariables false
namespace Go.Pv
open Go.Proofs
/-- A reader's cells. -/
def rdr (l : List Term) (odd : Bool) : PObj := .cells [.list .foreign (encL l), .scal (.bool odd)]
def zT : Term := .mk 0 ⟨#[]⟩ 0 []
def someT (l : List Term) : Bool := decide (0 < (l.length : Int))
def plainOdd (t : Term) : Bool :=
  if t.k == 0 then t.n != 0 || someT t.l
  else if t.k == 1 then !emp t.s || someT t.l
  else !emp t.s || t.n != 0
def nextR (k : Int) (l : List Term) (odd : Bool) : Term × List Term × Bool :=
  match l with
  | [] => (zT, [], true)
  | t :: rest => if odd || t.k != k then (zT, l, true) else (t, rest, plainOdd t)
theorem c179 (b : Nat) (H : PH) (l : List Term) (odd : Bool) (t : Term) (hb : H.get b = some (rdr l odd)) :
    PCalls Tryz.prog 179 [.ptr b 0, enc t] H fun r H' => r = .tup [] ∧ Upd H b (rdr l (odd || plainOdd t)) H' := by
  have hb' : H.get b = some (.cells [.list .foreign (encL l), .scal (.bool odd)]) := hb
  refine calls_of hmix Tryz.func179 ok179 (by simp) ?_
  try simp -implicitDefEqProofs only [rc179, zzfp, zzft, zzfh, zzff, zzjy, zzjo, zzbd, zzjk, zzcd, zziu, zzip, zzig, zzij, zzdn, zzdm, zzlf, zzid, zzgi, zzhu, zzhr, zzji, zzgo, zzdl, zzdv, zzkf, zzlg, zzaz, zzan, zzai, List.length_nil, List.nil_append, Option.map_some, Nat.reduceSub, Nat.reduceEqDiff, Nat.add_zero, if_true, if_false, Nat.add_one_ne_zero, zzde]
  repeat' (first
    | (refine br_intro (fun h => ?_) (fun h => ?_) <;> try simp -implicitDefEqProofs only [h, hb', zzfo, zzfp, zzft, zzfh, zzfe, zzjy, zzjv, zzjz, zzkd, zzjk, zzjl, zzcd, zzgc, zziu, zzip, zziv, zzig, zzij, zzin, zzja, zzjc, zzdn, zzdm, zzlf, zzid, zzic, zzgi, zzhu, zzhr, zzce, zzji, zzjj, zzjg, zzgo, zzdl, zzkn, zzkl, Nat.reduceBEq, zzks, zzkq, zzah, zzho, zzdv, zzdw, zzgt, zzkf, zzlg, zzaz, zzan, zzas, zzap, zzaw, zzai, br_true, br_false, zzca, List.length_cons, List.length_nil, List.all_cons, List.all_nil, zzbv, zzbq, Option.map_some, Nat.reduceSub, Nat.reduceEqDiff, Nat.zero_add, Bool.and_self, and_self, if_true, if_false, zzcw, Nat.add_one_ne_zero, zzia, zzdg, Int.reduceBEq]))
  all_goals refine endK_intro ⟨rfl, ?_⟩
  all_goals (refine (?_ : PObj.cells _ = rdr _ _) ▸ Upd.set _ _ _; congr 4)
  all_goals simp only [plainOdd, emp, someT, *, Bool.true_and, Bool.false_and, Bool.and_true, Bool.and_false, Bool.true_or, Bool.false_or, Bool.or_true, Bool.or_false, Bool.not_true, Bool.not_false, Bool.not_not, decide_true, decide_false, if_true, if_false, Bool.false_eq_true, reduceIte, and_self, and_true, true_and, beq_self_eq_true, bne_self_eq_false, decide_not]
theorem c169 (b : Nat) (H : PH) (l : List Term) (odd : Bool) (k : Int) (hb : H.get b = some (rdr l odd)) :
    PCalls Tryz.prog 169 [.ptr b 0, .scal (.int .i64 k)] H fun r H' => r = enc (nextR k l odd).1 ∧ Upd H b (rdr (nextR k l odd).2.1 (nextR k l odd).2.2) H' := by
  have hb' : H.get b = some (.cells [.list .foreign (encL l), .scal (.bool odd)]) := hb
  refine calls_of hmix Tryz.func169 ok169 (by simp) ?_
  simp -implicitDefEqProofs only [rc169, hb', zzfp, zzft, zzjy, zzjv, zzjm, zzjk, zzgc, zziu, zzip, zziv, zzij, zzdn, zzlf, zzid, zzgi, zzhu, zzhr, zzjj, zzjg, zzgo, zzdl, zzho, zzdw, List.length_nil, List.nil_append, Nat.reduceSub, Nat.reduceEqDiff, Nat.zero_add, if_true, if_false, Nat.add_one_ne_zero]
  have bad : ∀ (o' : Bool), PObj.cells [.list .foreign (encL l), .scal (.bool o')] = rdr l o' := fun _ => rfl
  refine br_intro (fun h1 => ?_) (fun h1 => ?_)
  · skip
    try simp -implicitDefEqProofs only [h1, hb', zzfp, zzft, zzfh, zzfq, zzjy, zzjv, zzjz, zzkd, zzjk, zzjl, zzcd, zzgc, zziu, zzih, zziv, zzij, zzja, zziz, zzix, zzjd, zzdn, zzdm, zzlf, zzid, zzic, zzgi, zzhu, zzhr, zzlc, zzlb, zzce, zzky, zzji, zzjj, zzjg, zzgp, zzdi, zzbb, zzdk, zzbg, zzkn, zzkl, Nat.reduceBEq, zzkr, zzks, zzkq, zzag, zzah, zzki, zzho, zzdw, br_true, zzbw, zzca, List.length_cons, List.length_nil, List.all_cons, List.all_nil, zzbv, zzbt, zzbr, zzbq, zzbs, Option.map_some, Nat.reduceAdd, Nat.reduceSub, Nat.reduceEqDiff, Nat.zero_add, Bool.and_self, and_self, if_true, if_false, Nat.add_one_ne_zero, zzib, zzdg, Int.reduceBEq]
    repeat' (first
      | (refine br_intro (fun h => ?_) (fun h => ?_) <;> try simp -implicitDefEqProofs only [zzfo]))
    refine endK_intro ⟨?_, ?_⟩
    · cases l <;> simp [nextR, h1, zT, PV.fg, fgL, retV, enc, encL]
    · cases l with
      | nil => simp only [nextR, bad]; exact Upd.set _ _ _
      | cons x l => simp only [nextR, h1, Bool.true_or, if_true, bad]; exact Upd.set _ _ _
  · cases l with
    | nil =>
      simp -implicitDefEqProofs only [h1, hb', zzfp, zzft, zzfh, zzfq, zzjy, zzjv, zzjz, zzkd, zzjk, zzjl, zzcd, zzgc, zziu, zzih, zzip, zziv, zzig, zzij, zzin, zzja, zziz, zzix, zzjd, zzdn, zzdm, zzlf, zzid, zzic, zzgi, zzhu, zzhr, zzlc, zzlb, zzce, zzky, zzji, zzjj, zzjg, zzgo, zzgp, zzdl, zzdi, zzbb, zzdk, zzbg, zzkn, zzkl, Nat.reduceBEq, zzkr, zzks, zzkq, zzag, zzah, zzki, zzho, zzdw, zzgt, zzkf, zzlg, zzaz, zzan, zzai, br_true, br_false, zzbw, zzca, List.length_cons, List.length_nil, List.all_cons, List.all_nil, zzbv, zzbt, zzbr, zzbq, zzbs, Option.map_some, Nat.reduceAdd, Nat.reduceSub, Nat.reduceEqDiff, Nat.add_zero, Nat.zero_add, Bool.and_self, and_self, if_true, if_false, zzcw, beq_self_eq_true, Nat.add_one_ne_zero, zzib, zzdg, zzbh, Int.reduceBEq]
      refine endK_intro ⟨?_, ?_⟩
      · simp [nextR, h1, zT, PV.fg, fgL, retV, enc, encL]
      · simp only [nextR, bad]; exact Upd.set _ _ _
    | cons x l =>
      have hb2 : H.get b = some (.cells [.list .foreign (enc x :: encL l), .scal (.bool odd)]) := by simpa only [encL] using hb'
      have hsl : sliE 4 (some (.foreign, enc x :: encL l)) (some (some 1)) (some none) (some none) = some (.v (.list .foreign (encL l))) := by
        have h2 : allSz 4 (enc x :: encL l) = true := by have := zzcz (x :: l); simpa only [encL] using this
        rw [sli_lo h2 (by omega) (by simp only [List.length_cons]; omega)]; rfl
      simp -implicitDefEqProofs only [h1, hb2, zzfh, zzjy, zzjv, zzjz, zzjk, zzcd, zzgc, zziu, zzip, zziv, zzig, zzij, zzik, zzin, zzdn, zzdm, zzlf, zzid, zzgi, zzhu, zzhr, zzjh, zzjj, zzjg, zzgo, zzdl, zzho, zzdw, zzdu, zzaf, zzae, zzgg, zzcf, zzgt, zzkf, zzlg, zzaz, zzan, zzas, zzai, br_false, List.length_cons, List.length_nil, Nat.reduceAdd, Nat.reduceSub, Nat.reduceEqDiff, Nat.add_zero, Nat.zero_add, if_true, if_false, zzcw, zzcx, Nat.add_one_ne_zero, zzde, Int.toNat_zero, List.drop_zero, Int.le_refl, zzkz]
      refine br_intro (fun h2 => ?_) (fun h2 => ?_)
      · simp -implicitDefEqProofs only [h1, hb2, h2, zzfp, zzft, zzfq, zzjy, zzkd, zzjk, zzjl, zziu, zzih, zziv, zzij, zzja, zziz, zzix, zzjd, zzdn, zzdm, zzlf, zzid, zzic, zzgi, zzhu, zzhr, zzlc, zzlb, zzce, zzky, zzji, zzjj, zzjg, zzgp, zzdi, zzbb, zzdk, zzbg, zzkn, zzkl, Nat.reduceBEq, zzkr, zzks, zzkq, zzag, zzah, zzki, zzho, zzdw, zzbw, zzca, List.length_cons, List.length_nil, List.all_cons, List.all_nil, zzbv, zzbt, zzbr, zzbq, zzbs, Option.map_some, Nat.reduceAdd, Nat.reduceSub, Nat.reduceEqDiff, Nat.zero_add, Bool.and_self, and_self, if_true, if_false, Nat.add_one_ne_zero, zzib, zzdg, Int.reduceBEq]
        refine endK_intro ⟨?_, ?_⟩
        · simp [nextR, h1, h2, zT, PV.fg, fgL, retV, enc, encL]
        · simp only [nextR, h1, h2, Bool.false_or, if_true]
          exact bad true ▸ Upd.set _ _ _
      · simp -implicitDefEqProofs only [h1, hb2, h2, hsl, zzfu, zzfp, zzft, zzjy, zzjm, zzkd, zzjq, zzjk, zzjl, zziu, zzip, zziq, zziv, zzij, zzik, zzdn, zzdm, zzlf, zzid, zzic, zzgi, zzhu, zzhr, zzlc, zzlb, zzce, zzky, zzji, zzjh, zzjj, zzjg, zzgo, zzgp, zzdl, zzdi, zzkm, zzkl, zzko, zzkr, zzks, zzkq, zzag, zzah, zzki, zzif, zzie, zzhz, zzho, zzdw, zzaf, zzae, zzgg, zzcf, zzby, List.map_cons, List.map_nil, List.length_cons, List.length_nil, List.cons_append, List.nil_append, List.all_cons, List.all_nil, zzbv, zzbt, zzbr, zzbs, Option.map_some, Nat.reduceAdd, Nat.reduceSub, Nat.reduceEqDiff, Nat.add_zero, Nat.zero_add, Bool.and_self, and_self, if_true, if_false, PV.fg, fgL, zzdf, zzcx, Nat.add_one_ne_zero, zzgf, zzkb, zzhv, zzhw, zzkk, zzde, Term.eta, zzfc, Int.toNat_zero, Int.le_refl]
        refine kcall_intro (c179 b _ l false x (by rw [PH.get_set, if_pos rfl]; rfl)) ?_
        rintro r H2 ⟨rfl, hU⟩
        simp -implicitDefEqProofs only [zzfp, zzft, zzfq, zzjy, zzkd, zzjk, zzjl, zziq, zzja, zziz, zzix, zzjd, zzdn, zzlf, zzid, zzic, zzgi, zzhu, zzhr, zzlc, zzlb, zzce, zzky, zzji, zzgp, zzdi, zzkl, zzkr, zzkq, zzag, zzki, List.length_cons, List.length_nil, List.all_cons, List.all_nil, zzbv, zzbt, zzbr, zzbs, Option.map_some, Nat.reduceAdd, Nat.reduceSub, Nat.reduceEqDiff, Nat.zero_add, Bool.and_self, and_self, if_true, if_false, Nat.add_one_ne_zero, zzib, zzdg, zzde, Term.eta, zzfc]
        refine endK_intro ⟨?_, ?_⟩
        · simp only [nextR, h2, Bool.false_or, Bool.false_eq_true, if_false, zzfc, Term.eta, retV, zzdf]
        · simp only [nextR, h2, Bool.false_or, Bool.false_eq_true, if_false]
          exact (Upd.set _ _ _).trans (by simpa only [Bool.false_or] using hU)
end Go.Pv


set_option linter.unusedSimpArgs false
set_option linter.unusedVariables false
namespace Go.Pv
open Go.Proofs
theorem PCalls.ok {P : Program} {f : FuncId} {args : List PV} {H : PH} {K : PV → PH → Prop} (h : PCalls P f args H K) : PCalls P f args H fun r H' => okB r ∧ K r H' :=
  ⟨h.1, fun w hw vs h1 h2 => (h.2 w hw vs h1 h2).mono fun _ _ ⟨v, hw', r, H', e1, e2, e3, e4, e5⟩ => ⟨v, hw', r, H', e1, e2, e3, e4, Rep.okB r e4, e5⟩⟩
def tokB : Tok → Option Nat
  | .own b _ _ _ => some b
  | _ => none
/-- What stands in one heap stands in another, and no list grows there. -/
def Keep (H0 : PH) (tok : Tok) (H : PH) : Prop := ∀ x o, H0.get x = some o → H.get x = some o ∧ tokB tok ≠ some x
section
variable {P : Program} {Q : RX → St → Prop} {env : Nat → EV} {L : List (List PV)} {H : PH} {k : List SI} {ops : List RI} {d : Option Nat}
theorem kapp_keep {sz bytes : Nat} {tok t2 : Tok} {xs ys : List PV} (hg : Grow H tok xs.length sz) (h1 : allSz sz xs = true) (h2 : allSz sz ys = true) (h3 : xs.length + ys.length ≤ lenB) (hb : bytes ≤ 200) (hne : ys ≠ []) (h0 : 0 < sz) (hc : (ys.all fun p => p.cells.all cellP) = true)
    (hk : ∀ tok' H', Grow H' tok' (xs.length + ys.length) sz → (∀ H0, Keep H0 tok H → Keep H0 tok' H') → run P Q ops k (putE env d (.v (.list tok' (xs ++ ys)))) L H') :
    kapp P Q sz bytes (some (tok, xs)) (some (t2, ys)) d ops k env L H := by
  refine ⟨allSz_iff.1 h1, allSz_iff.1 h2, row_of h3 hb, h3, fun e => absurd e hne, fun _ => ⟨h0, ?_, ?_⟩⟩
  · intro p hp
    exact List.all_eq_true.1 hc p hp
  · have key : ∀ b tot, (H.get b = none ∨ tokB tok = some b) → run P Q ops k (putE env d (.v (.list (.own b ((xs.length + ys.length) * sz) tot sz) (xs ++ ys)))) L (H.set b (.row ((xs.length + ys.length) * sz) tot)) := by
      intro b tot hb
      refine hk _ _ (.inr ⟨b, tot, rfl, by rw [PH.get_set, if_pos rfl]⟩) ?_
      intro H0 hK x o e
      have := hK x o e
      have hx : x ≠ b := by
        rintro rfl
        rcases hb with hb | hb
        · rw [hb] at this; simp at this
        · exact this.2 hb
      refine ⟨by rw [PH.get_set, if_neg hx]; exact this.1, ?_⟩
      simp only [tokB]
      intro e; cases e; exact hx rfl
    rcases hg with rfl | ⟨b, t, rfl, hb⟩
    · intro b tot hn
      exact key b tot (.inl hn)
    · refine ⟨rfl, hb, fun b' tot h => key b' tot ?_⟩
      rcases h with rfl | h
      · exact .inr rfl
      · exact .inl h
end
theorem Keep.full (H : PH) : Keep H .full H := fun x o h => ⟨h, by simp [tokB]⟩
theorem Keep.upd {H0 H H' : PH} {tok : Tok} {b : Nat} {o : PObj} (h : Keep H0 tok H) (hu : Upd H b o H') (hb : H0.get b = none) : Keep H0 tok H' := fun x o' e => by
  have hx : x ≠ b := by rintro rfl; rw [hb] at e; cases e
  exact ⟨by rw [hu x, if_neg hx]; exact (h x o' e).1, (h x o' e).2⟩
theorem Grow.upd {H H' : PH} {tok : Tok} {n sz b : Nat} {o : PObj} (h : Grow H tok n sz) (hu : Upd H b o H') (hb : tokB tok ≠ some b) : Grow H' tok n sz := by
  rcases h with rfl | ⟨c, t, rfl, hc⟩
  · exact .inl rfl
  · refine .inr ⟨c, t, rfl, ?_⟩
    have : c ≠ b := by rintro rfl; exact hb rfl
    rw [hu c, if_neg this]; exact hc
def loopR (k : Int) : List Term → List Term × Bool
  | [] => ([], false)
  | t :: l => if t.k != k then ([zT], true) else if plainOdd t then ([t], true) else (t :: (loopR k l).1, (loopR k l).2)
def eachR (k : Int) (l : List Term) (odd : Bool) : List Term × List Term × Bool :=
  ((loopR k (nextR 3 l odd).1.l).1, (nextR 3 l odd).2.1, (nextR 3 l odd).2.2 || (loopR k (nextR 3 l odd).1.l).2)
def fin (k : Int) (acc rest : List Term) (o : Bool) : List Term × Bool := if o then (acc, true) else (acc ++ (loopR k rest).1, (loopR k rest).2)
theorem fin_next (k : Int) (acc : List Term) (t : Term) (rest : List Term) :
    fin k (acc ++ [(nextR k (t :: rest) false).1]) (nextR k (t :: rest) false).2.1 (nextR k (t :: rest) false).2.2 = fin k acc (t :: rest) false := by
  simp only [nextR, Bool.false_or]
  by_cases h : (t.k != k) = true
  · simp [fin, loopR, h]
  · simp only [h, if_false]
    by_cases h2 : plainOdd t = true
    · simp [fin, loopR, h, h2]
    · simp [fin, loopR, h, h2]
theorem nextR_len (k : Int) (l : List Term) (o : Bool) : (nextR k l o).2.2 = true ∨ (nextR k l o).2.1.length + 1 = l.length := by
  cases l with
  | nil => simp [nextR]
  | cons t l => simp only [nextR]; split <;> simp
theorem nextR_le (k : Int) (l : List Term) (o : Bool) : (nextR k l o).2.1.length ≤ l.length := by
  cases l with
  | nil => simp [nextR]
  | cons t l => simp only [nextR]; split <;> simp
theorem c170 (b : Nat) (H : PH) (l : List Term) (odd : Bool) (k : Int) (hb : H.get b = some (rdr l odd)) :
    PCalls Tryz.prog 170 [.ptr b 0, .scal (.int .i64 k)] H fun r H' => r = .list .foreign (encL (eachR k l odd).1) ∧ Upd H b (rdr (eachR k l odd).2.1 (eachR k l odd).2.2) H' := by
  refine calls_of hmix Tryz.func170 ok170 (by simp) ?_
  simp -implicitDefEqProofs only [rc170, zzfp, zzft, zzjy, zzjq, zziu, zzdn, zzdm, zzlf, zzid, zzgi, zzif, zzie, zzhz, List.map_cons, List.map_nil, Nat.reduceSub, Nat.reduceEqDiff, if_true, if_false, PV.fg, fgL, Nat.add_one_ne_zero, zzgf]
  refine kcall_intro (c169 b H l odd 3 hb).ok ?_
  rintro r H1 ⟨hr, rfl, hU⟩
  have hlen : (nextR 3 l odd).1.l.length ≤ lenB := ((okB_enc _).1 hr).2.1
  have hb1 : H1.get b = some (rdr (nextR 3 l odd).2.1 (nextR 3 l odd).2.2) := by rw [hU b, if_pos rfl]
  generalize hx : nextR 3 l odd = x at *
  obtain ⟨x, l1, o1⟩ := x
  simp only at hlen hb1 hU ⊢
  simp -implicitDefEqProofs only [zzjk, zzih, zzdn, zzlf, zzid, zzgi, zzhu, zzhr, zzce, zzdl, zzdi, zzbb, zzdk, zzdj, zzhx, zzba, zzbg, zzbf, zzkm, zzko, zzbw, zzby, List.length_cons, List.length_nil, Nat.reduceSub, Nat.reduceEqDiff, Nat.zero_add, if_true, if_false, Nat.add_one_ne_zero, zzjp, zzbe, zzju, zzdx]
  refine bH_intro fun b2 hb2 => ?_
  simp -implicitDefEqProofs only [zzfp, zzft, zzff, zzjy, zziu, zzdn, zzdm, zzlf, zzid, zzgi, Nat.reduceSub, Nat.reduceEqDiff, if_true, if_false, Nat.add_one_ne_zero]
  have hne : b ≠ b2 := by rintro rfl; rw [hb1] at hb2; cases hb2
  refine go_loop (fun n s => ∃ acc rest o tok, n = (if o = true then 0 else rest.length + 1) ∧ (o = false → acc.length + rest.length ≤ x.l.length) ∧ s.env 0 = .v (.ptr b 0) ∧ s.env 1 = .v (.scal (.int .i64 k)) ∧ s.env 5 = .v (.ptr b2 0) ∧ s.env 6 = .v (.list tok (encL acc)) ∧ s.H.get b2 = some (rdr rest o) ∧ tokB tok ≠ some b2 ∧ Keep H1 tok s.H ∧ Grow s.H tok acc.length 4 ∧ fin k acc rest o = loopR k x.l) (x.l.length + 1) ?_ ?_
  · refine ⟨[], x.l, false, .full, ?_, ?_, rfl, rfl, rfl, rfl, ?_, ?_, ?_, ?_, ?_⟩
    · simp
    · simp
    · simp [PH.get_set, rdr]
    · simp [tokB]
    · exact (Keep.full H1).upd (Upd.set _ _ _) hb2
    · exact .inl rfl
    · simp [fin]
  rintro n env L H2 ⟨acc, rest, o, tok, rfl, hal, h0, h1, h5, h6, hg2, ht2, hK, hG, hF⟩
  simp only at h0 h1 h5 h6 hg2 hK hG
  have hg3 : H2.get b2 = some (.cells [.list .foreign (encL rest), .scal (.bool o)]) := hg2
  have hbb : H2.get b = some (.cells [.list .foreign (encL l1), .scal (.bool o1)]) := (hK b _ hb1).1
  have last : ∀ oo v, loopR k x.l = (acc, oo) → v = (o1 || oo) → endK (.list tok (encL acc)) (H2.set b (.cells [.list .foreign (encL l1), .scal (.bool v)])) fun r H' =>
        r = PV.list Tok.foreign (encL (eachR k l odd).fst) ∧ Upd H b (rdr (eachR k l odd).snd.fst (eachR k l odd).snd.snd) H' := by
    rintro oo v hl rfl
    refine ⟨H.set b (rdr l1 (o1 || oo)), ?_, _, .inl rfl, ?_, ?_⟩
    · intro y o' hy
      rw [PH.get_set] at hy ⊢
      split
      · rename_i e; rw [if_pos e] at hy; exact hy
      · rename_i e
        rw [if_neg e] at hy
        refine (hK y o' ?_).1
        rw [hU y, if_neg e]; exact hy
    · simp only [PV.fg, zzcv, eachR, hx, hl]
    · simp only [eachR, hx, hl]
      exact Upd.set _ _ _
  simp -implicitDefEqProofs only [h5, hg3, zzfp, zzft, zzjv, zzjk, zzgd, zziu, zzip, zziv, zzig, zzij, zzin, zzdn, zzdm, zzlf, zzid, zzhu, zzhr, zzjj, zzjg, zzgo, zzdl, zzho, zzdw, zzgt, zzkf, zzlg, zzaz, zzap, zzai, Nat.reduceSub, Nat.reduceEqDiff, Nat.add_zero, if_true, if_false, zzcw]
  refine br_intro (fun c1 => ?_) (fun c1 => ?_)
  · simp -implicitDefEqProofs only [c1, h5, hg3, zzfh, zzjy, zzjv, zzjz, zzjk, zzcd, zzgd, zziu, zzip, zziv, r_un, zzij, zzdn, zzlf, zzid, zzhu, zzhr, zzjj, zzjg, zzgo, zzdl, zzho, zzdw, zzle, br_true, Nat.reduceSub, Nat.reduceEqDiff, Nat.zero_add, if_true, if_false, Nat.add_one_ne_zero]
    cases o with
    | true =>
      have hF' : loopR k x.l = (acc, true) := by rw [← hF]; rfl
      simp -implicitDefEqProofs only [h0, hbb, zzfp, zzft, zzfj, zzdp, zzdo, zzjv, zzjk, zzgc, zziu, zzip, zziv, zzij, zzdn, zzlf, zzid, zzhu, zzhr, zzjj, zzjg, zzgo, zzdl, zzho, zzdw, br_false, Nat.reduceSub, Nat.reduceEqDiff, Nat.zero_add, if_true, if_false, zzdq, Nat.add_one_ne_zero, Bool.not_true]
      refine br_intro (fun c2 => ?_) (fun c2 => ?_)
      · simp -implicitDefEqProofs only [c2, h6, hbb, zzfp, zzft, zzfq, zzjy, zzjv, zzjz, zzkd, zzjk, zzjl, zzcd, zzgc, zziu, zziv, zzij, zzja, zzjb, zzix, zzjd, zzdn, zzdm, zzlf, zzid, zzic, zzce, zzjj, zzjg, zzkn, zzkl, Nat.reduceBEq, zzks, zzkq, zzah, zzho, zzdw, br_true, zzca, List.length_cons, List.length_nil, List.all_cons, List.all_nil, zzbv, zzbq, Nat.reduceSub, Nat.reduceEqDiff, Nat.zero_add, Bool.and_self, and_self, if_true, if_false, zzib, zzdg, Int.reduceBEq]
        exact last _ _ hF' (by simp)
      · simp -implicitDefEqProofs only [c2, h5, h6, hbb, hg3, zzfp, zzft, zzfq, zzjy, zzjv, zzjz, zzkd, zzjk, zzjl, zzcd, zzgc, zziu, zzip, zziv, zzij, zzja, zzjb, zzix, zzjd, zzdn, zzlf, zzid, zzic, zzhu, zzhr, zzce, zzjj, zzjg, zzgo, zzdl, zzkn, zzkl, Nat.reduceBEq, zzks, zzkq, zzah, zzho, zzdw, br_false, zzca, List.length_cons, List.length_nil, List.all_cons, List.all_nil, zzbv, zzbq, Nat.reduceSub, Nat.reduceEqDiff, Nat.zero_add, Bool.and_self, and_self, if_true, if_false, Nat.add_one_ne_zero, zzib, zzdg, Int.reduceBEq]
        exact last _ _ hF' (by simp)
    | false =>
      obtain ⟨t, rest, rfl⟩ : ∃ t r, rest = t :: r := by
        cases rest with
        | nil => simp at c1
        | cons t r => exact ⟨t, r, rfl⟩
      simp -implicitDefEqProofs only [h1, h5, h6, zzfu, zzfp, zzff, zzjq, zziu, zzdn, zzlf, zzid, zzif, zzie, zzhz, br_true, List.map_cons, List.map_nil, List.length_cons, Nat.reduceEqDiff, if_true, if_false, PV.fg, fgL, zzgf, Bool.not_false, Bool.false_eq_true]
      refine kcall_intro (c169 b2 H2 _ _ k hg2) ?_
      rintro r H3 ⟨rfl, hU2⟩
      have hal' := hal rfl
      simp only [List.length_cons] at hal'
      simp -implicitDefEqProofs only [zzjk, zzis, zzdn, zzlf, zzid, zzif, zzie, zzhz, zzaf, zzhf, List.map_cons, List.map_nil, List.length_cons, List.length_nil, Nat.reduceAdd, Nat.reduceEqDiff, Nat.reduceLeDiff, Nat.zero_add, Bool.and_self, and_self, if_true, if_false, zzac, zzab, zzgs, zzgh, beq_self_eq_true, zzjw, zzde, zzeu]
      refine kapp_keep (by rw [zzcw]; exact hG.upd hU2 ht2) (zzcz _) (zzcz _) ?_ (by decide) (by simp [encL]) (by decide) ?_ ?_
      · simp only [zzcw, List.length_cons, List.length_nil]; omega
      · simp only [encL, List.all_cons, List.all_nil, zzdd, Bool.and_true]; rfl
      · intro tok' H4 hG4 hK4
        have hn := nextR_len k (t :: rest) false
        have hn2 := nextR_le k (t :: rest) false
        have hfn := fin_next k acc t rest
        have hk2 : Keep [(b2, rdr (nextR k (t :: rest) false).2.1 (nextR k (t :: rest) false).2.2)] tok H3 := by
          intro y o' hy
          rw [PH.get_cons] at hy
          split at hy
          · rename_i e; subst e; cases hy
            exact ⟨by rw [hU2, if_pos rfl], ht2⟩
          · cases hy
        have hk3 := hK4 _ hk2 b2 _ (by rw [PH.get_cons, if_pos rfl])
        simp -implicitDefEqProofs only [zzfe, zzjy, zziu, zzdn, zzlf, zzid, Nat.reduceEqDiff, if_true, if_false, zzfl, zzct]
        refine ⟨_, ?_, acc ++ [(nextR k (t :: rest) false).1], (nextR k (t :: rest) false).2.1, (nextR k (t :: rest) false).2.2, tok', rfl, ?_, ?_, ?_, ?_, ?_, hk3.1, hk3.2, hK4 _ (hK.upd hU2 hb2), ?_, ?_⟩
        · rcases hn with hn | hn
          · rw [if_pos hn]; simp
          · simp only [List.length_cons] at hn
            split
            · simp
            · simp; omega
        · intro ho
          rcases hn with hn | hn
          · rw [hn] at ho; cases ho
          · simp only [List.length_append, List.length_cons, List.length_nil] at hn ⊢; omega
        all_goals first | (simp only [zzlf, reduceIte, Nat.reduceEqDiff, h0, h1, h5]; done) | skip
        · simpa only [zzcw, List.length_append, List.length_cons, List.length_nil] using hG4
        · rw [hfn]; exact hF
  · simp -implicitDefEqProofs only [c1, h0, hbb, zzfp, zzft, zzfh, zzfj, zzdp, zzdo, zzjy, zzjv, zzjz, zzjk, zzcd, zzgd, zzgc, zziu, zzip, zziv, zzij, zzdn, zzdm, zzlf, zzid, zzhu, zzhr, zzjj, zzjg, zzgo, zzdl, zzho, zzdw, br_false, Nat.reduceSub, Nat.reduceEqDiff, Nat.zero_add, if_true, if_false, zzdq, Nat.add_one_ne_zero]
    have hr0 : rest = [] := by
      cases rest with
      | nil => rfl
      | cons t r => simp at c1
    subst hr0
    have hF' : loopR k x.l = (acc, o) := by rw [← hF]; cases o <;> simp [fin, loopR]
    refine br_intro (fun c2 => ?_) (fun c2 => ?_)
    · simp -implicitDefEqProofs only [c2, h6, hbb, zzfp, zzft, zzfq, zzjy, zzjv, zzjz, zzkd, zzjk, zzjl, zzcd, zzgc, zziu, zziv, zzij, zzja, zzjb, zzix, zzjd, zzdn, zzdm, zzlf, zzid, zzic, zzce, zzjj, zzjg, zzkn, zzkl, Nat.reduceBEq, zzks, zzkq, zzah, zzho, zzdw, br_true, zzca, List.length_cons, List.length_nil, List.all_cons, List.all_nil, zzbv, zzbq, Nat.reduceSub, Nat.reduceEqDiff, Nat.zero_add, Bool.and_self, and_self, if_true, if_false, zzib, zzdg, zzbh, Int.reduceBEq]
      exact last _ _ hF' (by simp [c2])
    · simp -implicitDefEqProofs only [c2, h5, h6, hbb, hg3, zzfp, zzft, zzfq, zzjy, zzjv, zzjz, zzkd, zzjk, zzjl, zzcd, zzgc, zziu, zzip, zziv, zzij, zzja, zzjb, zzix, zzjd, zzdn, zzlf, zzid, zzic, zzhu, zzhr, zzce, zzjj, zzjg, zzgo, zzdl, zzkn, zzkl, Nat.reduceBEq, zzks, zzkq, zzah, zzho, zzdw, br_false, zzca, List.length_cons, List.length_nil, List.all_cons, List.all_nil, zzbv, zzbq, Nat.reduceSub, Nat.reduceEqDiff, Nat.zero_add, Bool.and_self, and_self, if_true, if_false, Nat.add_one_ne_zero, zzib, zzdg, zzbh, Int.reduceBEq]
      exact last _ _ hF' (by simp [c2])
theorem c171 (b : Nat) (H : PH) (l : List Term) (odd : Bool) (hb : H.get b = some (rdr l odd)) :
    PCalls Tryz.prog 171 [.ptr b 0] H fun r H' => r = .scal (.bool ((nextR 1 l odd).1.n == 1)) ∧ Upd H b (rdr (nextR 1 l odd).2.1 ((nextR 1 l odd).2.2 || ((nextR 1 l odd).1.n != 0 && (nextR 1 l odd).1.n != 1))) H' := by
  refine calls_of hmix Tryz.func171 ok171 (by simp) ?_
  simp -implicitDefEqProofs only [rc171, zzfp, zzft, zzjy, zzjq, zziu, zzdn, zzdm, zzlf, zzid, zzgi, zzif, zzie, zzhz, List.map_cons, List.map_nil, Nat.reduceSub, Nat.reduceEqDiff, if_true, if_false, PV.fg, fgL, Nat.add_one_ne_zero, zzgf]
  refine kcall_intro (c169 b H l odd 1 hb) ?_
  rintro r H1 ⟨rfl, hU⟩
  have hb1 : H1.get b = some (.cells [.list .foreign (encL (nextR 1 l odd).2.1), .scal (.bool (nextR 1 l odd).2.2)]) := by rw [hU b, if_pos rfl]; rfl
  try simp -implicitDefEqProofs only [hb1, zzfp, zzft, zzjy, zzjv, zzjk, zzgc, zziu, zzip, zziv, zzij, zzdn, zzlf, zzid, zzgi, zzhu, zzhr, zzjj, zzjg, zzgo, zzdl, zzho, zzdw, Nat.reduceSub, Nat.reduceEqDiff, Nat.zero_add, if_true, if_false, Nat.add_one_ne_zero, zzju, zzdx]
  repeat' (first
    | (refine br_intro (fun h => ?_) (fun h => ?_) <;> try simp -implicitDefEqProofs only [h, hb1, zzfp, zzft, zzfq, zzjy, zzjv, zzjz, zzkd, zzjk, zzjl, zzcd, zzgd, zzgc, zzge, zziu, zziv, zzig, zzij, zzja, zzjb, zzix, zzjd, zzdn, zzdm, zzlf, zzid, zzic, zzgi, zzce, zzjj, zzjg, zzkn, zzkl, Nat.reduceBEq, zzks, zzkq, zzah, zzho, zzdw, zzkf, zzlg, zzaz, zzan, zzas, zzai, br_true, br_false, zzca, List.length_cons, List.length_nil, List.all_cons, List.all_nil, zzbv, zzbq, Nat.reduceSub, Nat.reduceEqDiff, Nat.zero_add, Bool.and_self, and_self, if_true, if_false, true_and, Bool.true_and, Nat.add_one_ne_zero, zzib, zzdg, Int.reduceBEq]))
  all_goals refine endK_intro ⟨rfl, hU.trans ?_⟩
  all_goals (refine (?_ : PObj.cells _ = rdr _ _) ▸ Upd.set _ _ _; congr 4)
  all_goals simp only [*, Bool.true_and, Bool.false_and, Bool.and_true, Bool.and_false, Bool.true_or, Bool.false_or, Bool.or_true, Bool.or_false, Bool.not_true, Bool.not_false, Bool.not_not, decide_true, decide_false, if_true, if_false, Bool.false_eq_true, reduceIte, and_self, and_true, true_and, beq_self_eq_true, bne_self_eq_false, decide_not]
theorem c161 (s : ByteArray) : PPure Tryz.prog 161 [.scal (.string s)] (.scal (.bool (!nameOk s))) := by
  refine pure_of hmix Tryz.func161 ok161 (by simp) ?_
  try simp -implicitDefEqProofs only [rc161, zzfp, zzft, zzjy, zzjr, zziu, zzdn, zzdm, zzlf, zzid, zzgi, zzif, zzie, zzhz, List.map_cons, List.map_nil, Nat.reduceSub, Nat.reduceEqDiff, if_true, if_false, PV.fg, fgL, Nat.add_one_ne_zero, zzhy]
  repeat' (first
    | (refine br_intro (fun h => ?_) (fun h => ?_) <;> try simp -implicitDefEqProofs only [zzfo])
    | (refine qcall_intro (c137 _) ?_; try simp -implicitDefEqProofs only [zzfq, zzjy, zzjk, zziu, r_un, zzeb, zzdh, zzja, zzjb, zzix, zzjd, zzdn, zzlf, zzid, zzgi, zzle, Nat.reduceSub, Nat.reduceEqDiff, if_true, if_false, PV.fg, Nat.add_one_ne_zero]))
theorem c176 (l : List ByteArray) : PPure Tryz.prog 176 [.list .foreign (strs l), .fn (.func 161) [] []] (.scal (.int .i64 (if l.any (fun s => !nameOk s) then (l.findIdx (fun s => !nameOk s) : Nat) else -1))) := by
  refine pure_ok_of hmix Tryz.func176 ok176 (by simp) fun hok => ?_
  have hlen : l.length ≤ lenB := by have := hok; simp only [okBL, okB, zzku] at this; exact this.1.1
  simp -implicitDefEqProofs only [rc176, zzfp, zzft, zzff, zzjy, zzjk, zziu, zzin, zzdn, zzdm, zzlf, zzid, zzgi, zzgt, Nat.reduceSub, Nat.reduceEqDiff, if_true, if_false, zzku, Nat.add_one_ne_zero, Int.reduceNeg]
  refine go_loop (fun n s => ∃ i, i ≤ l.length ∧ n = l.length - i ∧ s.env 8 = .v (.scal (.int .i64 i)) ∧ s.env 7 = .v (.scal (.int .i64 l.length)) ∧ s.env 0 = .v (.list .foreign (strs l)) ∧ s.env 1 = .v (.fn (.func 161) [] []) ∧ (∀ j x, j < i → nth l j = some x → nameOk x = true)) l.length ?_ ?_
  · exact ⟨0, by simp, by simp, rfl, rfl, rfl, rfl, by simp⟩
  rintro n env L H' ⟨i, hi, rfl, h8, h7, h0, h1, hall⟩
  simp only at h8 h7 h0 h1
  simp -implicitDefEqProofs only [h8, h7, zzfp, zzft, zzfh, zzjy, zzjk, zzcd, zzig, zzdn, zzlf, zzid, zzkf, zzlg, zzaz, zzar, zzai, if_true, Int.reduceNeg]
  refine br_intro (fun b1 => ?_) (fun b1 => ?_)
  · have hlt : i < l.length := by simpa using b1
    obtain ⟨x, hx⟩ : ∃ x, nth l i = some x := ⟨_, nth_of hlt⟩
    have hxm : x ∈ l := List.mem_of_getElem? hx
    simp -implicitDefEqProofs only [h8, h0, h1, hx, zzfu, zzfp, zzft, zzff, zzjy, zzjk, zziu, zzip, zzik, zzdn, zzlf, zzid, zzhu, zzhr, zzjh, zzgo, zzdl, zzif, zzie, zzhz, zzaf, zzae, zzgg, zzcf, zzca, List.map_cons, List.map_nil, List.length_cons, List.length_nil, List.nil_append, Option.map_some, Nat.reduceSub, Nat.reduceEqDiff, Nat.zero_add, if_true, if_false, PV.fg, fgL, zzkv, zzhl, Int.toNat_natCast, zzjt, zzlh, List.append_nil, zzhy, Int.reduceNeg]
    refine qcall_intro (c161 _) ?_
    simp -implicitDefEqProofs only [zzfh, zzjy, zzcd, zzdn, zzlf, zzid, Nat.reduceEqDiff, if_true, if_false, Int.reduceNeg]
    refine br_intro (fun b2 => ?_) (fun b2 => ?_)
    · simp -implicitDefEqProofs only [zzfp, zzft, zzfq, zzjy, zziu, zzeb, zzdh, zzja, zzjb, zzix, zzjd, zzdn, zzlf, zzid, Nat.reduceEqDiff, if_true, if_false, PV.fg, Int.reduceNeg]
      rw [if_pos (List.any_eq_true.2 ⟨x, hxm, b2⟩)]
      congr 2
      congr 1
      symm
      have e := List.getElem?_eq_some_iff.1 hx
      rw [List.findIdx_eq hlt]
      refine ⟨by rw [e.2]; exact b2, fun j hj => ?_⟩
      have := hall j l[j] hj (List.getElem?_eq_getElem (by omega))
      simp [this]
    · simp -implicitDefEqProofs only [h8, wrap_add hlt hlen, zzfu, zzfp, zzfe, zzjy, zzjk, zziu, zzig, zzdn, zzdm, zzlf, zzid, zzkf, zzlg, zzaz, zzal, zzaj, Nat.reduceEqDiff, if_true, if_false, zzfl, Int.reduceNeg]
      refine ⟨_, ?_, i + 1, hlt, rfl, rfl, ?_, ?_, ?_, ?_⟩
      · omega
      all_goals first | (simp only [zzlf, reduceIte, Nat.reduceEqDiff, h7, h0, h1]; done) | skip
      intro j y hj hy
      by_cases e : j = i
      · subst e; rw [hx] at hy; cases hy; simpa using b2
      · exact hall j y (by omega) hy
  · simp -implicitDefEqProofs only [zzfp, zzft, zzfq, zzfj, zzdp, zzdo, zzjy, zziu, zzeb, zzdh, zzja, zzjb, zzix, zzjd, zzdm, zzlf, zzid, Nat.reduceEqDiff, if_true, if_false, PV.fg, zzdq, Int.reduceNeg]
    have hge : i = l.length := by
      have : ¬ i < l.length := by simpa using b1
      omega
    rw [if_neg]
    intro hh
    obtain ⟨x, hx, h2⟩ := List.any_eq_true.1 hh
    obtain ⟨j, hj⟩ := List.mem_iff_getElem?.1 hx
    have := hall j x (by have := (List.getElem?_eq_some_iff.1 hj).1; omega) hj
    simp [this] at h2
theorem c162 (l : List ByteArray) : PPure Tryz.prog 162 [.list .foreign (strs l), .fn (.func 161) [] []] (.scal (.bool (l.any (fun s => !nameOk s)))) := by
  refine pure_of hmix Tryz.func162 ok162 (by simp) ?_
  try simp -implicitDefEqProofs only [rc162, zzfp, zzft, zzjy, zzjr, zziu, zzdn, zzdm, zzlf, zzid, zzgi, zzif, zzie, zzhz, List.map_cons, List.map_nil, Nat.reduceSub, Nat.reduceEqDiff, if_true, if_false, PV.fg, fgL, zzkt, Nat.add_one_ne_zero, zzhy]
  repeat' (first
    | (refine br_intro (fun h => ?_) (fun h => ?_) <;> try simp -implicitDefEqProofs only [zzfo])
    | (refine qcall_intro (c176 _) ?_; try simp -implicitDefEqProofs only [zzfq, zzjy, zzjk, zziu, zzig, zzeb, zzdh, zzja, zzjb, zzix, zzjd, zzdn, zzdm, zzlf, zzid, zzgi, zzkf, zzlg, zzaz, zzao, zzai, Nat.reduceSub, Nat.reduceEqDiff, if_true, if_false, PV.fg, Nat.add_one_ne_zero, Int.reduceNeg]))
  congr 2
  split
  · rename_i h; rw [h]; exact decide_eq_true (Int.natCast_nonneg _)
  · rename_i h; simp only [Bool.not_eq_true] at h; rw [h]; rfl
def authOk (a : Au) : Bool :=
  !(!nameOk a.user || (!nameOk a.service || a.transited.any (fun s => !nameOk s))) &&
  (decide ((a.groups.length : Int) ≤ 20) && (decide ((a.transited.length : Int) ≤ 8) && ((a.origin == 0 || a.origin == 1) && (decide (0 ≤ a.to) && decide (a.to ≤ 1099511627776)))))
set_option maxRecDepth 10000 in
theorem c132 (a : Au) : PPure Tryz.prog 132 [encA a] (.scal (.bool (authOk a))) := by
  refine pure_of hmix Tryz.func132 ok132 (by simp) ?_
  try simp -implicitDefEqProofs only [rc132, zzfp, zzft, zzjy, zzjo, zzbd, zzjk, zziu, zzip, zzij, zzdn, zzdm, zzlf, zzid, zzgi, zzhu, zzhr, zzji, zzgo, zzdl, zzif, zzie, zzhz, zzdv, List.map_cons, List.map_nil, List.length_nil, List.nil_append, Option.map_some, Nat.reduceSub, Nat.reduceEqDiff, Nat.add_zero, if_true, if_false, PV.fg, fgL, Nat.add_one_ne_zero, zzjt, zzlh, List.append_nil, zzhy, zzcg]
  repeat' (first
    | (refine br_intro (fun h => ?_) (fun h => ?_) <;> try simp -implicitDefEqProofs only [h, zzfu, zzfp, zzft, zzfh, zzfq, zzjy, zzjv, zzjz, zzjr, zzjk, zzcd, zzgd, zzgc, zzge, zziu, zzip, zzig, zzij, zzin, zzeb, zzdh, zzja, zzjb, zzix, zzjd, zzdn, zzdm, zzlf, zzid, zzgi, zzhu, zzhr, zzji, zzgo, zzdl, zzif, zzie, zzhz, zzdv, zzgt, zzkf, zzlg, zzaz, zzan, zzaq, zzai, br_true, br_false, List.map_cons, List.map_nil, List.nil_append, Option.map_some, Nat.reduceSub, Nat.reduceEqDiff, Nat.zero_add, if_true, if_false, PV.fg, fgL, zzgk, zzku, zzkt, Nat.add_one_ne_zero, zzjt, zzlh, List.append_nil, zzhy])
    | (refine qcall_intro (c161 _) ?_; try simp -implicitDefEqProofs only [zzjv, zzjz, zzcd, zzgc, zziu, zzdn, zzlf, zzid, zzgi, br_false, Nat.reduceSub, Nat.reduceEqDiff, if_true, if_false, Nat.add_one_ne_zero])
    | (refine qcall_intro (c162 _) ?_; try simp -implicitDefEqProofs only [zzfh, zzjy, zzjz, zzcd, zzdn, zzlf, zzid, zzgi, br_false, Nat.reduceSub, Nat.reduceEqDiff, if_true, if_false, Nat.add_one_ne_zero]))
  all_goals simp only [authOk, *, Bool.true_and, Bool.false_and, Bool.and_true, Bool.and_false, Bool.true_or, Bool.false_or, Bool.or_true, Bool.or_false, Bool.not_true, Bool.not_false, Bool.not_not, decide_true, decide_false, if_true, if_false, Bool.false_eq_true, reduceIte, and_self, and_true, true_and, beq_self_eq_true, bne_self_eq_false, decide_not]
end Go.Pv



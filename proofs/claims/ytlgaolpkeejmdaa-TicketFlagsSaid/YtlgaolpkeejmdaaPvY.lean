import Derived.Test.YtlgaolpkeejmdaaPvX
set_option linter.unusedSimpArgs false
set_option linter.unusedVariables false
namespace Go.Pv
/-! ### the encodings of values -/
theorem Term.eta (t : Term) : Term.mk t.k t.s t.n t.l = t := by cases t; rfl
theorem k_mk (k : Int) (s : ByteArray) (n : Int) (l : List Term) : (Term.mk k s n l).k = k := nr rfl
theorem s_mk (k : Int) (s : ByteArray) (n : Int) (l : List Term) : (Term.mk k s n l).s = s := nr rfl
theorem n_mk (k : Int) (s : ByteArray) (n : Int) (l : List Term) : (Term.mk k s n l).n = n := nr rfl
theorem l_mk (k : Int) (s : ByteArray) (n : Int) (l : List Term) : (Term.mk k s n l).l = l := nr rfl
theorem zzda (t : Term) : (enc t).cells = [.scal (.int .i64 t.k), .scal (.string t.s), .scal (.int .i64 t.n), .list .foreign (encL t.l)] := by rw [enc_eq]; rfl
theorem zzeq {k : Int} {s : ByteArray} {n : Int} {l : List Term} : PV.agg [.scal (.int .i64 k), .scal (.string s), .scal (.int .i64 n), .list .foreign (encL l)] = enc (.mk k s n l) := by rw [enc_eq]; rfl
theorem zzer {k : Int} {s : ByteArray} {n : Int} : PV.agg [.scal (.int .i64 k), .scal (.string s), .scal (.int .i64 n), .list .foreign []] = enc (.mk k s n []) := by rw [enc_eq]; rfl
theorem encL_cons (t : Term) (l : List Term) : enc t :: encL l = encL (t :: l) := by simp [encL]
theorem zzcp (l m : List Term) : encL l ++ encL m = encL (l ++ m) := by simp [encL_map]
theorem zzcu (l : List Term) (t : Term) : encL l ++ [enc t] = encL (l ++ [t]) := by simp [encL_map]
theorem zzcq (l : List Term) (n : Nat) : (encL l).drop n = encL (l.drop n) := by simp [encL_map]
theorem zzcw (l : List Term) (n : Nat) : (encL l).take n = encL (l.take n) := by simp [encL_map]
theorem zzfp (l : List Int) (x : Int) : ints l ++ [.scal (.int .i64 x)] = ints (l ++ [x]) := by simp [ints]
theorem zzja (l : List ByteArray) (x : ByteArray) : strs l ++ [.scal (.string x)] = strs (l ++ [x]) := by simp [strs]
theorem zzei {t : Tok} {a0 : Term} : PV.list t [enc a0] = PV.list t (encL [a0]) := by simp [encL]
theorem zzej {t : Tok} {a0 a1 : Term} : PV.list t [enc a0, enc a1] = PV.list t (encL [a0, a1]) := by simp [encL]
theorem zzek {t : Tok} {a0 a1 a2 : Term} : PV.list t [enc a0, enc a1, enc a2] = PV.list t (encL [a0, a1, a2]) := by simp [encL]
theorem zzel {t : Tok} {a0 a1 a2 a3 : Term} : PV.list t [enc a0, enc a1, enc a2, enc a3] = PV.list t (encL [a0, a1, a2, a3]) := by simp [encL]
theorem zzem {t : Tok} {a0 a1 a2 a3 a4 : Term} : PV.list t [enc a0, enc a1, enc a2, enc a3, enc a4] = PV.list t (encL [a0, a1, a2, a3, a4]) := by simp [encL]
theorem zzen {t : Tok} {a0 a1 a2 a3 a4 a5 : Term} : PV.list t [enc a0, enc a1, enc a2, enc a3, enc a4, enc a5] = PV.list t (encL [a0, a1, a2, a3, a4, a5]) := by simp [encL]
theorem zzeo {t : Tok} {a0 a1 a2 a3 a4 a5 a6 : Term} : PV.list t [enc a0, enc a1, enc a2, enc a3, enc a4, enc a5, enc a6] = PV.list t (encL [a0, a1, a2, a3, a4, a5, a6]) := by simp [encL]
theorem zzeb {t : Tok} {a : Int} : PV.list t [.scal (.int .i64 a)] = .list t (ints [a]) := rfl
theorem zzec {t : Tok} {a b : Int} : PV.list t [.scal (.int .i64 a), .scal (.int .i64 b)] = .list t (ints [a, b]) := rfl
theorem zzed {t : Tok} {a b c : Int} : PV.list t [.scal (.int .i64 a), .scal (.int .i64 b), .scal (.int .i64 c)] = .list t (ints [a, b, c]) := rfl
structure Sp where
  lo : Int
  hi : Int
structure Tk where
  service : ByteArray
  flags : Int
  key : Term
  client : ByteArray
  span : Sp
  auth : Term
structure Au where
  user : ByteArray
  groups : List Int
  origin : Int
  transited : List ByteArray
  service : ByteArray
  fwd : Bool
  to : Int
def encS (s : Sp) : PV := .agg [.scal (.int .i64 s.lo), .scal (.int .i64 s.hi)]
theorem zzcx (s : Sp) : (encS s).cells = [.scal (.int .i64 s.lo), .scal (.int .i64 s.hi)] := nr rfl
theorem zzcy (s : Sp) : (encS s).fg = encS s := nr rfl
theorem zzep {a b : Int} : PV.agg [.scal (.int .i64 a), .scal (.int .i64 b)] = encS ⟨a, b⟩ := nr rfl
def encK (k : Tk) : PV := .agg [.scal (.string k.service), .scal (.int .i64 k.flags), .scal (.int .i64 k.key.k), .scal (.string k.key.s), .scal (.int .i64 k.key.n), .list .foreign (encL k.key.l), .scal (.string k.client), .scal (.int .i64 k.span.lo), .scal (.int .i64 k.span.hi), .scal (.int .i64 k.auth.k), .scal (.string k.auth.s), .scal (.int .i64 k.auth.n), .list .foreign (encL k.auth.l)]
theorem zzcn (k : Tk) : (encK k).cells = [.scal (.string k.service), .scal (.int .i64 k.flags), .scal (.int .i64 k.key.k), .scal (.string k.key.s), .scal (.int .i64 k.key.n), .list .foreign (encL k.key.l), .scal (.string k.client), .scal (.int .i64 k.span.lo), .scal (.int .i64 k.span.hi), .scal (.int .i64 k.auth.k), .scal (.string k.auth.s), .scal (.int .i64 k.auth.n), .list .foreign (encL k.auth.l)] := nr rfl
theorem zzco (k : Tk) : (encK k).fg = encK k := by simp only [encK, PV.fg, fgL, zzcr]
theorem zzee {s ks c as : ByteArray} {f kk kn a b ak an : Int} {kl al : List Term} : PV.agg [.scal (.string s), .scal (.int .i64 f), .scal (.int .i64 kk), .scal (.string ks), .scal (.int .i64 kn), .list .foreign (encL kl), .scal (.string c), .scal (.int .i64 a), .scal (.int .i64 b), .scal (.int .i64 ak), .scal (.string as), .scal (.int .i64 an), .list .foreign (encL al)] = encK ⟨s, f, .mk kk ks kn kl, c, ⟨a, b⟩, .mk ak as an al⟩ := nr rfl
theorem zzef {s ks c as : ByteArray} {f kk kn a b ak an : Int} {al : List Term} : PV.agg [.scal (.string s), .scal (.int .i64 f), .scal (.int .i64 kk), .scal (.string ks), .scal (.int .i64 kn), .list .foreign [], .scal (.string c), .scal (.int .i64 a), .scal (.int .i64 b), .scal (.int .i64 ak), .scal (.string as), .scal (.int .i64 an), .list .foreign (encL al)] = encK ⟨s, f, .mk kk ks kn [], c, ⟨a, b⟩, .mk ak as an al⟩ := nr rfl
theorem zzeg {s ks c as : ByteArray} {f kk kn a b ak an : Int} {kl : List Term} : PV.agg [.scal (.string s), .scal (.int .i64 f), .scal (.int .i64 kk), .scal (.string ks), .scal (.int .i64 kn), .list .foreign (encL kl), .scal (.string c), .scal (.int .i64 a), .scal (.int .i64 b), .scal (.int .i64 ak), .scal (.string as), .scal (.int .i64 an), .list .foreign []] = encK ⟨s, f, .mk kk ks kn kl, c, ⟨a, b⟩, .mk ak as an []⟩ := nr rfl
theorem zzeh {s ks c as : ByteArray} {f kk kn a b ak an : Int} : PV.agg [.scal (.string s), .scal (.int .i64 f), .scal (.int .i64 kk), .scal (.string ks), .scal (.int .i64 kn), .list .foreign [], .scal (.string c), .scal (.int .i64 a), .scal (.int .i64 b), .scal (.int .i64 ak), .scal (.string as), .scal (.int .i64 an), .list .foreign []] = encK ⟨s, f, .mk kk ks kn [], c, ⟨a, b⟩, .mk ak as an []⟩ := nr rfl
def encA (a : Au) : PV := .agg [.scal (.string a.user), .list .foreign (ints a.groups), .scal (.int .i64 a.origin), .list .foreign (strs a.transited), .scal (.string a.service), .scal (.bool a.fwd), .scal (.int .i64 a.to)]
theorem zzce (a : Au) : (encA a).cells = [.scal (.string a.user), .list .foreign (ints a.groups), .scal (.int .i64 a.origin), .list .foreign (strs a.transited), .scal (.string a.service), .scal (.bool a.fwd), .scal (.int .i64 a.to)] := nr rfl
theorem zzcf (a : Au) : (encA a).fg = encA a := by simp only [encA, PV.fg, fgL, zzfm, zzix]
theorem zzdx {u s : ByteArray} {o to : Int} {w : Bool} {g : List Int} {t : List ByteArray} : PV.agg [.scal (.string u), .list .foreign (ints g), .scal (.int .i64 o), .list .foreign (strs t), .scal (.string s), .scal (.bool w), .scal (.int .i64 to)] = encA ⟨u, g, o, t, s, w, to⟩ := nr rfl
theorem zzdy {u s : ByteArray} {o to : Int} {w : Bool} {t : List ByteArray} : PV.agg [.scal (.string u), .list .foreign [], .scal (.int .i64 o), .list .foreign (strs t), .scal (.string s), .scal (.bool w), .scal (.int .i64 to)] = encA ⟨u, [], o, t, s, w, to⟩ := nr rfl
theorem zzdz {u s : ByteArray} {o to : Int} {w : Bool} {g : List Int} : PV.agg [.scal (.string u), .list .foreign (ints g), .scal (.int .i64 o), .list .foreign [], .scal (.string s), .scal (.bool w), .scal (.int .i64 to)] = encA ⟨u, g, o, [], s, w, to⟩ := nr rfl
theorem zzea {u s : ByteArray} {o to : Int} {w : Bool} : PV.agg [.scal (.string u), .list .foreign [], .scal (.int .i64 o), .list .foreign [], .scal (.string s), .scal (.bool w), .scal (.int .i64 to)] = encA ⟨u, [], o, [], s, w, to⟩ := nr rfl
theorem fgL_app : ∀ a b : List PV, fgL (a ++ b) = fgL a ++ fgL b
  | [], b => by simp [fgL]
  | p :: a, b => by simp [fgL, fgL_app a b]
theorem zzds {off sz : Nat} (t : Term) : fldE false off sz (.v (enc t)) = evV (nth [.scal (.int .i64 t.k), .scal (.string t.s), .scal (.int .i64 t.n), .list .foreign (encL t.l)] off) := by rw [enc_eq]; rfl
/-- A heap like another one, but for one object. -/
def Upd (H : PH) (b : Nat) (o : PObj) (H' : PH) : Prop := ∀ x, H'.get x = if x = b then some o else H.get x
theorem Upd.refl {H : PH} {b : Nat} {o : PObj} (h : H.get b = some o) : Upd H b o H := fun x => by split <;> simp_all
theorem Upd.set (H : PH) (b : Nat) (o : PObj) : Upd H b o (H.set b o) := fun x => PH.get_set H b o x
theorem Upd.trans {H H' H2 : PH} {b : Nat} {o o' : PObj} (h : Upd H b o H') (k : Upd H' b o' H2) : Upd H b o' H2 := fun x => by
  rw [k x]; split
  · rfl
  · rename_i e; rw [h x, if_neg e]
theorem zzbh : ((0 : Nat) : Int) = 0 := nr rfl
theorem zzbi : ((1 : Nat) : Int) = 1 := nr rfl
theorem zzbj : ((2 : Nat) : Int) = 2 := nr rfl
theorem zzbk : ((3 : Nat) : Int) = 3 := nr rfl
theorem zzbl : ((4 : Nat) : Int) = 4 := nr rfl
theorem zzbm : ((5 : Nat) : Int) = 5 := nr rfl
theorem zzbn : ((6 : Nat) : Int) = 6 := nr rfl
theorem zzbo : ((7 : Nat) : Int) = 7 := nr rfl
theorem zzbp : ((8 : Nat) : Int) = 8 := nr rfl
theorem zzjd (n : Nat) : (((n + 1 : Nat) : Int) == 0) = false := by rw [beq_eq_false_iff_ne]; omega
theorem zzje (n : Nat) : decide (0 < ((n + 1 : Nat) : Int)) = true := decide_eq_true (by omega)
theorem and_f (a : Bool) : (a && false) = false := by cases a <;> rfl
end Go.Pv

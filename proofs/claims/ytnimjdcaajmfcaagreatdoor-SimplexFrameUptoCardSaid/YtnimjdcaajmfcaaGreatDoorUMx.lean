/- A text of the prover's own. -/
import Derived.Test.YtnimjdcaajmfcaaGreatDoorUMt
namespace Go.Mx
open Go Go.Sv Go.Pl Go.Proofs Go.Tb Go.Ut
def vw (w i:Nat):SV:=.view (i+1) 0 w
def outV (w:Nat) (π:List Nat):List SV:=π.map (vw w)
def rwT (C:List (List Rat)):Tab:=C.map fun r=>some ⟨4,r.map rsv,false⟩
@[simp] theorem rwT_len (C:List (List Rat)):(rwT C).length=C.length:=by simp [rwT]
theorem nouse_rwT (k:Nat) (C:List (List Rat)):nouse k (rwT C)=true:=by
 simp [nouse,rwT]
theorem nouse_app2 (k:Nat) (A B:Tab):nouse k (A++B)=(nouse k A&&nouse k B):=by simp [nouse]
theorem tget_ap {A B:Tab} {i:Nat} (h:i<A.length):tget (A++B) i=tget A i:=by
 induction A generalizing i with
 | nil=>simp at h
 | cons x A ih=>cases i with
  | zero=>rfl
  | succ i=>simpa [tget] using ih (by simpa using h)
theorem tget_ap2 {A B:Tab} {i n:Nat} (h:A.length=n):tget (A++B) (n+i)=tget B i:=by
 subst h
 induction A with
 | nil=>simp
 | cons x A ih=>simp only [List.cons_append,List.length_cons,show A.length+1+i=A.length+i+1 by omega,tget];exact ih
theorem tset_ap2 {A B:Tab} {i n:Nat} {y:Option Ent} (h:A.length=n):tset (A++B) (n+i) y=A++tset B i y:=by
 subst h
 rw [tset_eq,tset_eq,List.set_append_right _ _ (by omega)]
 simp
theorem tget_rw {C:List (List Rat)} {tl:Tab} {e:Nat} (h:e<C.length):tget (rwT C++tl) e=some ⟨4,(gt C e).map rsv,false⟩:=by
 rw [tget_ap (by simpa using h)]
 unfold rwT
 induction C generalizing e with
 | nil=>simp at h
 | cons x C ih=>cases e with
  | zero=>rfl
  | succ e=>simpa [tget,gt] using ih (by simpa using h)
theorem tset_rw {C:List (List Rat)} {tl:Tab} {e:Nat} {r:List Rat} (h:e<C.length):tset (rwT C++tl) e (some ⟨4,r.map rsv,false⟩)=rwT (C.set e r)++tl:=by
 rw [tset_eq,List.set_append_left _ _ (by simpa using h)]
 unfold rwT
 rw [List.map_set]
theorem leM_ap (A:Tab) {B B':Tab} (h:leM B B'):leM (A++B) (A++B'):=by
 induction A with
 | nil=>exact h
 | cons x A ih=>simpa [leM] using ih
structure Rep (n:Nat) (π:List Nat) (C:List (List Rat)) (f:Nat→List Rat):Prop where
 lp:π.length=n
 lc:C.length=n
 b:∀i,i<n→gt π i<n
 inj:∀i j,i<n→j<n→gt π i=gt π j→i=j
 e:∀i,i<n→gt C (gt π i)=f i
def outI (w n i:Nat):List SV:=(List.range n).map fun j=>if j<i then vw w j else .ro []
@[simp] theorem outI_len (w n i:Nat):(outI w n i).length=n:=by simp [outI]
theorem ltM_rwT (k:Nat) (C:List (List Rat)):ltM k (rwT C):=by
 unfold rwT
 induction C with
 | nil=>trivial
 | cons x C ih=>exact ⟨by simp,ih⟩
theorem ltM_ap {k:Nat} {A B:Tab} (h:ltM k A) (h':ltM k B):ltM k (A++B):=by
 induction A with
 | nil=>exact h'
 | cons x A ih=>cases x with
  | none=>exact ih h
  | some e=>exact ⟨h.1,ih h.2⟩
def divP (r:List Rat) (c j:Nat):List Rat:=(List.range r.length).map fun x=>if x<j then gt r x / gt r c else gt r x
@[simp] theorem divP_len (r:List Rat) (c j:Nat):(divP r c j).length=r.length:=by simp [divP]
theorem tgA {n:Nat} {R:List (List Rat)} {tl:Tab} (h:R.length=n):tget (rwT R++tl) n=tget tl 0:=tget_ap2 (i:=0) (by simpa using h)
theorem tgB {n:Nat} {R:List (List Rat)} {tl:Tab} (h:R.length=n):tget (rwT R++tl) (n+1)=tget tl 1:=tget_ap2 (i:=1) (by simpa using h)
theorem tsA {n:Nat} {R:List (List Rat)} {tl:Tab} {y:Option Ent} (h:R.length=n):tset (rwT R++tl) n y=rwT R++tset tl 0 y:=tset_ap2 (i:=0) (by simpa using h)
theorem tsB {n:Nat} {R:List (List Rat)} {tl:Tab} {y:Option Ent} (h:R.length=n):tset (rwT R++tl) (n+1) y=rwT R++tset tl 1 y:=tset_ap2 (i:=1) (by simpa using h)
theorem tgC {n:Nat} {R:List (List Rat)} {tl:Tab} (h:R.length=n):tget (rwT R++tl) (n+2)=tget tl 2:=tget_ap2 (i:=2) (by simpa using h)
theorem renL_r (σ:Nat→Nat) (l:List Rat):renL σ (l.map rsv)=l.map rsv:=renL_pure σ _ (by simp)
/-! the end: all rows are frozen -/
theorem leM_idx:∀{M M':Tab},M'.length≤M.length→(∀k,k<M'.length→M'[k]?=some none∨M[k]?=M'[k]?)→leM M M'
 | M,[],_,_=>by cases M<;>trivial
 | [],y::M',h,_=>by simp at h
 | x::M,y::M',h,g=>by
  refine ⟨?_,leM_idx (by simpa using h) fun k hk=>by simpa using g (k+1) (by simpa using hk)⟩
  simpa using g 0 (by simp)
def outF (w:Nat) (R:List (List Rat)) (j:Nat) (π:List Nat):List SV:=π.map fun e=>if e<j then .ro ((gt R e).map rsv) else vw w e
def rwN (R:List (List Rat)) (j:Nat):Tab:=(List.range R.length).map fun e=>if e<j then none else some ⟨4,(gt R e).map rsv,false⟩
theorem outF_zero (w:Nat) (R:List (List Rat)) (π:List Nat):outF w R 0 π=outV w π:=by simp [outF,outV]
theorem rwN_zero (R:List (List Rat)):rwN R 0=rwT R:=by
 unfold rwN rwT
 refine List.ext_getElem (by simp) fun j h1 h2=>?_
 simp at h1
 simp [gt_get h1]
theorem sbL_map {k:Nat} {es:List SV} {α:Type} (f:α→SV) (l:List α):sbL k es (l.map f)=l.map fun x=>sbV k es (f x):=by
 induction l with
 | nil=>rfl
 | cons x l ih=>simp [ih]
theorem outF_next {w j:Nat} {R:List (List Rat)} {π:List Nat} (h:∀e∈π,(gt R e).length=w):sbL (j+1) ((gt R j).map rsv) (outF w R j π)=outF w R (j+1) π:=by
 unfold outF
 rw [sbL_map]
 refine List.map_congr_left fun e he=>?_
 have hw:=h e he
 by_cases e1:e<j
 ·rw [if_pos e1,if_pos (by omega)];simp
 ·rw [if_neg e1]
  unfold vw
  by_cases e2:e=j
  ·subst e2
   rw [if_pos (by omega)]
   simp [hw,List.take_of_length_le]
  ·rw [if_neg (by omega)]
   simp [e2]
theorem tget_of:∀{M:Tab} {k:Nat} {x:Option Ent},M[k]?=some x→tget M k=x
 | [],k,x,h=>by simp at h
 | y::M,0,x,h=>by simpa [tget] using h
 | y::M,k+1,x,h=>by simpa [tget] using tget_of (M:=M) (k:=k) (by simpa using h)
theorem rwN_at {R:List (List Rat)} {j k:Nat} (h:k<R.length):(rwN R j)[k]?=some (if k<j then none else some ⟨4,(gt R k).map rsv,false⟩):=by
 simp [rwN,h]
@[simp] theorem rwN_len (R:List (List Rat)) (j:Nat):(rwN R j).length=R.length:=by simp [rwN]
end Go.Mx
namespace Go.Mx
open Go Go.Sv Go.Pl Go.Proofs Go.Tb Go.Ut
theorem sbM_app {k:Nat} {es:List SV} (A B:Tab):sbM k es (A++B)=sbM k es A++sbM k es B:=by simp [sbM]
theorem leM_app2:∀{A A' B B':Tab},A.length=A'.length→leM A A'→leM B B'→leM (A++B) (A'++B')
 | [],[],_,_,_,_,h=>h
 | [],_::_,_,_,e,_,_=>by simp at e
 | _::_,[],_,_,e,_,_=>by simp at e
 | _::_,_::_,_,_,e,h,h'=>⟨h.1,leM_app2 (by simpa using e) h.2 h'⟩
theorem nlM_app (A B:Tab):nlM (A++B)=nlM A++nlM B:=by simp [nlM]
theorem nlL_r (x:List Rat):nlL (x.map rsv)=x.map rsv:=by
 induction x with
 | nil=>rfl
 | cons y x ih=>simp only [List.map_cons,nlL,ih];congr 1
theorem nlM_rwT (C:List (List Rat)):nlM (rwT C)=rwT C:=by
 unfold rwT nlM
 rw [List.map_map]
 refine List.map_congr_left fun r _=>?_
 simp [nlL_r]
theorem fgtM_app (k:Nat) (A B:Tab):fgtM k (A++B)=fgtM k A++fgtM k B:=by simp [fgtM]
theorem usesL_r (k:Nat) (x:List Rat):SV.usesL k (x.map rsv)=false:=by
 rw [usesL_map,List.any_eq_false];simp
theorem fgtM_rwT (k:Nat) (C:List (List Rat)):fgtM k (rwT C)=rwT C:=by
 unfold rwT fgtM
 rw [List.map_map]
 refine List.map_congr_left fun r _=>?_
 simp [usesL_r]
theorem frz_rowT {C:Ctx} {N w n j:Nat} {R:List (List Rat)} {π:List Nat} {fr:List (Nat × SV)} {tl:Tab} (hR:R.length=n) (hj:j<n) (h:∀e∈π,(gt R e).length=w) (hf:sbF (j+1) ((gt R j).map rsv) fr=fr) (hF:leF fr fr) (ht:sbM (j+1) ((gt R j).map rsv) tl=tl) :
  Le C ⟨N,fr,some ⟨1,outF w R j π,false⟩::(rwN R j++tl)⟩ ⟨N,fr,some ⟨1,outF w R (j+1) π,false⟩::(rwN R (j+1)++tl)⟩:=by
 have hk:tget (some ⟨1,outF w R j π,false⟩::(rwN R j++tl)) (j+1)=some ⟨4,(gt R j).map rsv,false⟩:=by
  show tget (rwN R j++tl) j=_
  rw [tget_ap (by simp;omega)]
  refine tget_of ?_
  rw [rwN_at (by omega),if_neg (by omega)]
 refine (Le.frz (j+1) hk (by simp)).trans (Le.syn ?_)
 unfold frzS
 simp only [hk]
 rw [hf]
 refine ⟨rfl,hF,?_,.inl ?_⟩
 ·simp only [tset]
  rw [sbM_some,outF_next h,tset_eq,List.set_append_left _ _ (by simp;omega),sbM_app,ht]
  refine ⟨.inr rfl,leM_app2 (by simp [sbM]) (leM_idx ?_ fun k hk=>?_) (leM_self _)⟩
  ·simp [sbM]
  ·have hk:k<R.length:=by simpa using hk
   rw [rwN_at hk]
   by_cases e1:k<j+1
   ·rw [if_pos e1];exact .inl rfl
   ·rw [if_neg e1]
    right
    rw [sbM,List.getElem?_map,List.getElem?_set_ne (by omega),rwN_at hk,if_neg (by omega)]
    simp [sbL_map,sbV_rsv]
 ·simp [sbM,tset_eq,tset]
theorem frz_rowsT {C:Ctx} {N w n:Nat} {R:List (List Rat)} {π:List Nat} {fr:List (Nat × SV)} {tl:Tab} (hR:R.length=n) (h:∀e∈π,(gt R e).length=w) (hf:∀j es,j<n→sbF (j+1) es fr=fr) (hF:leF fr fr) (ht:∀j es,j<n→sbM (j+1) es tl=tl) :
  ∀j,j≤n→Le C ⟨N,fr,some ⟨1,outV w π,false⟩::(rwT R++tl)⟩ ⟨N,fr,some ⟨1,outF w R j π,false⟩::(rwN R j++tl)⟩
 | 0,_=>by rw [outF_zero,rwN_zero];exact Le.refl _ _
 | j+1,hj=>(frz_rowsT hR h hf hF ht j (by omega)).trans (frz_rowT hR (by omega) h (hf j _ (by omega)) hF (ht j _ (by omega)))
theorem lget_nat {l:List Nat} {i:Nat} (h:i<l.length):lget (l.map natV) i=iv ((gt l i:Nat):Int):=by rw [lget_m _ h];rfl
theorem lset_nat {l:List Nat} {i x:Nat}:lset (l.map natV) i (.val (.int .i64 ((x:Nat):Int)))=(l.set i x).map natV:=by rw [lset_eq,List.map_set];rfl
theorem lset_rat {l:List Rat} {i:Nat} {x:Rat}:lset (l.map rsv) i (rsv x)=(l.set i x).map rsv:=by rw [lset_eq,List.map_set]
theorem tsC {n:Nat} {R:List (List Rat)} {tl:Tab} {y:Option Ent} (h:R.length=n):tset (rwT R++tl) (n+2) y=rwT R++tset tl 2 y:=tset_ap2 (i:=2) (by simpa using h)
end Go.Mx
namespace Go.Proofs
open Go.Sv Go Go.Tb Go.Pl Go.Ut Go.Mx
end Go.Proofs
namespace Go.Mx
open Go Go.Sv Go.Pl Go.Proofs Go.Tb Go.Ut
end Go.Mx
namespace Go.Proofs
open Go.Sv Go Go.Tb Go.Pl Go.Ut Go.Mx
end Go.Proofs


/- A text of the prover's own. -/
import Derived.Test.YtmghjkkjaolpgaaGreatDoorUKb
open List renaming mem_take_iff_getElem→aoQ,getElem_map→aoR,take_of_length_le→anE,drop_length→aoS,range→amP,take→aoM
open Nat renaming lt_or_ge→amz
set_option maxRecDepth 10000
namespace Go.Li
open Go Go.Sv Go.Pl Go.Proofs Go.Tb Go.Ut
/-! names -/
def e0:ByteArray:=⟨#[]⟩
def lT(l:List ByteArray):Bool:=decide (¬l.Nodup)||l.any fun x=>decide (x=e0)
theorem C3{l:List ByteArray}:(l.any fun x=>decide (x=e0))=true↔e0∈l:=by simp
theorem mr{l:List ByteArray}{i:Nat}{x:ByteArray}(hi:i≤l.length):x∉l.take i↔∀k,k<i→x≠gt l k:=by
 constructor
 ·intro h k hk e;refine h ?_;rw[e,←bR (show k<l.length by omega)];exact aoQ.2 ⟨k,by omega,rfl⟩
 ·intro h hx;obtain⟨k,hk,e⟩:=aoQ.1 hx;have hk':k<l.length:=by omega
  rw[bR hk']at e;exact h k (by omega) e.symm
theorem my{l:List ByteArray}{i:Nat}(hi:i<l.length):(l.take (i+1)).Nodup↔(l.take i).Nodup∧gt l i∉l.take i:=by
 rw[fP hi,List.nodup_append];simp only[List.nodup_cons,List.not_mem_nil,not_false_eq_true,List.nodup_nil,and_self,List.mem_cons,or_false,forall_eq,true_and];constructor
 ·rintro⟨h1,h2⟩;exact⟨h1,fun h=>h2 _ h rfl⟩
 ·rintro⟨h1,h2⟩;exact⟨h1,fun a ha e=>h2 (e ▸ ha)⟩
theorem og{l:List ByteArray}{i:Nat}(hi:i<l.length){x:ByteArray}:x∈l.take (i+1)↔x∈l.take i∨x=gt l i:=by
 rw[fP hi];simp
theorem Ek{l:List ByteArray}(h:l.Nodup)(h':e0∉l):lT l=false:=by
 have:(l.any fun x=>decide (x=e0))=false:=Bool.eq_false_iff.2 fun e=>h' (C3.1 e);unfold lT;rw[this];simp[h]
theorem AR{l:List ByteArray}{i k:Nat}(hi:i<l.length)(hk:k<i)(h:gt l i=gt l k):lT l=true:=by
 have:¬l.Nodup:=fun hn=>by
  have h1:=(List.take_sublist (i+1) l).nodup hn;exact((mr (by omega)).1 ((my hi).1 h1).2) k hk h
 simp[lT,this]
theorem GM{l:List ByteArray}{i:Nat}(hi:i<l.length)(h:gt l i=e0):lT l=true:=by
 have:e0∈l:=by rw[←h];exact dr hi
 unfold lT;rw[C3.2 this];simp
/-! how often names stand in a list -/
def iV(s:ByteArray):List (ByteArray × Nat)→List (ByteArray × Nat)
 | []=>[(s,1)]
 | (t,n)::m=>if s=t then(t,n+1)::m else(t,n)::iV s m
def jW(s:ByteArray):List (ByteArray × Nat)→Nat
 | []=>0
 | (t,n)::m=>if s=t then n else jW s m
def gL(s:ByteArray):List (ByteArray × Nat)→Option Nat
 | []=>none
 | (t,_)::m=>if s=t then some 0 else(gL s m).map (·+1)
def o0(e:ByteArray × Nat):SV:=.bG [.val (.string e.1),.val (.int .i64 e.2)]
@[simp] theorem Yk(k:Nat)(e:ByteArray × Nat):(o0 e).lt k=true:=rfl
theorem se(s:ByteArray):∀(m:List (ByteArray × Nat)) (i:Nat),fo (.string s) (m.map o0) i=some ((gL s m).map fun j=>(i+j,.val (.int .i64 (jW s m))))
 | [],i=>rfl
 | (t,n)::m,i=>by
  simp only[List.map_cons,o0,CQ,Ky,Ml];by_cases h:s=t
  ·simp[h,gL,jW]
  ·simp only[h,decide_false,gL,if_false,jW];have:=se s m (i+1);simp only[this,Option.map_map];congr 2;funext j;simp only[Function.comp];congr 1;omega
theorem sj{s:ByteArray}:∀{m:List (ByteArray × Nat)},gL s m=none→iV s m=m++[(s,1)]∧jW s m=0
 | [],_=>⟨rfl,rfl⟩
 | (t,n)::m,h=>by
  by_cases e:s=t
  ·simp[gL,e]at h
  ·simp only[gL,e,if_false,Option.map_eq_none_iff]at h;obtain⟨h1,h2⟩:=sj h;simp[iV,jW,e,h1,h2]
theorem xx{s:ByteArray}:∀{m:List (ByteArray × Nat)} {j:Nat},gL s m=some j→iV s m=m.set j (s,jW s m+1)∧j<m.length
 | [],j,h=>by simp[gL]at h
 | (t,n)::m,j,h=>by
  by_cases e:s=t
  ·simp only[gL,e,if_true,Option.some.injEq]at h;subst h;simp[iV,jW,e]
  ·simp only[gL,e,if_false,Option.map_eq_some_iff]at h;obtain⟨j',h',rfl⟩:=h;obtain⟨h1,h2⟩:=xx h';simp[iV,jW,e,h1,h2]
def cm(l:List ByteArray):Nat→List (ByteArray × Nat)
 | 0=>[]
 | i+1=>iV (gt l i) (cm l i)
theorem DO{l:List ByteArray}{i:Nat}{s:ByteArray}(hs:gt l i=s)(h:gL s (cm l i)=none):(cm l i).map o0++[.bG [.val (.string s),.val (.int .i64 1)]]=(cm l (i+1)).map o0:=by
 show _=(iV (gt l i) (cm l i)).map o0;rw[hs,(sj h).1];simp[o0]
theorem Dw{l:List ByteArray}{i j:Nat}{s:ByteArray}(hs:gt l i=s)(h:gL s (cm l i)=some j):bD ((cm l i).map o0) j (.bG [.val (.string s),.val (.int .i64 ((jW s (cm l i):Nat)+1))])=(cm l (i+1)).map o0:=by
 show _=(iV (gt l i) (cm l i)).map o0;rw[hs,(xx h).1,cj,List.map_set];rfl
theorem z7{l:List ByteArray}{i:Nat}{s:ByteArray}(h:gL s (cm l i)=none):fo (.string s) ((cm l i).map o0) 0=some none:=by rw[se,h];rfl
theorem zk{l:List ByteArray}{i j:Nat}{s:ByteArray}(h:gL s (cm l i)=some j):fo (.string s) ((cm l i).map o0) 0=some (some (j,.val (.int .i64 (jW s (cm l i):Nat)))):=by rw[se,h];simp
theorem Lj{l:List ByteArray}{i:Nat}{s:ByteArray}{M:aJ}{a b:Nat}:Ka false M ⟨.int .i64,a,b,[.val (.int .i64 0)]⟩ (fo (.string s) ((cm l i).map o0) 0)=.m True M [] (some (.val (.int .i64 (jW s (cm l i):Nat)))):=by
 rcases h:gL s (cm l i)with _ | j
 ·rw[z7 h,(sj h).2];rfl
 ·rw[zk h];rfl
theorem wU{s:ByteArray}:∀{m:List (ByteArray × Nat)},(∀t,jW t (iV s m)=jW t m+if t=s then 1 else 0)∧(iV s m).length=m.length+if gL s m=none then 1 else 0
 | []=>by
  refine⟨fun t=>?_,by simp[iV,gL]⟩;by_cases h:t=s<;>simp[iV,jW,h]
 | (u,n)::m=>by
  obtain⟨h1,h2⟩:=wU (s:=s) (m:=m);by_cases e:s=u
  ·subst e;refine⟨fun t=>?_,by simp[iV,gL]⟩;by_cases h:t=s<;>simp[iV,jW,h]
  ·refine⟨fun t=>?_,by simp[iV,gL,e,h2];omega⟩;by_cases h:t=u
   ·subst h;simp[iV,jW,e,Ne.symm e]
   ·simp[iV,jW,e,h,h1]
theorem qV{l:List ByteArray}:∀i,i≤l.length→(∀t,0<jW t (cm l i)↔t∈l.take i)∧(∀t,jW t (cm l i)≤i)∧(∀t,gL t (cm l i)=none↔t∉l.take i)∧(cm l i).length≤i∧((cm l i).length=i↔(l.take i).Nodup)
 | 0,_=>by simp[cm,jW,gL]
 | i+1,hi=>by
  obtain⟨h1,h2,h3,h4,h5⟩:=qV (l:=l) i (by omega);obtain⟨g1,g2⟩:=wU (s:=gt l i) (m:=cm l i);have gi:∀(s t:ByteArray) (m:List (ByteArray × Nat)),gL t (iV s m)=none↔gL t m=none∧t≠s:=by
   intro s t m
   induction m with
   | nil =>
    by_cases h:t=s<;>simp[iV,gL,h]
   | cons a m ih =>
    obtain⟨u,n⟩:=a;by_cases e:s=u
    ·subst e;by_cases h:t=s<;>simp[iV,gL,h]
    ·by_cases h:t=u
     ·simp[iV,gL,e,h]
     ·simp[iV,gL,e,h,ih]
  refine⟨fun t=>?_,fun t=>?_,fun t=>?_,?_,?_⟩
  ·rw[og hi,←h1 t];show 0<jW t (iV _ _)↔_;rw[g1];split<;>simp_all
  ·show jW t (iV _ _)≤_;rw[g1];have:=h2 t;split<;>omega
  ·show gL t (iV _ _)=none↔_;rw[gi,og hi,h3];simp
  ·show(iV _ _).length≤_;rw[g2];split<;>omega
  ·show(iV _ _).length=_↔_;rw[g2,my hi,←h3,←h5];by_cases h:gL (gt l i) (cm l i)=none
   ·simp[h]
   ·simp[h];omega
theorem Ei{l:List ByteArray}:(decide ((cm l l.length).length<l.length)||decide (0<jW e0 (cm l l.length)))=lT l:=by
 obtain⟨h1,h2,h3,h4,h5⟩:=qV (l:=l) l.length (by omega);rw[List.take_length]at h1 h3 h5;unfold lT;congr 1
 ·refine decide_eq_decide.2 ⟨fun h hn=>?_,fun h=>?_⟩
  ·have:=h5.2 hn;omega
  ·rcases amz (cm l l.length).length l.length with h' | h'
   ·exact h'
   ·exact absurd (h5.1 (by omega)) h
 ·rw[Bool.eq_iff_iff,C3,decide_eq_true_iff];exact h1 e0
/-! rows -/
def fB(n:Nat):Int→List Term→Bool
 | _,[]=>false
 | last,t::ts=>decide (t.aq≤last)||decide ((n:Int)≤t.aq)||decide (t.num=0)||fB n t.aq ts
theorem ye{n:Nat}{ts:List Term}{k:Nat}{c:Int}(h:k<ts.length):fB n c (ts.drop k)=(decide ((gt ts k).aq≤c)||decide ((n:Int)≤(gt ts k).aq)||decide ((gt ts k).num=0)||fB n (gt ts k).aq (ts.drop (k+1))):=by
 rw[LS h];rfl
def C2(p:aO):Bool:=p.rows.any fun r=>fB p.aa.length (-1) r.ab
def mJ(p:aO):List ByteArray:=p.aa.map (·.name)
def dG(p:aO):List ByteArray:=p.rows.map (·.name)
theorem Cg(p:aO):(mJ p).length=p.aa.length:=by simp[mJ]
theorem Aj(p:aO):(dG p).length=p.rows.length:=by simp[dG]
theorem rN{p:aO}{i:Nat}(h:i<p.aa.length):gt (mJ p) i=(gt p.aa i).name:=by
 unfold mJ;rw[←bR (by simpa using h),aoR,bR h]
theorem rI{p:aO}{i:Nat}(h:i<p.rows.length):gt (dG p) i=(gt p.rows i).name:=by
 unfold dG;rw[←bR (by simpa using h),aoR,bR h]
noncomputable def db(p:aO):Nat :=
 if 120<p.aa.length∨120<p.rows.length then 2 else if(lT (mJ p)||lT (dG p))=true then 7 else if C2 p=true then 4 else 0
theorem uH{p:aO}(h:120<p.aa.length∨120<p.rows.length):db p=2:=by unfold db;rw[if_pos h]
theorem qR{p:aO}(h:¬(120<p.aa.length∨120<p.rows.length))(h':lT (mJ p)=true∨lT (dG p)=true):db p=7:=by
 unfold db;rw[if_neg h,if_pos (by simpa using h')]
theorem DG{p:aO}(h:¬(120<p.aa.length∨120<p.rows.length))(h1:lT (mJ p)=false)(h2:lT (dG p)=false)(h':C2 p=true):db p=4:=by
 unfold db;rw[if_neg h,if_neg (by simp[h1,h2]),if_pos h']
theorem D2{p:aO}(h:¬(120<p.aa.length∨120<p.rows.length))(h1:lT (mJ p)=false)(h2:lT (dG p)=false)(h':C2 p=false):db p=0:=by
 unfold db;rw[if_neg h,if_neg (by simp[h1,h2]),if_neg (by simp[h'])]
theorem zD{p:aO}{i:Nat}(hi:i<p.rows.length)(h:fB p.aa.length (-1) (gt p.rows i).ab=true):C2 p=true:=by
 unfold C2;rw[List.any_eq_true];exact⟨_,dr hi,h⟩
theorem DK{p:aO}(h:∀i,i<p.rows.length→fB p.aa.length (-1) (gt p.rows i).ab=false):C2 p=false:=by
 unfold C2;rw[List.any_eq_false];intro r hr;obtain⟨i,hi,rfl⟩:=List.getElem_of_mem hr;rw[bR hi,h i hi];simp
end Go.Li
namespace Go.Proofs
open Go.Sv Go Go.Tb Go.Pl Go.Ut Go.Li
structure OA(p:aO):Prop where
 nc:p.aa.length≤1048576
 nr:p.rows.length≤1048576
 nt:∀i,i<p.rows.length→(gt p.rows i).ab.length≤1048576
theorem xH{r:Row}{k:Nat}(h:k<r.ab.length):aA (r.ab.map fun t=>SV.val (.int .i64 t.aq)) k=.val (.int .i64 (gt r.ab k).aq):=eZ (fun t:Term=>SV.val (.int .i64 t.aq)) h
theorem yt{r:Row}{k:Nat}(h:k<r.ab.length):aA (r.ab.map fun t=>cC t.num) k=cC (gt r.ab k).num:=eZ (fun t:Term=>cC t.num) h
theorem Fl(p:aO)(h:OA p):aI Tryz.prog 8 [eQ p] (.val (.int .i64 (db p:Nat))):=by
 have nc:=h.nc;have nr:=h.nr;have lc:=Cg p;have lr:=Aj p;refine aj Tryz.func8 rfl (by simp) (fun C hC=>?_);simp
 repeat' (apply And.intro<;>intro _)
 ·have e:=uH (p:=p) (.inr (by omega));simp[e]
 ·have h2:¬(120<p.aa.length∨120<p.rows.length):=by omega
  refine ae.cq (ι:=Nat) (fun i=>⟨138,[(1,.ptr 0 0 0),(3,iv i)],[some ⟨7,[eQ p],false⟩]⟩)
   (fun i=>i≤p.aa.length∧((mJ p).take i).Nodup∧e0∉(mJ p).take i) (fun i=>p.aa.length - i) 0 (by simp) ?_ ?_
  ·simp[ar,hC]
  ·rintro i ⟨hi,hd,he⟩;by_cases aF:i<p.aa.length
   ·simp(disch:=omega)[aF];repeat refine alR ?_
    refine ae.cq (ι:=Nat) (fun k=>⟨138,[(1,.ptr 0 0 0),(3,iv i),(4,iv k)],[some ⟨7,[eQ p],false⟩]⟩)
     (fun k=>k≤i∧∀k',k'<k→gt (mJ p) i≠gt (mJ p) k') (fun k=>i - k) 0 (by simp) ?_ ?_
    ·simp[ar,hC]
    ·rintro k ⟨hk,hn⟩;by_cases hki:k<i
     ·simp(disch:=omega)[hki];repeat refine alR ?_
      refine ae.alS (.qs [0,1,2,3,4,5,6,7,8,9,10,11,12]<|.nil) ?_;have hkl:k<p.aa.length:=by omega
      simp(disch:=omega)[oW,aP];repeat refine alR ?_
      rw[←rN aF,←rN hkl];refine⟨fun q=>?_,fun q=>⟨k+1,⟨by omega,fun k' hk'=>?_⟩,by omega,Le.ct (by simp(disch:=omega)[ar,hC,aP])⟩⟩
      ·simp[qR h2 (.inl (AR (by omega) hki q))]
      ·rcases amz k' k with h' | h'
       ·exact hn k' h'
       ·obtain rfl:k'=k:=by omega
        exact q
     ·obtain rfl:k=i:=by omega
      simp(disch:=omega)[oW,aP,aF];repeat refine alR ?_
      rw[←rN aF];refine⟨fun q=>?_,fun q=>⟨k+1,⟨by omega,(my (by omega)).2 ⟨hd,(mr (by omega)).2 hn⟩,fun hm=>?_⟩,by omega,Le.ct (by simp(disch:=omega)[ar,hC,aP])⟩⟩
      ·simp[qR h2 (.inl (GM (by omega) q))]
      ·rcases(og (by omega)).1 hm with h' | h'
       ·exact he h'
       ·exact q h'.symm
   ·obtain rfl:i=p.aa.length:=by omega
    rw[anE (by omega)]at hd he;have hbc:=Ek hd he;simp;refine ae.cq (ι:=Nat) (fun i=>⟨138,[(1,.ptr 0 0 0),(5,iv i)],[some ⟨7,[eQ p],false⟩]⟩)
     (fun i=>i≤p.rows.length∧((dG p).take i).Nodup∧e0∉(dG p).take i) (fun i=>p.rows.length - i) 0 (by simp) ?_ ?_
    ·simp[ar,hC]
    ·rintro i ⟨hi,hd,he⟩;by_cases aF:i<p.rows.length
     ·simp(disch:=omega)[aF];repeat refine alR ?_
      refine ae.cq (ι:=Nat) (fun k=>⟨138,[(1,.ptr 0 0 0),(5,iv i),(6,iv k)],[some ⟨7,[eQ p],false⟩]⟩)
       (fun k=>k≤i∧∀k',k'<k→gt (dG p) i≠gt (dG p) k') (fun k=>i - k) 0 (by simp) ?_ ?_
      ·simp[ar,hC]
      ·rintro k ⟨hk,hn⟩;by_cases hki:k<i
       ·simp(disch:=omega)[hki];repeat refine alR ?_
        refine ae.alS (.qs [0,1,2,3,4,5,6,7,8,9,10,11,12]<|.nil) ?_;have hkl:k<p.rows.length:=by omega
        simp(disch:=omega)[j3,aP];repeat refine alR ?_
        rw[←rI aF,←rI hkl];refine⟨fun q=>?_,fun q=>⟨k+1,⟨by omega,fun k' hk'=>?_⟩,by omega,Le.ct (by simp(disch:=omega)[ar,hC,aP])⟩⟩
        ·simp[qR h2 (.inr (AR (by omega) hki q))]
        ·rcases amz k' k with h' | h'
         ·exact hn k' h'
         ·obtain rfl:k'=k:=by omega
          exact q
       ·obtain rfl:k=i:=by omega
        simp(disch:=omega)[j3,aP,aF];repeat refine alR ?_
        rw[←rI aF];refine⟨fun q=>?_,fun q=>⟨k+1,⟨by omega,(my (by omega)).2 ⟨hd,(mr (by omega)).2 hn⟩,fun hm=>?_⟩,by omega,Le.ct (by simp(disch:=omega)[ar,hC,aP])⟩⟩
        ·simp[qR h2 (.inr (GM (by omega) q))]
        ·rcases(og (by omega)).1 hm with h' | h'
         ·exact he h'
         ·exact q h'.symm
     ·obtain rfl:i=p.rows.length:=by omega
      rw[anE (by omega)]at hd he;have hbr:=Ek hd he;simp;refine ae.cq (ι:=Nat) (fun i=>⟨138,[(1,.ptr 0 0 0),(7,iv i)],[some ⟨7,[eQ p],false⟩]⟩)
       (fun i=>i≤p.rows.length∧∀i',i'<i→fB p.aa.length (-1) (gt p.rows i').ab=false) (fun i=>p.rows.length - i) 0 (by simp) ?_ ?_
      ·simp[ar,hC]
      ·rintro i ⟨hi,hb⟩;by_cases aF:i<p.rows.length
       ·have nt:=h.nt i aF;simp(disch:=omega)[aF];repeat refine alR ?_
        refine ae.cq (ι:=Nat × Int) (fun⟨k,c⟩=>⟨138,[(1,.ptr 0 0 0),(7,iv i),(8,iv c),(9,iv k)],[some ⟨7,[eQ p],false⟩]⟩)
         (fun⟨k,c⟩=>k≤(gt p.rows i).ab.length∧fB p.aa.length c ((gt p.rows i).ab.drop k)=fB p.aa.length (-1) (gt p.rows i).ab) (fun⟨k,c⟩=>(gt p.rows i).ab.length - k) (0, -1) (by simp) ?_ ?_
        ·simp[ar,hC]
        ·rintro⟨k,c⟩ ⟨hk,hc⟩;by_cases hkl:k<(gt p.rows i).ab.length
         ·rw[ye hkl]at hc;simp(disch:=omega)[j3,hkl,xH,yt];repeat refine alR ?_
          refine alT (aeF (gt (gt p.rows i).ab k).num) ?_;simp(disch:=omega)[aP];repeat refine alR ?_
          have v4:fB p.aa.length (-1) (gt p.rows i).ab=true→(4:Int)=(db p:Nat):=fun e=>by rw[DG h2 hbc hbr (zD aF e)];rfl
          refine⟨fun q1=>⟨fun q2=>⟨fun q3=>v4 (by rw[←hc];simp[q3]),fun q3=>?_⟩,fun q2=>v4 (by rw[←hc];simp[q2])⟩,fun q1=>v4 (by rw[←hc];simp[q1])⟩;refine⟨k+1,(gt (gt p.rows i).ab k).aq,⟨by omega,?_⟩,by omega,Le.ct (by simp(disch:=omega)[ar,hC,aP])⟩;rw[←hc];simp[q3,show ¬(gt (gt p.rows i).ab k).aq≤c by omega,show ¬(p.aa.length:Int)≤(gt (gt p.rows i).ab k).aq by omega]
         ·obtain rfl:k=(gt p.rows i).ab.length:=by omega
          rw[aoS]at hc;simp(disch:=omega)[j3];repeat refine alR ?_
          refine⟨i+1,⟨by omega,fun i' hi'=>?_⟩,by omega,Le.ct (by simp(disch:=omega)[ar,hC,aP])⟩;rcases amz i' i with h' | h'
          ·exact hb i' h'
          ·obtain rfl:i'=i:=by omega
           exact hc.symm
       ·obtain rfl:i=p.rows.length:=by omega
        simp[D2 h2 hbc hbr (DK hb)]
 ·have e:=uH (p:=p) (.inl (by omega));simp[e]
end Go.Proofs
namespace Go.Proofs
open Go.Sv Go Go.Tb Go.Pl Go.Ut Go.Li
theorem pz{r:Row}{k:Nat}(h:k<r.ab.length):aA (r.ab.map aT) k=aT (gt r.ab k):=eZ aT h
theorem EX(p:aO)(h:OA p):aI Tryz.prog 28 [.bU (cz p) 0] (EL (db p)):=by
 have nc:=h.nc;have nr:=h.nr;have lc:=Cg p;have lr:=Aj p;refine aj Tryz.func28 rfl (by simp) (fun C hC=>?_);simp
 repeat' (apply And.intro<;>intro _)
 ·rw[uH (p:=p) (.inr (by omega)),My]
 ·have h2:¬(120<p.aa.length∨120<p.rows.length):=by omega
  refine ae.cq (ι:=Nat) (fun i=>⟨134,[(0,.bU (cz p) 0),(3,.mp 0),(4,.mp 1),(37,.ro (p.aa.map bS)),(38,iv p.aa.length),(39,iv i)],[some ⟨0,(cm (mJ p) i).map o0,false⟩,some ⟨0,[],false⟩]⟩)
   (fun i=>i≤p.aa.length) (fun i=>p.aa.length - i) 0 (by simp) ?_ ?_
  ·simp[ar,hC,cm]
  ·rintro i hi;by_cases aF:i<p.aa.length
   ·obtain⟨f1,f2,f3,f4,f5⟩:=qV (l:=mJ p) i (by omega);have g:=f2 (gt p.aa i).name;rcases hq:gL (gt p.aa i).name (cm (mJ p) i)with _ | j
    ·simp(disch:=omega)[aF,cX,z7 hq];repeat refine alR ?_
     exact⟨i+1,by omega,by omega,Le.ct (by simp(disch:=omega)[ar,hC,aP,DO (rN aF) hq])⟩
    ·simp(disch:=omega)[aF,cX,zk hq];repeat refine alR ?_
     exact⟨i+1,by omega,by omega,Le.ct (by simp(disch:=omega)[ar,hC,aP,Dw (rN aF) hq])⟩
   ·obtain rfl:i=p.aa.length:=by omega
    simp;repeat refine alR ?_
    refine ae.cq (ι:=Nat) (fun i=>⟨134,[(0,.bU (cz p) 0),(3,.mp 0),(4,.mp 1),(52,.ro (p.rows.map bE)),(53,iv p.rows.length),(54,iv i)],[some ⟨0,(cm (mJ p) p.aa.length).map o0,false⟩,some ⟨0,(cm (dG p) i).map o0,false⟩]⟩)
     (fun i=>i≤p.rows.length) (fun i=>p.rows.length - i) 0 (by simp) ?_ ?_
    ·simp[ar,hC,cm]
    ·rintro i hi;by_cases aF:i<p.rows.length
     ·obtain⟨f1,f2,f3,f4,f5⟩:=qV (l:=dG p) i (by omega);have g:=f2 (gt p.rows i).name;rcases hq:gL (gt p.rows i).name (cm (dG p) i)with _ | j
      ·simp(disch:=omega)[aF,dX,z7 hq];repeat refine alR ?_
       exact⟨i+1,by omega,by omega,Le.ct (by simp(disch:=omega)[ar,hC,aP,DO (rI aF) hq])⟩
      ·simp(disch:=omega)[aF,dX,zk hq];repeat refine alR ?_
       exact⟨i+1,by omega,by omega,Le.ct (by simp(disch:=omega)[ar,hC,aP,Dw (rI aF) hq])⟩
     ·obtain rfl:i=p.rows.length:=by omega
      have bc:=Ei (l:=mJ p);have br:=Ei (l:=dG p);rw[lc]at bc;rw[lr]at br;have v7:lT (mJ p)=true∨lT (dG p)=true→EL (db p)=.fp eM 2:=fun h7=>by rw[qR h2 h7,V4]
      simp;repeat refine alR ?_
      refine ae.alS (.qs [0,2,3,4,5,6]<|.l 1 []<|.qs [7,8,9,11,12,13,14,15]<|.l 10 []<|.qs [16,17,18,19]<|.l 20 []<|.qs [21,22,23,24]<|.l 25 []<|.qs [26,27]<|.nil) ?_;simp[Lj];refine⟨fun q1=>⟨fun q2=>⟨fun q3=>⟨fun q4=>v7 (.inr (by rw[←br];simp[e0,q4])),fun q4=>?_⟩,fun q3=>v7 (.inl (by rw[←bc];simp[e0,q3]))⟩,fun q2=>v7 (.inr (by rw[←br];simp[q2]))⟩,fun q1=>v7 (.inl (by rw[←bc];simp[q1]))⟩;have hbc:lT (mJ p)=false:=by rw[←bc];simp[e0,q3];omega
      have hbr:lT (dG p)=false:=by rw[←br];simp[e0,q4];omega
      refine ae.cq (ι:=Nat) (fun i=>⟨134,[(0,.bU (cz p) 0),(96,.ro (p.rows.map bE)),(97,iv p.rows.length),(98,iv i)],[]⟩)
       (fun i=>i≤p.rows.length∧∀i',i'<i→fB p.aa.length (-1) (gt p.rows i').ab=false) (fun i=>p.rows.length - i) 0 (by simp) ?_ ?_
      ·simp[ar,hC]
      ·rintro i ⟨hi,hb⟩;by_cases aF:i<p.rows.length
       ·have nt:=h.nt i aF;simp(disch:=omega)[aF,dX];repeat refine alR ?_
        refine ae.cq (ι:=Nat × Int) (fun⟨k,c⟩=>⟨134,[(0,.bU (cz p) 0),(96,.ro (p.rows.map bE)),(97,iv p.rows.length),(98,iv i),(11,iv c),(103,.ro ((gt p.rows i).ab.map aT)),(104,iv (gt p.rows i).ab.length),(105,iv k)],[]⟩)
         (fun⟨k,c⟩=>k≤(gt p.rows i).ab.length∧fB p.aa.length c ((gt p.rows i).ab.drop k)=fB p.aa.length (-1) (gt p.rows i).ab) (fun⟨k,c⟩=>(gt p.rows i).ab.length - k) (0, -1) (by simp) ?_ ?_
        ·simp[ar,hC]
        ·rintro⟨k,c⟩ ⟨hk,hc⟩;by_cases hkl:k<(gt p.rows i).ab.length
         ·rw[ye hkl]at hc;simp(disch:=omega)[hkl,pz];repeat refine alR ?_
          refine ae.alS (.qs [0,1,2,3,4,5,6,7,8,9,10,11,12,13,14,15,16]<|.l 17 []<|.qs [18,19]<|.nil) ?_;simp(disch:=omega)[hkl,pz];repeat refine alR ?_
          have v4:fB p.aa.length (-1) (gt p.rows i).ab=true→EL (db p)=.fp eM 0:=fun e=>by rw[DG h2 hbc hbr (zD aF e),GP]
          refine⟨fun q1=>⟨fun q2=>?_,fun q2=>v4 (by rw[←hc];simp[q2])⟩,fun q1=>v4 (by rw[←hc];simp[q1])⟩;refine alT (o7 (gt (gt p.rows i).ab k).num) ?_;simp(disch:=omega)[aP];repeat refine alR ?_
          refine⟨fun q3=>v4 (by rw[←hc];simp[q3]),fun q3=>?_⟩;refine⟨k+1,(gt (gt p.rows i).ab k).aq,⟨by omega,?_⟩,by omega,Le.ct (by simp(disch:=omega)[ar,hC,aP])⟩;rw[←hc];simp[q3,show ¬(gt (gt p.rows i).ab k).aq≤c by omega,show ¬(p.aa.length:Int)≤(gt (gt p.rows i).ab k).aq by omega]
         ·obtain rfl:k=(gt p.rows i).ab.length:=by omega
          rw[aoS]at hc;simp(disch:=omega)[aP];repeat refine alR ?_
          refine⟨i+1,⟨by omega,fun i' hi'=>?_⟩,by omega,Le.ct (by simp(disch:=omega)[ar,hC,aP])⟩;rcases amz i' i with h' | h'
          ·exact hb i' h'
          ·obtain rfl:i'=i:=by omega
           exact hc.symm
       ·obtain rfl:i=p.rows.length:=by omega
        simp[D2 h2 hbc hbr (DK hb),Mn]
 ·rw[uH (p:=p) (.inl (by omega)),My]
end Go.Proofs
namespace Go.Li
open Go Go.Sv Go.Pl Go.Proofs Go.Tb Go.Ut
def aS:List Term→Nat→Rat
 | [],_=>0
 | t::ts,j=>if t.aq=(j:Int) then t.num else aS ts j
def dP(p:aO)(y:List Rat)(j:Nat):Nat→Rat
 | 0=>(gt p.aa j).cost
 | i+1=>dP p y j i - gt y i*aS (gt p.rows i).ab j
def Y5(p:aO)(y:List Rat):List Rat:=(amP p.aa.length).map fun j=>dP p y j p.rows.length
structure BoW(b:Bo):Prop where
 w:qw 2200 b.at'
structure IX(p:aO):Prop where
 sh:qw 2200 p.shift
 co:∀j,j<p.aa.length→qw 2200 (gt p.aa j).cost∧qw 2200 (gt p.aa j).low.at'∧qw 2200 (gt p.aa j).high.at'
 ro:∀i,i<p.rows.length→qw 2200 (gt p.rows i).low.at'∧qw 2200 (gt p.rows i).high.at'
 te:∀i,i<p.rows.length→∀k,k<(gt p.rows i).ab.length→qw 2200 (gt (gt p.rows i).ab k).num
theorem oK{k:Nat}(hk:1≤k):∀{ts:List Term} {j:Nat},(∀i,i<ts.length→qw k (gt ts i).num)→qw k (aS ts j)
 | [],j,_=>bt k hk
 | t::ts,j,h=>by
  unfold aS;split
  ·exact h 0 (by simp)
  ·exact oK hk fun i hi=>h (i+1) (by simpa using hi)
/-! between two ends -/
structure Sp where
 lo:Bo
 hi:Bo
def bV(a b:Bo)(r:Rat):Bo:=if a.has=true∧b.has=true then⟨true,a.at'+b.at'*r⟩ else⟨false,0⟩
def ck(s:Sp)(low high:Bo)(r:Rat):Sp:=if r=0 then s else if r<0 then⟨bV s.lo high r,bV s.hi low r⟩ else⟨bV s.lo low r,bV s.hi high r⟩
def spR(p:aO)(y:List Rat):Nat→Sp
 | 0=>⟨⟨true,p.shift⟩,⟨true,p.shift⟩⟩
 | i+1=>ck (spR p y i) (gt p.rows i).low (gt p.rows i).high (gt y i)
def UY(p:aO)(y:List Rat):Nat→Sp
 | 0=>spR p y p.rows.length
 | j+1=>ck (UY p y j) (gt p.aa j).low (gt p.aa j).high (dP p y j p.rows.length)
def spW(k:Nat)(s:Sp):Prop:=qw k s.lo.at'∧qw k s.hi.at'
theorem oH{k l m:Nat}{a b:Bo}{r:Rat}(ha:qw k a.at')(hb:qw l b.at')(hr:qw m r)(hl:1≤l):qw (k+(l+m)+1) (bV a b r).at':=by
 unfold bV;split
 ·exact jP ha (bW hb hr (by omega))
 ·exact bt _ (by omega)
theorem wH{k l m:Nat}{s:Sp}{a b:Bo}{r:Rat}(hs:spW k s)(ha:qw l a.at')(hb:qw l b.at')(hr:qw m r)(hl:1≤l):spW (k+(l+m)+1) (ck s a b r):=by
 unfold ck;split
 ·exact⟨ah hs.1 (by omega),ah hs.2 (by omega)⟩
 ·split
  ·exact⟨oH hs.1 hb hr hl,oH hs.2 ha hr hl⟩
  ·exact⟨oH hs.1 ha hr hl,oH hs.2 hb hr hl⟩
def Un(p:aO)(y:List Rat):Bo:=if p.max=true then(UY p y p.aa.length).hi else(UY p y p.aa.length).lo
def Fc(s:Sp):SV:=.agg ((iz s.lo).cells++(iz s.hi).cells)
@[simp] theorem YF(s:Sp):(Fc s).fj=10:=rfl
@[simp] theorem PJ(s:Sp):(Fc s).aM=false:=rfl
@[simp] theorem SI(s:Sp):(Fc s).isAgg=true:=rfl
@[simp] theorem TU(s:Sp):(Fc s).pure=true:=rfl
@[simp] theorem aeI(n:Nat)(s:Sp):(Fc s).lt n=true:=rfl
@[simp] theorem SU(n:Nat)(s:Sp):(Fc s).bC n=false:=rfl
@[simp] theorem adq(s:Sp):SV.agg ((Fc s).cells.take 5)=iz s.lo:=rfl
@[simp] theorem agX(s:Sp):SV.agg (((Fc s).cells.drop 5).take 5)=iz s.hi:=rfl
theorem OS:iz ⟨false,0⟩=.agg [.val (.bool false),.val (.bool false),.ro [],.val (.bool false),.ro []]:=by simp[iz,qb,bf]
theorem Na{q:Rat}:SV.agg (.val (.bool true)::(cC q).cells)=iz ⟨true,q⟩:=rfl
theorem aeg{a b:Bo}:SV.agg ((iz a).cells++(iz b).cells)=Fc ⟨a,b⟩:=rfl
@[simp] theorem ai8(b:Bo):SV.agg (aoM 4 (iz b).cells.tail)=qb b:=rfl
@[simp] theorem ahI(b:Bo):SV.agg (aoM 4 (cL b).cells.tail)=aY b.at':=rfl
@[simp] theorem Us(p:aO):SV.agg (aoM 4 (eQ p).cells.tail)=cC p.shift:=rfl
@[simp] theorem X7(p:aO):SV.agg (aoM 4 (cz p).cells.tail)=aY p.shift:=rfl
end Go.Li
namespace Go.Proofs
open Go.Sv Go Go.Tb Go.Pl Go.Ut Go.Li
end Go.Proofs
namespace Go.Li
open Go Go.Sv Go.Pl Go.Proofs Go.Tb Go.Ut
theorem cW{n:Nat}:∀{ts:List Term} {c:Int},fB n c ts=false→∀k,k<ts.length→c<(gt ts k).aq∧(gt ts k).aq<n∧(gt ts k).num≠0∧∀k',k'<k→(gt ts k').aq<(gt ts k).aq
 | [],c,_,k,hk=>by simp at hk
 | t::ts,c,h,k,hk=>by
  simp only[fB,Bool.or_eq_false_iff,decide_eq_false_iff_not]at h;obtain⟨⟨⟨h1,h2⟩,h3⟩,h4⟩:=h;have ih:=cW h4;cases k with
  | zero=>exact⟨by show c<t.aq;omega,by show t.aq<n;omega,h3,fun k' h=>by omega⟩
  | succ k =>
   obtain⟨g1,g2,g3,g4⟩:=ih k (by simpa using hk);have g1':t.aq<(gt (t::ts) (k+1)).aq:=g1;refine⟨by omega,g2,g3,fun k' hk'=>?_⟩;cases k' with
   | zero=>exact g1
   | succ k'=>exact g4 k' (by omega)
theorem rR{t:Term}:∀{a:List Term} {j:Nat},aS (a++[t]) j=if t.aq=(j:Int) then(if(∀k,k<a.length→(gt a k).aq≠(j:Int)) then t.num else aS a j) else aS a j
 | [],j=>by simp[aS]
 | u::a,j=>by
  have ih:=rR (t:=t) (a:=a) (j:=j);show(if u.aq=(j:Int) then u.num else aS (a++[t]) j)=_;by_cases hu:u.aq=(j:Int)
  ·have:¬∀k,k<(u::a).length→(gt (u::a) k).aq≠(j:Int):=fun h=>h 0 (by simp) hu;simp only[hu,if_true,if_neg this,aS,ite_self]
  ·have e:(∀k,k<(u::a).length→(gt (u::a) k).aq≠(j:Int))↔∀k,k<a.length→(gt a k).aq≠(j:Int):=by
    constructor
    ·exact fun h k hk=>h (k+1) (by simpa using hk)
    ·intro h k hk;cases k with
     | zero=>exact hu
     | succ k=>exact h k (by simpa using hk)
   simp only[hu,if_false,aS,ih,e]
theorem uz:∀{a:List Term} {j:Nat},(∀k,k<a.length→(gt a k).aq≠(j:Int))→aS a j=0
 | [],j,_=>rfl
 | u::a,j,h=>by
  unfold aS;rw[if_neg (show ¬u.aq=(j:Int) from h 0 (by simp)),uz fun k hk=>h (k+1) (by simpa using hk)]
def prR(p:aO)(y:List Rat)(i:Nat):List Rat:=(amP p.aa.length).map fun j=>dP p y j i
def prT(p:aO)(y:List Rat)(i k:Nat):List Rat:=(amP p.aa.length).map fun j=>dP p y j i - gt y i*aS ((gt p.rows i).ab.take k) j
@[simp] theorem Zy(p:aO)(y:List Rat)(i:Nat):(prR p y i).length=p.aa.length:=by simp[prR]
@[simp] theorem aam(p:aO)(y:List Rat)(i k:Nat):(prT p y i k).length=p.aa.length:=by simp[prT]
end Go.Li
namespace Go.Proofs
open Go.Sv Go Go.Tb Go.Pl Go.Ut Go.Li
end Go.Proofs


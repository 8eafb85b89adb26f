/- A text of the prover's own. -/
import Derived.Test.YtnimjdcaajmfcaaGreatDoorVKb
open List renaming mem_take_iff_getElem->aBO,getElem_map->aBP,take_of_length_le->aAp,drop_length->aBQ,range->ayq,take->aBA
open Nat renaming lt_or_ge->axT
set_option maxRecDepth 10000
namespace Go.Li
open Go Go.Sv Go.Pl Go.Proofs Go.Tb Go.Ut
/-! names -/
def e0:ByteArray:=⟨#[]⟩
def oJ(l:List ByteArray):Bool:=decide (¬l.Nodup)||l.any λx=>decide (x=e0)
theorem HR{l:List ByteArray}:(l.any λx=>decide (x=e0))=true↔e0∈l:=by simp
theorem pq{l:List ByteArray}{i:Nat}{x:ByteArray}(hi:i<=l.length):x∉l.take i↔∀k,k<i->x≠gt l k:=by
 constructor
 ·intro h k hk e;refine h ?_;rw[e,<-dY (show k<l.length by omega)];exact aBO.2 ⟨k,by omega,rfl⟩
 ·intro h hx;obtain⟨k,hk,e⟩:=aBO.1 hx;have ag:k<l.length:=by omega
  rw[dY ag]at e;exact h k (by omega) e.symm
theorem p8{l:List ByteArray}{i:Nat}(hi:i<l.length):(l.take (i+1)).Nodup↔(l.take i).Nodup∧gt l i∉l.take i:=by
 rw[hO hi,List.nodup_append];simp only[List.nodup_cons,List.not_mem_nil,not_false_eq_true,List.nodup_nil,and_self,List.mem_cons,or_false,forall_eq,true_and];constructor
 ·rintro⟨h1,h2⟩;exact⟨h1,λh=>h2 _ h rfl⟩
 ·rintro⟨h1,h2⟩;exact⟨h1,λa ha e=>h2 (e ▸ ha)⟩
theorem sa{l:List ByteArray}{i:Nat}(hi:i<l.length){x:ByteArray}:x∈l.take (i+1)↔x∈l.take i∨x=gt l i:=by rw[hO hi];simp
theorem K2{l:List ByteArray}(h:l.Nodup)(h':e0∉l):oJ l=false:=by have:(l.any λx=>decide (x=e0))=false:=Bool.eq_false_iff.2 λe=>h' (HR.1 e);unfold oJ;rw[this];simp[h]
theorem Hk{l:List ByteArray}{i k:Nat}(hi:i<l.length)(hk:k<i)(h:gt l i=gt l k):oJ l=true:=by
 have:¬l.Nodup:=λhn=>by have h1:=(List.take_sublist (i+1) l).nodup hn;exact((pq (by omega)).1 ((p8 hi).1 h1).2) k hk h
 simp[oJ,this]
theorem Pc{l:List ByteArray}{i:Nat}(hi:i<l.length)(h:gt l i=e0):oJ l=true:=by
 have:e0∈l:=by rw[<-h];exact iW hi
 unfold oJ;rw[HR.2 this];simp
/-! how often names stand in a list -/
def j5(s:ByteArray):List (ByteArray × Nat)->List (ByteArray × Nat)
 | []=>[(s,1)]
 | (t,n)::m=>if s=t then(t,n+1)::m else(t,n)::j5 s m
def lK(s:ByteArray):List (ByteArray × Nat)->Nat
 | []=>0
 | (t,n)::m=>if s=t then n else lK s m
def jd(s:ByteArray):List (ByteArray × Nat)->Option Nat
 | []=>none
 | (t,_)::m=>if s=t then some 0 else(jd s m).map (·+1)
def sU(e:ByteArray × Nat):SV:=.bM [.val (.string e.1),.val (.int .i64 e.2)]
@[simp] theorem aiT(k:Nat)(e:ByteArray × Nat):(sU e).lt k=true:=rfl
theorem wi(s:ByteArray):∀(m:List (ByteArray × Nat)) (i:Nat),mD (.string s) (m.map sU) i=some ((jd s m).map λj=>(i+j,.val (.int .i64 (lK s m))))
 | [],i=>rfl
 | (t,n)::m,i=>by
  simp only[List.map_cons,sU,IJ,SY,kgo];by_cases h:s=t
  ·simp[h,jd,lK]
  ·simp only[h,decide_false,jd,if_false,lK];have:=wi s m (i+1);simp only[this,Option.map_map];congr 2;funext j;simp only[Function.comp];congr 1;omega
theorem wG{s:ByteArray}:∀{m:List (ByteArray × Nat)},jd s m=none->j5 s m=m++[(s,1)]∧lK s m=0
 | [],_=>⟨rfl,rfl⟩
 | (t,n)::m,h=>by
  by_cases e:s=t
  ·simp[jd,e]at h
  ·simp only[jd,e,if_false,Option.map_eq_none_iff]at h;obtain⟨h1,h2⟩:=wG h;simp[j5,lK,e,h1,h2]
theorem Ck{s:ByteArray}:∀{m:List (ByteArray × Nat)} {j:Nat},jd s m=some j->j5 s m=m.set j (s,lK s m+1)∧j<m.length
 | [],j,h=>by simp[jd]at h
 | (t,n)::m,j,h=>by
  by_cases e:s=t
  ·simp only[jd,e,if_true,Option.some.injEq]at h;subst h;simp[j5,lK,e]
  ·simp only[jd,e,if_false,Option.map_eq_some_iff]at h;obtain⟨j',h',rfl⟩:=h;obtain⟨h1,h2⟩:=Ck h';simp[j5,lK,e,h1,h2]
def cm(l:List ByteArray):Nat->List (ByteArray × Nat)
 | 0=>[]
 | i+1=>j5 (gt l i) (cm l i)
theorem JN{l:List ByteArray}{i:Nat}{s:ByteArray}(hs:gt l i=s)(h:jd s (cm l i)=none):(cm l i).map sU++[.bM [.val (.string s),.val (.int .i64 1)]]=(cm l (i+1)).map sU:=by show _=(j5 (gt l i) (cm l i)).map sU;rw[hs,(wG h).1];simp[sU]
theorem Jy{l:List ByteArray}{i j:Nat}{s:ByteArray}(hs:gt l i=s)(h:jd s (cm l i)=some j):da ((cm l i).map sU) j (.bM [.val (.string s),.val (.int .i64 ((lK s (cm l i):Nat)+1))])=(cm l (i+1)).map sU:=by show _=(j5 (gt l i) (cm l i)).map sU;rw[hs,(Ck h).1,cq,List.map_set];rfl
theorem EM{l:List ByteArray}{i:Nat}{s:ByteArray}(h:jd s (cm l i)=none):mD (.string s) ((cm l i).map sU) 0=some none:=by rw[wi,h];rfl
theorem DS{l:List ByteArray}{i j:Nat}{s:ByteArray}(h:jd s (cm l i)=some j):mD (.string s) ((cm l i).map sU) 0=some (some (j,.val (.int .i64 (lK s (cm l i):Nat)))):=by rw[wi,h];simp
theorem Ta{l:List ByteArray}{i:Nat}{s:ByteArray}{M:aC}{a b:Nat}:U2 false M ⟨.int .i64,a,b,[.val (.int .i64 0)]⟩ (mD (.string s) ((cm l i).map sU) 0)=.m True M [] (some (.val (.int .i64 (lK s (cm l i):Nat)))):=by
 rcases h:jd s (cm l i)with _ | j
 ·rw[EM h,(wG h).2];rfl
 ·rw[DS h];rfl
theorem At{s:ByteArray}:∀{m:List (ByteArray × Nat)},(∀t,lK t (j5 s m)=lK t m+if t=s then 1 else 0)∧(j5 s m).length=m.length+if jd s m=none then 1 else 0
 | []=>by refine⟨λt=>?_,by simp[j5,jd]⟩;by_cases h:t=s<;>simp[j5,lK,h]
 | (u,n)::m=>by
  obtain⟨h1,h2⟩:=At (s:=s) (m:=m);by_cases e:s=u
  ·subst e;refine⟨λt=>?_,by simp[j5,jd]⟩;by_cases h:t=s<;>simp[j5,lK,h]
  ·refine⟨λt=>?_,by simp[j5,jd,e,h2];omega⟩;by_cases h:t=u
   ·subst h;simp[j5,lK,e,Ne.symm e]
   ·simp[j5,lK,e,h,h1]
theorem vv{l:List ByteArray}:∀i,i<=l.length->(∀t,0<lK t (cm l i)↔t∈l.take i)∧(∀t,lK t (cm l i)<=i)∧(∀t,jd t (cm l i)=none↔t∉l.take i)∧(cm l i).length<=i∧((cm l i).length=i↔(l.take i).Nodup)
 | 0,_=>by simp[cm,lK,jd]
 | i+1,hi=>by
  obtain⟨h1,h2,h3,h4,h5⟩:=vv (l:=l) i (by omega);obtain⟨g1,g2⟩:=At (s:=gt l i) (m:=cm l i);have gi:∀(s t:ByteArray) (m:List (ByteArray × Nat)),jd t (j5 s m)=none↔jd t m=none∧t≠s:=by
   intro s t m
   induction m with
   | nil =>
    by_cases h:t=s<;>simp[j5,jd,h]
   | cons a m ih =>
    obtain⟨u,n⟩:=a;by_cases e:s=u
    ·subst e;by_cases h:t=s<;>simp[j5,jd,h]
    ·by_cases h:t=u
     ·simp[j5,jd,e,h]
     ·simp[j5,jd,e,h,ih]
  refine⟨λt=>?_,λt=>?_,λt=>?_,?_,?_⟩
  ·rw[sa hi,<-h1 t];show 0<lK t (j5 _ _)↔_;rw[g1];split<;>simp_all
  ·show lK t (j5 _ _)<=_;rw[g1];have:=h2 t;split<;>omega
  ·show jd t (j5 _ _)=none↔_;rw[gi,sa hi,h3];simp
  ·show(j5 _ _).length<=_;rw[g2];split<;>omega
  ·show(j5 _ _).length=_↔_;rw[g2,p8 hi,<-h3,<-h5];by_cases h:jd (gt l i) (cm l i)=none
   ·simp[h]
   ·simp[h];omega
theorem KF{l:List ByteArray}:(decide ((cm l l.length).length<l.length)||decide (0<lK e0 (cm l l.length)))=oJ l:=by
 obtain⟨h1,h2,h3,h4,h5⟩:=vv (l:=l) l.length (by omega);rw[List.take_length]at h1 h3 h5;unfold oJ;congr 1
 ·refine decide_eq_decide.2 ⟨λh hn=>?_,λh=>?_⟩
  ·have:=h5.2 hn;omega
  ·rcases axT (cm l l.length).length l.length with h' | h'
   ·exact h'
   ·exact absurd (h5.1 (by omega)) h
 ·rw[Bool.eq_iff_iff,HR,decide_eq_true_iff];exact h1 e0
/-! rows -/
def gH(n:Nat):Int->List Term->Bool
 | _,[]=>false
 | last,t::ts=>decide (t.iP<=last)||decide ((n:Int)<=t.iP)||decide (t.num=0)||gH n t.iP ts
theorem CX{n:Nat}{ts:List Term}{k:Nat}{c:Int}(h:k<ts.length):gH n c (ts.drop k)=(decide ((gt ts k).iP<=c)||decide ((n:Int)<=(gt ts k).iP)||decide ((gt ts k).num=0)||gH n (gt ts k).iP (ts.drop (k+1))):=by rw[Kc h];rfl
def Jf(p:aB):Bool:=p.rows.any λr=>gH p.ai.length (-1) r.aI
def pK(p:aB):List ByteArray:=p.ai.map (·.name)
def qH(p:aB):List ByteArray:=p.rows.map (·.name)
theorem Fp(p:aB):(pK p).length=p.ai.length:=by simp[pK]
theorem He(p:aB):(qH p).length=p.rows.length:=by simp[qH]
theorem vX{p:aB}{i:Nat}(h:i<p.ai.length):gt (pK p) i=(gt p.ai i).name:=by unfold pK;rw[<-dY (by simpa using h),aBP,dY h]
theorem vq{p:aB}{i:Nat}(h:i<p.rows.length):gt (qH p) i=(gt p.rows i).name:=by unfold qH;rw[<-dY (by simpa using h),aBP,dY h]
noncomputable def bA(p:aB):Nat :=
 if 120<p.ai.length∨120<p.rows.length then 2 else if(oJ (pK p)||oJ (qH p))=true then 7 else if Jf p=true then 4 else 0
theorem zf{p:aB}(h:120<p.ai.length∨120<p.rows.length):bA p=2:=by unfold bA;rw[if_pos h]
theorem va{p:aB}(h:¬(120<p.ai.length∨120<p.rows.length))(h':oJ (pK p)=true∨oJ (qH p)=true):bA p=7:=by unfold bA;rw[if_neg h,if_pos (by simpa using h')]
theorem KP{p:aB}(h:¬(120<p.ai.length∨120<p.rows.length))(h1:oJ (pK p)=false)(h2:oJ (qH p)=false)(h':Jf p=true):bA p=4:=by unfold bA;rw[if_neg h,if_neg (by simp[h1,h2]),if_pos h']
theorem Jv{p:aB}(h:¬(120<p.ai.length∨120<p.rows.length))(h1:oJ (pK p)=false)(h2:oJ (qH p)=false)(h':Jf p=false):bA p=0:=by unfold bA;rw[if_neg h,if_neg (by simp[h1,h2]),if_neg (by simp[h'])]
theorem yS{p:aB}{i:Nat}(hi:i<p.rows.length)(h:gH p.ai.length (-1) (gt p.rows i).aI=true):Jf p=true:=by unfold Jf;rw[List.any_eq_true];exact⟨_,iW hi,h⟩
theorem Kx{p:aB}(h:∀i,i<p.rows.length->gH p.ai.length (-1) (gt p.rows i).aI=false):Jf p=false:=by unfold Jf;rw[List.any_eq_false];intro r hr;obtain⟨i,hi,rfl⟩:=List.getElem_of_mem hr;rw[dY hi,h i hi];simp
end Go.Li
namespace Go.Proofs
open Go.Sv Go Go.Tb Go.Pl Go.Ut Go.Li
structure BF(p:aB):Prop where
 nc:p.ai.length<=1048576
 nr:p.rows.length<=1048576
 nt:∀i,i<p.rows.length->(gt p.rows i).aI.length<=1048576
theorem wL{r:Row}{k:Nat}(h:k<r.aI.length):aM (r.aI.map λt=>SV.val (.int .i64 t.iP)) k=.val (.int .i64 (gt r.aI k).iP):=ct (λt:Term=>SV.val (.int .i64 t.iP)) h
theorem xv{r:Row}{k:Nat}(h:k<r.aI.length):aM (r.aI.map λt=>aZ t.num) k=aZ (gt r.aI k).num:=ct (λt:Term=>aZ t.num) h
theorem Mt(p:aB)(h:BF p):aE Tryz.prog 28 [bX p] (.val (.int .i64 (bA p:Nat))):=by
 have nc:=h.nc;have nr:=h.nr;have lc:=Fp p;have lr:=He p;refine aj Tryz.func28 rfl (by simp) (λC hC=>?_);simp
 repeat' (apply And.intro<;>intro _)
 ·have e:=zf (p:=p) (.inr (by omega));simp[e]
 ·have h2:¬(120<p.ai.length∨120<p.rows.length):=by omega
  refine aa.bB (ι:=Nat) (λi=>⟨138,[(1,.ptr 0 0 0),(3,iv i)],[some ⟨7,[bX p],false⟩]⟩)
   (λi=>i<=p.ai.length∧((pK p).take i).Nodup∧e0∉(pK p).take i) (λi=>p.ai.length - i) 0 (by simp) ?_ ?_
  ·simp[aP,hC]
  ·rintro i ⟨hi,hd,he⟩;by_cases aR:i<p.ai.length
   ·simp(disch:=omega)[aR];repeat refine awG ?_
    refine aa.bB (ι:=Nat) (λk=>⟨138,[(1,.ptr 0 0 0),(3,iv i),(4,iv k)],[some ⟨7,[bX p],false⟩]⟩)
     (λk=>k<=i∧∀k',k'<k->gt (pK p) i≠gt (pK p) k') (λk=>i - k) 0 (by simp) ?_ ?_
    ·simp[aP,hC]
    ·rintro k ⟨hk,hn⟩;by_cases ac:k<i
     ·simp(disch:=omega)[ac];repeat refine awG ?_
      refine aa.awH (.qs [0,1,2,3,4,5,6,7,8,9,10,11,12]<|.nil) ?_;have ab:k<p.ai.length:=by omega
      simp(disch:=omega)[dc,aD];repeat refine awG ?_
      rw[<-vX aR,<-vX ab];refine⟨λq=>?_,λq=>⟨k+1,⟨by omega,λk' ag=>?_⟩,by omega,Le.dE (by simp(disch:=omega)[aP,hC])⟩⟩
      ·simp[va h2 (.inl (Hk (by omega) ac q))]
      ·rcases axT k' k with h' | h'
       ·exact hn k' h'
       ·obtain rfl:k'=k:=by omega
        exact q
     ·obtain rfl:k=i:=by omega
      simp(disch:=omega)[dc,aD,aR];repeat refine awG ?_
      rw[<-vX aR];refine⟨λq=>?_,λq=>⟨k+1,⟨by omega,(p8 (by omega)).2 ⟨hd,(pq (by omega)).2 hn⟩,λhm=>?_⟩,by omega,Le.dE (by simp(disch:=omega)[aP,hC])⟩⟩
      ·simp[va h2 (.inl (Pc (by omega) q))]
      ·rcases(sa (by omega)).1 hm with h' | h'
       ·exact he h'
       ·exact q h'.symm
   ·obtain rfl:i=p.ai.length:=by omega
    rw[aAp (by omega)]at hd he;have ad:=K2 hd he;simp;refine aa.bB (ι:=Nat) (λi=>⟨138,[(1,.ptr 0 0 0),(5,iv i)],[some ⟨7,[bX p],false⟩]⟩)
     (λi=>i<=p.rows.length∧((qH p).take i).Nodup∧e0∉(qH p).take i) (λi=>p.rows.length - i) 0 (by simp) ?_ ?_
    ·simp[aP,hC]
    ·rintro i ⟨hi,hd,he⟩;by_cases aR:i<p.rows.length
     ·simp(disch:=omega)[aR];repeat refine awG ?_
      refine aa.bB (ι:=Nat) (λk=>⟨138,[(1,.ptr 0 0 0),(5,iv i),(6,iv k)],[some ⟨7,[bX p],false⟩]⟩)
       (λk=>k<=i∧∀k',k'<k->gt (qH p) i≠gt (qH p) k') (λk=>i - k) 0 (by simp) ?_ ?_
      ·simp[aP,hC]
      ·rintro k ⟨hk,hn⟩;by_cases ac:k<i
       ·simp(disch:=omega)[ac];repeat refine awG ?_
        refine aa.awH (.qs [0,1,2,3,4,5,6,7,8,9,10,11,12]<|.nil) ?_;have ab:k<p.rows.length:=by omega
        simp(disch:=omega)[di,aD];repeat refine awG ?_
        rw[<-vq aR,<-vq ab];refine⟨λq=>?_,λq=>⟨k+1,⟨by omega,λk' ag=>?_⟩,by omega,Le.dE (by simp(disch:=omega)[aP,hC])⟩⟩
        ·simp[va h2 (.inr (Hk (by omega) ac q))]
        ·rcases axT k' k with h' | h'
         ·exact hn k' h'
         ·obtain rfl:k'=k:=by omega
          exact q
       ·obtain rfl:k=i:=by omega
        simp(disch:=omega)[di,aD,aR];repeat refine awG ?_
        rw[<-vq aR];refine⟨λq=>?_,λq=>⟨k+1,⟨by omega,(p8 (by omega)).2 ⟨hd,(pq (by omega)).2 hn⟩,λhm=>?_⟩,by omega,Le.dE (by simp(disch:=omega)[aP,hC])⟩⟩
        ·simp[va h2 (.inr (Pc (by omega) q))]
        ·rcases(sa (by omega)).1 hm with h' | h'
         ·exact he h'
         ·exact q h'.symm
     ·obtain rfl:i=p.rows.length:=by omega
      rw[aAp (by omega)]at hd he;have af:=K2 hd he;simp;refine aa.bB (ι:=Nat) (λi=>⟨138,[(1,.ptr 0 0 0),(7,iv i)],[some ⟨7,[bX p],false⟩]⟩)
       (λi=>i<=p.rows.length∧∀i',i'<i->gH p.ai.length (-1) (gt p.rows i').aI=false) (λi=>p.rows.length - i) 0 (by simp) ?_ ?_
      ·simp[aP,hC]
      ·rintro i ⟨hi,hb⟩;by_cases aR:i<p.rows.length
       ·have nt:=h.nt i aR;simp(disch:=omega)[aR];repeat refine awG ?_
        refine aa.bB (ι:=Nat × Int) (λ⟨k,c⟩=>⟨138,[(1,.ptr 0 0 0),(7,iv i),(8,iv c),(9,iv k)],[some ⟨7,[bX p],false⟩]⟩)
         (λ⟨k,c⟩=>k<=(gt p.rows i).aI.length∧gH p.ai.length c ((gt p.rows i).aI.drop k)=gH p.ai.length (-1) (gt p.rows i).aI) (λ⟨k,c⟩=>(gt p.rows i).aI.length - k) (0, -1) (by simp) ?_ ?_
        ·simp[aP,hC]
        ·rintro⟨k,c⟩ ⟨hk,hc⟩;by_cases ab:k<(gt p.rows i).aI.length
         ·rw[CX ab]at hc;simp(disch:=omega)[di,ab,wL,xv];repeat refine awG ?_
          refine awI (Lg (gt (gt p.rows i).aI k).num) ?_;simp(disch:=omega)[aD];repeat refine awG ?_
          have v4:gH p.ai.length (-1) (gt p.rows i).aI=true->(4:Int)=(bA p:Nat):=λe=>by rw[KP h2 ad af (yS aR e)];rfl
          refine⟨λq1=>⟨λq2=>⟨λq3=>v4 (by rw[<-hc];simp[q3]),λq3=>?_⟩,λq2=>v4 (by rw[<-hc];simp[q2])⟩,λq1=>v4 (by rw[<-hc];simp[q1])⟩;refine⟨k+1,(gt (gt p.rows i).aI k).iP,⟨by omega,?_⟩,by omega,Le.dE (by simp(disch:=omega)[aP,hC])⟩;rw[<-hc];simp[q3,show ¬(gt (gt p.rows i).aI k).iP<=c by omega,show ¬(p.ai.length:Int)<=(gt (gt p.rows i).aI k).iP by omega]
         ·obtain rfl:k=(gt p.rows i).aI.length:=by omega
          rw[aBQ]at hc;simp(disch:=omega)[di];repeat refine awG ?_
          refine⟨i+1,⟨by omega,λi' ah=>?_⟩,by omega,Le.dE (by simp(disch:=omega)[aP,hC,aD])⟩;rcases axT i' i with h' | h'
          ·exact hb i' h'
          ·obtain rfl:i'=i:=by omega
           exact hc.symm
       ·obtain rfl:i=p.rows.length:=by omega
        simp[Jv h2 ad af (Kx hb)]
 ·have e:=zf (p:=p) (.inl (by omega));simp[e]
end Go.Proofs
namespace Go.Proofs
open Go.Sv Go Go.Tb Go.Pl Go.Ut Go.Li
theorem Ba{r:Row}{k:Nat}(h:k<r.aI.length):aM (r.aI.map ji) k=ji (gt r.aI k):=ct ji h
theorem w7(p:aB)(h:BF p):aE Tryz.prog 76 [.dG (bS p) 0] (II (bA p)):=by
 have nc:=h.nc;have nr:=h.nr;have lc:=Fp p;have lr:=He p;refine aj Tryz.func76 rfl (by simp) (λC hC=>?_);simp
 repeat' (apply And.intro<;>intro _)
 ·rw[zf (p:=p) (.inr (by omega)),Uf]
 ·have h2:¬(120<p.ai.length∨120<p.rows.length):=by omega
  refine aa.bB (ι:=Nat) (λi=>⟨134,[(0,.dG (bS p) 0),(3,.mp 0),(4,.mp 1),(37,.ro (p.ai.map jv)),(38,iv p.ai.length),(39,iv i)],[some ⟨0,(cm (pK p) i).map sU,false⟩,some ⟨0,[],false⟩]⟩)
   (λi=>i<=p.ai.length) (λi=>p.ai.length - i) 0 (by simp) ?_ ?_
  ·simp[aP,hC,cm]
  ·rintro i hi;by_cases aR:i<p.ai.length
   ·obtain⟨f1,f2,f3,f4,f5⟩:=vv (l:=pK p) i (by omega);have g:=f2 (gt p.ai i).name;rcases hq:jd (gt p.ai i).name (cm (pK p) i)with _ | j
    ·simp(disch:=omega)[aR,xx,EM hq];repeat refine awG ?_
     exact⟨i+1,by omega,by omega,Le.dE (by simp(disch:=omega)[aP,hC,aD,JN (vX aR) hq])⟩
    ·simp(disch:=omega)[aR,xx,DS hq];repeat refine awG ?_
     exact⟨i+1,by omega,by omega,Le.dE (by simp(disch:=omega)[aP,hC,aD,Jy (vX aR) hq])⟩
   ·obtain rfl:i=p.ai.length:=by omega
    simp;repeat refine awG ?_
    refine aa.bB (ι:=Nat) (λi=>⟨134,[(0,.dG (bS p) 0),(3,.mp 0),(4,.mp 1),(52,.ro (p.rows.map je)),(53,iv p.rows.length),(54,iv i)],[some ⟨0,(cm (pK p) p.ai.length).map sU,false⟩,some ⟨0,(cm (qH p) i).map sU,false⟩]⟩)
     (λi=>i<=p.rows.length) (λi=>p.rows.length - i) 0 (by simp) ?_ ?_
    ·simp[aP,hC,cm]
    ·rintro i hi;by_cases aR:i<p.rows.length
     ·obtain⟨f1,f2,f3,f4,f5⟩:=vv (l:=qH p) i (by omega);have g:=f2 (gt p.rows i).name;rcases hq:jd (gt p.rows i).name (cm (qH p) i)with _ | j
      ·simp(disch:=omega)[aR,wX,EM hq];repeat refine awG ?_
       exact⟨i+1,by omega,by omega,Le.dE (by simp(disch:=omega)[aP,hC,aD,JN (vq aR) hq])⟩
      ·simp(disch:=omega)[aR,wX,DS hq];repeat refine awG ?_
       exact⟨i+1,by omega,by omega,Le.dE (by simp(disch:=omega)[aP,hC,aD,Jy (vq aR) hq])⟩
     ·obtain rfl:i=p.rows.length:=by omega
      have bc:=KF (l:=pK p);have br:=KF (l:=qH p);rw[lc]at bc;rw[lr]at br;have v7:oJ (pK p)=true∨oJ (qH p)=true->II (bA p)=.fT fD 7:=λh7=>by rw[va h2 h7,ad5]
      simp;repeat refine awG ?_
      refine aa.awH (.qs [0,2,3,4,5,6]<|.l 1 []<|.qs [7,8,9,11,12,13,14,15]<|.l 10 []<|.qs [16,17,18,19]<|.l 20 []<|.qs [21,22,23,24]<|.l 25 []<|.qs [26,27]<|.nil) ?_;simp[Ta];refine⟨λq1=>⟨λq2=>⟨λq3=>⟨λq4=>v7 (.inr (by rw[<-br];simp[e0,q4])),λq4=>?_⟩,λq3=>v7 (.inl (by rw[<-bc];simp[e0,q3]))⟩,λq2=>v7 (.inr (by rw[<-br];simp[q2]))⟩,λq1=>v7 (.inl (by rw[<-bc];simp[q1]))⟩;have ad:oJ (pK p)=false:=by rw[<-bc];simp[e0,q3];omega
      have af:oJ (qH p)=false:=by rw[<-br];simp[e0,q4];omega
      refine aa.bB (ι:=Nat) (λi=>⟨134,[(0,.dG (bS p) 0),(96,.ro (p.rows.map je)),(97,iv p.rows.length),(98,iv i)],[]⟩)
       (λi=>i<=p.rows.length∧∀i',i'<i->gH p.ai.length (-1) (gt p.rows i').aI=false) (λi=>p.rows.length - i) 0 (by simp) ?_ ?_
      ·simp[aP,hC]
      ·rintro i ⟨hi,hb⟩;by_cases aR:i<p.rows.length
       ·have nt:=h.nt i aR;simp(disch:=omega)[aR,wX];repeat refine awG ?_
        refine aa.bB (ι:=Nat × Int) (λ⟨k,c⟩=>⟨134,[(0,.dG (bS p) 0),(96,.ro (p.rows.map je)),(97,iv p.rows.length),(98,iv i),(11,iv c),(103,.ro ((gt p.rows i).aI.map ji)),(104,iv (gt p.rows i).aI.length),(105,iv k)],[]⟩)
         (λ⟨k,c⟩=>k<=(gt p.rows i).aI.length∧gH p.ai.length c ((gt p.rows i).aI.drop k)=gH p.ai.length (-1) (gt p.rows i).aI) (λ⟨k,c⟩=>(gt p.rows i).aI.length - k) (0, -1) (by simp) ?_ ?_
        ·simp[aP,hC]
        ·rintro⟨k,c⟩ ⟨hk,hc⟩;by_cases ab:k<(gt p.rows i).aI.length
         ·rw[CX ab]at hc;simp(disch:=omega)[ab,Ba];repeat refine awG ?_
          refine aa.awH (.qs [0,1,2,3,4,5,6,7,8,9,10,11,12,13,14,15,16]<|.l 17 []<|.qs [18,19]<|.nil) ?_;simp(disch:=omega)[];repeat refine awG ?_
          have v4:gH p.ai.length (-1) (gt p.rows i).aI=true->II (bA p)=.fT fD 0:=λe=>by rw[KP h2 ad af (yS aR e),aeS]
          refine⟨λq1=>⟨λq2=>?_,λq2=>v4 (by rw[<-hc];simp[q2])⟩,λq1=>v4 (by rw[<-hc];simp[q1])⟩;refine awI (alf (gt (gt p.rows i).aI k).num) ?_;simp(disch:=omega)[aD];repeat refine awG ?_
          refine⟨λq3=>v4 (by rw[<-hc];simp[q3]),λq3=>?_⟩;refine⟨k+1,(gt (gt p.rows i).aI k).iP,⟨by omega,?_⟩,by omega,Le.dE (by simp(disch:=omega)[aP,hC])⟩;rw[<-hc];simp[q3,show ¬(gt (gt p.rows i).aI k).iP<=c by omega,show ¬(p.ai.length:Int)<=(gt (gt p.rows i).aI k).iP by omega]
         ·obtain rfl:k=(gt p.rows i).aI.length:=by omega
          rw[aBQ]at hc;simp(disch:=omega)[aD];repeat refine awG ?_
          refine⟨i+1,⟨by omega,λi' ah=>?_⟩,by omega,Le.dE (by simp(disch:=omega)[aP,hC])⟩;rcases axT i' i with h' | h'
          ·exact hb i' h'
          ·obtain rfl:i'=i:=by omega
           exact hc.symm
       ·obtain rfl:i=p.rows.length:=by omega
        simp[Jv h2 ad af (Kx hb),Qy]
 ·rw[zf (p:=p) (.inl (by omega)),Uf]
end Go.Proofs
set_option maxRecDepth 10000
namespace Go.Li
open Go Go.Sv Go.Pl Go.Proofs Go.Tb Go.Ut
def cY:List Term->Nat->Rat
 | [],_=>0
 | t::ts,j=>if t.iP=(j:Int) then t.num else cY ts j
theorem Lh{ts:List Term}{k j:Nat}(h:k<ts.length):cY (ts.drop k) j=if(gt ts k).iP=(j:Int) then(gt ts k).num else cY (ts.drop (k+1)) j:=by rw[Kc h];rfl
def dP(p:aB)(y:List Rat)(j:Nat):Nat->Rat
 | 0=>(gt p.ai j).cost
 | i+1=>dP p y j i - gt y i*cY (gt p.rows i).aI j
def lG(p:aB)(y:List Rat):List Rat:=(ayq p.ai.length).map λj=>dP p y j p.rows.length
theorem xU(p:aB)(y:List Rat):(lG p y).length=p.ai.length:=by simp[lG]
theorem CD{p:aB}{y:List Rat}{j:Nat}(h:j<p.ai.length):gt (lG p y) j=dP p y j p.rows.length:=by unfold lG;rw[<-dY (by simpa using h)];simp
structure BoW(b:Bo):Prop where
 w:qw 2200 b.at'
structure cW(p:aB):Prop where
 sh:qw 2200 p.shift
 co:∀j,j<p.ai.length->qw 2200 (gt p.ai j).cost∧qw 2200 (gt p.ai j).low.at'∧qw 2200 (gt p.ai j).high.at'
 ro:∀i,i<p.rows.length->qw 2200 (gt p.rows i).low.at'∧qw 2200 (gt p.rows i).high.at'
 te:∀i,i<p.rows.length->∀k,k<(gt p.rows i).aI.length->qw 2200 (gt (gt p.rows i).aI k).num
theorem rO{k:Nat}(hk:1<=k):∀{ts:List Term} {j:Nat},(∀i,i<ts.length->qw k (gt ts i).num)->qw k (cY ts j)
 | [],j,_=>cC k hk
 | t::ts,j,h=>by
  unfold cY;split
  ·exact h 0 (by simp)
  ·exact rO hk λi hi=>h (i+1) (by simpa using hi)
/-! between two ends -/
structure Sp where
 lo:Bo
 hi:Bo
def fK(a b:Bo)(r:Rat):Bo:=if a.has=true∧b.has=true then⟨true,a.at'+b.at'*r⟩ else⟨false,0⟩
def eY(s:Sp)(low high:Bo)(r:Rat):Sp:=if r=0 then s else if r<0 then⟨fK s.lo high r,fK s.hi low r⟩ else⟨fK s.lo low r,fK s.hi high r⟩
def BG(p:aB)(y:List Rat):Nat->Sp
 | 0=>⟨⟨true,p.shift⟩,⟨true,p.shift⟩⟩
 | i+1=>eY (BG p y i) (gt p.rows i).low (gt p.rows i).high (gt y i)
def BJ(p:aB)(y:List Rat):Nat->Sp
 | 0=>BG p y p.rows.length
 | j+1=>eY (BJ p y j) (gt p.ai j).low (gt p.ai j).high (dP p y j p.rows.length)
def QS(k:Nat)(s:Sp):Prop:=qw k s.lo.at'∧qw k s.hi.at'
theorem yU{k l m:Nat}{a b:Bo}{r:Rat}(ha:qw k a.at')(hb:qw l b.at')(hr:qw m r)(hl:1<=l):qw (k+(l+m)+1) (fK a b r).at':=by
 unfold fK;split
 ·exact kX ha (cy hb hr (by omega))
 ·exact cC _ (by omega)
theorem vN{k l m:Nat}{s:Sp}{a b:Bo}{r:Rat}(hs:QS k s)(ha:qw l a.at')(hb:qw l b.at')(hr:qw m r)(hl:1<=l):QS (k+(l+m)+1) (eY s a b r):=by
 unfold eY;split
 ·exact⟨ax hs.1 (by omega),ax hs.2 (by omega)⟩
 ·split
  ·exact⟨yU hs.1 hb hr hl,yU hs.2 ha hr hl⟩
  ·exact⟨yU hs.1 ha hr hl,yU hs.2 hb hr hl⟩
def nO(p:aB)(y:List Rat):Bo:=if p.max=true then(BJ p y p.ai.length).hi else(BJ p y p.ai.length).lo
theorem IS{a b:Bo}{r:Rat}(h:(fK a b r).has=false):fK a b r=⟨false,0⟩:=by
 unfold fK at h ⊢;split
 ·rw[if_pos (by assumption)]at h;cases h
 ·rfl
def okB(b:Bo):Prop:=b.has=false->b.at'=0
def Rz(s:Sp):Prop:=okB s.lo∧okB s.hi
theorem Fx(a b:Bo)(r:Rat):okB (fK a b r):=λh=>by rw[IS h]
theorem C3{s:Sp}(h:Rz s)(a b:Bo)(r:Rat):Rz (eY s a b r):=by
 unfold eY;split
 ·exact h
 ·split<;>exact⟨Fx _ _ _,Fx _ _ _⟩
theorem Nf(p:aB)(y:List Rat):∀i,Rz (BG p y i)
 | 0=>⟨λh=>(by cases h),λh=>(by cases h)⟩
 | i+1=>C3 (Nf p y i) _ _ _
theorem Ig(p:aB)(y:List Rat):∀i,Rz (BJ p y i)
 | 0=>Nf p y _
 | i+1=>C3 (Ig p y i) _ _ _
theorem SS(p:aB)(y:List Rat):okB (nO p y):=by
 unfold nO;split
 ·exact(Ig p y _).2
 ·exact(Ig p y _).1
def BD(s:Sp):SV:=.agg ((nZ s.lo).cells++(nZ s.hi).cells)
@[simp] theorem ajp(s:Sp):(BD s).ir=10:=rfl
@[simp] theorem Zm(s:Sp):(BD s).aW=false:=rfl
@[simp] theorem Zl(s:Sp):(BD s).isAgg=true:=rfl
@[simp] theorem acW(s:Sp):(BD s).pure=true:=rfl
@[simp] theorem akZ(n:Nat)(s:Sp):(BD s).lt n=true:=rfl
@[simp] theorem anH(s:Sp):SV.agg ((BD s).cells.take 5)=nZ s.lo:=rfl
@[simp] theorem aml(s:Sp):SV.agg (((BD s).cells.drop 5).take 5)=nZ s.hi:=rfl
theorem OM:nZ ⟨false,0⟩=.agg [.val (.bool false),.val (.bool false),.ro [],.val (.bool false),.ro []]:=by simp[nZ,qb,bu]
theorem P5{q:Rat}:SV.agg (.val (.bool true)::(aZ q).cells)=nZ ⟨true,q⟩:=rfl
theorem IP{a b:Bo}:SV.agg ((nZ a).cells++(nZ b).cells)=BD ⟨a,b⟩:=rfl
@[simp] theorem aqK(b:Bo):SV.agg (aBA 4 (nZ b).cells.tail)=qb b:=rfl
@[simp] theorem aoU(b:Bo):SV.agg (aBA 4 (dA b).cells.tail)=aS b.at':=rfl
@[simp] theorem acu(p:aB):SV.agg (aBA 4 (bX p).cells.tail)=aZ p.shift:=rfl
@[simp] theorem aaj(p:aB):SV.agg (aBA 4 (bS p).cells.tail)=aS p.shift:=rfl
end Go.Li
namespace Go.Proofs
open Go.Sv Go Go.Tb Go.Pl Go.Ut Go.Li
theorem wU(r:Row)(hn:r.aI.length<=1048576)(j:Nat)(hj:j<=1048576):aE Tryz.prog 130 [nV r,iv j] (aZ (cY r.aI j)):=by
 refine aj Tryz.func130 rfl (by simp) (λC hC=>?_);simp;refine aa.bB (ι:=Nat) (λk=>⟨26,[(1,iv j),(2,.ptr 0 0 0),(4,.ptr 1 0 0),(5,iv k)],[some ⟨13,[nV r],false⟩,some ⟨4,[.agg [.val (.bool false),.val (.slice none 0 0),.val (.bool false),.val (.slice none 0 0)]],false⟩]⟩)
  (λk=>k<=r.aI.length∧cY (r.aI.drop k) j=cY r.aI j) (λk=>r.aI.length - k) 0 (by simp) ?_ ?_
 ·simp[aP,hC]
 ·rintro k ⟨hk,he⟩;by_cases aR:k<r.aI.length
  ·rw[Lh aR]at he;simp(disch:=omega)[aR,wL,xv,aD];repeat refine awG ?_
   refine⟨λq=>by rw[<-he,if_pos q],λq=>⟨k+1,⟨by omega,by rw[<-he,if_neg q]⟩,by omega,Le.dE (by simp(disch:=omega)[aP,hC])⟩⟩
  ·obtain rfl:k=r.aI.length:=by omega
   rw[aBQ]at he;simp;repeat refine awG ?_
   refine awI (oh) ?_;simp;rw[<-he];rfl
theorem xG(q:Rat):aE Tryz.prog 164 [aZ q] (BD ⟨⟨true,q⟩,⟨true,q⟩⟩):=by refine aj Tryz.func164 rfl (by simp) (λC hC=>?_);simp[P5];rw[IP];exact fV _ _ rfl
theorem we(a b:Bo)(r:Rat)(ha:j4 a.at')(hb:j4 b.at')(hr:j4 r)(hm:j4 (b.at'*r)):aE Tryz.prog 185 [nZ a,nZ b,aZ r] (nZ (fK a b r)):=by
 refine aj Tryz.func185 rfl (by simp) (λC hC=>?_);by_cases h1:a.has=true
 ·by_cases h2:b.has=true
  ·simp[h1,h2];rw[ka h2];refine awI (lF _ _ hb hr) ?_;simp;rw[ka h1];refine awI (m4 _ _ ha hm) ?_;simp[fK,h1,h2,P5]
  ·simp[h1,h2,fK,OM]
 ·simp[h1,fK,OM]
theorem vh(s:Sp)(a b:Bo)(r:Rat)(hs:j4 s.lo.at'∧j4 s.hi.at')(ha:j4 a.at')(hb:j4 b.at')(hr:j4 r)(hm:j4 (a.at'*r)∧j4 (b.at'*r)):aE Tryz.prog 165 [BD s,nZ a,nZ b,aZ r] (BD (eY s a b r)):=by
 refine aj Tryz.func165 rfl (by simp) (λC hC=>?_);simp;refine awI (Lg r) ?_;simp;refine⟨λh0=>?_,λh0=>⟨λh1=>?_,λh1=>?_⟩⟩
 ·simp[eY,h0]
 ·refine ae (we s.lo b r hs.1 hb hr hm.2) (by simp) ?_;simp;refine awI (we s.hi a r hs.2 ha hr hm.1) ?_;simp[eY,h0,h1,IP]
 ·refine ae (we s.lo a r hs.1 ha hr hm.1) (by simp) ?_;simp;refine awI (we s.hi b r hs.2 hb hr hm.2) ?_;simp[eY,h0,h1,IP]
end Go.Proofs
namespace Go.Li
open Go Go.Sv Go.Pl Go.Proofs Go.Tb Go.Ut
theorem QX{α:Type}[Inhabited α]{l:List α}{k i:Nat}(h:k+i<l.length):gt (l.drop k) i=gt l (k+i):=by rw[<-dY (by simp;omega),List.getElem_drop,dY h]
theorem Eg{n:Nat}:∀{ts:List Term} {c:Int},gH n c ts=false->∀k,k<ts.length->c<(gt ts k).iP∧(gt ts k).iP<n∧(gt ts k).num≠0∧∀k',k'<k->(gt ts k').iP<(gt ts k).iP
 | [],c,_,k,hk=>by simp at hk
 | t::ts,c,h,k,hk=>by
  simp only[gH,Bool.or_eq_false_iff,decide_eq_false_iff_not]at h;obtain⟨⟨⟨h1,h2⟩,h3⟩,h4⟩:=h;have ih:=Eg h4;cases k with
  | zero=>exact⟨by show c<t.iP;omega,by show t.iP<n;omega,h3,λk' h=>by omega⟩
  | succ k =>
   obtain⟨g1,g2,g3,g4⟩:=ih k (by simpa using hk);have ak:t.iP<(gt (t::ts) (k+1)).iP:=g1;refine⟨by omega,g2,g3,λk' ag=>?_⟩;cases k' with
   | zero=>exact g1
   | succ k'=>exact g4 k' (by omega)
theorem Di{t:Term}:∀{a:List Term} {j:Nat},cY (a++[t]) j=if t.iP=(j:Int) then(if(∀k,k<a.length->(gt a k).iP≠(j:Int)) then t.num else cY a j) else cY a j
 | [],j=>by simp[cY]
 | u::a,j=>by
  have ih:=Di (t:=t) (a:=a) (j:=j);show(if u.iP=(j:Int) then u.num else cY (a++[t]) j)=_;by_cases hu:u.iP=(j:Int)
  ·have:¬∀k,k<(u::a).length->(gt (u::a) k).iP≠(j:Int):=λh=>h 0 (by simp) hu;simp only[hu,if_true,if_neg this,cY,ite_self]
  ·have e:(∀k,k<(u::a).length->(gt (u::a) k).iP≠(j:Int))↔∀k,k<a.length->(gt a k).iP≠(j:Int):=by
    constructor
    ·exact λh k hk=>h (k+1) (by simpa using hk)
    ·intro h k hk;cases k with
     | zero=>exact hu
     | succ k=>exact h k (by simpa using hk)
   simp only[hu,if_false,cY,ih,e]
theorem Ju:∀{a:List Term} {j:Nat},(∀k,k<a.length->(gt a k).iP≠(j:Int))->cY a j=0
 | [],j,_=>rfl
 | u::a,j,h=>by unfold cY;rw[if_neg (show ¬u.iP=(j:Int) from h 0 (by simp)),Ju λk hk=>h (k+1) (by simpa using hk)]
def prR(p:aB)(y:List Rat)(i:Nat):List Rat:=(ayq p.ai.length).map λj=>dP p y j i
def prT(p:aB)(y:List Rat)(i k:Nat):List Rat:=(ayq p.ai.length).map λj=>dP p y j i - gt y i*cY ((gt p.rows i).aI.take k) j
@[simp] theorem ajM(p:aB)(y:List Rat)(i:Nat):(prR p y i).length=p.ai.length:=by simp[prR]
@[simp] theorem aih(p:aB)(y:List Rat)(i k:Nat):(prT p y i k).length=p.ai.length:=by simp[prT]
end Go.Li
namespace Go.Proofs
open Go.Sv Go Go.Tb Go.Pl Go.Ut Go.Li
end Go.Proofs


/- A text of the prover's own. -/
import Derived.Test.YtnimjdcaajmfcaaGreatDoorBKb
open List renaming mem_take_iff_getElem->avx,getElem_map->avy,take_of_length_le->aud,drop_length->avz,range->ati,take->avk
open Nat renaming lt_or_ge->as2
set_option maxRecDepth 10000
namespace Go.Li
open Go Go.Sv Go.Pl Go.Proofs Go.Tb Go.Ut
/-! names -/
def e0:ByteArray:=⟨#[]⟩
def mK(l:List ByteArray):Bool:=decide (¬l.Nodup)||l.any λx=>decide (x=e0)
theorem GP{l:List ByteArray}:(l.any λx=>decide (x=e0))=true↔e0∈l:=by simp
theorem oE{l:List ByteArray}{i:Nat}{x:ByteArray}(hi:i<=l.length):x∉l.take i↔∀k,k<i->x≠gt l k:=by
 constructor
 ·intro h k hk e;refine h ?_;rw[e,<-dY (show k<l.length by omega)];exact avx.2 ⟨k,by omega,rfl⟩
 ·intro h hx;obtain⟨k,hk,e⟩:=avx.1 hx;have ah:k<l.length:=by omega
  rw[dY ah]at e;exact h k (by omega) e.symm
theorem nE{l:List ByteArray}{i:Nat}(hi:i<l.length):(l.take (i+1)).Nodup↔(l.take i).Nodup∧gt l i∉l.take i:=by
 rw[fO hi,List.nodup_append];simp only[List.nodup_cons,List.not_mem_nil,not_false_eq_true,List.nodup_nil,and_self,List.mem_cons,or_false,forall_eq,true_and];constructor
 ·rintro⟨h1,h2⟩;exact⟨h1,λh=>h2 _ h rfl⟩
 ·rintro⟨h1,h2⟩;exact⟨h1,λa ha e=>h2 (e ▸ ha)⟩
theorem qC{l:List ByteArray}{i:Nat}(hi:i<l.length){x:ByteArray}:x∈l.take (i+1)↔x∈l.take i∨x=gt l i:=by rw[fO hi];simp
theorem HM{l:List ByteArray}(h:l.Nodup)(h':e0∉l):mK l=false:=by have:(l.any λx=>decide (x=e0))=false:=Bool.eq_false_iff.2 λe=>h' (GP.1 e);unfold mK;rw[this];simp[h]
theorem Eh{l:List ByteArray}{i k:Nat}(hi:i<l.length)(hk:k<i)(h:gt l i=gt l k):mK l=true:=by
 have:¬l.Nodup:=λhn=>by have h1:=(List.take_sublist (i+1) l).nodup hn;exact((oE (by omega)).1 ((nE hi).1 h1).2) k hk h
 simp[mK,this]
theorem La{l:List ByteArray}{i:Nat}(hi:i<l.length)(h:gt l i=e0):mK l=true:=by
 have:e0∈l:=by rw[<-h];exact gZ hi
 unfold mK;rw[GP.2 this];simp
/-! how often names stand in a list -/
def jv(s:ByteArray):List (ByteArray × Nat)->List (ByteArray × Nat)
 | []=>[(s,1)]
 | (t,n)::m=>if s=t then(t,n+1)::m else(t,n)::jv s m
def ku(s:ByteArray):List (ByteArray × Nat)->Nat
 | []=>0
 | (t,n)::m=>if s=t then n else ku s m
def iH(s:ByteArray):List (ByteArray × Nat)->Option Nat
 | []=>none
 | (t,_)::m=>if s=t then some 0 else(iH s m).map (·+1)
def rf(e:ByteArray × Nat):SV:=.bP [.val (.string e.1),.val (.int .i64 e.2)]
@[simp] theorem agd(k:Nat)(e:ByteArray × Nat):(rf e).lt k=true:=rfl
theorem uE(s:ByteArray):∀(m:List (ByteArray × Nat)) (i:Nat),lJ (.string s) (m.map rf) i=some ((iH s m).map λj=>(i+j,.val (.int .i64 (ku s m))))
 | [],i=>rfl
 | (t,n)::m,i=>by
  simp only[List.map_cons,rf,G8,OK,kgo];by_cases h:s=t
  ·simp[h,iH,ku]
  ·simp only[h,decide_false,iH,if_false,ku];have:=uE s m (i+1);simp only[this,Option.map_map];congr 2;funext j;simp only[Function.comp];congr 1;omega
theorem vp{s:ByteArray}:∀{m:List (ByteArray × Nat)},iH s m=none->jv s m=m++[(s,1)]∧ku s m=0
 | [],_=>⟨rfl,rfl⟩
 | (t,n)::m,h=>by
  by_cases e:s=t
  ·simp[iH,e]at h
  ·simp only[iH,e,if_false,Option.map_eq_none_iff]at h;obtain⟨h1,h2⟩:=vp h;simp[jv,ku,e,h1,h2]
theorem AY{s:ByteArray}:∀{m:List (ByteArray × Nat)} {j:Nat},iH s m=some j->jv s m=m.set j (s,ku s m+1)∧j<m.length
 | [],j,h=>by simp[iH]at h
 | (t,n)::m,j,h=>by
  by_cases e:s=t
  ·simp only[iH,e,if_true,Option.some.injEq]at h;subst h;simp[jv,ku,e]
  ·simp only[iH,e,if_false,Option.map_eq_some_iff]at h;obtain⟨j',h',rfl⟩:=h;obtain⟨h1,h2⟩:=AY h';simp[jv,ku,e,h1,h2]
def cm(l:List ByteArray):Nat->List (ByteArray × Nat)
 | 0=>[]
 | i+1=>jv (gt l i) (cm l i)
theorem HT{l:List ByteArray}{i:Nat}{s:ByteArray}(hs:gt l i=s)(h:iH s (cm l i)=none):(cm l i).map rf++[.bP [.val (.string s),.val (.int .i64 1)]]=(cm l (i+1)).map rf:=by show _=(jv (gt l i) (cm l i)).map rf;rw[hs,(vp h).1];simp[rf]
theorem IJ{l:List ByteArray}{i j:Nat}{s:ByteArray}(hs:gt l i=s)(h:iH s (cm l i)=some j):cZ ((cm l i).map rf) j (.bP [.val (.string s),.val (.int .i64 ((ku s (cm l i):Nat)+1))])=(cm l (i+1)).map rf:=by show _=(jv (gt l i) (cm l i)).map rf;rw[hs,(AY h).1,ec,List.map_set];rfl
theorem BJ{l:List ByteArray}{i:Nat}{s:ByteArray}(h:iH s (cm l i)=none):lJ (.string s) ((cm l i).map rf) 0=some none:=by rw[uE,h];rfl
theorem BM{l:List ByteArray}{i j:Nat}{s:ByteArray}(h:iH s (cm l i)=some j):lJ (.string s) ((cm l i).map rf) 0=some (some (j,.val (.int .i64 (ku s (cm l i):Nat)))):=by rw[uE,h];simp
theorem P2{l:List ByteArray}{i:Nat}{s:ByteArray}{M:aD}{a b:Nat}:Ue false M ⟨.int .i64,a,b,[.val (.int .i64 0)]⟩ (lJ (.string s) ((cm l i).map rf) 0)=.m True M [] (some (.val (.int .i64 (ku s (cm l i):Nat)))):=by
 rcases h:iH s (cm l i)with _ | j
 ·rw[BJ h,(vp h).2];rfl
 ·rw[BM h];rfl
theorem xA{s:ByteArray}:∀{m:List (ByteArray × Nat)},(∀t,ku t (jv s m)=ku t m+if t=s then 1 else 0)∧(jv s m).length=m.length+if iH s m=none then 1 else 0
 | []=>by refine⟨λt=>?_,by simp[jv,iH]⟩;by_cases h:t=s<;>simp[jv,ku,h]
 | (u,n)::m=>by
  obtain⟨h1,h2⟩:=xA (s:=s) (m:=m);by_cases e:s=u
  ·subst e;refine⟨λt=>?_,by simp[jv,iH]⟩;by_cases h:t=s<;>simp[jv,ku,h]
  ·refine⟨λt=>?_,by simp[jv,iH,e,h2];omega⟩;by_cases h:t=u
   ·subst h;simp[jv,ku,e,Ne.symm e]
   ·simp[jv,ku,e,h,h1]
theorem uc{l:List ByteArray}:∀i,i<=l.length->(∀t,0<ku t (cm l i)↔t∈l.take i)∧(∀t,ku t (cm l i)<=i)∧(∀t,iH t (cm l i)=none↔t∉l.take i)∧(cm l i).length<=i∧((cm l i).length=i↔(l.take i).Nodup)
 | 0,_=>by simp[cm,ku,iH]
 | i+1,hi=>by
  obtain⟨h1,h2,h3,h4,h5⟩:=uc (l:=l) i (by omega);obtain⟨g1,g2⟩:=xA (s:=gt l i) (m:=cm l i);have gi:∀(s t:ByteArray) (m:List (ByteArray × Nat)),iH t (jv s m)=none↔iH t m=none∧t≠s:=by
   intro s t m
   induction m with
   | nil =>
    by_cases h:t=s<;>simp[jv,iH,h]
   | cons a m ih =>
    obtain⟨u,n⟩:=a;by_cases e:s=u
    ·subst e;by_cases h:t=s<;>simp[jv,iH,h]
    ·by_cases h:t=u
     ·simp[jv,iH,e,h]
     ·simp[jv,iH,e,h,ih]
  refine⟨λt=>?_,λt=>?_,λt=>?_,?_,?_⟩
  ·rw[qC hi,<-h1 t];show 0<ku t (jv _ _)↔_;rw[g1];split<;>simp_all
  ·show ku t (jv _ _)<=_;rw[g1];have:=h2 t;split<;>omega
  ·show iH t (jv _ _)=none↔_;rw[gi,qC hi,h3];simp
  ·show(jv _ _).length<=_;rw[g2];split<;>omega
  ·show(jv _ _).length=_↔_;rw[g2,nE hi,<-h3,<-h5];by_cases h:iH (gt l i) (cm l i)=none
   ·simp[h]
   ·simp[h];omega
theorem Hr{l:List ByteArray}:(decide ((cm l l.length).length<l.length)||decide (0<ku e0 (cm l l.length)))=mK l:=by
 obtain⟨h1,h2,h3,h4,h5⟩:=uc (l:=l) l.length (by omega);rw[List.take_length]at h1 h3 h5;unfold mK;congr 1
 ·refine decide_eq_decide.2 ⟨λh hn=>?_,λh=>?_⟩
  ·have:=h5.2 hn;omega
  ·rcases as2 (cm l l.length).length l.length with h' | h'
   ·exact h'
   ·exact absurd (h5.1 (by omega)) h
 ·rw[Bool.eq_iff_iff,GP,decide_eq_true_iff];exact h1 e0
/-! rows -/
def fJ(n:Nat):Int->List Term->Bool
 | _,[]=>false
 | last,t::ts=>decide (t.g9<=last)||decide ((n:Int)<=t.g9)||decide (t.num=0)||fJ n t.g9 ts
theorem Ao{n:Nat}{ts:List Term}{k:Nat}{c:Int}(h:k<ts.length):fJ n c (ts.drop k)=(decide ((gt ts k).g9<=c)||decide ((n:Int)<=(gt ts k).g9)||decide ((gt ts k).num=0)||fJ n (gt ts k).g9 (ts.drop (k+1))):=by rw[Ho h];rfl
def Gs(p:aB):Bool:=p.rows.any λr=>fJ p.ab.length (-1) r.aC
def oq(p:aB):List ByteArray:=p.ab.map (·.name)
def oU(p:aB):List ByteArray:=p.rows.map (·.name)
theorem DC(p:aB):(oq p).length=p.ab.length:=by simp[oq]
theorem D4(p:aB):(oU p).length=p.rows.length:=by simp[oU]
theorem tN{p:aB}{i:Nat}(h:i<p.ab.length):gt (oq p) i=(gt p.ab i).name:=by unfold oq;rw[<-dY (by simpa using h),avy,dY h]
theorem sU{p:aB}{i:Nat}(h:i<p.rows.length):gt (oU p) i=(gt p.rows i).name:=by unfold oU;rw[<-dY (by simpa using h),avy,dY h]
noncomputable def bh(p:aB):Nat :=
 if 120<p.ab.length∨120<p.rows.length then 2 else if(mK (oq p)||mK (oU p))=true then 7 else if Gs p=true then 4 else 0
theorem xf{p:aB}(h:120<p.ab.length∨120<p.rows.length):bh p=2:=by unfold bh;rw[if_pos h]
theorem sB{p:aB}(h:¬(120<p.ab.length∨120<p.rows.length))(h':mK (oq p)=true∨mK (oU p)=true):bh p=7:=by unfold bh;rw[if_neg h,if_pos (by simpa using h')]
theorem IZ{p:aB}(h:¬(120<p.ab.length∨120<p.rows.length))(h1:mK (oq p)=false)(h2:mK (oU p)=false)(h':Gs p=true):bh p=4:=by unfold bh;rw[if_neg h,if_neg (by simp[h1,h2]),if_pos h']
theorem Hy{p:aB}(h:¬(120<p.ab.length∨120<p.rows.length))(h1:mK (oq p)=false)(h2:mK (oU p)=false)(h':Gs p=false):bh p=0:=by unfold bh;rw[if_neg h,if_neg (by simp[h1,h2]),if_neg (by simp[h'])]
theorem wM{p:aB}{i:Nat}(hi:i<p.rows.length)(h:fJ p.ab.length (-1) (gt p.rows i).aC=true):Gs p=true:=by unfold Gs;rw[List.any_eq_true];exact⟨_,gZ hi,h⟩
theorem Io{p:aB}(h:∀i,i<p.rows.length->fJ p.ab.length (-1) (gt p.rows i).aC=false):Gs p=false:=by unfold Gs;rw[List.any_eq_false];intro r hr;obtain⟨i,hi,rfl⟩:=List.getElem_of_mem hr;rw[dY hi,h i hi];simp
end Go.Li
namespace Go.Proofs
open Go.Sv Go Go.Tb Go.Pl Go.Ut Go.Li
structure As(p:aB):Prop where
 nc:p.ab.length<=1048576
 nr:p.rows.length<=1048576
 nt:∀i,i<p.rows.length->(gt p.rows i).aC.length<=1048576
theorem qY{r:Row}{k:Nat}(h:k<r.aC.length):aL (r.aC.map λt=>SV.val (.int .i64 t.g9)) k=.val (.int .i64 (gt r.aC k).g9):=cy (λt:Term=>SV.val (.int .i64 t.g9)) h
theorem qd{r:Row}{k:Nat}(h:k<r.aC.length):aL (r.aC.map λt=>cI t.num) k=cI (gt r.aC k).num:=cy (λt:Term=>cI t.num) h
theorem JN(p:aB)(h:As p):aG Tryz.prog 28 [bZ p] (.val (.int .i64 (bh p:Nat))):=by
 have nc:=h.nc;have nr:=h.nr;have lc:=DC p;have lr:=D4 p;refine aj Tryz.func28 rfl (by simp) (λC hC=>?_);simp
 repeat' (apply And.intro<;>intro _)
 ·have e:=xf (p:=p) (.inr (by omega));simp[e]
 ·have h2:¬(120<p.ab.length∨120<p.rows.length):=by omega
  refine aa.bM (ι:=Nat) (λi=>⟨138,[(1,.ptr 0 0 0),(3,iv i)],[some ⟨7,[bZ p],false⟩]⟩)
   (λi=>i<=p.ab.length∧((oq p).take i).Nodup∧e0∉(oq p).take i) (λi=>p.ab.length - i) 0 (by simp) ?_ ?_
  ·simp[aR,hC]
  ·rintro i ⟨hi,hd,he⟩;by_cases aP:i<p.ab.length
   ·simp(disch:=omega)[aP];repeat refine asi ?_
    refine aa.bM (ι:=Nat) (λk=>⟨138,[(1,.ptr 0 0 0),(3,iv i),(4,iv k)],[some ⟨7,[bZ p],false⟩]⟩)
     (λk=>k<=i∧∀k',k'<k->gt (oq p) i≠gt (oq p) k') (λk=>i - k) 0 (by simp) ?_ ?_
    ·simp[aR,hC]
    ·rintro k ⟨hk,hn⟩;by_cases ad:k<i
     ·simp(disch:=omega)[ad];repeat refine asi ?_
      refine aa.asj (.qs [0,1,2,3,4,5,6,7,8,9,10,11,12]<|.nil) ?_;have ac:k<p.ab.length:=by omega
      simp(disch:=omega)[dG,aK];repeat refine asi ?_
      rw[<-tN aP,<-tN ac];refine⟨λq=>?_,λq=>⟨k+1,⟨by omega,λk' ah=>?_⟩,by omega,Le.fm (by simp(disch:=omega)[aR,hC])⟩⟩
      ·simp[sB h2 (.inl (Eh (by omega) ad q))]
      ·rcases as2 k' k with h' | h'
       ·exact hn k' h'
       ·obtain rfl:k'=k:=by omega
        exact q
     ·obtain rfl:k=i:=by omega
      simp(disch:=omega)[dG,aK,aP];repeat refine asi ?_
      rw[<-tN aP];refine⟨λq=>?_,λq=>⟨k+1,⟨by omega,(nE (by omega)).2 ⟨hd,(oE (by omega)).2 hn⟩,λhm=>?_⟩,by omega,Le.fm (by simp(disch:=omega)[aR,hC])⟩⟩
      ·simp[sB h2 (.inl (La (by omega) q))]
      ·rcases(qC (by omega)).1 hm with h' | h'
       ·exact he h'
       ·exact q h'.symm
   ·obtain rfl:i=p.ab.length:=by omega
    rw[aud (by omega)]at hd he;have af:=HM hd he;simp;refine aa.bM (ι:=Nat) (λi=>⟨138,[(1,.ptr 0 0 0),(5,iv i)],[some ⟨7,[bZ p],false⟩]⟩)
     (λi=>i<=p.rows.length∧((oU p).take i).Nodup∧e0∉(oU p).take i) (λi=>p.rows.length - i) 0 (by simp) ?_ ?_
    ·simp[aR,hC]
    ·rintro i ⟨hi,hd,he⟩;by_cases aP:i<p.rows.length
     ·simp(disch:=omega)[aP];repeat refine asi ?_
      refine aa.bM (ι:=Nat) (λk=>⟨138,[(1,.ptr 0 0 0),(5,iv i),(6,iv k)],[some ⟨7,[bZ p],false⟩]⟩)
       (λk=>k<=i∧∀k',k'<k->gt (oU p) i≠gt (oU p) k') (λk=>i - k) 0 (by simp) ?_ ?_
      ·simp[aR,hC]
      ·rintro k ⟨hk,hn⟩;by_cases ad:k<i
       ·simp(disch:=omega)[ad];repeat refine asi ?_
        refine aa.asj (.qs [0,1,2,3,4,5,6,7,8,9,10,11,12]<|.nil) ?_;have ac:k<p.rows.length:=by omega
        simp(disch:=omega)[cS,aK];repeat refine asi ?_
        rw[<-sU aP,<-sU ac];refine⟨λq=>?_,λq=>⟨k+1,⟨by omega,λk' ah=>?_⟩,by omega,Le.fm (by simp(disch:=omega)[aR,hC])⟩⟩
        ·simp[sB h2 (.inr (Eh (by omega) ad q))]
        ·rcases as2 k' k with h' | h'
         ·exact hn k' h'
         ·obtain rfl:k'=k:=by omega
          exact q
       ·obtain rfl:k=i:=by omega
        simp(disch:=omega)[cS,aK,aP];repeat refine asi ?_
        rw[<-sU aP];refine⟨λq=>?_,λq=>⟨k+1,⟨by omega,(nE (by omega)).2 ⟨hd,(oE (by omega)).2 hn⟩,λhm=>?_⟩,by omega,Le.fm (by simp(disch:=omega)[aR,hC])⟩⟩
        ·simp[sB h2 (.inr (La (by omega) q))]
        ·rcases(qC (by omega)).1 hm with h' | h'
         ·exact he h'
         ·exact q h'.symm
     ·obtain rfl:i=p.rows.length:=by omega
      rw[aud (by omega)]at hd he;have ag:=HM hd he;simp;refine aa.bM (ι:=Nat) (λi=>⟨138,[(1,.ptr 0 0 0),(7,iv i)],[some ⟨7,[bZ p],false⟩]⟩)
       (λi=>i<=p.rows.length∧∀i',i'<i->fJ p.ab.length (-1) (gt p.rows i').aC=false) (λi=>p.rows.length - i) 0 (by simp) ?_ ?_
      ·simp[aR,hC]
      ·rintro i ⟨hi,hb⟩;by_cases aP:i<p.rows.length
       ·have nt:=h.nt i aP;simp(disch:=omega)[aP];repeat refine asi ?_
        refine aa.bM (ι:=Nat × Int) (λ⟨k,c⟩=>⟨138,[(1,.ptr 0 0 0),(7,iv i),(8,iv c),(9,iv k)],[some ⟨7,[bZ p],false⟩]⟩)
         (λ⟨k,c⟩=>k<=(gt p.rows i).aC.length∧fJ p.ab.length c ((gt p.rows i).aC.drop k)=fJ p.ab.length (-1) (gt p.rows i).aC) (λ⟨k,c⟩=>(gt p.rows i).aC.length - k) (0, -1) (by simp) ?_ ?_
        ·simp[aR,hC]
        ·rintro⟨k,c⟩ ⟨hk,hc⟩;by_cases ac:k<(gt p.rows i).aC.length
         ·rw[Ao ac]at hc;simp(disch:=omega)[cS,ac,qY,qd];repeat refine asi ?_
          refine asl (JY (gt (gt p.rows i).aC k).num) ?_;simp(disch:=omega)[aK];repeat refine asi ?_
          have v4:fJ p.ab.length (-1) (gt p.rows i).aC=true->(4:Int)=(bh p:Nat):=λe=>by rw[IZ h2 af ag (wM aP e)];rfl
          refine⟨λq1=>⟨λq2=>⟨λq3=>v4 (by rw[<-hc];simp[q3]),λq3=>?_⟩,λq2=>v4 (by rw[<-hc];simp[q2])⟩,λq1=>v4 (by rw[<-hc];simp[q1])⟩;refine⟨k+1,(gt (gt p.rows i).aC k).g9,⟨by omega,?_⟩,by omega,Le.fm (by simp(disch:=omega)[aR,hC])⟩;rw[<-hc];simp[q3,show ¬(gt (gt p.rows i).aC k).g9<=c by omega,show ¬(p.ab.length:Int)<=(gt (gt p.rows i).aC k).g9 by omega]
         ·obtain rfl:k=(gt p.rows i).aC.length:=by omega
          rw[avz]at hc;simp(disch:=omega)[cS];repeat refine asi ?_
          refine⟨i+1,⟨by omega,λi' ai=>?_⟩,by omega,Le.fm (by simp(disch:=omega)[aR,hC,aK])⟩;rcases as2 i' i with h' | h'
          ·exact hb i' h'
          ·obtain rfl:i'=i:=by omega
           exact hc.symm
       ·obtain rfl:i=p.rows.length:=by omega
        simp[Hy h2 af ag (Io hb)]
 ·have e:=xf (p:=p) (.inl (by omega));simp[e]
end Go.Proofs
namespace Go.Proofs
open Go.Sv Go Go.Tb Go.Pl Go.Ut Go.Li
theorem ym{r:Row}{k:Nat}(h:k<r.aC.length):aL (r.aC.map iB) k=iB (gt r.aC k):=cy iB h
theorem Au(p:aB)(h:As p):aG Tryz.prog 76 [.dc (bN p) 0] (O7 (bh p)):=by
 have nc:=h.nc;have nr:=h.nr;have lc:=DC p;have lr:=D4 p;refine aj Tryz.func76 rfl (by simp) (λC hC=>?_);simp
 repeat' (apply And.intro<;>intro _)
 ·rw[xf (p:=p) (.inr (by omega)),Rm]
 ·have h2:¬(120<p.ab.length∨120<p.rows.length):=by omega
  refine aa.bM (ι:=Nat) (λi=>⟨134,[(0,.dc (bN p) 0),(3,.mp 0),(4,.mp 1),(37,.ro (p.ab.map ji)),(38,iv p.ab.length),(39,iv i)],[some ⟨0,(cm (oq p) i).map rf,false⟩,some ⟨0,[],false⟩]⟩)
   (λi=>i<=p.ab.length) (λi=>p.ab.length - i) 0 (by simp) ?_ ?_
  ·simp[aR,hC,cm]
  ·rintro i hi;by_cases aP:i<p.ab.length
   ·obtain⟨f1,f2,f3,f4,f5⟩:=uc (l:=oq p) i (by omega);have g:=f2 (gt p.ab i).name;rcases hq:iH (gt p.ab i).name (cm (oq p) i)with _ | j
    ·simp(disch:=omega)[aP,uP,BJ hq];repeat refine asi ?_
     exact⟨i+1,by omega,by omega,Le.fm (by simp(disch:=omega)[aR,hC,aK,HT (tN aP) hq])⟩
    ·simp(disch:=omega)[aP,uP,BM hq];repeat refine asi ?_
     exact⟨i+1,by omega,by omega,Le.fm (by simp(disch:=omega)[aR,hC,aK,IJ (tN aP) hq])⟩
   ·obtain rfl:i=p.ab.length:=by omega
    simp;repeat refine asi ?_
    refine aa.bM (ι:=Nat) (λi=>⟨134,[(0,.dc (bN p) 0),(3,.mp 0),(4,.mp 1),(52,.ro (p.rows.map iG)),(53,iv p.rows.length),(54,iv i)],[some ⟨0,(cm (oq p) p.ab.length).map rf,false⟩,some ⟨0,(cm (oU p) i).map rf,false⟩]⟩)
     (λi=>i<=p.rows.length) (λi=>p.rows.length - i) 0 (by simp) ?_ ?_
    ·simp[aR,hC,cm]
    ·rintro i hi;by_cases aP:i<p.rows.length
     ·obtain⟨f1,f2,f3,f4,f5⟩:=uc (l:=oU p) i (by omega);have g:=f2 (gt p.rows i).name;rcases hq:iH (gt p.rows i).name (cm (oU p) i)with _ | j
      ·simp(disch:=omega)[aP,ux,BJ hq];repeat refine asi ?_
       exact⟨i+1,by omega,by omega,Le.fm (by simp(disch:=omega)[aR,hC,aK,HT (sU aP) hq])⟩
      ·simp(disch:=omega)[aP,ux,BM hq];repeat refine asi ?_
       exact⟨i+1,by omega,by omega,Le.fm (by simp(disch:=omega)[aR,hC,aK,IJ (sU aP) hq])⟩
     ·obtain rfl:i=p.rows.length:=by omega
      have bc:=Hr (l:=oq p);have br:=Hr (l:=oU p);rw[lc]at bc;rw[lr]at br;have v7:mK (oq p)=true∨mK (oU p)=true->O7 (bh p)=.iJ mC 7:=λh7=>by rw[sB h2 h7,Zu]
      simp;repeat refine asi ?_
      refine aa.asj (.qs [0,2,3,4,5,6]<|.l 1 []<|.qs [7,8,9,11,12,13,14,15]<|.l 10 []<|.qs [16,17,18,19]<|.l 20 []<|.qs [21,22,23,24]<|.l 25 []<|.qs [26,27]<|.nil) ?_;simp[P2];refine⟨λq1=>⟨λq2=>⟨λq3=>⟨λq4=>v7 (.inr (by rw[<-br];simp[e0,q4])),λq4=>?_⟩,λq3=>v7 (.inl (by rw[<-bc];simp[e0,q3]))⟩,λq2=>v7 (.inr (by rw[<-br];simp[q2]))⟩,λq1=>v7 (.inl (by rw[<-bc];simp[q1]))⟩;have af:mK (oq p)=false:=by rw[<-bc];simp[e0,q3];omega
      have ag:mK (oU p)=false:=by rw[<-br];simp[e0,q4];omega
      refine aa.bM (ι:=Nat) (λi=>⟨134,[(0,.dc (bN p) 0),(96,.ro (p.rows.map iG)),(97,iv p.rows.length),(98,iv i)],[]⟩)
       (λi=>i<=p.rows.length∧∀i',i'<i->fJ p.ab.length (-1) (gt p.rows i').aC=false) (λi=>p.rows.length - i) 0 (by simp) ?_ ?_
      ·simp[aR,hC]
      ·rintro i ⟨hi,hb⟩;by_cases aP:i<p.rows.length
       ·have nt:=h.nt i aP;simp(disch:=omega)[aP,ux];repeat refine asi ?_
        refine aa.bM (ι:=Nat × Int) (λ⟨k,c⟩=>⟨134,[(0,.dc (bN p) 0),(96,.ro (p.rows.map iG)),(97,iv p.rows.length),(98,iv i),(11,iv c),(103,.ro ((gt p.rows i).aC.map iB)),(104,iv (gt p.rows i).aC.length),(105,iv k)],[]⟩)
         (λ⟨k,c⟩=>k<=(gt p.rows i).aC.length∧fJ p.ab.length c ((gt p.rows i).aC.drop k)=fJ p.ab.length (-1) (gt p.rows i).aC) (λ⟨k,c⟩=>(gt p.rows i).aC.length - k) (0, -1) (by simp) ?_ ?_
        ·simp[aR,hC]
        ·rintro⟨k,c⟩ ⟨hk,hc⟩;by_cases ac:k<(gt p.rows i).aC.length
         ·rw[Ao ac]at hc;simp(disch:=omega)[ac,ym];repeat refine asi ?_
          refine aa.asj (.qs [0,1,2,3,4,5,6,7,8,9,10,11,12,13,14,15,16]<|.l 17 []<|.qs [18,19]<|.nil) ?_;simp(disch:=omega)[];repeat refine asi ?_
          have v4:fJ p.ab.length (-1) (gt p.rows i).aC=true->O7 (bh p)=.iJ mC 0:=λe=>by rw[IZ h2 af ag (wM aP e),X4]
          refine⟨λq1=>⟨λq2=>?_,λq2=>v4 (by rw[<-hc];simp[q2])⟩,λq1=>v4 (by rw[<-hc];simp[q1])⟩;refine asl (aiw (gt (gt p.rows i).aC k).num) ?_;simp(disch:=omega)[aK];repeat refine asi ?_
          refine⟨λq3=>v4 (by rw[<-hc];simp[q3]),λq3=>?_⟩;refine⟨k+1,(gt (gt p.rows i).aC k).g9,⟨by omega,?_⟩,by omega,Le.fm (by simp(disch:=omega)[aR,hC])⟩;rw[<-hc];simp[q3,show ¬(gt (gt p.rows i).aC k).g9<=c by omega,show ¬(p.ab.length:Int)<=(gt (gt p.rows i).aC k).g9 by omega]
         ·obtain rfl:k=(gt p.rows i).aC.length:=by omega
          rw[avz]at hc;simp(disch:=omega)[aK];repeat refine asi ?_
          refine⟨i+1,⟨by omega,λi' ai=>?_⟩,by omega,Le.fm (by simp(disch:=omega)[aR,hC])⟩;rcases as2 i' i with h' | h'
          ·exact hb i' h'
          ·obtain rfl:i'=i:=by omega
           exact hc.symm
       ·obtain rfl:i=p.rows.length:=by omega
        simp[Hy h2 af ag (Io hb),Nh]
 ·rw[xf (p:=p) (.inl (by omega)),Rm]
end Go.Proofs
set_option maxRecDepth 10000
namespace Go.Li
open Go Go.Sv Go.Pl Go.Proofs Go.Tb Go.Ut
def cW:List Term->Nat->Rat
 | [],_=>0
 | t::ts,j=>if t.g9=(j:Int) then t.num else cW ts j
theorem I8{ts:List Term}{k j:Nat}(h:k<ts.length):cW (ts.drop k) j=if(gt ts k).g9=(j:Int) then(gt ts k).num else cW (ts.drop (k+1)) j:=by rw[Ho h];rfl
def dP(p:aB)(y:List Rat)(j:Nat):Nat->Rat
 | 0=>(gt p.ab j).cost
 | i+1=>dP p y j i - gt y i*cW (gt p.rows i).aC j
def kH(p:aB)(y:List Rat):List Rat:=(ati p.ab.length).map λj=>dP p y j p.rows.length
theorem vE(p:aB)(y:List Rat):(kH p y).length=p.ab.length:=by simp[kH]
theorem AZ{p:aB}{y:List Rat}{j:Nat}(h:j<p.ab.length):gt (kH p y) j=dP p y j p.rows.length:=by unfold kH;rw[<-dY (by simpa using h)];simp
structure BoW(b:Bo):Prop where
 w:qw 2200 b.at'
structure cT(p:aB):Prop where
 sh:qw 2200 p.shift
 co:∀j,j<p.ab.length->qw 2200 (gt p.ab j).cost∧qw 2200 (gt p.ab j).low.at'∧qw 2200 (gt p.ab j).high.at'
 ro:∀i,i<p.rows.length->qw 2200 (gt p.rows i).low.at'∧qw 2200 (gt p.rows i).high.at'
 te:∀i,i<p.rows.length->∀k,k<(gt p.rows i).aC.length->qw 2200 (gt (gt p.rows i).aC k).num
theorem qK{k:Nat}(hk:1<=k):∀{ts:List Term} {j:Nat},(∀i,i<ts.length->qw k (gt ts i).num)->qw k (cW ts j)
 | [],j,_=>cL k hk
 | t::ts,j,h=>by
  unfold cW;split
  ·exact h 0 (by simp)
  ·exact qK hk λi hi=>h (i+1) (by simpa using hi)
/-! between two ends -/
structure Sp where
 lo:Bo
 hi:Bo
def eU(a b:Bo)(r:Rat):Bo:=if a.has=true∧b.has=true then⟨true,a.at'+b.at'*r⟩ else⟨false,0⟩
def eB(s:Sp)(low high:Bo)(r:Rat):Sp:=if r=0 then s else if r<0 then⟨eU s.lo high r,eU s.hi low r⟩ else⟨eU s.lo low r,eU s.hi high r⟩
def zK(p:aB)(y:List Rat):Nat->Sp
 | 0=>⟨⟨true,p.shift⟩,⟨true,p.shift⟩⟩
 | i+1=>eB (zK p y i) (gt p.rows i).low (gt p.rows i).high (gt y i)
def zJ(p:aB)(y:List Rat):Nat->Sp
 | 0=>zK p y p.rows.length
 | j+1=>eB (zJ p y j) (gt p.ab j).low (gt p.ab j).high (dP p y j p.rows.length)
def NY(k:Nat)(s:Sp):Prop:=qw k s.lo.at'∧qw k s.hi.at'
theorem wK{k l m:Nat}{a b:Bo}{r:Rat}(ha:qw k a.at')(hb:qw l b.at')(hr:qw m r)(hl:1<=l):qw (k+(l+m)+1) (eU a b r).at':=by
 unfold eU;split
 ·exact kg ha (cx hb hr (by omega))
 ·exact cL _ (by omega)
theorem tF{k l m:Nat}{s:Sp}{a b:Bo}{r:Rat}(hs:NY k s)(ha:qw l a.at')(hb:qw l b.at')(hr:qw m r)(hl:1<=l):NY (k+(l+m)+1) (eB s a b r):=by
 unfold eB;split
 ·exact⟨ay hs.1 (by omega),ay hs.2 (by omega)⟩
 ·split
  ·exact⟨wK hs.1 hb hr hl,wK hs.2 ha hr hl⟩
  ·exact⟨wK hs.1 ha hr hl,wK hs.2 hb hr hl⟩
def l6(p:aB)(y:List Rat):Bo:=if p.max=true then(zJ p y p.ab.length).hi else(zJ p y p.ab.length).lo
theorem GY{a b:Bo}{r:Rat}(h:(eU a b r).has=false):eU a b r=⟨false,0⟩:=by
 unfold eU at h ⊢;split
 ·rw[if_pos (by assumption)]at h;cases h
 ·rfl
def okB(b:Bo):Prop:=b.has=false->b.at'=0
def OB(s:Sp):Prop:=okB s.lo∧okB s.hi
theorem EX(a b:Bo)(r:Rat):okB (eU a b r):=λh=>by rw[GY h]
theorem AW{s:Sp}(h:OB s)(a b:Bo)(r:Rat):OB (eB s a b r):=by
 unfold eB;split
 ·exact h
 ·split<;>exact⟨EX _ _ _,EX _ _ _⟩
theorem MQ(p:aB)(y:List Rat):∀i,OB (zK p y i)
 | 0=>⟨λh=>(by cases h),λh=>(by cases h)⟩
 | i+1=>AW (MQ p y i) _ _ _
theorem GH(p:aB)(y:List Rat):∀i,OB (zJ p y i)
 | 0=>MQ p y _
 | i+1=>AW (GH p y i) _ _ _
theorem OA(p:aB)(y:List Rat):okB (l6 p y):=by
 unfold l6;split
 ·exact(GH p y _).2
 ·exact(GH p y _).1
def zL(s:Sp):SV:=.agg ((nB s.lo).cells++(nB s.hi).cells)
@[simp] theorem aeN(s:Sp):(zL s).gJ=10:=rfl
@[simp] theorem VB(s:Sp):(zL s).aV=false:=rfl
@[simp] theorem Wp(s:Sp):(zL s).isAgg=true:=rfl
@[simp] theorem aaR(s:Sp):(zL s).pure=true:=rfl
@[simp] theorem ah1(n:Nat)(s:Sp):(zL s).lt n=true:=rfl
@[simp] theorem aid(s:Sp):SV.agg ((zL s).cells.take 5)=nB s.lo:=rfl
@[simp] theorem ah6(s:Sp):SV.agg (((zL s).cells.drop 5).take 5)=nB s.hi:=rfl
theorem LU:nB ⟨false,0⟩=.agg [.val (.bool false),.val (.bool false),.ro [],.val (.bool false),.ro []]:=by simp[nB,qb,bj]
theorem LI{q:Rat}:SV.agg (.val (.bool true)::(cI q).cells)=nB ⟨true,q⟩:=rfl
theorem Ha{a b:Bo}:SV.agg ((nB a).cells++(nB b).cells)=zL ⟨a,b⟩:=rfl
@[simp] theorem aoZ(b:Bo):SV.agg (avk 4 (nB b).cells.tail)=qb b:=rfl
@[simp] theorem ao9(b:Bo):SV.agg (avk 4 (dh b).cells.tail)=aU b.at':=rfl
@[simp] theorem Yg(p:aB):SV.agg (avk 4 (bZ p).cells.tail)=cI p.shift:=rfl
@[simp] theorem aax(p:aB):SV.agg (avk 4 (bN p).cells.tail)=aU p.shift:=rfl
end Go.Li
namespace Go.Proofs
open Go.Sv Go Go.Tb Go.Pl Go.Ut Go.Li
theorem AR(r:Row)(hn:r.aC.length<=1048576)(j:Nat)(hj:j<=1048576):aG Tryz.prog 130 [lT r,iv j] (cI (cW r.aC j)):=by
 refine aj Tryz.func130 rfl (by simp) (λC hC=>?_);simp;refine aa.bM (ι:=Nat) (λk=>⟨26,[(1,iv j),(2,.ptr 0 0 0),(4,.ptr 1 0 0),(5,iv k)],[some ⟨13,[lT r],false⟩,some ⟨4,[.agg [.val (.bool false),.val (.slice none 0 0),.val (.bool false),.val (.slice none 0 0)]],false⟩]⟩)
  (λk=>k<=r.aC.length∧cW (r.aC.drop k) j=cW r.aC j) (λk=>r.aC.length - k) 0 (by simp) ?_ ?_
 ·simp[aR,hC]
 ·rintro k ⟨hk,he⟩;by_cases aP:k<r.aC.length
  ·rw[I8 aP]at he;simp(disch:=omega)[aP,qY,qd,aK];repeat refine asi ?_
   refine⟨λq=>by rw[<-he,if_pos q],λq=>⟨k+1,⟨by omega,by rw[<-he,if_neg q]⟩,by omega,Le.fm (by simp(disch:=omega)[aR,hC])⟩⟩
  ·obtain rfl:k=r.aC.length:=by omega
   rw[avz]at he;simp;repeat refine asi ?_
   refine asl (s7) ?_;simp;rw[<-he];rfl
theorem uy(q:Rat):aG Tryz.prog 164 [cI q] (zL ⟨⟨true,q⟩,⟨true,q⟩⟩):=by refine aj Tryz.func164 rfl (by simp) (λC hC=>?_);simp[LI];rw[Ha];exact j8 _ _ rfl
theorem sL(a b:Bo)(r:Rat)(ha:kc a.at')(hb:kc b.at')(hr:kc r)(hm:kc (b.at'*r)):aG Tryz.prog 185 [nB a,nB b,cI r] (nB (eU a b r)):=by
 refine aj Tryz.func185 rfl (by simp) (λC hC=>?_);by_cases h1:a.has=true
 ·by_cases h2:b.has=true
  ·simp[h1,h2];rw[kS h2];refine asl (mv _ _ hb hr) ?_;simp;rw[kS h1];refine asl (mi _ _ ha hm) ?_;simp[eU,h1,h2,LI]
  ·simp[h1,h2,eU,LU]
 ·simp[h1,eU,LU]
theorem tu(s:Sp)(a b:Bo)(r:Rat)(hs:kc s.lo.at'∧kc s.hi.at')(ha:kc a.at')(hb:kc b.at')(hr:kc r)(hm:kc (a.at'*r)∧kc (b.at'*r)):aG Tryz.prog 165 [zL s,nB a,nB b,cI r] (zL (eB s a b r)):=by
 refine aj Tryz.func165 rfl (by simp) (λC hC=>?_);simp;refine asl (JY r) ?_;simp;refine⟨λh0=>?_,λh0=>⟨λh1=>?_,λh1=>?_⟩⟩
 ·simp[eB,h0]
 ·refine ae (sL s.lo b r hs.1 hb hr hm.2) (by simp) ?_;simp;refine asl (sL s.hi a r hs.2 ha hr hm.1) ?_;simp[eB,h0,h1,Ha]
 ·refine ae (sL s.lo a r hs.1 ha hr hm.1) (by simp) ?_;simp;refine asl (sL s.hi b r hs.2 hb hr hm.2) ?_;simp[eB,h0,h1,Ha]
end Go.Proofs
namespace Go.Li
open Go Go.Sv Go.Pl Go.Proofs Go.Tb Go.Ut
theorem BO{n:Nat}:∀{ts:List Term} {c:Int},fJ n c ts=false->∀k,k<ts.length->c<(gt ts k).g9∧(gt ts k).g9<n∧(gt ts k).num≠0∧∀k',k'<k->(gt ts k').g9<(gt ts k).g9
 | [],c,_,k,hk=>by simp at hk
 | t::ts,c,h,k,hk=>by
  simp only[fJ,Bool.or_eq_false_iff,decide_eq_false_iff_not]at h;obtain⟨⟨⟨h1,h2⟩,h3⟩,h4⟩:=h;have ih:=BO h4;cases k with
  | zero=>exact⟨by show c<t.g9;omega,by show t.g9<n;omega,h3,λk' h=>by omega⟩
  | succ k =>
   obtain⟨g1,g2,g3,g4⟩:=ih k (by simpa using hk);have ak:t.g9<(gt (t::ts) (k+1)).g9:=g1;refine⟨by omega,g2,g3,λk' ah=>?_⟩;cases k' with
   | zero=>exact g1
   | succ k'=>exact g4 k' (by omega)
theorem AL{t:Term}:∀{a:List Term} {j:Nat},cW (a++[t]) j=if t.g9=(j:Int) then(if(∀k,k<a.length->(gt a k).g9≠(j:Int)) then t.num else cW a j) else cW a j
 | [],j=>by simp[cW]
 | u::a,j=>by
  have ih:=AL (t:=t) (a:=a) (j:=j);show(if u.g9=(j:Int) then u.num else cW (a++[t]) j)=_;by_cases hu:u.g9=(j:Int)
  ·have:¬∀k,k<(u::a).length->(gt (u::a) k).g9≠(j:Int):=λh=>h 0 (by simp) hu;simp only[hu,if_true,if_neg this,cW,ite_self]
  ·have e:(∀k,k<(u::a).length->(gt (u::a) k).g9≠(j:Int))↔∀k,k<a.length->(gt a k).g9≠(j:Int):=by
    constructor
    ·exact λh k hk=>h (k+1) (by simpa using hk)
    ·intro h k hk;cases k with
     | zero=>exact hu
     | succ k=>exact h k (by simpa using hk)
   simp only[hu,if_false,cW,ih,e]
theorem I0:∀{a:List Term} {j:Nat},(∀k,k<a.length->(gt a k).g9≠(j:Int))->cW a j=0
 | [],j,_=>rfl
 | u::a,j,h=>by unfold cW;rw[if_neg (show ¬u.g9=(j:Int) from h 0 (by simp)),I0 λk hk=>h (k+1) (by simpa using hk)]
def prR(p:aB)(y:List Rat)(i:Nat):List Rat:=(ati p.ab.length).map λj=>dP p y j i
def prT(p:aB)(y:List Rat)(i k:Nat):List Rat:=(ati p.ab.length).map λj=>dP p y j i - gt y i*cW ((gt p.rows i).aC.take k) j
@[simp] theorem ag4(p:aB)(y:List Rat)(i:Nat):(prR p y i).length=p.ab.length:=by simp[prR]
@[simp] theorem afR(p:aB)(y:List Rat)(i k:Nat):(prT p y i k).length=p.ab.length:=by simp[prT]
end Go.Li
namespace Go.Proofs
open Go.Sv Go Go.Tb Go.Pl Go.Ut Go.Li
end Go.Proofs


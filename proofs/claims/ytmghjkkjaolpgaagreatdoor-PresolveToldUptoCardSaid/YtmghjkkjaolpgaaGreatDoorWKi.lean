/- A text of the prover's own. -/
import Derived.Test.YtmghjkkjaolpgaaGreatDoorWKb
open List renaming mem_take_iff_getElem→anM,getElem_map→anN,take_of_length_le→amv,drop_length→anO,range→alI,take→anI
open Nat renaming lt_or_ge→alr
set_option maxRecDepth 10000
namespace Go.Li
open Go Go.Sv Go.Pl Go.Proofs Go.Tb Go.Ut
/-! names -/
def e0:ByteArray:=⟨#[]⟩
def lS(l:List ByteArray):Bool:=decide (¬l.Nodup)||l.any fun x=>decide (x=e0)
theorem B6{l:List ByteArray}:(l.any fun x=>decide (x=e0))=true↔e0∈l:=by simp
theorem mN{l:List ByteArray}{i:Nat}{x:ByteArray}(hi:i≤l.length):x∉l.take i↔∀k,k<i→x≠gt l k:=by
 constructor
 ·intro h k hk e;refine h ?_;rw[e,←ee (show k<l.length by omega)];exact anM.2 ⟨k,by omega,rfl⟩
 ·intro h hx;obtain⟨k,hk,e⟩:=anM.1 hx;have hk':k<l.length:=by omega
  rw[ee hk']at e;exact h k (by omega) e.symm
theorem mJ{l:List ByteArray}{i:Nat}(hi:i<l.length):(l.take (i+1)).Nodup↔(l.take i).Nodup∧gt l i∉l.take i:=by
 rw[fJ hi,List.nodup_append];simp only[List.nodup_cons,List.not_mem_nil,not_false_eq_true,List.nodup_nil,and_self,List.mem_cons,or_false,forall_eq,true_and];constructor
 ·rintro⟨h1,h2⟩;exact⟨h1,fun h=>h2 _ h rfl⟩
 ·rintro⟨h1,h2⟩;exact⟨h1,fun a ha e=>h2 (e ▸ ha)⟩
theorem oO{l:List ByteArray}{i:Nat}(hi:i<l.length){x:ByteArray}:x∈l.take (i+1)↔x∈l.take i∨x=gt l i:=by
 rw[fJ hi];simp
theorem D1{l:List ByteArray}(h:l.Nodup)(h':e0∉l):lS l=false:=by
 have:(l.any fun x=>decide (x=e0))=false:=Bool.eq_false_iff.2 fun e=>h' (B6.1 e);unfold lS;rw[this];simp[h]
theorem z9{l:List ByteArray}{i k:Nat}(hi:i<l.length)(hk:k<i)(h:gt l i=gt l k):lS l=true:=by
 have:¬l.Nodup:=fun hn=>by
  have h1:=(List.take_sublist (i+1) l).nodup hn;exact((mN (by omega)).1 ((mJ hi).1 h1).2) k hk h
 simp[lS,this]
theorem HO{l:List ByteArray}{i:Nat}(hi:i<l.length)(h:gt l i=e0):lS l=true:=by
 have:e0∈l:=by rw[←h];exact jz hi
 unfold lS;rw[B6.2 this];simp
/-! how often names stand in a list -/
def jf(s:ByteArray):List (ByteArray × Nat)→List (ByteArray × Nat)
 | []=>[(s,1)]
 | (t,n)::m=>if s=t then(t,n+1)::m else(t,n)::jf s m
def kb(s:ByteArray):List (ByteArray × Nat)→Nat
 | []=>0
 | (t,n)::m=>if s=t then n else kb s m
def ia(s:ByteArray):List (ByteArray × Nat)→Option Nat
 | []=>none
 | (t,_)::m=>if s=t then some 0 else(ia s m).map (·+1)
def pg(e:ByteArray × Nat):SV:=.bO [.val (.string e.1),.val (.int .i64 e.2)]
@[simp] theorem YU(k:Nat)(e:ByteArray × Nat):(pg e).lt k=true:=rfl
theorem rZ(s:ByteArray):∀(m:List (ByteArray × Nat)) (i:Nat),eX (.string s) (m.map pg) i=some ((ia s m).map fun j=>(i+j,.val (.int .i64 (kb s m))))
 | [],i=>rfl
 | (t,n)::m,i=>by
  simp only[List.map_cons,pg,BR,Jp,LW];by_cases h:s=t
  ·simp[h,ia,kb]
  ·simp only[h,decide_false,ia,if_false,kb];have:=rZ s m (i+1);simp only[this,Option.map_map];congr 2;funext j;simp only[Function.comp];congr 1;omega
theorem sk{s:ByteArray}:∀{m:List (ByteArray × Nat)},ia s m=none→jf s m=m++[(s,1)]∧kb s m=0
 | [],_=>⟨rfl,rfl⟩
 | (t,n)::m,h=>by
  by_cases e:s=t
  ·simp[ia,e]at h
  ·simp only[ia,e,if_false,Option.map_eq_none_iff]at h;obtain⟨h1,h2⟩:=sk h;simp[jf,kb,e,h1,h2]
theorem xG{s:ByteArray}:∀{m:List (ByteArray × Nat)} {j:Nat},ia s m=some j→jf s m=m.set j (s,kb s m+1)∧j<m.length
 | [],j,h=>by simp[ia]at h
 | (t,n)::m,j,h=>by
  by_cases e:s=t
  ·simp only[ia,e,if_true,Option.some.injEq]at h;subst h;simp[jf,kb,e]
  ·simp only[ia,e,if_false,Option.map_eq_some_iff]at h;obtain⟨j',h',rfl⟩:=h;obtain⟨h1,h2⟩:=xG h';simp[jf,kb,e,h1,h2]
def cm(l:List ByteArray):Nat→List (ByteArray × Nat)
 | 0=>[]
 | i+1=>jf (gt l i) (cm l i)
theorem DW{l:List ByteArray}{i:Nat}{s:ByteArray}(hs:gt l i=s)(h:ia s (cm l i)=none):(cm l i).map pg++[.bO [.val (.string s),.val (.int .i64 1)]]=(cm l (i+1)).map pg:=by
 show _=(jf (gt l i) (cm l i)).map pg;rw[hs,(sk h).1];simp[pg]
theorem CN{l:List ByteArray}{i j:Nat}{s:ByteArray}(hs:gt l i=s)(h:ia s (cm l i)=some j):bl ((cm l i).map pg) j (.bO [.val (.string s),.val (.int .i64 ((kb s (cm l i):Nat)+1))])=(cm l (i+1)).map pg:=by
 show _=(jf (gt l i) (cm l i)).map pg;rw[hs,(xG h).1,ct,List.map_set];rfl
theorem zh{l:List ByteArray}{i:Nat}{s:ByteArray}(h:ia s (cm l i)=none):eX (.string s) ((cm l i).map pg) 0=some none:=by rw[rZ,h];rfl
theorem yP{l:List ByteArray}{i j:Nat}{s:ByteArray}(h:ia s (cm l i)=some j):eX (.string s) ((cm l i).map pg) 0=some (some (j,.val (.int .i64 (kb s (cm l i):Nat)))):=by rw[rZ,h];simp
theorem JT{l:List ByteArray}{i:Nat}{s:ByteArray}{M:aJ}{a b:Nat}:JN false M ⟨.int .i64,a,b,[.val (.int .i64 0)]⟩ (eX (.string s) ((cm l i).map pg) 0)=.m True M [] (some (.val (.int .i64 (kb s (cm l i):Nat)))):=by
 rcases h:ia s (cm l i)with _ | j
 ·rw[zh h,(sk h).2];rfl
 ·rw[yP h];rfl
theorem vO{s:ByteArray}:∀{m:List (ByteArray × Nat)},(∀t,kb t (jf s m)=kb t m+if t=s then 1 else 0)∧(jf s m).length=m.length+if ia s m=none then 1 else 0
 | []=>by
  refine⟨fun t=>?_,by simp[jf,ia]⟩;by_cases h:t=s<;>simp[jf,kb,h]
 | (u,n)::m=>by
  obtain⟨h1,h2⟩:=vO (s:=s) (m:=m);by_cases e:s=u
  ·subst e;refine⟨fun t=>?_,by simp[jf,ia]⟩;by_cases h:t=s<;>simp[jf,kb,h]
  ·refine⟨fun t=>?_,by simp[jf,ia,e,h2];omega⟩;by_cases h:t=u
   ·subst h;simp[jf,kb,e,Ne.symm e]
   ·simp[jf,kb,e,h,h1]
theorem ri{l:List ByteArray}:∀i,i≤l.length→(∀t,0<kb t (cm l i)↔t∈l.take i)∧(∀t,kb t (cm l i)≤i)∧(∀t,ia t (cm l i)=none↔t∉l.take i)∧(cm l i).length≤i∧((cm l i).length=i↔(l.take i).Nodup)
 | 0,_=>by simp[cm,kb,ia]
 | i+1,hi=>by
  obtain⟨h1,h2,h3,h4,h5⟩:=ri (l:=l) i (by omega);obtain⟨g1,g2⟩:=vO (s:=gt l i) (m:=cm l i);have gi:∀(s t:ByteArray) (m:List (ByteArray × Nat)),ia t (jf s m)=none↔ia t m=none∧t≠s:=by
   intro s t m
   induction m with
   | nil =>
    by_cases h:t=s<;>simp[jf,ia,h]
   | cons a m ih =>
    obtain⟨u,n⟩:=a;by_cases e:s=u
    ·subst e;by_cases h:t=s<;>simp[jf,ia,h]
    ·by_cases h:t=u
     ·simp[jf,ia,e,h]
     ·simp[jf,ia,e,h,ih]
  refine⟨fun t=>?_,fun t=>?_,fun t=>?_,?_,?_⟩
  ·rw[oO hi,←h1 t];show 0<kb t (jf _ _)↔_;rw[g1];split<;>simp_all
  ·show kb t (jf _ _)≤_;rw[g1];have:=h2 t;split<;>omega
  ·show ia t (jf _ _)=none↔_;rw[gi,oO hi,h3];simp
  ·show(jf _ _).length≤_;rw[g2];split<;>omega
  ·show(jf _ _).length=_↔_;rw[g2,mJ hi,←h3,←h5];by_cases h:ia (gt l i) (cm l i)=none
   ·simp[h]
   ·simp[h];omega
theorem D9{l:List ByteArray}:(decide ((cm l l.length).length<l.length)||decide (0<kb e0 (cm l l.length)))=lS l:=by
 obtain⟨h1,h2,h3,h4,h5⟩:=ri (l:=l) l.length (by omega);rw[List.take_length]at h1 h3 h5;unfold lS;congr 1
 ·refine decide_eq_decide.2 ⟨fun h hn=>?_,fun h=>?_⟩
  ·have:=h5.2 hn;omega
  ·rcases alr (cm l l.length).length l.length with h' | h'
   ·exact h'
   ·exact absurd (h5.1 (by omega)) h
 ·rw[Bool.eq_iff_iff,B6,decide_eq_true_iff];exact h1 e0
/-! rows -/
def gH(n:Nat):Int→List Term→Bool
 | _,[]=>false
 | last,t::ts=>decide (t.aI≤last)||decide ((n:Int)≤t.aI)||decide (t.num=0)||gH n t.aI ts
theorem xn{n:Nat}{ts:List Term}{k:Nat}{c:Int}(h:k<ts.length):gH n c (ts.drop k)=(decide ((gt ts k).aI≤c)||decide ((n:Int)≤(gt ts k).aI)||decide ((gt ts k).num=0)||gH n (gt ts k).aI (ts.drop (k+1))):=by
 rw[DX h];rfl
def Cf(p:aV):Bool:=p.rows.any fun r=>gH p.ae.length (-1) r.ab
def my(p:aV):List ByteArray:=p.ae.map (·.name)
def dG(p:aV):List ByteArray:=p.rows.map (·.name)
theorem zW(p:aV):(my p).length=p.ae.length:=by simp[my]
theorem Aa(p:aV):(dG p).length=p.rows.length:=by simp[dG]
theorem rE{p:aV}{i:Nat}(h:i<p.ae.length):gt (my p) i=(gt p.ae i).name:=by
 unfold my;rw[←ee (by simpa using h),anN,ee h]
theorem qy{p:aV}{i:Nat}(h:i<p.rows.length):gt (dG p) i=(gt p.rows i).name:=by
 unfold dG;rw[←ee (by simpa using h),anN,ee h]
noncomputable def cB(p:aV):Nat :=
 if 120<p.ae.length∨120<p.rows.length then 2 else if(lS (my p)||lS (dG p))=true then 7 else if Cf p=true then 4 else 0
theorem tS{p:aV}(h:120<p.ae.length∨120<p.rows.length):cB p=2:=by unfold cB;rw[if_pos h]
theorem qQ{p:aV}(h:¬(120<p.ae.length∨120<p.rows.length))(h':lS (my p)=true∨lS (dG p)=true):cB p=7:=by
 unfold cB;rw[if_neg h,if_pos (by simpa using h')]
theorem DJ{p:aV}(h:¬(120<p.ae.length∨120<p.rows.length))(h1:lS (my p)=false)(h2:lS (dG p)=false)(h':Cf p=true):cB p=4:=by
 unfold cB;rw[if_neg h,if_neg (by simp[h1,h2]),if_pos h']
theorem Dk{p:aV}(h:¬(120<p.ae.length∨120<p.rows.length))(h1:lS (my p)=false)(h2:lS (dG p)=false)(h':Cf p=false):cB p=0:=by
 unfold cB;rw[if_neg h,if_neg (by simp[h1,h2]),if_neg (by simp[h'])]
theorem yv{p:aV}{i:Nat}(hi:i<p.rows.length)(h:gH p.ae.length (-1) (gt p.rows i).ab=true):Cf p=true:=by
 unfold Cf;rw[List.any_eq_true];exact⟨_,jz hi,h⟩
theorem DZ{p:aV}(h:∀i,i<p.rows.length→gH p.ae.length (-1) (gt p.rows i).ab=false):Cf p=false:=by
 unfold Cf;rw[List.any_eq_false];intro r hr;obtain⟨i,hi,rfl⟩:=List.getElem_of_mem hr;rw[ee hi,h i hi];simp
end Go.Li
namespace Go.Proofs
open Go.Sv Go Go.Tb Go.Pl Go.Ut Go.Li
structure I6(p:aV):Prop where
 nc:p.ae.length≤1048576
 nr:p.rows.length≤1048576
 nt:∀i,i<p.rows.length→(gt p.rows i).ab.length≤1048576
theorem gx{r:Row}{k:Nat}(h:k<r.ab.length):aB (r.ab.map fun t=>SV.val (.int .i64 t.aI)) k=.val (.int .i64 (gt r.ab k).aI):=dM (fun t:Term=>SV.val (.int .i64 t.aI)) h
theorem iC{r:Row}{k:Nat}(h:k<r.ab.length):aB (r.ab.map fun t=>bL t.num) k=bL (gt r.ab k).num:=dM (fun t:Term=>bL t.num) h
theorem Fp(p:aV)(h:I6 p):aF Tryz.prog 8 [dd p] (.val (.int .i64 (cB p:Nat))):=by
 have nc:=h.nc;have nr:=h.nr;have lc:=zW p;have lr:=Aa p;refine aj Tryz.func8 rfl (by simp) (fun C hC=>?_);simp
 repeat' (apply And.intro<;>intro _)
 ·have e:=tS (p:=p) (.inr (by omega));simp[e]
 ·have h2:¬(120<p.ae.length∨120<p.rows.length):=by omega
  refine aa.bG (ι:=Nat) (fun i=>⟨138,[(1,.ptr 0 0 0),(3,iv i)],[some ⟨7,[dd p],false⟩]⟩)
   (fun i=>i≤p.ae.length∧((my p).take i).Nodup∧e0∉(my p).take i) (fun i=>p.ae.length - i) 0 (by simp) ?_ ?_
  ·simp[aw,hC]
  ·rintro i ⟨hi,hd,he⟩;by_cases az:i<p.ae.length
   ·simp(disch:=omega)[az];repeat refine akI ?_
    refine aa.bG (ι:=Nat) (fun k=>⟨138,[(1,.ptr 0 0 0),(3,iv i),(4,iv k)],[some ⟨7,[dd p],false⟩]⟩)
     (fun k=>k≤i∧∀k',k'<k→gt (my p) i≠gt (my p) k') (fun k=>i - k) 0 (by simp) ?_ ?_
    ·simp[aw,hC]
    ·rintro k ⟨hk,hn⟩;by_cases hki:k<i
     ·simp(disch:=omega)[hki];repeat refine akI ?_
      refine aa.akJ (.qs [0,1,2,3,4,5,6,7,8,9,10,11,12]<|.nil) ?_;have hkl:k<p.ae.length:=by omega
      simp(disch:=omega)[dq,aN];repeat refine akI ?_
      rw[←rE az,←rE hkl];refine⟨fun q=>?_,fun q=>⟨k+1,⟨by omega,fun k' hk'=>?_⟩,by omega,Le.bA (by simp(disch:=omega)[aw,hC,aN])⟩⟩
      ·simp[qQ h2 (.inl (z9 (by omega) hki q))]
      ·rcases alr k' k with h' | h'
       ·exact hn k' h'
       ·obtain rfl:k'=k:=by omega
        exact q
     ·obtain rfl:k=i:=by omega
      simp(disch:=omega)[dq,aN,az];repeat refine akI ?_
      rw[←rE az];refine⟨fun q=>?_,fun q=>⟨k+1,⟨by omega,(mJ (by omega)).2 ⟨hd,(mN (by omega)).2 hn⟩,fun hm=>?_⟩,by omega,Le.bA (by simp(disch:=omega)[aw,hC,aN])⟩⟩
      ·simp[qQ h2 (.inl (HO (by omega) q))]
      ·rcases(oO (by omega)).1 hm with h' | h'
       ·exact he h'
       ·exact q h'.symm
   ·obtain rfl:i=p.ae.length:=by omega
    rw[amv (by omega)]at hd he;have hbc:=D1 hd he;simp;refine aa.bG (ι:=Nat) (fun i=>⟨138,[(1,.ptr 0 0 0),(5,iv i)],[some ⟨7,[dd p],false⟩]⟩)
     (fun i=>i≤p.rows.length∧((dG p).take i).Nodup∧e0∉(dG p).take i) (fun i=>p.rows.length - i) 0 (by simp) ?_ ?_
    ·simp[aw,hC]
    ·rintro i ⟨hi,hd,he⟩;by_cases az:i<p.rows.length
     ·simp(disch:=omega)[az];repeat refine akI ?_
      refine aa.bG (ι:=Nat) (fun k=>⟨138,[(1,.ptr 0 0 0),(5,iv i),(6,iv k)],[some ⟨7,[dd p],false⟩]⟩)
       (fun k=>k≤i∧∀k',k'<k→gt (dG p) i≠gt (dG p) k') (fun k=>i - k) 0 (by simp) ?_ ?_
      ·simp[aw,hC]
      ·rintro k ⟨hk,hn⟩;by_cases hki:k<i
       ·simp(disch:=omega)[hki];repeat refine akI ?_
        refine aa.akJ (.qs [0,1,2,3,4,5,6,7,8,9,10,11,12]<|.nil) ?_;have hkl:k<p.rows.length:=by omega
        simp(disch:=omega)[eU,aN];repeat refine akI ?_
        rw[←qy az,←qy hkl];refine⟨fun q=>?_,fun q=>⟨k+1,⟨by omega,fun k' hk'=>?_⟩,by omega,Le.bA (by simp(disch:=omega)[aw,hC,aN])⟩⟩
        ·simp[qQ h2 (.inr (z9 (by omega) hki q))]
        ·rcases alr k' k with h' | h'
         ·exact hn k' h'
         ·obtain rfl:k'=k:=by omega
          exact q
       ·obtain rfl:k=i:=by omega
        simp(disch:=omega)[eU,aN,az];repeat refine akI ?_
        rw[←qy az];refine⟨fun q=>?_,fun q=>⟨k+1,⟨by omega,(mJ (by omega)).2 ⟨hd,(mN (by omega)).2 hn⟩,fun hm=>?_⟩,by omega,Le.bA (by simp(disch:=omega)[aw,hC,aN])⟩⟩
        ·simp[qQ h2 (.inr (HO (by omega) q))]
        ·rcases(oO (by omega)).1 hm with h' | h'
         ·exact he h'
         ·exact q h'.symm
     ·obtain rfl:i=p.rows.length:=by omega
      rw[amv (by omega)]at hd he;have hbr:=D1 hd he;simp;refine aa.bG (ι:=Nat) (fun i=>⟨138,[(1,.ptr 0 0 0),(7,iv i)],[some ⟨7,[dd p],false⟩]⟩)
       (fun i=>i≤p.rows.length∧∀i',i'<i→gH p.ae.length (-1) (gt p.rows i').ab=false) (fun i=>p.rows.length - i) 0 (by simp) ?_ ?_
      ·simp[aw,hC]
      ·rintro i ⟨hi,hb⟩;by_cases az:i<p.rows.length
       ·have nt:=h.nt i az;simp(disch:=omega)[az];repeat refine akI ?_
        refine aa.bG (ι:=Nat × Int) (fun⟨k,c⟩=>⟨138,[(1,.ptr 0 0 0),(7,iv i),(8,iv c),(9,iv k)],[some ⟨7,[dd p],false⟩]⟩)
         (fun⟨k,c⟩=>k≤(gt p.rows i).ab.length∧gH p.ae.length c ((gt p.rows i).ab.drop k)=gH p.ae.length (-1) (gt p.rows i).ab) (fun⟨k,c⟩=>(gt p.rows i).ab.length - k) (0, -1) (by simp) ?_ ?_
        ·simp[aw,hC]
        ·rintro⟨k,c⟩ ⟨hk,hc⟩;by_cases hkl:k<(gt p.rows i).ab.length
         ·rw[xn hkl]at hc;simp(disch:=omega)[eU,hkl,gx,iC];repeat refine akI ?_
          refine akK (wU (gt (gt p.rows i).ab k).num) ?_;simp(disch:=omega)[aN];repeat refine akI ?_
          have v4:gH p.ae.length (-1) (gt p.rows i).ab=true→(4:Int)=(cB p:Nat):=fun e=>by rw[DJ h2 hbc hbr (yv az e)];rfl
          refine⟨fun q1=>⟨fun q2=>⟨fun q3=>v4 (by rw[←hc];simp[q3]),fun q3=>?_⟩,fun q2=>v4 (by rw[←hc];simp[q2])⟩,fun q1=>v4 (by rw[←hc];simp[q1])⟩;refine⟨k+1,(gt (gt p.rows i).ab k).aI,⟨by omega,?_⟩,by omega,Le.bA (by simp(disch:=omega)[aw,hC,aN])⟩;rw[←hc];simp[q3,show ¬(gt (gt p.rows i).ab k).aI≤c by omega,show ¬(p.ae.length:Int)≤(gt (gt p.rows i).ab k).aI by omega]
         ·obtain rfl:k=(gt p.rows i).ab.length:=by omega
          rw[anO]at hc;simp(disch:=omega)[eU];repeat refine akI ?_
          refine⟨i+1,⟨by omega,fun i' hi'=>?_⟩,by omega,Le.bA (by simp(disch:=omega)[aw,hC,aN])⟩;rcases alr i' i with h' | h'
          ·exact hb i' h'
          ·obtain rfl:i'=i:=by omega
           exact hc.symm
       ·obtain rfl:i=p.rows.length:=by omega
        simp[Dk h2 hbc hbr (DZ hb)]
 ·have e:=tS (p:=p) (.inl (by omega));simp[e]
end Go.Proofs
namespace Go.Proofs
open Go.Sv Go Go.Tb Go.Pl Go.Ut Go.Li
theorem pI{r:Row}{k:Nat}(h:k<r.ab.length):aB (r.ab.map aW) k=aW (gt r.ab k):=dM aW h
theorem xO(p:aV)(h:I6 p):aF Tryz.prog 28 [.bK (cJ p) 0] (E0 (cB p)):=by
 have nc:=h.nc;have nr:=h.nr;have lc:=zW p;have lr:=Aa p;refine aj Tryz.func28 rfl (by simp) (fun C hC=>?_);simp
 repeat' (apply And.intro<;>intro _)
 ·rw[tS (p:=p) (.inr (by omega)),D7]
 ·have h2:¬(120<p.ae.length∨120<p.rows.length):=by omega
  refine aa.bG (ι:=Nat) (fun i=>⟨134,[(0,.bK (cJ p) 0),(3,.mp 0),(4,.mp 1),(37,.ro (p.ae.map bW)),(38,iv p.ae.length),(39,iv i)],[some ⟨0,(cm (my p) i).map pg,false⟩,some ⟨0,[],false⟩]⟩)
   (fun i=>i≤p.ae.length) (fun i=>p.ae.length - i) 0 (by simp) ?_ ?_
  ·simp[aw,hC,cm]
  ·rintro i hi;by_cases az:i<p.ae.length
   ·obtain⟨f1,f2,f3,f4,f5⟩:=ri (l:=my p) i (by omega);have g:=f2 (gt p.ae i).name;rcases hq:ia (gt p.ae i).name (cm (my p) i)with _ | j
    ·simp(disch:=omega)[az,cZ,zh hq];repeat refine akI ?_
     exact⟨i+1,by omega,by omega,Le.bA (by simp(disch:=omega)[aw,hC,aN,DW (rE az) hq])⟩
    ·simp(disch:=omega)[az,cZ,yP hq];repeat refine akI ?_
     exact⟨i+1,by omega,by omega,Le.bA (by simp(disch:=omega)[aw,hC,aN,CN (rE az) hq])⟩
   ·obtain rfl:i=p.ae.length:=by omega
    simp;repeat refine akI ?_
    refine aa.bG (ι:=Nat) (fun i=>⟨134,[(0,.bK (cJ p) 0),(3,.mp 0),(4,.mp 1),(52,.ro (p.rows.map bE)),(53,iv p.rows.length),(54,iv i)],[some ⟨0,(cm (my p) p.ae.length).map pg,false⟩,some ⟨0,(cm (dG p) i).map pg,false⟩]⟩)
     (fun i=>i≤p.rows.length) (fun i=>p.rows.length - i) 0 (by simp) ?_ ?_
    ·simp[aw,hC,cm]
    ·rintro i hi;by_cases az:i<p.rows.length
     ·obtain⟨f1,f2,f3,f4,f5⟩:=ri (l:=dG p) i (by omega);have g:=f2 (gt p.rows i).name;rcases hq:ia (gt p.rows i).name (cm (dG p) i)with _ | j
      ·simp(disch:=omega)[az,dU,zh hq];repeat refine akI ?_
       exact⟨i+1,by omega,by omega,Le.bA (by simp(disch:=omega)[aw,hC,aN,DW (qy az) hq])⟩
      ·simp(disch:=omega)[az,dU,yP hq];repeat refine akI ?_
       exact⟨i+1,by omega,by omega,Le.bA (by simp(disch:=omega)[aw,hC,aN,CN (qy az) hq])⟩
     ·obtain rfl:i=p.rows.length:=by omega
      have bc:=D9 (l:=my p);have br:=D9 (l:=dG p);rw[lc]at bc;rw[lr]at br;have v7:lS (my p)=true∨lS (dG p)=true→E0 (cB p)=.fc eE 2:=fun h7=>by rw[qQ h2 h7,H9]
      simp;repeat refine akI ?_
      refine aa.akJ (.qs [0,2,3,4,5,6]<|.l 1 []<|.qs [7,8,9,11,12,13,14,15]<|.l 10 []<|.qs [16,17,18,19]<|.l 20 []<|.qs [21,22,23,24]<|.l 25 []<|.qs [26,27]<|.nil) ?_;simp[JT];refine⟨fun q1=>⟨fun q2=>⟨fun q3=>⟨fun q4=>v7 (.inr (by rw[←br];simp[e0,q4])),fun q4=>?_⟩,fun q3=>v7 (.inl (by rw[←bc];simp[e0,q3]))⟩,fun q2=>v7 (.inr (by rw[←br];simp[q2]))⟩,fun q1=>v7 (.inl (by rw[←bc];simp[q1]))⟩;have hbc:lS (my p)=false:=by rw[←bc];simp[e0,q3];omega
      have hbr:lS (dG p)=false:=by rw[←br];simp[e0,q4];omega
      refine aa.bG (ι:=Nat) (fun i=>⟨134,[(0,.bK (cJ p) 0),(96,.ro (p.rows.map bE)),(97,iv p.rows.length),(98,iv i)],[]⟩)
       (fun i=>i≤p.rows.length∧∀i',i'<i→gH p.ae.length (-1) (gt p.rows i').ab=false) (fun i=>p.rows.length - i) 0 (by simp) ?_ ?_
      ·simp[aw,hC]
      ·rintro i ⟨hi,hb⟩;by_cases az:i<p.rows.length
       ·have nt:=h.nt i az;simp(disch:=omega)[az,dU];repeat refine akI ?_
        refine aa.bG (ι:=Nat × Int) (fun⟨k,c⟩=>⟨134,[(0,.bK (cJ p) 0),(96,.ro (p.rows.map bE)),(97,iv p.rows.length),(98,iv i),(11,iv c),(103,.ro ((gt p.rows i).ab.map aW)),(104,iv (gt p.rows i).ab.length),(105,iv k)],[]⟩)
         (fun⟨k,c⟩=>k≤(gt p.rows i).ab.length∧gH p.ae.length c ((gt p.rows i).ab.drop k)=gH p.ae.length (-1) (gt p.rows i).ab) (fun⟨k,c⟩=>(gt p.rows i).ab.length - k) (0, -1) (by simp) ?_ ?_
        ·simp[aw,hC]
        ·rintro⟨k,c⟩ ⟨hk,hc⟩;by_cases hkl:k<(gt p.rows i).ab.length
         ·rw[xn hkl]at hc;simp(disch:=omega)[hkl,pI];repeat refine akI ?_
          refine aa.akJ (.qs [0,1,2,3,4,5,6,7,8,9,10,11,12,13,14,15,16]<|.l 17 []<|.qs [18,19]<|.nil) ?_;simp(disch:=omega)[hkl,pI];repeat refine akI ?_
          have v4:gH p.ae.length (-1) (gt p.rows i).ab=true→E0 (cB p)=.fc eE 0:=fun e=>by rw[DJ h2 hbc hbr (yv az e),IM]
          refine⟨fun q1=>⟨fun q2=>?_,fun q2=>v4 (by rw[←hc];simp[q2])⟩,fun q1=>v4 (by rw[←hc];simp[q1])⟩;refine akK (pd (gt (gt p.rows i).ab k).num) ?_;simp(disch:=omega)[aN];repeat refine akI ?_
          refine⟨fun q3=>v4 (by rw[←hc];simp[q3]),fun q3=>?_⟩;refine⟨k+1,(gt (gt p.rows i).ab k).aI,⟨by omega,?_⟩,by omega,Le.bA (by simp(disch:=omega)[aw,hC,aN])⟩;rw[←hc];simp[q3,show ¬(gt (gt p.rows i).ab k).aI≤c by omega,show ¬(p.ae.length:Int)≤(gt (gt p.rows i).ab k).aI by omega]
         ·obtain rfl:k=(gt p.rows i).ab.length:=by omega
          rw[anO]at hc;simp(disch:=omega)[aN];repeat refine akI ?_
          refine⟨i+1,⟨by omega,fun i' hi'=>?_⟩,by omega,Le.bA (by simp(disch:=omega)[aw,hC,aN])⟩;rcases alr i' i with h' | h'
          ·exact hb i' h'
          ·obtain rfl:i'=i:=by omega
           exact hc.symm
       ·obtain rfl:i=p.rows.length:=by omega
        simp[Dk h2 hbc hbr (DZ hb),LZ]
 ·rw[tS (p:=p) (.inl (by omega)),D7]
end Go.Proofs
set_option maxRecDepth 10000
namespace Go.Li
open Go Go.Sv Go.Pl Go.Proofs Go.Tb Go.Ut
def aP:List Term→Nat→Rat
 | [],_=>0
 | t::ts,j=>if t.aI=(j:Int) then t.num else aP ts j
theorem Fl{ts:List Term}{k j:Nat}(h:k<ts.length):aP (ts.drop k) j=if(gt ts k).aI=(j:Int) then(gt ts k).num else aP (ts.drop (k+1)) j:=by
 rw[DX h];rfl
def dP(p:aV)(y:List Rat)(j:Nat):Nat→Rat
 | 0=>(gt p.ae j).cost
 | i+1=>dP p y j i - gt y i*aP (gt p.rows i).ab j
def X5(p:aV)(y:List Rat):List Rat:=(alI p.ae.length).map fun j=>dP p y j p.rows.length
structure BoW(b:Bo):Prop where
 w:qw 2200 b.at'
structure Ac(p:aV):Prop where
 sh:qw 2200 p.shift
 co:∀j,j<p.ae.length→qw 2200 (gt p.ae j).cost∧qw 2200 (gt p.ae j).low.at'∧qw 2200 (gt p.ae j).high.at'
 ro:∀i,i<p.rows.length→qw 2200 (gt p.rows i).low.at'∧qw 2200 (gt p.rows i).high.at'
 te:∀i,i<p.rows.length→∀k,k<(gt p.rows i).ab.length→qw 2200 (gt (gt p.rows i).ab k).num
theorem kZ{k:Nat}(hk:1≤k):∀{ts:List Term} {j:Nat},(∀i,i<ts.length→qw k (gt ts i).num)→qw k (aP ts j)
 | [],j,_=>cP k hk
 | t::ts,j,h=>by
  unfold aP;split
  ·exact h 0 (by simp)
  ·exact kZ hk fun i hi=>h (i+1) (by simpa using hi)
/-! between two ends -/
structure Sp where
 lo:Bo
 hi:Bo
def cD(a b:Bo)(r:Rat):Bo:=if a.has=true∧b.has=true then⟨true,a.at'+b.at'*r⟩ else⟨false,0⟩
def dA(s:Sp)(low high:Bo)(r:Rat):Sp:=if r=0 then s else if r<0 then⟨cD s.lo high r,cD s.hi low r⟩ else⟨cD s.lo low r,cD s.hi high r⟩
def spR(p:aV)(y:List Rat):Nat→Sp
 | 0=>⟨⟨true,p.shift⟩,⟨true,p.shift⟩⟩
 | i+1=>dA (spR p y i) (gt p.rows i).low (gt p.rows i).high (gt y i)
def TJ(p:aV)(y:List Rat):Nat→Sp
 | 0=>spR p y p.rows.length
 | j+1=>dA (TJ p y j) (gt p.ae j).low (gt p.ae j).high (dP p y j p.rows.length)
def ZE(k:Nat)(s:Sp):Prop:=qw k s.lo.at'∧qw k s.hi.at'
theorem oJ{k l m:Nat}{a b:Bo}{r:Rat}(ha:qw k a.at')(hb:qw l b.at')(hr:qw m r)(hl:1≤l):qw (k+(l+m)+1) (cD a b r).at':=by
 unfold cD;split
 ·exact mO ha (bM hb hr (by omega))
 ·exact cP _ (by omega)
theorem nM{k l m:Nat}{s:Sp}{a b:Bo}{r:Rat}(hs:ZE k s)(ha:qw l a.at')(hb:qw l b.at')(hr:qw m r)(hl:1≤l):ZE (k+(l+m)+1) (dA s a b r):=by
 unfold dA;split
 ·exact⟨ah hs.1 (by omega),ah hs.2 (by omega)⟩
 ·split
  ·exact⟨oJ hs.1 hb hr hl,oJ hs.2 ha hr hl⟩
  ·exact⟨oJ hs.1 ha hr hl,oJ hs.2 hb hr hl⟩
def VM(p:aV)(y:List Rat):Bo:=if p.max=true then(TJ p y p.ae.length).hi else(TJ p y p.ae.length).lo
def tm(s:Sp):SV:=.agg ((fC s.lo).cells++(fC s.hi).cells)
@[simp] theorem aaM(s:Sp):(tm s).eW=10:=rfl
@[simp] theorem PQ(s:Sp):(tm s).aO=false:=rfl
@[simp] theorem Qo(s:Sp):(tm s).isAgg=true:=rfl
@[simp] theorem Un(s:Sp):(tm s).pure=true:=rfl
@[simp] theorem afg(n:Nat)(s:Sp):(tm s).lt n=true:=rfl
@[simp] theorem Ui(n:Nat)(s:Sp):(tm s).bD n=false:=rfl
@[simp] theorem ab5(s:Sp):SV.agg ((tm s).cells.take 5)=fC s.lo:=rfl
@[simp] theorem afp(s:Sp):SV.agg (((tm s).cells.drop 5).take 5)=fC s.hi:=rfl
theorem HR:fC ⟨false,0⟩=.agg [.val (.bool false),.val (.bool false),.ro [],.val (.bool false),.ro []]:=by simp[fC,qb,aZ]
theorem GR{q:Rat}:SV.agg (.val (.bool true)::(bL q).cells)=fC ⟨true,q⟩:=rfl
theorem BO{a b:Bo}:SV.agg ((fC a).cells++(fC b).cells)=tm ⟨a,b⟩:=rfl
@[simp] theorem agi(b:Bo):SV.agg (anI 4 (fC b).cells.tail)=qb b:=rfl
@[simp] theorem aga(b:Bo):SV.agg (anI 4 (cL b).cells.tail)=bs b.at':=rfl
@[simp] theorem Vl(p:aV):SV.agg (anI 4 (dd p).cells.tail)=bL p.shift:=rfl
@[simp] theorem Um(p:aV):SV.agg (anI 4 (cJ p).cells.tail)=bs p.shift:=rfl
end Go.Li
namespace Go.Proofs
open Go.Sv Go Go.Tb Go.Pl Go.Ut Go.Li
theorem o9(r:Row)(hn:r.ab.length≤1048576)(j:Nat)(hj:j≤1048576):aF Tryz.prog 116 [cQ r,iv j] (bL (aP r.ab j)):=by
 refine aj Tryz.func116 rfl (by simp) (fun C hC=>?_);simp;refine aa.bG (ι:=Nat) (fun k=>⟨26,[(1,iv j),(2,.ptr 0 0 0),(4,.ptr 1 0 0),(5,iv k)],[some ⟨13,[cQ r],false⟩,some ⟨4,[.agg [.val (.bool false),.val (.slice none 0 0),.val (.bool false),.val (.slice none 0 0)]],false⟩]⟩)
  (fun k=>k≤r.ab.length∧aP (r.ab.drop k) j=aP r.ab j) (fun k=>r.ab.length - k) 0 (by simp) ?_ ?_
 ·simp[aw,hC]
 ·rintro k ⟨hk,he⟩;by_cases az:k<r.ab.length
  ·rw[Fl az]at he;simp(disch:=omega)[az,gx,iC,aN];repeat refine akI ?_
   refine⟨fun q=>by rw[←he,if_pos q],fun q=>⟨k+1,⟨by omega,by rw[←he,if_neg q]⟩,by omega,Le.bA (by simp(disch:=omega)[aw,hC,aN])⟩⟩
  ·obtain rfl:k=r.ab.length:=by omega
   rw[anO]at he;simp;repeat refine akI ?_
   refine akK (C7) ?_;simp;rw[←he];rfl
theorem rU(q:Rat):aF Tryz.prog 120 [bL q] (tm ⟨⟨true,q⟩,⟨true,q⟩⟩):=by
 refine aj Tryz.func120 rfl (by simp) (fun C hC=>?_);simp[GR];rw[BO];exact cW _ _ rfl
theorem lT(a b:Bo)(r:Rat)(ha:bQ a.at')(hb:bQ b.at')(hr:bQ r)(hm:bQ (b.at'*r)):aF Tryz.prog 153 [fC a,fC b,bL r] (fC (cD a b r)):=by
 refine aj Tryz.func153 rfl (by simp) (fun C hC=>?_);by_cases h1:a.has=true
 ·by_cases h2:b.has=true
  ·simp[h1,h2];rw[du h2];refine akK (oI _ _ hb hr) ?_;simp;rw[du h1];refine akK (tZ _ _ ha hm) ?_;simp[cD,h1,h2,GR]
  ·simp[h1,h2,cD,HR]
 ·simp[h1,cD,HR]
theorem wJ(s:Sp)(a b:Bo)(r:Rat)(hs:bQ s.lo.at'∧bQ s.hi.at')(ha:bQ a.at')(hb:bQ b.at')(hr:bQ r)(hm:bQ (a.at'*r)∧bQ (b.at'*r)):aF Tryz.prog 119 [tm s,fC a,fC b,bL r] (tm (dA s a b r)):=by
 refine aj Tryz.func119 rfl (by simp) (fun C hC=>?_);simp;refine akK (wU r) ?_;simp;refine⟨fun h0=>?_,fun h0=>⟨fun h1=>?_,fun h1=>?_⟩⟩
 ·simp[dA,h0]
 ·refine ai (lT s.lo b r hs.1 hb hr hm.2) (by simp) ?_;simp;refine akK (lT s.hi a r hs.2 ha hr hm.1) ?_;simp[dA,h0,h1,BO]
 ·refine ai (lT s.lo a r hs.1 ha hr hm.1) (by simp) ?_;simp;refine akK (lT s.hi b r hs.2 hb hr hm.2) ?_;simp[dA,h0,h1,BO]
end Go.Proofs
namespace Go.Li
open Go Go.Sv Go.Pl Go.Proofs Go.Tb Go.Ut
theorem gw{n:Nat}:∀{ts:List Term} {c:Int},gH n c ts=false→∀k,k<ts.length→c<(gt ts k).aI∧(gt ts k).aI<n∧(gt ts k).num≠0∧∀k',k'<k→(gt ts k').aI<(gt ts k).aI
 | [],c,_,k,hk=>by simp at hk
 | t::ts,c,h,k,hk=>by
  simp only[gH,Bool.or_eq_false_iff,decide_eq_false_iff_not]at h;obtain⟨⟨⟨h1,h2⟩,h3⟩,h4⟩:=h;have ih:=gw h4;cases k with
  | zero=>exact⟨by show c<t.aI;omega,by show t.aI<n;omega,h3,fun k' h=>by omega⟩
  | succ k =>
   obtain⟨g1,g2,g3,g4⟩:=ih k (by simpa using hk);have g1':t.aI<(gt (t::ts) (k+1)).aI:=g1;refine⟨by omega,g2,g3,fun k' hk'=>?_⟩;cases k' with
   | zero=>exact g1
   | succ k'=>exact g4 k' (by omega)
theorem xk{t:Term}:∀{a:List Term} {j:Nat},aP (a++[t]) j=if t.aI=(j:Int) then(if(∀k,k<a.length→(gt a k).aI≠(j:Int)) then t.num else aP a j) else aP a j
 | [],j=>by simp[aP]
 | u::a,j=>by
  have ih:=xk (t:=t) (a:=a) (j:=j);show(if u.aI=(j:Int) then u.num else aP (a++[t]) j)=_;by_cases hu:u.aI=(j:Int)
  ·have:¬∀k,k<(u::a).length→(gt (u::a) k).aI≠(j:Int):=fun h=>h 0 (by simp) hu;simp only[hu,if_true,if_neg this,aP,ite_self]
  ·have e:(∀k,k<(u::a).length→(gt (u::a) k).aI≠(j:Int))↔∀k,k<a.length→(gt a k).aI≠(j:Int):=by
    constructor
    ·exact fun h k hk=>h (k+1) (by simpa using hk)
    ·intro h k hk;cases k with
     | zero=>exact hu
     | succ k=>exact h k (by simpa using hk)
   simp only[hu,if_false,aP,ih,e]
theorem CR:∀{a:List Term} {j:Nat},(∀k,k<a.length→(gt a k).aI≠(j:Int))→aP a j=0
 | [],j,_=>rfl
 | u::a,j,h=>by
  unfold aP;rw[if_neg (show ¬u.aI=(j:Int) from h 0 (by simp)),CR fun k hk=>h (k+1) (by simpa using hk)]
def prR(p:aV)(y:List Rat)(i:Nat):List Rat:=(alI p.ae.length).map fun j=>dP p y j i
def prT(p:aV)(y:List Rat)(i k:Nat):List Rat:=(alI p.ae.length).map fun j=>dP p y j i - gt y i*aP ((gt p.rows i).ab.take k) j
@[simp] theorem W0(p:aV)(y:List Rat)(i:Nat):(prR p y i).length=p.ae.length:=by simp[prR]
@[simp] theorem aap(p:aV)(y:List Rat)(i k:Nat):(prT p y i k).length=p.ae.length:=by simp[prT]
end Go.Li
namespace Go.Proofs
open Go.Sv Go Go.Tb Go.Pl Go.Ut Go.Li
end Go.Proofs


/- A text of the prover's own. -/
import Derived.Test.YtnimjdcaajmfcaaGreatDoorBQj
open Go.Proofs.Tryz renaming prog->awW,f109->axq
open Rat renaming divInt->auY
open Int renaming natAbs_natCast->avi,pow_pos->avj
set_option maxRecDepth 20000
namespace Go.Proofs
open Go.Sv Go Go.Pl
def IH(s:ByteArray)(neg:Bool)(st:St):Prop :=
 (∃c p a,(c=1∨c=2∨c=3)∧fy 300 s=(0,c,p)∧st=uT s ⟨#[]⟩ neg a (some (c,p))) ∨
 (au s<aJ s (au s)∧¬au s+300<aJ s (au s)∧st=uT s (s.extract (au s) (aJ s (au s))) neg (aJ s (au s)) none)
theorem L6{C:Ctx}{Q:bf}(hC:C.fx=[]){s:ByteArray}{neg:Bool}(hs:s.size<=4611686018427387904)(hn:decide (minus s)=neg){st:St}(h:IH s neg st) :
  vc awW C (jW 1 (bs 5 readBody)) st (jl C (IA s) Q) (jl C (IA s) Q):=by
 rcases h with⟨c,p,a,hc,hq,rfl⟩ | ⟨h2,h1,rfl⟩
 ·exact Mc hC (Nat.zero_le _) hc hq
 ·have uh:=jX s;obtain⟨e,he⟩:∃e,e=aJ s (au s):=⟨_,rfl⟩;have ab:=eY uh;have aD:=λi (h1:au s<=i) (h2:i<e)=>di (s:=s) (a:=au s) h1 (he ▸ h2);rw[<-he]at h1 h2 ab ⊢;have aQ:=dZ s (a:=au s) ab;have hT:=Ai (hO ab aD) (by omega) (by omega);rw[aQ,jr s ab _ (by omega)]at hT;have ht:fw 400 (nv s (au s) (e - au s):Nat):=KX (λi i1 i2=>aD i i1 (by omega)) (by omega);have ak:(s.extract (au s) e).size<=300:=by omega
  have af:fy 300 s=if bK s e 47 then
    if e+1+300<aJ s (e+1) then(0,2,e+1+300)
    else if aJ s (e+1)=e+1∨aJ s (e+1)<s.size then(0,1,aJ s (e+1))
    else if nv s (e+1) (s.size - (e+1))=0 then(0,3,e+1)
    else(auY (jc s (nv s (au s) (e - au s))) (nv s (e+1) (s.size - (e+1)):Int),0,0)
   else if bK s e 46 then
    if e+1+300<aJ s (e+1) then(0,2,e+1+300)
    else if aJ s (e+1)=e+1 then(0,1,e+1)
    else da s (nv s (au s) (e - au s)*10^(aJ s (e+1) - (e+1))+nv s (e+1) (aJ s (e+1) - (e+1))) (aJ s (e+1) - (e+1)) (aJ s (e+1))
   else da s (nv s (au s) (e - au s)) 0 e:=by
   unfold fy;rw[<-he,if_neg h1,if_neg (by omega)]
  clear he aD h1 h2;generalize nv s (au s) (e - au s)=tv at *;generalize s.extract (au s) e=T at *;by_cases g0:bK s e 47
  ·rw[if_pos g0]at af;exact Gy hC hs hn ab hT ak ht g0 af
  ·rw[if_neg g0]at af;by_cases g:bK s e 46
   ·rw[if_pos g]at af;by_cases hk:e+1+300<aJ s (e+1)∨aJ s (e+1)=e+1
    ·exact JH hC hs hn ab hT ak ht g0 g hk af
    ·have av:¬e+1+300<aJ s (e+1):=λh=>hk (.inl h);have hg:=g.1;have az:e+1<aJ s (e+1):=by have:=iI s (e+1);omega
     obtain⟨f,hf⟩:∃f,f=aJ s (e+1):=⟨_,rfl⟩;have an:f<=s.size:=by rw[hf];exact eY (by omega)
     have aS:=λi (h1:e+1<=i) (h2:i<f)=>di (s:=s) (a:=e+1) h1 (hf ▸ h2);rw[if_neg av,if_neg (by omega),<-hf]at af;have aw:=dZ s (a:=e+1) an;have aT:=jr s (a:=e+1) an (f - (e+1)) (by omega);have aB:=hO an aS;rw[<-aT,<-aw]at af;by_cases x0:bK s f 101
     ·by_cases x1:bK s (f+1) 45
      ·exact Lp hC hs hn ab hT ak ht g0 g av az hf rfl aw aB an af x0 x1
      ·by_cases x2:bK s (f+1) 43
       ·exact MJ hC hs hn ab hT ak ht g0 g av az hf rfl aw aB an af x0 x1 x2
       ·exact KS hC hs hn ab hT ak ht g0 g av az hf rfl aw aB an af x0 x1 x2
     ·exact Nx hC hs hn ab hT ak ht g0 g av az hf rfl aw aB an af x0
   ·rw[if_neg g]at af;have aC:fy 300 s=da s (tv*10^(⟨#[]⟩:ByteArray).size+nv ⟨#[]⟩ 0 (⟨#[]⟩:ByteArray).size) (⟨#[]⟩:ByteArray).size e:=by
     rw[af,Ug,vt];simp
    by_cases x0:bK s e 101
    ·by_cases x1:bK s (e+1) 45
     ·exact Nw hC hs hn ab hT ak ht g0 g rfl rfl vt (ua _) ab aC x0 x1
     ·by_cases x2:bK s (e+1) 43
      ·exact No hC hs hn ab hT ak ht g0 g rfl rfl vt (ua _) ab aC x0 x1 x2
      ·exact MV hC hs hn ab hT ak ht g0 g rfl rfl vt (ua _) ab aC x0 x1 x2
    ·exact LH hC hs hn ab hT ak ht g0 g rfl rfl vt (ua _) ab aC x0
theorem Na(s:ByteArray)(hs:s.size<=4611686018427387904):aG awW 110 [.val (.string s)] (z3 (fy 300 s)):=by
 refine jT Tryz.func110 rfl (by simp) (λC hC=>?_);refine aa.cutAt 3 (λst=>st=⟨151,[(0,.val (.string s)),(2,.ptr 0 0 0),(3,.val .nilIface),(4,.ptr 1 0 0),(5,.val (.bool (decide (minus s))))],MR s (au s) none⟩) ?_ ?_
 ·simp;refine bI s 0 45 (by simp[aA,bH]) hs (by omega) (by simp) (λh=>?_) (λh=>?_)
  ·have hm:minus s:=h;have ha:au s=1:=by simp[au,hm]
   simp[bH,hm,ha,MR,aR,hC,z4]
  ·have hm:¬minus s:=h;have ha:au s=0:=by simp[au,hm]
   simp[hm,ha,MR,aR,hC,z4,bH]
 ·rintro st rfl;simp only[ai,ah];refine aa.cutAt 2 (IH s (decide (minus s))) ?_ (λst h=>aa.cutAt 1 (IA s) (L6 hC hs rfl h) ?_)
  ·simp;have uh:=jX s;generalize ac:decide (minus s)=neg;refine cQ s (au s) (by simp[aA,MR]) hs uh (by simp[MR]) (λh1=>?_) (λh1=>?_) (λh1 h2=>?_)
   ·have hq:fy 300 s=(0,2,au s+300):=by unfold fy;rw[if_pos h1]
    simp;exact⟨_,Or.inl ⟨2,au s+300,au s+300,.inr (.inl rfl),hq,rfl⟩,by simp[aR,hC,MR,mA,uT]⟩
   ·have hq:fy 300 s=(0,1,au s):=by unfold fy;rw[if_neg (by omega),if_pos h1]
    simp;exact⟨_,Or.inl ⟨1,au s,au s,.inl rfl,hq,rfl⟩,by simp[aR,hC,MR,mA,uT]⟩
   ·simp;exact⟨_,Or.inr ⟨h2,h1,rfl⟩,by simp[aR,hC,MR,uT]⟩
  ·rintro st ⟨T,P,Lw,Pw,a,la,pa,E,neg,up,t,d,h1,h2,h3,h4,h5,h6,h7,h8,h9,aU,aV,rfl⟩;have:=T2 (C:=C) hC s T P Lw Pw a la pa E neg up t d h1 h2 h3 h4 h5 h6 h7 h8 h9 aU;rw[aV]at this;exact this
end Go.Proofs
namespace Go.Proofs
open Go.Sv Go Go.Pl
def zH(m:Nat)(s:ByteArray)(a:Nat):Nat × Nat × Int :=
 if a+m<aJ s a then(a+m,2,((a+m:Nat):Int)) else if aJ s a=a then(a,1,a) else(aJ s a,0, -1)
theorem nT(s:ByteArray)(a m:Nat)(ha:a<=s.size)(hs:s.size<=4611686018427387904)(hm:m<=4611686018427387904) :
  aG awW 151 [.val (.string s),.val (.int .i64 a),.val (.int .i64 m)] (.bP [.val (.int .i64 (zH m s a).1),fC (zH m s a).2.1 (zH m s a).2.2]):=by
 refine aj Tryz.func151 rfl (by simp) (λC hC=>?_);simp;refine aa.loop (ι:=Nat) (λi=>⟨38,[(0,.val (.string s)),(1,.val (.int .i64 a)),(2,.val (.int .i64 m)),(7,.ptr 0 0 0),(8,.val (.int .i64 i))],
   [some ⟨2,[.agg [.val (.int .i64 0),.val (.int .i64 0)]],false⟩]⟩)
  (λi=>a<=i∧i<=s.size∧i<=a+m∧∀k,a<=k->k<i->bA s k) (λi=>s.size - i) a ?_ ?_ ?_
 ·exact⟨by omega,ha,by omega,λk h1 h2=>by omega⟩
 ·simp[aR,hC]
 ·rintro i ⟨h1,h2,h3,h4⟩;have hb:=KY s i;have stop:¬bA s i->aJ s a=i:=λh=>mj h1 h4 h;have e3:¬bA s i->¬a+m<aJ s a:=λh=>by rw[stop h];omega
  by_cases hi:i<s.size
  ·have hd:=J2 (jS s i) hb;simp[hi];refine bg hd (by simp[jS]) ?_;by_cases am:oM (jS s i)
   ·have aW:bA s i:=⟨hi,am⟩;have all:∀k,a<=k->k<i+1->bA s k:=λk k1 k2=>by
     by_cases e:k=i
     ·subst e;exact aW
     ·exact h4 k k1 (by omega)
    by_cases he:i=a+m
    ·have ap:(i:Int) - a=m:=by omega
     have a5:=CP h1 λk k1 k2=>all k k1 (by omega);have hr:zH m s a=(i,2,(i:Int)):=by unfold zH;rw[if_pos (by omega),<-he]
     simp(disch:=omega)[am,ap,aK,hr,fC]
    ·have ap:¬(i:Int) - a=m:=by omega
     simp(disch:=omega)[am,ap,aK];exact⟨i+1,⟨by omega,by omega,by omega,all⟩,by omega,by simp[aR,hC]⟩
   ·have ag:¬bA s i:=λh=>am h.2;by_cases he:i=a
    ·have hr:zH m s a=(a,1,(a:Int)):=by
      unfold zH;rw[if_neg (e3 ag),if_pos (by rw[stop ag,he])]
     subst he;simp[am,hr,fC]
    ·have hr:zH m s a=(i,0,(-1:Int)):=by
      unfold zH;rw[if_neg (e3 ag),if_neg (by rw[stop ag];exact he),stop ag]
     have ap:¬(i:Int)=a:=by omega
     simp[am,hr,fC,ap]
  ·have ag:¬bA s i:=λh=>hi h.1;by_cases he:i=a
   ·have hr:zH m s a=(a,1,(a:Int)):=by
     unfold zH;rw[if_neg (e3 ag),if_pos (by rw[stop ag,he])]
    subst he;simp[hi,hr,fC]
   ·have hr:zH m s a=(i,0,(-1:Int)):=by
     unfold zH;rw[if_neg (e3 ag),if_neg (by rw[stop ag];exact he),stop ag]
    have ap:¬(i:Int)=a:=by omega
    simp[hi,hr,fC,ap]
theorem rS{n k:Nat}(h:n<10^k)(hk:k<=1000000000000):eG (n:Int):=by unfold eG;rw[avi];exact Nat.le_trans (EF (A:=10) (B:=10000) (by omega) (by omega) n) (Nat.le_trans (iS (by omega) h) hk)
theorem EN{i:Nat}(h:i<=900000000000):eG ((10:Int)^i):=by rw[show(10:Int)^i=((10^i:Nat):Int) by push_cast;rfl];exact rS (Nat.pow_lt_pow_right (by omega) (Nat.lt_succ_self i)) (by omega)
theorem Cs(n:Nat)(hn:n<=900000000000):aG awW 154 [.val (.int .i64 n)] (eL ((10:Int)^n)):=by
 refine aj Tryz.func154 rfl (by simp) (λC hC=>?_);simp;refine asl (jy 1 (by omega) (by omega)) ?_;simp;refine asl (jy 10 (by omega) (by omega)) ?_;simp;refine aa.loop (ι:=Nat) (λi=>⟨17,[(0,.val (.int .i64 n)),(2,.ptr 0 0 0),(3,.ptr 1 0 0),(4,.ptr 2 0 0),(5,.val (.int .i64 i))],
   [some ⟨2,[.agg [.val (.bool false),.val (.slice none 0 0)]],false⟩,some ⟨2,[eL ((10:Int)^i)],false⟩,some ⟨2,[eL 10],false⟩]⟩)
  (λi=>i<=n) (λi=>n - i) 0 ?_ ?_ ?_
 ·exact Nat.zero_le _
 ·simp[aR,hC]
 ·rintro i hi;by_cases aP:i<n
  ·have ad:(i:Int)<n:=by omega
   have m1:=jJ ((10:Int)^i) 10 (EN (by omega)) (rS (n:=10) (k:=2) (by decide) (by omega));rw[show(10:Int)^i*10=(10:Int)^(i+1) by rw[Int.pow_succ]]at m1;generalize (10:Int)^i=X at *;simp(disch:=omega)[ad];refine asl m1 ?_;simp(disch:=omega)[aK];exact⟨i+1,by omega,by omega,by simp[aR,hC]⟩
  ·obtain rfl:i=n:=by omega
   simp
def mG(s:ByteArray)(a:Nat):Nat->Nat
 | 0=>0
 | k+1=>if mG s a k<=60 then 10*mG s a k+(jS s (a+k) - 48) else mG s a k
theorem IQ(s:ByteArray)(a:Nat)(h:∀i,jS s i<256):∀k,(mG s a k<=60->mG s a k=nv s a k)∧(60<mG s a k->60<nv s a k)∧mG s a k<=1000
 | 0=>⟨λ_=>rfl,λh=>by simp[mG]at h,by simp[mG]⟩
 | k+1=>by
  obtain⟨h1,h2,h3⟩:=IQ s a h k;have hb:=h (a+k);simp only[mG,nv];by_cases hc:mG s a k<=60
  ·rw[if_pos hc];have:=h1 hc;omega
  ·rw[if_neg hc];have:=h2 (by omega);omega
def pwS(s:ByteArray)(e:Nat):SV :=
 if ch s e+300<aJ s (ch s e) then .bP [.val (.int .i64 0),.val (.int .i64 (ch s e+300:Nat)),fC 2 (ch s e+300:Nat)]
 else if aJ s (ch s e)=ch s e then .bP [.val (.int .i64 0),.val (.int .i64 (ch s e)),fC 1 (ch s e)]
 else if aJ s (ch s e)<s.size then .bP [.val (.int .i64 0),.val (.int .i64 (aJ s (ch s e))),fC 1 (aJ s (ch s e))]
 else if 60<nv s (ch s e) (s.size - ch s e) then .bP [.val (.int .i64 0),.val (.int .i64 s.size),fC 2 (ch s e)]
 else .bP [.val (.int .i64 (if bK s (e+1) 45 then -(nv s (ch s e) (s.size - ch s e):Int) else(nv s (ch s e) (s.size - ch s e):Int))),.val (.int .i64 s.size),fC 0 (-1)]
theorem Js(s:ByteArray)(e:Nat)(he:e<s.size)(hs:s.size<=4611686018427387904):aG awW 153 [.val (.string s),.val (.int .i64 (e+1:Nat))] (pwS s e):=by
 refine jT Tryz.func153 rfl (by simp) (λC hC=>?_);obtain⟨b,hb⟩:∃b,b=ch s e:=⟨_,rfl⟩;have ax:((b=e+2∧e+1<s.size)∨b=e+1):=by
  rw[hb];unfold ch;split
  ·rename_i h;rcases h with h | h<;>exact .inl ⟨rfl,h.1⟩
  ·exact .inr rfl
 have aE:b<=s.size:=by omega
 have hd:=nT s b 300 aE hs (by omega);have aO:pwS s e=if b+300<aJ s b then .bP [.val (.int .i64 0),.val (.int .i64 (b+300:Nat)),fC 2 (b+300:Nat)]
   else if aJ s b=b then .bP [.val (.int .i64 0),.val (.int .i64 b),fC 1 b]
   else if aJ s b<s.size then .bP [.val (.int .i64 0),.val (.int .i64 (aJ s b)),fC 1 (aJ s b)]
   else if 60<nv s b (s.size - b) then .bP [.val (.int .i64 0),.val (.int .i64 s.size),fC 2 b]
   else .bP [.val (.int .i64 (if bK s (e+1) 45 then -(nv s b (s.size - b):Int) else(nv s b (s.size - b):Int))),.val (.int .i64 s.size),fC 0 (-1)]:=by
  unfold pwS;rw[<-hb]
 rw[aO];clear aO;obtain⟨neg,ac⟩:∃neg:Bool,neg=decide (bK s (e+1) 45):=⟨_,rfl⟩;have aF:(if bK s (e+1) 45 then -(nv s b (s.size - b):Int) else(nv s b (s.size - b):Int))=if neg=true then -(nv s b (s.size - b):Int) else(nv s b (s.size - b):Int):=by rw[ac];by_cases h:bK s (e+1) 45<;>simp[h]
 rw[aF];refine aa.cutAt 3 (λst=>st=⟨82,[(0,.val (.string s)),(1,.val (.int .i64 b)),(6,.ptr 0 0 0),(7,.val (.bool neg))],[some ⟨2,[.agg [.val (.int .i64 0),.val (.int .i64 0)]],false⟩]⟩) ?_ ?_
 ·have al:=hb;unfold ch at al;rw[show e+2=(e+1)+1 by omega]at al;clear hb ax hd aF;generalize e+1=p at *;simp;by_cases h1:p<s.size
  ·have a6:(p:Int)<s.size:=by omega
   by_cases h2:jS s p=45
   ·have x1:bK s p 45:=⟨h1,h2⟩;have aq:=jh.2 h2;rw[if_pos (.inl x1)]at al;have hn:neg=true:=by rw[ac];simp[x1]
    simp(disch:=omega)[h1,aq,aK];simp[aR,hC,al,hn]<;>omega
   ·have x1:¬bK s p 45:=λh=>h2 h.2;have aq:¬((eH s p).toNat:Int)=45:=λh=>h2 (jh (c:=45) |>.1 h);have hn:neg=false:=by rw[ac];simp[x1]
    by_cases h3:jS s p=43
    ·have x2:bK s p 43:=⟨h1,h3⟩;have aH:=jh.2 h3;rw[if_pos (.inr x2)]at al;simp(disch:=omega)[h1,aH,aK];simp[aR,hC,al,hn]<;>omega
    ·have x2:¬bK s p 43:=λh=>h3 h.2;have aH:¬((eH s p).toNat:Int)=43:=λh=>h3 (jh (c:=43) |>.1 h);rw[if_neg (λh=>h.elim x1 x2)]at al;simp(disch:=omega)[h1,aq,aH,aK];simp[aR,hC,al,hn]<;>omega
  ·have x1:¬bK s p 45:=λh=>h1 h.1;have x2:¬bK s p 43:=λh=>h1 h.1;rw[if_neg (λh=>h.elim x1 x2)]at al;have hn:neg=false:=by rw[ac];simp[x1]
   simp(disch:=omega)[h1];simp[aR,hC,al,hn]<;>omega
 ·rintro st rfl;simp only[ai,ah];refine aa.go ?_;clear aF ac hb ax he;simp;refine asl hd ?_;by_cases k1:b+300<aJ s b
  ·have e1:zH 300 s b=(b+300,2,((b+300:Nat):Int)):=by unfold zH;rw[if_pos k1]
   rw[e1,if_pos k1];simp[fC];refine aa.asj (.qs [0,1,2,3]<|.l 4 [0]<|.nil) ?_;simp
  ·rw[if_neg k1];by_cases k2:aJ s b=b
   ·have e1:zH 300 s b=(b,1,(b:Int)):=by unfold zH;rw[if_neg k1,if_pos k2]
    rw[e1,if_pos k2];simp[fC];refine aa.asj (.qs [0,1,2,3]<|.l 4 [0]<|.nil) ?_;simp
   ·rw[if_neg k2];have e1:zH 300 s b=(aJ s b,0,(-1:Int)):=by unfold zH;rw[if_neg k1,if_neg k2]
    have a7:=eY aE;have a8:=iI s b;have aX:=λi (h1:b<=i) (h2:i<aJ s b)=>di (s:=s) (a:=b) h1 h2;rw[e1];generalize aJ s b=c at *;by_cases k3:c<s.size
    ·rw[if_pos k3];simp[fC,k3]
    ·rw[if_neg k3];obtain rfl:c=s.size:=by omega
     simp[fC];refine aa.loop (ι:=Nat) (λi=>⟨82,[(0,.val (.string s)),(1,.val (.int .i64 b)),(6,.ptr 0 0 0),(7,.val (.bool neg)),(8,.val (.int .i64 s.size)),(10,.val (.int .i64 (mG s b i))),(11,.val (.int .i64 (b+i:Nat)))],[some ⟨2,[.agg [.val (.int .i64 0),.val (.int .i64 0)]],false⟩]⟩)
      (λi=>b+i<=s.size) (λi=>s.size - b - i) 0 ?_ ?_ ?_
     ·exact aE
     ·simp[aR,hC,mG]
     ·rintro i hi;obtain⟨g1,g2,g3⟩:=IQ s b (KY s) i;by_cases aP:b+i<s.size
      ·have ad:(b:Int)+i<s.size:=by omega
       obtain⟨d,hd⟩:∃d,d=jS s (b+i) - 48:=⟨_,rfl⟩;have am:=(aX (b+i) (by omega) aP).2;have aY:jS s (b+i)=48+d:=by have:=am.1;omega
       have a9:d<=9:=by have:=am.2;omega
       have aZ:((eH s (b+i)).toNat:Int)=48+d:=by unfold jS at aY;omega
       have hw:(48+(d:Int) - 48) % 256=d:=by omega
       have e:mG s b (i+1)=if mG s b i<=60 then 10*mG s b i+d else mG s b i:=by simp only[mG];rw[<-hd]
       generalize mG s b i=X at *;by_cases hX:X<=60
       ·have ao:(X:Int)<=60:=by omega
        rw[if_pos hX]at e;have e':10*(X:Int)+d=((mG s b (i+1):Nat):Int):=by rw[e];push_cast;rfl
        simp(disch:=omega)[ad,aZ,QO,aK,hw,ao,e'];exact⟨by omega,i+1,by omega,by omega,by simp[aR,hC];omega⟩
       ·have ao:¬(X:Int)<=60:=by omega
        rw[if_neg hX]at e;simp(disch:=omega)[ad,aK,ao];exact⟨i+1,by omega,by omega,by simp[aR,hC,e];omega⟩
      ·obtain rfl:i=s.size - b:=by omega
       have ad:¬(b:Int)+((s.size - b:Nat):Int)<s.size:=by omega
       generalize mG s b (s.size - b)=X at *;generalize nv s b (s.size - b)=x at *;by_cases hX:60<X
       ·have ao:(60:Int)<X:=by omega
        rw[if_pos (g2 hX)];simp[ad,ao]
       ·have ao:¬(60:Int)<X:=by omega
        have ex:=g1 (by omega);subst ex;rw[if_neg hX];cases neg with
        | true =>
         simp(disch:=omega)[ao,aK]
        | false=>simp[ad,ao]
end Go.Proofs
namespace Go.Proofs
open Go.Sv Go Go.Pl
def iW(r:Rat × Nat × Nat):SV:=.bP [if r.2.1=0 then cI r.1 else mD,fC r.2.1 (if r.2.1=0 then -1 else(r.2.2:Int))]
noncomputable def ij:Code:=axq.body.getD .skip
def q4:Option cz:=some ⟨4,[.agg [.val (.bool false),.val (.slice none 0 0),.val (.bool false),.val (.slice none 0 0)]],false⟩
def fe(c:Nat)(a:Int):Option cz:=some ⟨2,[fC c a],false⟩
abbrev QP(m:Nat)(s:ByteArray):bf:=lZ awW [.cell 4 42,.cell 5 131] (λy=>y=iW (fy m s))
theorem Sq{C:Ctx}(hC:C.fx=[]){s:ByteArray}{m:Nat}{neg:Bool}{N p f:Nat}{up:Int}(hn:decide (minus s)=neg){k:Nat}(hk:k<=400000000000)(hN:N<10^k)(hp:p<=400000000000)(ar : -60<=up∧up<=60)
  (hq:fy m s=if f<s.size then(0,1,f) else if 0<up then(auY (jc s (N*10^up.toNat)) ((10^p:Nat):Int),0,0) else(auY (jc s N) ((10^(p+(-up).toNat):Nat):Int),0,0)) :
  aa awW C (bs 14 ij) ⟨193,[(0,.val (.string s)),(4,.ptr 0 0 0),(5,.ptr 1 0 0),(7,.val (.bool neg)),(8,.val (.int .i64 f)),(11,.ptr 3 0 0),(12,.ptr 4 0 0),(15,.val (.int .i64 p)),(18,.val (.int .i64 up))],[q4,fe 0 0,fe 0 (-1),some ⟨2,[eL N],false⟩,some ⟨2,[eL 1],false⟩]⟩ (QP m s):=by
 simp only[ij,axq,Option.getD_some,ai,ah];refine aa.go ?_;by_cases h1:f<s.size
 ·rw[if_pos h1]at hq;simp[h1,q4,fe,fC,hq,iW,mD]
 ·rw[if_neg h1]at hq;have a0:=Cs p (by omega);have ay:=EN (i:=p) (by omega);simp[h1];refine asl a0 ?_;by_cases h2:0<up
  ·rw[if_pos h2]at hq;obtain⟨u,hu⟩:∃u:Nat,u=up.toNat:=⟨_,rfl⟩;obtain rfl:up=(u:Int):=by omega
   rw[<-hu]at hq;have aI:eG ((N:Int)*(10:Int)^u):=by rw[show(N:Int)*(10:Int)^u=((N*10^u:Nat):Int) by push_cast;rfl];refine rS (k:=k+u) ?_ (by omega);rw[Nat.pow_add];exact Nat.mul_lt_mul_of_pos_right hN (Nat.pow_pos (by omega))
   have hv:(if neg=true then -((N:Int)*(10:Int)^u) else(N:Int)*(10:Int)^u)=jc s (N*10^u):=by rw[jO hn];push_cast;rfl
   have mk:=na neg (N*10^u) (by have:=aI;unfold eG at this;rwa [show(N:Int)*(10:Int)^u=((N*10^u:Nat):Int) by push_cast;rfl,avi]at this);have ov:=pG (jc s (N*10^u)) ((10:Int)^p) (by rw[<-hv];split;exact mT.2 aI;exact aI) ay (by have:(0:Int)<10^p:=avj (by omega);omega);rw[show(if neg=true then -((N*10^u:Nat):Int) else((N*10^u:Nat):Int))=jc s (N*10^u) from (jO hn _).symm]at mk;have aq:0<u:=by omega
   have ml:=jJ (N:Int) ((10:Int)^u) (rS hN (by omega)) (EN (by omega));have hX:((N:Int)*(10:Int)^u).natAbs=N*10^u:=by rw[show(N:Int)*(10:Int)^u=((N*10^u:Nat):Int) by push_cast;rfl,avi]
   generalize jc s (N*10^u)=Y at *;rw[<-hX]at mk;generalize (N:Int)*(10:Int)^u=X at *;simp[aq,q4,fe,fC];refine asl (Cs u (by omega)) ?_;simp;refine asl ml ?_;simp;refine aa.asj (.qs [0,1,2,4,6]<|.l 3 []<|.l 5 []<|.l 7 [0]<|.l 8 [1]<|.nil) ?_;simp;refine asl mk ?_;simp;refine asl ov ?_;simp[iW,hq,fC]
  ·rw[if_neg h2]at hq;obtain⟨u,hu⟩:∃u:Nat,u=(-up).toNat:=⟨_,rfl⟩;obtain rfl:up = -(u:Int):=by omega
   rw[<-hu]at hq;have aq:¬0 < -(u:Int):=h2;have hD:eG ((10:Int)^p*(10:Int)^u):=by rw[<-Int.pow_add];exact EN (by omega)
   have aL:eG (N:Int):=rS hN (by omega);have mk:=na neg N (by have:=aL;unfold eG at this;rwa [avi]at this);rw[show(if neg=true then -((N:Nat):Int) else((N:Nat):Int))=jc s N from (jO hn _).symm]at mk;have a1:eG (jc s N):=by rw[jO hn];split;exact mT.2 aL;exact aL
   have ov:=pG (jc s N) ((10:Int)^p*(10:Int)^u) a1 hD (by have:(0:Int)<10^p:=avj (by omega);have:(0:Int)<10^u:=avj (by omega);exact Int.mul_ne_zero (by omega) (by omega));have a2:((10^(p+u):Nat):Int)=(10:Int)^p*(10:Int)^u:=by rw[Nat.pow_add];push_cast;rfl
   rw[a2]at hq;have ac:(0:Int) - -(u:Int)=u:=by omega
   have a3:¬(u:Int)<0:=by omega
   have ml:=jJ ((10:Int)^p) ((10:Int)^u) ay (EN (by omega));generalize (10:Int)^p*(10:Int)^u=X at *;generalize jc s N=Y at *;simp(disch:=omega)[q4,fe,fC,aK,ac,a3];refine asl (Cs u (by omega)) ?_;simp;refine asl ml ?_;simp;refine aa.asj (.qs [0,1,2,4,6]<|.l 3 []<|.l 5 []<|.l 7 [0]<|.l 8 [1]<|.nil) ?_;simp;refine asl mk ?_;simp;refine asl ov ?_;simp[iW,hq,fC]
def XS(m:Nat)(s:ByteArray)(neg:Bool)(st:St):Prop:=∃(N p f k:Nat) (up:Int),k<=400000000000∧N<10^k∧p<=400000000000∧(-60<=up∧up<=60) ∧
 (fy m s=if f<s.size then(0,1,f) else if 0<up then(auY (jc s (N*10^up.toNat)) ((10^p:Nat):Int),0,0) else(auY (jc s N) ((10^(p+(-up).toNat):Nat):Int),0,0)) ∧
 st=⟨193,[(0,.val (.string s)),(4,.ptr 0 0 0),(5,.ptr 1 0 0),(7,.val (.bool neg)),(8,.val (.int .i64 f)),(11,.ptr 3 0 0),(12,.ptr 4 0 0),(15,.val (.int .i64 p)),(18,.val (.int .i64 up))],[q4,fe 0 0,fe 0 (-1),some ⟨2,[eL N],false⟩,some ⟨2,[eL 1],false⟩]⟩
theorem Tg{C:Ctx}(hC:C.fx=[]){s:ByteArray}{m:Nat}{neg:Bool}{N p f k:Nat}(hs:s.size<=4611686018427387904)(hn:decide (minus s)=neg)(hk:k<=400000000000)(hN:N<10^k)(hp:p<=400000000000)(an:f<=s.size)
  (hq:fy m s=da s N p f) :
  aa awW C (bs 12 ij) ⟨193,[(0,.val (.string s)),(4,.ptr 0 0 0),(5,.ptr 1 0 0),(7,.val (.bool neg)),(8,.val (.int .i64 f)),(11,.ptr 3 0 0),(12,.ptr 4 0 0),(15,.val (.int .i64 p))],[q4,fe 0 0,fe 0 (-1),some ⟨2,[eL N],false⟩,some ⟨2,[eL 1],false⟩]⟩ (QP m s):=by
 refine aa.cutAt 2 (XS m s neg) ?_ ?_
 ·simp only[ij,axq,Option.getD_some,ai,ah,aN,aM];unfold da at hq;by_cases x0:bK s f 101
  ·rw[if_pos x0]at hq;have h1:=x0.1;have h2:=jh.2 x0.2;have pw:=Js s f h1 hs;rw[show((f+1:Nat):Int)=(f:Int)+1 by push_cast;rfl]at pw;unfold pwS at pw;generalize ch s f=b at *;by_cases k1:b+300<aJ s b
   ·rw[if_pos k1]at pw hq;simp(disch:=omega)[h1,h2,aK];refine ae pw (by simp[]) ?_;simp[fC,fe,q4];refine aa.asj (.qs [0]<|.q 1 [0]<|.l 2 [0]<|.l 3 [1]<|.nil) ?_;simp[iW,hq,fC,mD,Sv.Sub,cK]
   ·rw[if_neg k1]at pw hq;by_cases k2:aJ s b=b
    ·rw[if_pos k2]at pw;rw[if_pos (.inl k2),k2]at hq;simp(disch:=omega)[h1,h2,aK];refine ae pw (by simp[]) ?_;simp[fC,fe,q4];refine aa.asj (.qs [0]<|.q 1 [0]<|.l 2 [0]<|.l 3 [1]<|.nil) ?_;simp[iW,hq,fC,mD,Sv.Sub,cK]
    ·rw[if_neg k2]at pw;by_cases k3:aJ s b<s.size
     ·rw[if_pos k3]at pw;rw[if_pos (.inr k3)]at hq;simp(disch:=omega)[h1,h2,aK];refine ae pw (by simp[]) ?_;simp[fC,fe,q4];refine aa.asj (.qs [0]<|.q 1 [0]<|.l 2 [0]<|.l 3 [1]<|.nil) ?_;simp[iW,hq,fC,mD,Sv.Sub,cK]
     ·rw[if_neg k3]at pw;rw[if_neg (λh=>h.elim k2 k3)]at hq;generalize nv s b (s.size - b)=x at *;by_cases k4:60<x
      ·rw[if_pos k4]at pw hq;simp(disch:=omega)[h1,h2,aK];refine ae pw (by simp[]) ?_;simp[fC,fe,q4];refine aa.asj (.qs [0]<|.q 1 [0]<|.l 2 [0]<|.l 3 [1]<|.nil) ?_;simp[iW,hq,fC,mD,Sv.Sub,cK]
      ·rw[if_neg k4]at pw hq;obtain⟨up,ar⟩:∃up,up=if bK s (f+1) 45 then -(x:Int) else(x:Int):=⟨_,rfl⟩;rw[<-ar]at pw;have hb : -60<=up∧up<=60:=by rw[ar];split<;>omega
       simp(disch:=omega)[h1,h2,aK];refine ae pw (by simp[]) ?_;simp[fC,fe,q4];refine⟨_,⟨N,p,s.size,k,up,hk,hN,hp,hb,?_,rfl⟩,by simp[aR,hC,fe,q4,fC]⟩;rw[hq,if_neg (Nat.lt_irrefl _)];by_cases x1:bK s (f+1) 45
       ·rw[if_pos x1]at ar ⊢;rw[if_neg (by omega),show(-up).toNat=x by omega]
       ·rw[if_neg x1]at ar ⊢;by_cases a4:x=0
        ·subst a4;simp[ar]
        ·rw[if_pos (by omega),show up.toNat=x by omega]
  ·rw[if_neg x0]at hq;have fin:((f<s.size∧¬((eH s f).toNat:Int)=101)∨¬f<s.size):=by
    by_cases h:f<s.size
    ·exact .inl ⟨h,λh2=>x0 ⟨h,jh (c:=101) |>.1 h2⟩⟩
    ·exact .inr h
   rcases fin with⟨h1,h2⟩ | h1
   ·simp[h1,h2];refine⟨_,⟨N,p,f,k,0,hk,hN,hp,by omega,?_,rfl⟩,by simp[aR,hC]⟩;rw[hq];simp
   ·simp[h1];refine⟨_,⟨N,p,f,k,0,hk,hN,hp,by omega,?_,rfl⟩,by simp[aR,hC]⟩;rw[hq];simp
 ·rintro st ⟨N,p,f,k,up,h1,h2,h3,h4,h5,rfl⟩;exact Sq hC hn h1 h2 h3 h4 h5
end Go.Proofs


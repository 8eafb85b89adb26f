/- A text of the prover's own. -/
import Derived.Test.YtnimjdcaajmfcaaGreatDoorVQj
open Go.Proofs.Tryz renaming prog->ay9,f109->aBx
open Rat renaming divInt->aBa
open Int renaming natAbs_natCast->aBy,pow_pos->aBz
set_option maxRecDepth 20000
namespace Go.Proofs
open Go.Sv Go Go.Pl
def IH(s:ByteArray)(neg:Bool)(st:St):Prop :=
 (∃c p a,(c=1∨c=2∨c=3)∧gm 300 s=(0,c,p)∧st=xA s ⟨#[]⟩ neg a (some (c,p))) ∨
 (av s<aK s (av s)∧¬av s+300<aK s (av s)∧st=xA s (s.extract (av s) (aK s (av s))) neg (aK s (av s)) none)
theorem Ob{C:Ctx}{Q:bf}(hC:C.fx=[]){s:ByteArray}{neg:Bool}(hs:s.size<=4611686018427387904)(hn:decide (minus s)=neg){st:St}(h:IH s neg st) :
  vc ay9 C (kQ 1 (bh 5 readBody)) st (jM C (IA s) Q) (jM C (IA s) Q):=by
 rcases h with⟨c,p,a,hc,hq,rfl⟩ | ⟨h2,h1,rfl⟩
 ·exact QF hC (Nat.zero_le _) hc hq
 ·have wE:=kI s;obtain⟨e,he⟩:∃e,e=aK s (av s):=⟨_,rfl⟩;have ac:=fy wE;have aF:=λi (h1:av s<=i) (h2:i<e)=>dv (s:=s) (a:=av s) h1 (he ▸ h2);rw[<-he]at h1 h2 ac ⊢;have aQ:=eF s (a:=av s) ac;have hT:=Cy (iS ac aF) (by omega) (by omega);rw[aQ,jH s ac _ (by omega)]at hT;have ht:fw 400 (nv s (av s) (e - av s):Nat):=Nt (λi i1 i2=>aF i i1 (by omega)) (by omega);have ak:(s.extract (av s) e).size<=300:=by omega
  have ag:gm 300 s=if bR s e 47 then
    if e+1+300<aK s (e+1) then(0,2,e+1+300)
    else if aK s (e+1)=e+1∨aK s (e+1)<s.size then(0,1,aK s (e+1))
    else if nv s (e+1) (s.size - (e+1))=0 then(0,3,e+1)
    else(aBa (jZ s (nv s (av s) (e - av s))) (nv s (e+1) (s.size - (e+1)):Int),0,0)
   else if bR s e 46 then
    if e+1+300<aK s (e+1) then(0,2,e+1+300)
    else if aK s (e+1)=e+1 then(0,1,e+1)
    else dC s (nv s (av s) (e - av s)*10^(aK s (e+1) - (e+1))+nv s (e+1) (aK s (e+1) - (e+1))) (aK s (e+1) - (e+1)) (aK s (e+1))
   else dC s (nv s (av s) (e - av s)) 0 e:=by
   unfold gm;rw[<-he,if_neg h1,if_neg (by omega)]
  clear he aF h1 h2;generalize nv s (av s) (e - av s)=tv at *;generalize s.extract (av s) e=T at *;by_cases g0:bR s e 47
  ·rw[if_pos g0]at ag;exact I3 hC hs hn ac hT ak ht g0 ag
  ·rw[if_neg g0]at ag;by_cases g:bR s e 46
   ·rw[if_pos g]at ag;by_cases hk:e+1+300<aK s (e+1)∨aK s (e+1)=e+1
    ·exact Lk hC hs hn ac hT ak ht g0 g hk ag
    ·have au:¬e+1+300<aK s (e+1):=λh=>hk (.inl h);have hg:=g.1;have az:e+1<aK s (e+1):=by have:=jo s (e+1);omega
     obtain⟨f,hf⟩:∃f,f=aK s (e+1):=⟨_,rfl⟩;have an:f<=s.size:=by rw[hf];exact fy (by omega)
     have aS:=λi (h1:e+1<=i) (h2:i<f)=>dv (s:=s) (a:=e+1) h1 (hf ▸ h2);rw[if_neg au,if_neg (by omega),<-hf]at ag;have aw:=eF s (a:=e+1) an;have aT:=jH s (a:=e+1) an (f - (e+1)) (by omega);have aB:=iS an aS;rw[<-aT,<-aw]at ag;by_cases x0:bR s f 101
     ·by_cases x1:bR s (f+1) 45
      ·exact Nc hC hs hn ac hT ak ht g0 g au az hf rfl aw aB an ag x0 x1
      ·by_cases x2:bR s (f+1) 43
       ·exact Oi hC hs hn ac hT ak ht g0 g au az hf rfl aw aB an ag x0 x1 x2
       ·exact M8 hC hs hn ac hT ak ht g0 g au az hf rfl aw aB an ag x0 x1 x2
     ·exact Qq hC hs hn ac hT ak ht g0 g au az hf rfl aw aB an ag x0
   ·rw[if_neg g]at ag;have aC:gm 300 s=dC s (tv*10^(⟨#[]⟩:ByteArray).size+nv ⟨#[]⟩ 0 (⟨#[]⟩:ByteArray).size) (⟨#[]⟩:ByteArray).size e:=by
     rw[ag,VS,wA];simp
    by_cases x0:bR s e 101
    ·by_cases x1:bR s (e+1) 45
     ·exact Qk hC hs hn ac hT ak ht g0 g rfl rfl wA (vU _) ac aC x0 x1
     ·by_cases x2:bR s (e+1) 43
      ·exact Oh hC hs hn ac hT ak ht g0 g rfl rfl wA (vU _) ac aC x0 x1 x2
      ·exact PL hC hs hn ac hT ak ht g0 g rfl rfl wA (vU _) ac aC x0 x1 x2
    ·exact Qh hC hs hn ac hT ak ht g0 g rfl rfl wA (vU _) ac aC x0
theorem Pf(s:ByteArray)(hs:s.size<=4611686018427387904):aE ay9 110 [.val (.string s)] (B0 (gm 300 s)):=by
 refine jA Tryz.func110 rfl (by simp) (λC hC=>?_);refine aa.cutAt 3 (λst=>st=⟨151,[(0,.val (.string s)),(2,.ptr 0 0 0),(3,.val .nilIface),(4,.ptr 1 0 0),(5,.val (.bool (decide (minus s))))],MR s (av s) none⟩) ?_ ?_
 ·simp;refine bP s 0 45 (by simp[aA,bQ]) hs (by omega) (by simp) (λh=>?_) (λh=>?_)
  ·have hm:minus s:=h;have ha:av s=1:=by simp[av,hm]
   simp[bQ,hm,ha,MR,aP,hC,z4]
  ·have hm:¬minus s:=h;have ha:av s=0:=by simp[av,hm]
   simp[hm,ha,MR,aP,hC,z4,bQ]
 ·rintro st rfl;simp only[ah,ab];refine aa.cutAt 2 (IH s (decide (minus s))) ?_ (λst h=>aa.cutAt 1 (IA s) (Ob hC hs rfl h) ?_)
  ·simp;have wE:=kI s;generalize ad:decide (minus s)=neg;refine cZ s (av s) (by simp[aA,MR]) hs wE (by simp[MR]) (λh1=>?_) (λh1=>?_) (λh1 h2=>?_)
   ·have hq:gm 300 s=(0,2,av s+300):=by unfold gm;rw[if_pos h1]
    simp;exact⟨_,Or.inl ⟨2,av s+300,av s+300,.inr (.inl rfl),hq,rfl⟩,by simp[aP,hC,MR,nK,xA]⟩
   ·have hq:gm 300 s=(0,1,av s):=by unfold gm;rw[if_neg (by omega),if_pos h1]
    simp;exact⟨_,Or.inl ⟨1,av s,av s,.inl rfl,hq,rfl⟩,by simp[aP,hC,MR,nK,xA]⟩
   ·simp;exact⟨_,Or.inr ⟨h2,h1,rfl⟩,by simp[aP,hC,MR,xA]⟩
  ·rintro st ⟨T,P,Lw,Pw,a,la,pa,E,neg,up,t,d,h1,h2,h3,h4,h5,h6,h7,h8,h9,aU,aV,rfl⟩;have:=Xm (C:=C) hC s T P Lw Pw a la pa E neg up t d h1 h2 h3 h4 h5 h6 h7 h8 h9 aU;rw[aV]at this;exact this
end Go.Proofs
namespace Go.Proofs
open Go.Sv Go Go.Pl
def BE(m:Nat)(s:ByteArray)(a:Nat):Nat × Nat × Int :=
 if a+m<aK s a then(a+m,2,((a+m:Nat):Int)) else if aK s a=a then(a,1,a) else(aK s a,0, -1)
theorem po(s:ByteArray)(a m:Nat)(ha:a<=s.size)(hs:s.size<=4611686018427387904)(hm:m<=4611686018427387904) :
  aE ay9 151 [.val (.string s),.val (.int .i64 a),.val (.int .i64 m)] (.bM [.val (.int .i64 (BE m s a).1),fZ (BE m s a).2.1 (BE m s a).2.2]):=by
 refine aj Tryz.func151 rfl (by simp) (λC hC=>?_);simp;refine aa.loop (ι:=Nat) (λi=>⟨38,[(0,.val (.string s)),(1,.val (.int .i64 a)),(2,.val (.int .i64 m)),(7,.ptr 0 0 0),(8,.val (.int .i64 i))],
   [some ⟨2,[.agg [.val (.int .i64 0),.val (.int .i64 0)]],false⟩]⟩)
  (λi=>a<=i∧i<=s.size∧i<=a+m∧∀k,a<=k->k<i->bI s k) (λi=>s.size - i) a ?_ ?_ ?_
 ·exact⟨by omega,ha,by omega,λk h1 h2=>by omega⟩
 ·simp[aP,hC]
 ·rintro i ⟨h1,h2,h3,h4⟩;have hb:=Qg s i;have stop:¬bI s i->aK s a=i:=λh=>nL h1 h4 h;have e3:¬bI s i->¬a+m<aK s a:=λh=>by rw[stop h];omega
  by_cases hi:i<s.size
  ·have hd:=L9 (kJ s i) hb;simp[hi];refine bz hd (by simp[kJ]) ?_;by_cases am:qu (kJ s i)
   ·have aW:bI s i:=⟨hi,am⟩;have all:∀k,a<=k->k<i+1->bI s k:=λk k1 k2=>by
     by_cases e:k=i
     ·subst e;exact aW
     ·exact h4 k k1 (by omega)
    by_cases he:i=a+m
    ·have ap:(i:Int) - a=m:=by omega
     have a6:=ES h1 λk k1 k2=>all k k1 (by omega);have hr:BE m s a=(i,2,(i:Int)):=by unfold BE;rw[if_pos (by omega),<-he]
     simp(disch:=omega)[am,ap,aD,hr,fZ]
    ·have ap:¬(i:Int) - a=m:=by omega
     simp(disch:=omega)[am,ap,aD];exact⟨i+1,⟨by omega,by omega,by omega,all⟩,by omega,by simp[aP,hC]⟩
   ·have ai:¬bI s i:=λh=>am h.2;by_cases he:i=a
    ·have hr:BE m s a=(a,1,(a:Int)):=by
      unfold BE;rw[if_neg (e3 ai),if_pos (by rw[stop ai,he])]
     subst he;simp[am,hr,fZ]
    ·have hr:BE m s a=(i,0,(-1:Int)):=by
      unfold BE;rw[if_neg (e3 ai),if_neg (by rw[stop ai];exact he),stop ai]
     have ap:¬(i:Int)=a:=by omega
     simp[am,hr,fZ,ap]
  ·have ai:¬bI s i:=λh=>hi h.1;by_cases he:i=a
   ·have hr:BE m s a=(a,1,(a:Int)):=by
     unfold BE;rw[if_neg (e3 ai),if_pos (by rw[stop ai,he])]
    subst he;simp[hi,hr,fZ]
   ·have hr:BE m s a=(i,0,(-1:Int)):=by
     unfold BE;rw[if_neg (e3 ai),if_neg (by rw[stop ai];exact he),stop ai]
    have ap:¬(i:Int)=a:=by omega
    simp[hi,hr,fZ,ap]
theorem um{n k:Nat}(h:n<10^k)(hk:k<=1000000000000):eO (n:Int):=by unfold eO;rw[aBy];exact Nat.le_trans (zI (A:=10) (B:=10000) (by omega) (by omega) n) (Nat.le_trans (iC (by omega) h) hk)
theorem Gv{i:Nat}(h:i<=900000000000):eO ((10:Int)^i):=by rw[show(10:Int)^i=((10^i:Nat):Int) by push_cast;rfl];exact um (Nat.pow_lt_pow_right (by omega) (Nat.lt_succ_self i)) (by omega)
theorem DU(n:Nat)(hn:n<=900000000000):aE ay9 154 [.val (.int .i64 n)] (e9 ((10:Int)^n)):=by
 refine aj Tryz.func154 rfl (by simp) (λC hC=>?_);simp;refine awI (kd 1 (by omega) (by omega)) ?_;simp;refine awI (kd 10 (by omega) (by omega)) ?_;simp;refine aa.loop (ι:=Nat) (λi=>⟨17,[(0,.val (.int .i64 n)),(2,.ptr 0 0 0),(3,.ptr 1 0 0),(4,.ptr 2 0 0),(5,.val (.int .i64 i))],
   [some ⟨2,[.agg [.val (.bool false),.val (.slice none 0 0)]],false⟩,some ⟨2,[e9 ((10:Int)^i)],false⟩,some ⟨2,[e9 10],false⟩]⟩)
  (λi=>i<=n) (λi=>n - i) 0 ?_ ?_ ?_
 ·exact Nat.zero_le _
 ·simp[aP,hC]
 ·rintro i hi;by_cases aR:i<n
  ·have af:(i:Int)<n:=by omega
   have m1:=jm ((10:Int)^i) 10 (Gv (by omega)) (um (n:=10) (k:=2) (by decide) (by omega));rw[show(10:Int)^i*10=(10:Int)^(i+1) by rw[Int.pow_succ]]at m1;generalize (10:Int)^i=X at *;simp(disch:=omega)[af];refine awI m1 ?_;simp(disch:=omega)[aD];exact⟨i+1,by omega,by omega,by simp[aP,hC]⟩
  ·obtain rfl:i=n:=by omega
   simp
def nP(s:ByteArray)(a:Nat):Nat->Nat
 | 0=>0
 | k+1=>if nP s a k<=60 then 10*nP s a k+(kJ s (a+k) - 48) else nP s a k
theorem Ke(s:ByteArray)(a:Nat)(h:∀i,kJ s i<256):∀k,(nP s a k<=60->nP s a k=nv s a k)∧(60<nP s a k->60<nv s a k)∧nP s a k<=1000
 | 0=>⟨λ_=>rfl,λh=>by simp[nP]at h,by simp[nP]⟩
 | k+1=>by
  obtain⟨h1,h2,h3⟩:=Ke s a h k;have hb:=h (a+k);simp only[nP,nv];by_cases hc:nP s a k<=60
  ·rw[if_pos hc];have:=h1 hc;omega
  ·rw[if_neg hc];have:=h2 (by omega);omega
def pwS(s:ByteArray)(e:Nat):SV :=
 if cz s e+300<aK s (cz s e) then .bM [.val (.int .i64 0),.val (.int .i64 (cz s e+300:Nat)),fZ 2 (cz s e+300:Nat)]
 else if aK s (cz s e)=cz s e then .bM [.val (.int .i64 0),.val (.int .i64 (cz s e)),fZ 1 (cz s e)]
 else if aK s (cz s e)<s.size then .bM [.val (.int .i64 0),.val (.int .i64 (aK s (cz s e))),fZ 1 (aK s (cz s e))]
 else if 60<nv s (cz s e) (s.size - cz s e) then .bM [.val (.int .i64 0),.val (.int .i64 s.size),fZ 2 (cz s e)]
 else .bM [.val (.int .i64 (if bR s (e+1) 45 then -(nv s (cz s e) (s.size - cz s e):Int) else(nv s (cz s e) (s.size - cz s e):Int))),.val (.int .i64 s.size),fZ 0 (-1)]
theorem Mo(s:ByteArray)(e:Nat)(he:e<s.size)(hs:s.size<=4611686018427387904):aE ay9 153 [.val (.string s),.val (.int .i64 (e+1:Nat))] (pwS s e):=by
 refine jA Tryz.func153 rfl (by simp) (λC hC=>?_);obtain⟨b,hb⟩:∃b,b=cz s e:=⟨_,rfl⟩;have ax:((b=e+2∧e+1<s.size)∨b=e+1):=by
  rw[hb];unfold cz;split
  ·rename_i h;rcases h with h | h<;>exact .inl ⟨rfl,h.1⟩
  ·exact .inr rfl
 have aG:b<=s.size:=by omega
 have hd:=po s b 300 aG hs (by omega);have aO:pwS s e=if b+300<aK s b then .bM [.val (.int .i64 0),.val (.int .i64 (b+300:Nat)),fZ 2 (b+300:Nat)]
   else if aK s b=b then .bM [.val (.int .i64 0),.val (.int .i64 b),fZ 1 b]
   else if aK s b<s.size then .bM [.val (.int .i64 0),.val (.int .i64 (aK s b)),fZ 1 (aK s b)]
   else if 60<nv s b (s.size - b) then .bM [.val (.int .i64 0),.val (.int .i64 s.size),fZ 2 b]
   else .bM [.val (.int .i64 (if bR s (e+1) 45 then -(nv s b (s.size - b):Int) else(nv s b (s.size - b):Int))),.val (.int .i64 s.size),fZ 0 (-1)]:=by
  unfold pwS;rw[<-hb]
 rw[aO];clear aO;obtain⟨neg,ad⟩:∃neg:Bool,neg=decide (bR s (e+1) 45):=⟨_,rfl⟩;have aH:(if bR s (e+1) 45 then -(nv s b (s.size - b):Int) else(nv s b (s.size - b):Int))=if neg=true then -(nv s b (s.size - b):Int) else(nv s b (s.size - b):Int):=by rw[ad];by_cases h:bR s (e+1) 45<;>simp[h]
 rw[aH];refine aa.cutAt 3 (λst=>st=⟨82,[(0,.val (.string s)),(1,.val (.int .i64 b)),(6,.ptr 0 0 0),(7,.val (.bool neg))],[some ⟨2,[.agg [.val (.int .i64 0),.val (.int .i64 0)]],false⟩]⟩) ?_ ?_
 ·have al:=hb;unfold cz at al;rw[show e+2=(e+1)+1 by omega]at al;clear hb ax hd aH;generalize e+1=p at *;simp;by_cases h1:p<s.size
  ·have a7:(p:Int)<s.size:=by omega
   by_cases h2:kJ s p=45
   ·have x1:bR s p 45:=⟨h1,h2⟩;have aq:=jX.2 h2;rw[if_pos (.inl x1)]at al;have hn:neg=true:=by rw[ad];simp[x1]
    simp(disch:=omega)[h1,aq,aD];simp[aP,hC,al,hn]<;>omega
   ·have x1:¬bR s p 45:=λh=>h2 h.2;have aq:¬((eL s p).toNat:Int)=45:=λh=>h2 (jX (c:=45) |>.1 h);have hn:neg=false:=by rw[ad];simp[x1]
    by_cases h3:kJ s p=43
    ·have x2:bR s p 43:=⟨h1,h3⟩;have aI:=jX.2 h3;rw[if_pos (.inr x2)]at al;simp(disch:=omega)[h1,aI,aD];simp[aP,hC,al,hn]<;>omega
    ·have x2:¬bR s p 43:=λh=>h3 h.2;have aI:¬((eL s p).toNat:Int)=43:=λh=>h3 (jX (c:=43) |>.1 h);rw[if_neg (λh=>h.elim x1 x2)]at al;simp(disch:=omega)[h1,aq,aI,aD];simp[aP,hC,al,hn]<;>omega
  ·have x1:¬bR s p 45:=λh=>h1 h.1;have x2:¬bR s p 43:=λh=>h1 h.1;rw[if_neg (λh=>h.elim x1 x2)]at al;have hn:neg=false:=by rw[ad];simp[x1]
   simp(disch:=omega)[h1];simp[aP,hC,al,hn]<;>omega
 ·rintro st rfl;simp only[ah,ab];refine aa.go ?_;clear aH ad hb ax he;simp;refine awI hd ?_;by_cases k1:b+300<aK s b
  ·have e1:BE 300 s b=(b+300,2,((b+300:Nat):Int)):=by unfold BE;rw[if_pos k1]
   rw[e1,if_pos k1];simp[fZ];refine aa.awH (.qs [0,1,2,3]<|.l 4 [0]<|.nil) ?_;simp
  ·rw[if_neg k1];by_cases k2:aK s b=b
   ·have e1:BE 300 s b=(b,1,(b:Int)):=by unfold BE;rw[if_neg k1,if_pos k2]
    rw[e1,if_pos k2];simp[fZ];refine aa.awH (.qs [0,1,2,3]<|.l 4 [0]<|.nil) ?_;simp
   ·rw[if_neg k2];have e1:BE 300 s b=(aK s b,0,(-1:Int)):=by unfold BE;rw[if_neg k1,if_neg k2]
    have a8:=fy aG;have a9:=jo s b;have aX:=λi (h1:b<=i) (h2:i<aK s b)=>dv (s:=s) (a:=b) h1 h2;rw[e1];generalize aK s b=c at *;by_cases k3:c<s.size
    ·rw[if_pos k3];simp[fZ,k3]
    ·rw[if_neg k3];obtain rfl:c=s.size:=by omega
     simp[fZ];refine aa.loop (ι:=Nat) (λi=>⟨82,[(0,.val (.string s)),(1,.val (.int .i64 b)),(6,.ptr 0 0 0),(7,.val (.bool neg)),(8,.val (.int .i64 s.size)),(10,.val (.int .i64 (nP s b i))),(11,.val (.int .i64 (b+i:Nat)))],[some ⟨2,[.agg [.val (.int .i64 0),.val (.int .i64 0)]],false⟩]⟩)
      (λi=>b+i<=s.size) (λi=>s.size - b - i) 0 ?_ ?_ ?_
     ·exact aG
     ·simp[aP,hC,nP]
     ·rintro i hi;obtain⟨g1,g2,g3⟩:=Ke s b (Qg s) i;by_cases aR:b+i<s.size
      ·have af:(b:Int)+i<s.size:=by omega
       obtain⟨d,hd⟩:∃d,d=kJ s (b+i) - 48:=⟨_,rfl⟩;have am:=(aX (b+i) (by omega) aR).2;have aY:kJ s (b+i)=48+d:=by have:=am.1;omega
       have ba:d<=9:=by have:=am.2;omega
       have a0:((eL s (b+i)).toNat:Int)=48+d:=by unfold kJ at aY;omega
       have hw:(48+(d:Int) - 48) % 256=d:=by omega
       have e:nP s b (i+1)=if nP s b i<=60 then 10*nP s b i+d else nP s b i:=by simp only[nP];rw[<-hd]
       generalize nP s b i=X at *;by_cases hX:X<=60
       ·have ao:(X:Int)<=60:=by omega
        rw[if_pos hX]at e;have e':10*(X:Int)+d=((nP s b (i+1):Nat):Int):=by rw[e];push_cast;rfl
        simp(disch:=omega)[af,a0,SW,aD,hw,ao,e'];exact⟨by omega,i+1,by omega,by omega,by simp[aP,hC];omega⟩
       ·have ao:¬(X:Int)<=60:=by omega
        rw[if_neg hX]at e;simp(disch:=omega)[af,aD,ao];exact⟨i+1,by omega,by omega,by simp[aP,hC,e];omega⟩
      ·obtain rfl:i=s.size - b:=by omega
       have af:¬(b:Int)+((s.size - b:Nat):Int)<s.size:=by omega
       generalize nP s b (s.size - b)=X at *;generalize nv s b (s.size - b)=x at *;by_cases hX:60<X
       ·have ao:(60:Int)<X:=by omega
        rw[if_pos (g2 hX)];simp[af,ao]
       ·have ao:¬(60:Int)<X:=by omega
        have ex:=g1 (by omega);subst ex;rw[if_neg hX];cases neg with
        | true =>
         simp(disch:=omega)[ao,aD]
        | false=>simp[af,ao]
end Go.Proofs
namespace Go.Proofs
open Go.Sv Go Go.Pl
def j0(r:Rat × Nat × Nat):SV:=.bM [if r.2.1=0 then aZ r.1 else nT,fZ r.2.1 (if r.2.1=0 then -1 else(r.2.2:Int))]
noncomputable def iR:Code:=aBx.body.getD .skip
def q4:Option cJ:=some ⟨4,[.agg [.val (.bool false),.val (.slice none 0 0),.val (.bool false),.val (.slice none 0 0)]],false⟩
def fe(c:Nat)(a:Int):Option cJ:=some ⟨2,[fZ c a],false⟩
abbrev QP(m:Nat)(s:ByteArray):bf:=kg ay9 [.cell 4 42,.cell 5 131] (λy=>y=j0 (gm m s))
theorem V6{C:Ctx}(hC:C.fx=[]){s:ByteArray}{m:Nat}{neg:Bool}{N p f:Nat}{up:Int}(hn:decide (minus s)=neg){k:Nat}(hk:k<=400000000000)(hN:N<10^k)(hp:p<=400000000000)(ar : -60<=up∧up<=60)
  (hq:gm m s=if f<s.size then(0,1,f) else if 0<up then(aBa (jZ s (N*10^up.toNat)) ((10^p:Nat):Int),0,0) else(aBa (jZ s N) ((10^(p+(-up).toNat):Nat):Int),0,0)) :
  aa ay9 C (bh 14 iR) ⟨193,[(0,.val (.string s)),(4,.ptr 0 0 0),(5,.ptr 1 0 0),(7,.val (.bool neg)),(8,.val (.int .i64 f)),(11,.ptr 3 0 0),(12,.ptr 4 0 0),(15,.val (.int .i64 p)),(18,.val (.int .i64 up))],[q4,fe 0 0,fe 0 (-1),some ⟨2,[e9 N],false⟩,some ⟨2,[e9 1],false⟩]⟩ (QP m s):=by
 simp only[iR,aBx,Option.getD_some,ah,ab];refine aa.go ?_;by_cases h1:f<s.size
 ·rw[if_pos h1]at hq;simp[h1,q4,fe,fZ,hq,j0,nT]
 ·rw[if_neg h1]at hq;have a1:=DU p (by omega);have ay:=Gv (i:=p) (by omega);simp[h1];refine awI a1 ?_;by_cases h2:0<up
  ·rw[if_pos h2]at hq;obtain⟨u,hu⟩:∃u:Nat,u=up.toNat:=⟨_,rfl⟩;obtain rfl:up=(u:Int):=by omega
   rw[<-hu]at hq;have aJ:eO ((N:Int)*(10:Int)^u):=by rw[show(N:Int)*(10:Int)^u=((N*10^u:Nat):Int) by push_cast;rfl];refine um (k:=k+u) ?_ (by omega);rw[Nat.pow_add];exact Nat.mul_lt_mul_of_pos_right hN (Nat.pow_pos (by omega))
   have hv:(if neg=true then -((N:Int)*(10:Int)^u) else(N:Int)*(10:Int)^u)=jZ s (N*10^u):=by rw[kD hn];push_cast;rfl
   have mk:=oF neg (N*10^u) (by have:=aJ;unfold eO at this;rwa [show(N:Int)*(10:Int)^u=((N*10^u:Nat):Int) by push_cast;rfl,aBy]at this);have ov:=oa (jZ s (N*10^u)) ((10:Int)^p) (by rw[<-hv];split;exact oI.2 aJ;exact aJ) ay (by have:(0:Int)<10^p:=aBz (by omega);omega);rw[show(if neg=true then -((N*10^u:Nat):Int) else((N*10^u:Nat):Int))=jZ s (N*10^u) from (kD hn _).symm]at mk;have aq:0<u:=by omega
   have ml:=jm (N:Int) ((10:Int)^u) (um hN (by omega)) (Gv (by omega));have hX:((N:Int)*(10:Int)^u).natAbs=N*10^u:=by rw[show(N:Int)*(10:Int)^u=((N*10^u:Nat):Int) by push_cast;rfl,aBy]
   generalize jZ s (N*10^u)=Y at *;rw[<-hX]at mk;generalize (N:Int)*(10:Int)^u=X at *;simp[aq,q4,fe,fZ];refine awI (DU u (by omega)) ?_;simp;refine awI ml ?_;simp;refine aa.awH (.qs [0,1,2,4,6]<|.l 3 []<|.l 5 []<|.l 7 [0]<|.l 8 [1]<|.nil) ?_;simp;refine awI mk ?_;simp;refine awI ov ?_;simp[j0,hq,fZ]
  ·rw[if_neg h2]at hq;obtain⟨u,hu⟩:∃u:Nat,u=(-up).toNat:=⟨_,rfl⟩;obtain rfl:up = -(u:Int):=by omega
   rw[<-hu]at hq;have aq:¬0 < -(u:Int):=h2;have hD:eO ((10:Int)^p*(10:Int)^u):=by rw[<-Int.pow_add];exact Gv (by omega)
   have aM:eO (N:Int):=um hN (by omega);have mk:=oF neg N (by have:=aM;unfold eO at this;rwa [aBy]at this);rw[show(if neg=true then -((N:Nat):Int) else((N:Nat):Int))=jZ s N from (kD hn _).symm]at mk;have a2:eO (jZ s N):=by rw[kD hn];split;exact oI.2 aM;exact aM
   have ov:=oa (jZ s N) ((10:Int)^p*(10:Int)^u) a2 hD (by have:(0:Int)<10^p:=aBz (by omega);have:(0:Int)<10^u:=aBz (by omega);exact Int.mul_ne_zero (by omega) (by omega));have a3:((10^(p+u):Nat):Int)=(10:Int)^p*(10:Int)^u:=by rw[Nat.pow_add];push_cast;rfl
   rw[a3]at hq;have ad:(0:Int) - -(u:Int)=u:=by omega
   have a4:¬(u:Int)<0:=by omega
   have ml:=jm ((10:Int)^p) ((10:Int)^u) ay (Gv (by omega));generalize (10:Int)^p*(10:Int)^u=X at *;generalize jZ s N=Y at *;simp(disch:=omega)[q4,fe,fZ,aD,ad,a4];refine awI (DU u (by omega)) ?_;simp;refine awI ml ?_;simp;refine aa.awH (.qs [0,1,2,4,6]<|.l 3 []<|.l 5 []<|.l 7 [0]<|.l 8 [1]<|.nil) ?_;simp;refine awI mk ?_;simp;refine awI ov ?_;simp[j0,hq,fZ]
def XS(m:Nat)(s:ByteArray)(neg:Bool)(st:St):Prop:=∃(N p f k:Nat) (up:Int),k<=400000000000∧N<10^k∧p<=400000000000∧(-60<=up∧up<=60) ∧
 (gm m s=if f<s.size then(0,1,f) else if 0<up then(aBa (jZ s (N*10^up.toNat)) ((10^p:Nat):Int),0,0) else(aBa (jZ s N) ((10^(p+(-up).toNat):Nat):Int),0,0)) ∧
 st=⟨193,[(0,.val (.string s)),(4,.ptr 0 0 0),(5,.ptr 1 0 0),(7,.val (.bool neg)),(8,.val (.int .i64 f)),(11,.ptr 3 0 0),(12,.ptr 4 0 0),(15,.val (.int .i64 p)),(18,.val (.int .i64 up))],[q4,fe 0 0,fe 0 (-1),some ⟨2,[e9 N],false⟩,some ⟨2,[e9 1],false⟩]⟩
theorem WM{C:Ctx}(hC:C.fx=[]){s:ByteArray}{m:Nat}{neg:Bool}{N p f k:Nat}(hs:s.size<=4611686018427387904)(hn:decide (minus s)=neg)(hk:k<=400000000000)(hN:N<10^k)(hp:p<=400000000000)(an:f<=s.size)
  (hq:gm m s=dC s N p f) :
  aa ay9 C (bh 12 iR) ⟨193,[(0,.val (.string s)),(4,.ptr 0 0 0),(5,.ptr 1 0 0),(7,.val (.bool neg)),(8,.val (.int .i64 f)),(11,.ptr 3 0 0),(12,.ptr 4 0 0),(15,.val (.int .i64 p))],[q4,fe 0 0,fe 0 (-1),some ⟨2,[e9 N],false⟩,some ⟨2,[e9 1],false⟩]⟩ (QP m s):=by
 refine aa.cutAt 2 (XS m s neg) ?_ ?_
 ·simp only[iR,aBx,Option.getD_some,ah,ab,aN,aL];unfold dC at hq;by_cases x0:bR s f 101
  ·rw[if_pos x0]at hq;have h1:=x0.1;have h2:=jX.2 x0.2;have pw:=Mo s f h1 hs;rw[show((f+1:Nat):Int)=(f:Int)+1 by push_cast;rfl]at pw;unfold pwS at pw;generalize cz s f=b at *;by_cases k1:b+300<aK s b
   ·rw[if_pos k1]at pw hq;simp(disch:=omega)[h1,h2,aD];refine ae pw (by simp[]) ?_;simp[fZ,fe,q4];refine aa.awH (.qs [0]<|.q 1 [0]<|.l 2 [0]<|.l 3 [1]<|.nil) ?_;simp[j0,hq,fZ,nT,Sv.Sub,cP]
   ·rw[if_neg k1]at pw hq;by_cases k2:aK s b=b
    ·rw[if_pos k2]at pw;rw[if_pos (.inl k2),k2]at hq;simp(disch:=omega)[h1,h2,aD];refine ae pw (by simp[]) ?_;simp[fZ,fe,q4];refine aa.awH (.qs [0]<|.q 1 [0]<|.l 2 [0]<|.l 3 [1]<|.nil) ?_;simp[j0,hq,fZ,nT,Sv.Sub,cP]
    ·rw[if_neg k2]at pw;by_cases k3:aK s b<s.size
     ·rw[if_pos k3]at pw;rw[if_pos (.inr k3)]at hq;simp(disch:=omega)[h1,h2,aD];refine ae pw (by simp[]) ?_;simp[fZ,fe,q4];refine aa.awH (.qs [0]<|.q 1 [0]<|.l 2 [0]<|.l 3 [1]<|.nil) ?_;simp[j0,hq,fZ,nT,Sv.Sub,cP]
     ·rw[if_neg k3]at pw;rw[if_neg (λh=>h.elim k2 k3)]at hq;generalize nv s b (s.size - b)=x at *;by_cases k4:60<x
      ·rw[if_pos k4]at pw hq;simp(disch:=omega)[h1,h2,aD];refine ae pw (by simp[]) ?_;simp[fZ,fe,q4];refine aa.awH (.qs [0]<|.q 1 [0]<|.l 2 [0]<|.l 3 [1]<|.nil) ?_;simp[j0,hq,fZ,nT,Sv.Sub,cP]
      ·rw[if_neg k4]at pw hq;obtain⟨up,ar⟩:∃up,up=if bR s (f+1) 45 then -(x:Int) else(x:Int):=⟨_,rfl⟩;rw[<-ar]at pw;have hb : -60<=up∧up<=60:=by rw[ar];split<;>omega
       simp(disch:=omega)[h1,h2,aD];refine ae pw (by simp[]) ?_;simp[fZ,fe,q4];refine⟨_,⟨N,p,s.size,k,up,hk,hN,hp,hb,?_,rfl⟩,by simp[aP,hC,fe,q4,fZ]⟩;rw[hq,if_neg (Nat.lt_irrefl _)];by_cases x1:bR s (f+1) 45
       ·rw[if_pos x1]at ar ⊢;rw[if_neg (by omega),show(-up).toNat=x by omega]
       ·rw[if_neg x1]at ar ⊢;by_cases a5:x=0
        ·subst a5;simp[ar]
        ·rw[if_pos (by omega),show up.toNat=x by omega]
  ·rw[if_neg x0]at hq;have fin:((f<s.size∧¬((eL s f).toNat:Int)=101)∨¬f<s.size):=by
    by_cases h:f<s.size
    ·exact .inl ⟨h,λh2=>x0 ⟨h,jX (c:=101) |>.1 h2⟩⟩
    ·exact .inr h
   rcases fin with⟨h1,h2⟩ | h1
   ·simp[h1,h2];refine⟨_,⟨N,p,f,k,0,hk,hN,hp,by omega,?_,rfl⟩,by simp[aP,hC]⟩;rw[hq];simp
   ·simp[h1];refine⟨_,⟨N,p,f,k,0,hk,hN,hp,by omega,?_,rfl⟩,by simp[aP,hC]⟩;rw[hq];simp
 ·rintro st ⟨N,p,f,k,up,h1,h2,h3,h4,h5,rfl⟩;exact V6 hC hn h1 h2 h3 h4 h5
end Go.Proofs


/- A text of the prover's own. -/
import Derived.Test.YtmghjkkjaolpgaaGreatDoorUQj
open Rat renaming divInt→aor
open Int renaming natAbs_natCast→aoI,pow_pos→aoJ
set_option maxRecDepth 20000
namespace Go.Proofs
open Go.Sv Go Go.Pl
def IH(s:ByteArray)(neg:Bool)(st:St):Prop :=
 (∃c p a,(c=1∨c=2∨c=3)∧eH 300 s=(0,c,p)∧st=rZ s ⟨#[]⟩ neg a (some (c,p))) ∨
 (ak s<aw s (ak s)∧¬ak s+300<aw s (ak s)∧st=rZ s (s.extract (ak s) (aw s (ak s))) neg (aw s (ak s)) none)
theorem Hc{C:Ctx}{Q:aV}(hC:C.fx=[]){s:ByteArray}{neg:Bool}(hs:s.size≤4611686018427387904)(hn:decide (minus s)=neg){st:St}(h:IH s neg st) :
  vc Tryz.prog C (jK 1 (fk 5 readBody)) st (iK C (IA s) Q) (iK C (IA s) Q):=by
 rcases h with⟨c,p,a,hc,hq,rfl⟩ | ⟨h2,h1,rfl⟩
 ·exact IP hC (Nat.zero_le _) hc hq
 ·have pW:=gY s;obtain⟨e,he⟩:∃e,e=aw s (ak s):=⟨_,rfl⟩;have hes:=dI pW;have hTd:=fun i (h1:ak s≤i) (h2:i<e)=>cV (s:=s) (a:=ak s) h1 (he ▸ h2);rw[←he]at h1 h2 hes ⊢;have hTz:=ef s (a:=ak s) hes;have hT:=yh (gp hes hTd) (by omega) (by omega);rw[hTz,iA s hes _ (by omega)]at hT;have ht:fw 400 (nv s (ak s) (e - ak s):Nat):=JE (fun i i1 i2=>hTd i i1 (by omega)) (by omega);have hT3:(s.extract (ak s) e).size≤300:=by omega
  have hq0:eH 300 s=if bA s e 47 then
    if e+1+300<aw s (e+1) then(0,2,e+1+300)
    else if aw s (e+1)=e+1∨aw s (e+1)<s.size then(0,1,aw s (e+1))
    else if nv s (e+1) (s.size - (e+1))=0 then(0,3,e+1)
    else(aor (iO s (nv s (ak s) (e - ak s))) (nv s (e+1) (s.size - (e+1)):Int),0,0)
   else if bA s e 46 then
    if e+1+300<aw s (e+1) then(0,2,e+1+300)
    else if aw s (e+1)=e+1 then(0,1,e+1)
    else cS s (nv s (ak s) (e - ak s)*10^(aw s (e+1) - (e+1))+nv s (e+1) (aw s (e+1) - (e+1))) (aw s (e+1) - (e+1)) (aw s (e+1))
   else cS s (nv s (ak s) (e - ak s)) 0 e:=by
   unfold eH;rw[←he,if_neg h1,if_neg (by omega)]
  clear he hTd h1 h2;generalize nv s (ak s) (e - ak s)=tv at *;generalize s.extract (ak s) e=T at *;by_cases g0:bA s e 47
  ·rw[if_pos g0]at hq0;exact CK hC hs hn hes hT hT3 ht g0 hq0
  ·rw[if_neg g0]at hq0;by_cases g:bA s e 46
   ·rw[if_pos g]at hq0;by_cases hk:e+1+300<aw s (e+1)∨aw s (e+1)=e+1
    ·exact Fs hC hs hn hes hT hT3 ht g0 g hk hq0
    ·have hk1:¬e+1+300<aw s (e+1):=fun h=>hk (.inl h);have hg:=g.1;have hk2:e+1<aw s (e+1):=by have:=fD s (e+1);omega
     obtain⟨f,hf⟩:∃f,f=aw s (e+1):=⟨_,rfl⟩;have hfs:f≤s.size:=by rw[hf];exact dI (by omega)
     have hPd:=fun i (h1:e+1≤i) (h2:i<f)=>cV (s:=s) (a:=e+1) h1 (hf ▸ h2);rw[if_neg hk1,if_neg (by omega),←hf]at hq0;have hPz:=ef s (a:=e+1) hfs;have hPn:=iA s (a:=e+1) hfs (f - (e+1)) (by omega);have hPa:=gp hfs hPd;rw[←hPn,←hPz]at hq0;by_cases x0:bA s f 101
     ·by_cases x1:bA s (f+1) 45
      ·exact Jd hC hs hn hes hT hT3 ht g0 g hk1 hk2 hf rfl hPz hPa hfs hq0 x0 x1
      ·by_cases x2:bA s (f+1) 43
       ·exact Hg hC hs hn hes hT hT3 ht g0 g hk1 hk2 hf rfl hPz hPa hfs hq0 x0 x1 x2
       ·exact JG hC hs hn hes hT hT3 ht g0 g hk1 hk2 hf rfl hPz hPa hfs hq0 x0 x1 x2
     ·exact Hn hC hs hn hes hT hT3 ht g0 g hk1 hk2 hf rfl hPz hPa hfs hq0 x0
   ·rw[if_neg g]at hq0;have hq1:eH 300 s=cS s (tv*10^(⟨#[]⟩:ByteArray).size+nv ⟨#[]⟩ 0 (⟨#[]⟩:ByteArray).size) (⟨#[]⟩:ByteArray).size e:=by
     rw[hq0,Pq,sa];simp
    by_cases x0:bA s e 101
    ·by_cases x1:bA s (e+1) 45
     ·exact Ih hC hs hn hes hT hT3 ht g0 g rfl rfl sa (qd _) hes hq1 x0 x1
     ·by_cases x2:bA s (e+1) 43
      ·exact Gy hC hs hn hes hT hT3 ht g0 g rfl rfl sa (qd _) hes hq1 x0 x1 x2
      ·exact H5 hC hs hn hes hT hT3 ht g0 g rfl rfl sa (qd _) hes hq1 x0 x1 x2
    ·exact Jx hC hs hn hes hT hT3 ht g0 g rfl rfl sa (qd _) hes hq1 x0
theorem Hq(s:ByteArray)(hs:s.size≤4611686018427387904):aI Tryz.prog 79 [.val (.string s)] (xm (eH 300 s)):=by
 refine ir Tryz.func79 rfl (by simp) (fun C hC=>?_);refine ae.cutAt 3 (fun st=>st=⟨151,[(0,.val (.string s)),(2,.ptr 0 0 0),(3,.val .nilIface),(4,.ptr 1 0 0),(5,.val (.bool (decide (minus s))))],MR s (ak s) none⟩) ?_ ?_
 ·simp;refine bz s 0 45 (by simp[ao,bu]) hs (by omega) (by simp) (fun h=>?_) (fun h=>?_)
  ·have hm:minus s:=h;have ha:ak s=1:=by simp[ak,hm]
   simp[bu,hm,ha,MR,ar,hC,z4]
  ·have hm:¬minus s:=h;have ha:ak s=0:=by simp[ak,hm]
   simp[hm,ha,MR,ar,hC,z4,bu]
 ·rintro st rfl;simp only[ax,au];refine ae.cutAt 2 (IH s (decide (minus s))) ?_ (fun st h=>ae.cutAt 1 (IA s) (Hc hC hs rfl h) ?_)
  ·simp;have pW:=gY s;generalize hneg:decide (minus s)=neg;refine cM s (ak s) (by simp[ao,MR]) hs pW (by simp[MR]) (fun h1=>?_) (fun h1=>?_) (fun h1 h2=>?_)
   ·have hq:eH 300 s=(0,2,ak s+300):=by unfold eH;rw[if_pos h1]
    simp;exact⟨_,Or.inl ⟨2,ak s+300,ak s+300,.inr (.inl rfl),hq,rfl⟩,by simp[ar,hC,MR,kY,rZ]⟩
   ·have hq:eH 300 s=(0,1,ak s):=by unfold eH;rw[if_neg (by omega),if_pos h1]
    simp;exact⟨_,Or.inl ⟨1,ak s,ak s,.inl rfl,hq,rfl⟩,by simp[ar,hC,MR,kY,rZ]⟩
   ·simp;exact⟨_,Or.inr ⟨h2,h1,rfl⟩,by simp[ar,hC,MR,rZ]⟩
  ·rintro st ⟨T,P,Lw,Pw,a,la,pa,E,neg,up,t,d,h1,h2,h3,h4,h5,h6,h7,h8,h9,h10,h11,rfl⟩;have:=NW (C:=C) hC s T P Lw Pw a la pa E neg up t d h1 h2 h3 h4 h5 h6 h7 h8 h9 h10;rw[h11]at this;exact this
end Go.Proofs
namespace Go.Proofs
open Go.Sv Go Go.Pl
def xa(m:Nat)(s:ByteArray)(a:Nat):Nat × Nat × Int :=
 if a+m<aw s a then(a+m,2,((a+m:Nat):Int)) else if aw s a=a then(a,1,a) else(aw s a,0, -1)
theorem lV(s:ByteArray)(a m:Nat)(ha:a≤s.size)(hs:s.size≤4611686018427387904)(hm:m≤4611686018427387904) :
  aI Tryz.prog 134 [.val (.string s),.val (.int .i64 a),.val (.int .i64 m)] (.bG [.val (.int .i64 (xa m s a).1),eS (xa m s a).2.1 (xa m s a).2.2]):=by
 refine aj Tryz.func134 rfl (by simp) (fun C hC=>?_);simp;refine ae.loop (ι:=Nat) (fun i=>⟨38,[(0,.val (.string s)),(1,.val (.int .i64 a)),(2,.val (.int .i64 m)),(7,.ptr 0 0 0),(8,.val (.int .i64 i))],
   [some ⟨2,[.agg [.val (.int .i64 0),.val (.int .i64 0)]],false⟩]⟩)
  (fun i=>a≤i∧i≤s.size∧i≤a+m∧∀k,a≤k→k<i→bj s k) (fun i=>s.size - i) a ?_ ?_ ?_
 ·exact⟨by omega,ha,by omega,fun k h1 h2=>by omega⟩
 ·simp[ar,hC]
 ·rintro i ⟨h1,h2,h3,h4⟩;have hb:=I7 s i;have stop:¬bj s i→aw s a=i:=fun h=>kI h1 h4 h;have e3:¬bj s i→¬a+m<aw s a:=fun h=>by rw[stop h];omega
  by_cases hi:i<s.size
  ·have hd:=FE (jB s i) hb;simp[hi];refine aZ hd (by simp[jB]) ?_;by_cases hdg:mP (jB s i)
   ·have hdi:bj s i:=⟨hi,hdg⟩;have all:∀k,a≤k→k<i+1→bj s k:=fun k k1 k2=>by
     by_cases e:k=i
     ·subst e;exact hdi
     ·exact h4 k k1 (by omega)
    by_cases he:i=a+m
    ·have he':(i:Int) - a=m:=by omega
     have hgt:=yu h1 fun k k1 k2=>all k k1 (by omega);have hr:xa m s a=(i,2,(i:Int)):=by
      unfold xa;rw[if_pos (by omega),←he]
     simp(disch:=omega)[hdg,he',aP,hr,eS]
    ·have he':¬(i:Int) - a=m:=by omega
     simp(disch:=omega)[hdg,he',aP];exact⟨i+1,⟨by omega,by omega,by omega,all⟩,by omega,by simp[ar,hC]⟩
   ·have hnd:¬bj s i:=fun h=>hdg h.2;by_cases he:i=a
    ·have hr:xa m s a=(a,1,(a:Int)):=by
      unfold xa;rw[if_neg (e3 hnd),if_pos (by rw[stop hnd,he])]
     subst he;simp[hdg,hr,eS]
    ·have hr:xa m s a=(i,0,(-1:Int)):=by
      unfold xa;rw[if_neg (e3 hnd),if_neg (by rw[stop hnd];exact he),stop hnd]
     have he':¬(i:Int)=a:=by omega
     simp[hdg,hr,eS,he']
  ·have hnd:¬bj s i:=fun h=>hi h.1;by_cases he:i=a
   ·have hr:xa m s a=(a,1,(a:Int)):=by
     unfold xa;rw[if_neg (e3 hnd),if_pos (by rw[stop hnd,he])]
    subst he;simp[hi,hr,eS]
   ·have hr:xa m s a=(i,0,(-1:Int)):=by
     unfold xa;rw[if_neg (e3 hnd),if_neg (by rw[stop hnd];exact he),stop hnd]
    have he':¬(i:Int)=a:=by omega
    simp[hi,hr,eS,he']
theorem pR{n k:Nat}(h:n<10^k)(hk:k≤1000000000000):eE (n:Int):=by
 unfold eE;rw[aoI];exact Nat.le_trans (By (A:=10) (B:=10000) (by omega) (by omega) n) (Nat.le_trans (gZ (by omega) h) hk)
theorem Ax{i:Nat}(h:i≤900000000000):eE ((10:Int)^i):=by
 rw[show(10:Int)^i=((10^i:Nat):Int) by push_cast;rfl];exact pR (Nat.pow_lt_pow_right (by omega) (Nat.lt_succ_self i)) (by omega)
theorem yY(n:Nat)(hn:n≤900000000000):aI Tryz.prog 138 [.val (.int .i64 n)] (eJ ((10:Int)^n)):=by
 refine aj Tryz.func138 rfl (by simp) (fun C hC=>?_);simp;refine alT (jg 1 (by omega) (by omega)) ?_;simp;refine alT (jg 10 (by omega) (by omega)) ?_;simp;refine ae.loop (ι:=Nat) (fun i=>⟨17,[(0,.val (.int .i64 n)),(2,.ptr 0 0 0),(3,.ptr 1 0 0),(4,.ptr 2 0 0),(5,.val (.int .i64 i))],
   [some ⟨2,[.agg [.val (.bool false),.val (.slice none 0 0)]],false⟩,some ⟨2,[eJ ((10:Int)^i)],false⟩,some ⟨2,[eJ 10],false⟩]⟩)
  (fun i=>i≤n) (fun i=>n - i) 0 ?_ ?_ ?_
 ·exact Nat.zero_le _
 ·simp[ar,hC]
 ·rintro i hi;by_cases aF:i<n
  ·have hlt':(i:Int)<n:=by omega
   have m1:=ju ((10:Int)^i) 10 (Ax (by omega)) (pR (n:=10) (k:=2) (by decide) (by omega));rw[show(10:Int)^i*10=(10:Int)^(i+1) by rw[Int.pow_succ]]at m1;generalize (10:Int)^i=X at *;simp(disch:=omega)[hlt'];refine alT m1 ?_;simp(disch:=omega)[aP];exact⟨i+1,by omega,by omega,by simp[ar,hC]⟩
  ·obtain rfl:i=n:=by omega
   simp
def k7(s:ByteArray)(a:Nat):Nat→Nat
 | 0=>0
 | k+1=>if k7 s a k≤60 then 10*k7 s a k+(jB s (a+k) - 48) else k7 s a k
theorem DD(s:ByteArray)(a:Nat)(h:∀i,jB s i<256):∀k,(k7 s a k≤60→k7 s a k=nv s a k)∧(60<k7 s a k→60<nv s a k)∧k7 s a k≤1000
 | 0=>⟨fun _=>rfl,fun h=>by simp[k7]at h,by simp[k7]⟩
 | k+1=>by
  obtain⟨h1,h2,h3⟩:=DD s a h k;have hb:=h (a+k);simp only[k7,nv];by_cases hc:k7 s a k≤60
  ·rw[if_pos hc];have:=h1 hc;omega
  ·rw[if_neg hc];have:=h2 (by omega);omega
def pwS(s:ByteArray)(e:Nat):SV :=
 if bQ s e+300<aw s (bQ s e) then .bG [.val (.int .i64 0),.val (.int .i64 (bQ s e+300:Nat)),eS 2 (bQ s e+300:Nat)]
 else if aw s (bQ s e)=bQ s e then .bG [.val (.int .i64 0),.val (.int .i64 (bQ s e)),eS 1 (bQ s e)]
 else if aw s (bQ s e)<s.size then .bG [.val (.int .i64 0),.val (.int .i64 (aw s (bQ s e))),eS 1 (aw s (bQ s e))]
 else if 60<nv s (bQ s e) (s.size - bQ s e) then .bG [.val (.int .i64 0),.val (.int .i64 s.size),eS 2 (bQ s e)]
 else .bG [.val (.int .i64 (if bA s (e+1) 45 then -(nv s (bQ s e) (s.size - bQ s e):Int) else(nv s (bQ s e) (s.size - bQ s e):Int))),.val (.int .i64 s.size),eS 0 (-1)]
theorem Gc(s:ByteArray)(e:Nat)(he:e<s.size)(hs:s.size≤4611686018427387904):aI Tryz.prog 137 [.val (.string s),.val (.int .i64 (e+1:Nat))] (pwS s e):=by
 refine ir Tryz.func137 rfl (by simp) (fun C hC=>?_);obtain⟨b,hb⟩:∃b,b=bQ s e:=⟨_,rfl⟩;have hexp:((b=e+2∧e+1<s.size)∨b=e+1):=by
  rw[hb];unfold bQ;split
  ·rename_i h;rcases h with h | h<;>exact .inl ⟨rfl,h.1⟩
  ·exact .inr rfl
 have hbs:b≤s.size:=by omega
 have hd:=lV s b 300 hbs hs (by omega);have hpw:pwS s e=if b+300<aw s b then .bG [.val (.int .i64 0),.val (.int .i64 (b+300:Nat)),eS 2 (b+300:Nat)]
   else if aw s b=b then .bG [.val (.int .i64 0),.val (.int .i64 b),eS 1 b]
   else if aw s b<s.size then .bG [.val (.int .i64 0),.val (.int .i64 (aw s b)),eS 1 (aw s b)]
   else if 60<nv s b (s.size - b) then .bG [.val (.int .i64 0),.val (.int .i64 s.size),eS 2 b]
   else .bG [.val (.int .i64 (if bA s (e+1) 45 then -(nv s b (s.size - b):Int) else(nv s b (s.size - b):Int))),.val (.int .i64 s.size),eS 0 (-1)]:=by
  unfold pwS;rw[←hb]
 rw[hpw];clear hpw;obtain⟨neg,hneg⟩:∃neg:Bool,neg=decide (bA s (e+1) 45):=⟨_,rfl⟩;have hng:(if bA s (e+1) 45 then -(nv s b (s.size - b):Int) else(nv s b (s.size - b):Int))=if neg=true then -(nv s b (s.size - b):Int) else(nv s b (s.size - b):Int):=by
  rw[hneg];by_cases h:bA s (e+1) 45<;>simp[h]
 rw[hng];refine ae.cutAt 3 (fun st=>st=⟨82,[(0,.val (.string s)),(1,.val (.int .i64 b)),(6,.ptr 0 0 0),(7,.val (.bool neg))],[some ⟨2,[.agg [.val (.int .i64 0),.val (.int .i64 0)]],false⟩]⟩) ?_ ?_
 ·have hb':=hb;unfold bQ at hb';rw[show e+2=(e+1)+1 by omega]at hb';clear hb hexp hd hng;generalize e+1=p at *;simp;by_cases h1:p<s.size
  ·have h1':(p:Int)<s.size:=by omega
   by_cases h2:jB s p=45
   ·have x1:bA s p 45:=⟨h1,h2⟩;have h2':=iM.2 h2;rw[if_pos (.inl x1)]at hb';have hn:neg=true:=by rw[hneg];simp[x1]
    simp(disch:=omega)[h1,h2',aP];simp[ar,hC,hb',hn]<;>omega
   ·have x1:¬bA s p 45:=fun h=>h2 h.2;have h2':¬((eG s p).toNat:Int)=45:=fun h=>h2 (iM (c:=45) |>.1 h);have hn:neg=false:=by rw[hneg];simp[x1]
    by_cases h3:jB s p=43
    ·have x2:bA s p 43:=⟨h1,h3⟩;have h3':=iM.2 h3;rw[if_pos (.inr x2)]at hb';simp(disch:=omega)[h1,h3',aP];simp[ar,hC,hb',hn]<;>omega
    ·have x2:¬bA s p 43:=fun h=>h3 h.2;have h3':¬((eG s p).toNat:Int)=43:=fun h=>h3 (iM (c:=43) |>.1 h);rw[if_neg (fun h=>h.elim x1 x2)]at hb';simp(disch:=omega)[h1,h2',h3',aP];simp[ar,hC,hb',hn]<;>omega
  ·have x1:¬bA s p 45:=fun h=>h1 h.1;have x2:¬bA s p 43:=fun h=>h1 h.1;rw[if_neg (fun h=>h.elim x1 x2)]at hb';have hn:neg=false:=by rw[hneg];simp[x1]
   simp(disch:=omega)[h1];simp[ar,hC,hb',hn]<;>omega
 ·rintro st rfl;simp only[ax,au];refine ae.go ?_;clear hng hneg hb hexp he;simp;refine alT hd ?_;by_cases k1:b+300<aw s b
  ·have e1:xa 300 s b=(b+300,2,((b+300:Nat):Int)):=by unfold xa;rw[if_pos k1]
   rw[e1,if_pos k1];simp[eS];refine ae.alS (.qs [0,1,2,3]<|.l 4 [0]<|.nil) ?_;simp
  ·rw[if_neg k1];by_cases k2:aw s b=b
   ·have e1:xa 300 s b=(b,1,(b:Int)):=by unfold xa;rw[if_neg k1,if_pos k2]
    rw[e1,if_pos k2];simp[eS];refine ae.alS (.qs [0,1,2,3]<|.l 4 [0]<|.nil) ?_;simp
   ·rw[if_neg k2];have e1:xa 300 s b=(aw s b,0,(-1:Int)):=by unfold xa;rw[if_neg k1,if_neg k2]
    have hcs:=dI hbs;have hge:=fD s b;have hWd:=fun i (h1:b≤i) (h2:i<aw s b)=>cV (s:=s) (a:=b) h1 h2;rw[e1];generalize aw s b=c at *;by_cases k3:c<s.size
    ·rw[if_pos k3];simp[eS,k3]
    ·rw[if_neg k3];obtain rfl:c=s.size:=by omega
     simp[eS];refine ae.loop (ι:=Nat) (fun i=>⟨82,[(0,.val (.string s)),(1,.val (.int .i64 b)),(6,.ptr 0 0 0),(7,.val (.bool neg)),(8,.val (.int .i64 s.size)),(10,.val (.int .i64 (k7 s b i))),(11,.val (.int .i64 (b+i:Nat)))],[some ⟨2,[.agg [.val (.int .i64 0),.val (.int .i64 0)]],false⟩]⟩)
      (fun i=>b+i≤s.size) (fun i=>s.size - b - i) 0 ?_ ?_ ?_
     ·exact hbs
     ·simp[ar,hC,k7]
     ·rintro i hi;obtain⟨g1,g2,g3⟩:=DD s b (I7 s) i;by_cases aF:b+i<s.size
      ·have hlt':(b:Int)+i<s.size:=by omega
       obtain⟨d,hd⟩:∃d,d=jB s (b+i) - 48:=⟨_,rfl⟩;have hdg:=(hWd (b+i) (by omega) aF).2;have hcb:jB s (b+i)=48+d:=by have:=hdg.1;omega
       have hc9:d≤9:=by have:=hdg.2;omega
       have hbb:((eG s (b+i)).toNat:Int)=48+d:=by unfold jB at hcb;omega
       have hw:(48+(d:Int) - 48) % 256=d:=by omega
       have e:k7 s b (i+1)=if k7 s b i≤60 then 10*k7 s b i+d else k7 s b i:=by simp only[k7];rw[←hd]
       generalize k7 s b i=X at *;by_cases hX:X≤60
       ·have hX':(X:Int)≤60:=by omega
        rw[if_pos hX]at e;have e':10*(X:Int)+d=((k7 s b (i+1):Nat):Int):=by rw[e];push_cast;rfl
        simp(disch:=omega)[hlt',hbb,L5,aP,hw,hX',e'];exact⟨by omega,i+1,by omega,by omega,by simp[ar,hC];omega⟩
       ·have hX':¬(X:Int)≤60:=by omega
        rw[if_neg hX]at e;simp(disch:=omega)[hlt',aP,hX'];exact⟨i+1,by omega,by omega,by simp[ar,hC,e];omega⟩
      ·obtain rfl:i=s.size - b:=by omega
       have hlt':¬(b:Int)+((s.size - b:Nat):Int)<s.size:=by omega
       generalize k7 s b (s.size - b)=X at *;generalize nv s b (s.size - b)=x at *;by_cases hX:60<X
       ·have hX':(60:Int)<X:=by omega
        rw[if_pos (g2 hX)];simp[hlt',hX']
       ·have hX':¬(60:Int)<X:=by omega
        have ex:=g1 (by omega);subst ex;rw[if_neg hX];cases neg with
        | true =>
         simp(disch:=omega)[hlt',hX',aP]
        | false=>simp[hlt',hX']
end Go.Proofs
namespace Go.Proofs
open Go.Sv Go Go.Pl
def iu(r:Rat × Nat × Nat):SV:=.bG [if r.2.1=0 then cC r.1 else kH,eS r.2.1 (if r.2.1=0 then -1 else(r.2.2:Int))]
noncomputable def gu:Code:=Tryz.f84.body.getD .skip
def q4:Option cx:=some ⟨4,[.agg [.val (.bool false),.val (.slice none 0 0),.val (.bool false),.val (.slice none 0 0)]],false⟩
def fe(c:Nat)(a:Int):Option cx:=some ⟨2,[eS c a],false⟩
abbrev QP(m:Nat)(s:ByteArray):aV:=jX Tryz.prog [.cell 4 31,.cell 5 138] (fun y=>y=iu (eH m s))
theorem ON{C:Ctx}(hC:C.fx=[]){s:ByteArray}{m:Nat}{neg:Bool}{N p f:Nat}{up:Int}(hn:decide (minus s)=neg){k:Nat}(hk:k≤400000000000)(hN:N<10^k)(hp:p≤400000000000)(hup : -60≤up∧up≤60)
  (hq:eH m s=if f<s.size then(0,1,f) else if 0<up then(aor (iO s (N*10^up.toNat)) ((10^p:Nat):Int),0,0) else(aor (iO s N) ((10^(p+(-up).toNat):Nat):Int),0,0)) :
  ae Tryz.prog C (fk 14 gu) ⟨193,[(0,.val (.string s)),(4,.ptr 0 0 0),(5,.ptr 1 0 0),(7,.val (.bool neg)),(8,.val (.int .i64 f)),(11,.ptr 3 0 0),(12,.ptr 4 0 0),(15,.val (.int .i64 p)),(18,.val (.int .i64 up))],[q4,fe 0 0,fe 0 (-1),some ⟨2,[eJ N],false⟩,some ⟨2,[eJ 1],false⟩]⟩ (QP m s):=by
 simp only[gu,Tryz.f84,Option.getD_some,ax,au];refine ae.go ?_;by_cases h1:f<s.size
 ·rw[if_pos h1]at hq;simp[h1,q4,fe,eS,hq,iu,kH]
 ·rw[if_neg h1]at hq;have ten:=yY p (by omega);have hp10:=Ax (i:=p) (by omega);simp[h1];refine alT ten ?_;by_cases h2:0<up
  ·rw[if_pos h2]at hq;obtain⟨u,hu⟩:∃u:Nat,u=up.toNat:=⟨_,rfl⟩;obtain rfl:up=(u:Int):=by omega
   rw[←hu]at hq;have hNu:eE ((N:Int)*(10:Int)^u):=by
    rw[show(N:Int)*(10:Int)^u=((N*10^u:Nat):Int) by push_cast;rfl];refine pR (k:=k+u) ?_ (by omega);rw[Nat.pow_add];exact Nat.mul_lt_mul_of_pos_right hN (Nat.pow_pos (by omega))
   have hv:(if neg=true then -((N:Int)*(10:Int)^u) else(N:Int)*(10:Int)^u)=iO s (N*10^u):=by
    rw[js hn];push_cast;rfl
   have mk:=lP neg (N*10^u) (by have:=hNu;unfold eE at this;rwa [show(N:Int)*(10:Int)^u=((N*10^u:Nat):Int) by push_cast;rfl,aoI]at this);have ov:=nM (iO s (N*10^u)) ((10:Int)^p) (by rw[←hv];split;exact lG.2 hNu;exact hNu) hp10 (by have:(0:Int)<10^p:=aoJ (by omega);omega);rw[show(if neg=true then -((N*10^u:Nat):Int) else((N*10^u:Nat):Int))=iO s (N*10^u) from (js hn _).symm]at mk;have h2':0<u:=by omega
   have ml:=ju (N:Int) ((10:Int)^u) (pR hN (by omega)) (Ax (by omega));have hX:((N:Int)*(10:Int)^u).natAbs=N*10^u:=by
    rw[show(N:Int)*(10:Int)^u=((N*10^u:Nat):Int) by push_cast;rfl,aoI]
   generalize iO s (N*10^u)=Y at *;rw[←hX]at mk;generalize (N:Int)*(10:Int)^u=X at *;simp[h2',q4,fe,eS];refine alT (yY u (by omega)) ?_;simp;refine alT ml ?_;simp;refine ae.alS (.qs [0,1,2,4,6]<|.l 3 []<|.l 5 []<|.l 7 [0]<|.l 8 [1]<|.nil) ?_;simp;refine alT mk ?_;simp;refine alT ov ?_;simp[iu,hq,eS]
  ·rw[if_neg h2]at hq;obtain⟨u,hu⟩:∃u:Nat,u=(-up).toNat:=⟨_,rfl⟩;obtain rfl:up = -(u:Int):=by omega
   rw[←hu]at hq;have h2':¬0 < -(u:Int):=h2;have hD:eE ((10:Int)^p*(10:Int)^u):=by rw[←Int.pow_add];exact Ax (by omega)
   have hN':eE (N:Int):=pR hN (by omega);have mk:=lP neg N (by have:=hN';unfold eE at this;rwa [aoI]at this);rw[show(if neg=true then -((N:Nat):Int) else((N:Nat):Int))=iO s N from (js hn _).symm]at mk;have hsN:eE (iO s N):=by rw[js hn];split;exact lG.2 hN';exact hN'
   have ov:=nM (iO s N) ((10:Int)^p*(10:Int)^u) hsN hD (by have:(0:Int)<10^p:=aoJ (by omega);have:(0:Int)<10^u:=aoJ (by omega);exact Int.mul_ne_zero (by omega) (by omega));have e10:((10^(p+u):Nat):Int)=(10:Int)^p*(10:Int)^u:=by rw[Nat.pow_add];push_cast;rfl
   rw[e10]at hq;have hneg:(0:Int) - -(u:Int)=u:=by omega
   have hu0:¬(u:Int)<0:=by omega
   have ml:=ju ((10:Int)^p) ((10:Int)^u) hp10 (Ax (by omega));generalize (10:Int)^p*(10:Int)^u=X at *;generalize iO s N=Y at *;simp(disch:=omega)[q4,fe,eS,aP,hneg,hu0];refine alT (yY u (by omega)) ?_;simp;refine alT ml ?_;simp;refine ae.alS (.qs [0,1,2,4,6]<|.l 3 []<|.l 5 []<|.l 7 [0]<|.l 8 [1]<|.nil) ?_;simp;refine alT mk ?_;simp;refine alT ov ?_;simp[iu,hq,eS]
def XS(m:Nat)(s:ByteArray)(neg:Bool)(st:St):Prop:=∃(N p f k:Nat) (up:Int),k≤400000000000∧N<10^k∧p≤400000000000∧(-60≤up∧up≤60) ∧
 (eH m s=if f<s.size then(0,1,f) else if 0<up then(aor (iO s (N*10^up.toNat)) ((10^p:Nat):Int),0,0) else(aor (iO s N) ((10^(p+(-up).toNat):Nat):Int),0,0)) ∧
 st=⟨193,[(0,.val (.string s)),(4,.ptr 0 0 0),(5,.ptr 1 0 0),(7,.val (.bool neg)),(8,.val (.int .i64 f)),(11,.ptr 3 0 0),(12,.ptr 4 0 0),(15,.val (.int .i64 p)),(18,.val (.int .i64 up))],[q4,fe 0 0,fe 0 (-1),some ⟨2,[eJ N],false⟩,some ⟨2,[eJ 1],false⟩]⟩
theorem Nr{C:Ctx}(hC:C.fx=[]){s:ByteArray}{m:Nat}{neg:Bool}{N p f k:Nat}(hs:s.size≤4611686018427387904)(hn:decide (minus s)=neg)(hk:k≤400000000000)(hN:N<10^k)(hp:p≤400000000000)(hfs:f≤s.size)
  (hq:eH m s=cS s N p f) :
  ae Tryz.prog C (fk 12 gu) ⟨193,[(0,.val (.string s)),(4,.ptr 0 0 0),(5,.ptr 1 0 0),(7,.val (.bool neg)),(8,.val (.int .i64 f)),(11,.ptr 3 0 0),(12,.ptr 4 0 0),(15,.val (.int .i64 p))],[q4,fe 0 0,fe 0 (-1),some ⟨2,[eJ N],false⟩,some ⟨2,[eJ 1],false⟩]⟩ (QP m s):=by
 refine ae.cutAt 2 (XS m s neg) ?_ ?_
 ·simp only[gu,Tryz.f84,Option.getD_some,ax,au,aG,aE];unfold cS at hq;by_cases x0:bA s f 101
  ·rw[if_pos x0]at hq;have h1:=x0.1;have h2:=iM.2 x0.2;have pw:=Gc s f h1 hs;rw[show((f+1:Nat):Int)=(f:Int)+1 by push_cast;rfl]at pw;unfold pwS at pw;generalize bQ s f=b at *;by_cases k1:b+300<aw s b
   ·rw[if_pos k1]at pw hq;simp(disch:=omega)[h1,h2,aP];refine ai pw (by simp[eS]) ?_;simp[eS,fe,q4];refine ae.alS (.qs [0]<|.q 1 [0]<|.l 2 [0]<|.l 3 [1]<|.nil) ?_;simp[iu,hq,eS,kH,Sv.Sub,cA]
   ·rw[if_neg k1]at pw hq;by_cases k2:aw s b=b
    ·rw[if_pos k2]at pw;rw[if_pos (.inl k2),k2]at hq;simp(disch:=omega)[h1,h2,aP];refine ai pw (by simp[eS]) ?_;simp[eS,fe,q4];refine ae.alS (.qs [0]<|.q 1 [0]<|.l 2 [0]<|.l 3 [1]<|.nil) ?_;simp[iu,hq,eS,kH,Sv.Sub,cA]
    ·rw[if_neg k2]at pw;by_cases k3:aw s b<s.size
     ·rw[if_pos k3]at pw;rw[if_pos (.inr k3)]at hq;simp(disch:=omega)[h1,h2,aP];refine ai pw (by simp[eS]) ?_;simp[eS,fe,q4];refine ae.alS (.qs [0]<|.q 1 [0]<|.l 2 [0]<|.l 3 [1]<|.nil) ?_;simp[iu,hq,eS,kH,Sv.Sub,cA]
     ·rw[if_neg k3]at pw;rw[if_neg (fun h=>h.elim k2 k3)]at hq;generalize nv s b (s.size - b)=x at *;by_cases k4:60<x
      ·rw[if_pos k4]at pw hq;simp(disch:=omega)[h1,h2,aP];refine ai pw (by simp[eS]) ?_;simp[eS,fe,q4];refine ae.alS (.qs [0]<|.q 1 [0]<|.l 2 [0]<|.l 3 [1]<|.nil) ?_;simp[iu,hq,eS,kH,Sv.Sub,cA]
      ·rw[if_neg k4]at pw hq;obtain⟨up,hup⟩:∃up,up=if bA s (f+1) 45 then -(x:Int) else(x:Int):=⟨_,rfl⟩;rw[←hup]at pw;have hb : -60≤up∧up≤60:=by rw[hup];split<;>omega
       simp(disch:=omega)[h1,h2,aP];refine ai pw (by simp[eS]) ?_;simp[eS,fe,q4];refine⟨_,⟨N,p,s.size,k,up,hk,hN,hp,hb,?_,rfl⟩,by simp[ar,hC,fe,q4,eS]⟩;rw[hq,if_neg (Nat.lt_irrefl _)];by_cases x1:bA s (f+1) 45
       ·rw[if_pos x1]at hup ⊢;rw[if_neg (by omega),show(-up).toNat=x by omega]
       ·rw[if_neg x1]at hup ⊢;by_cases hx0:x=0
        ·subst hx0;simp[hup]
        ·rw[if_pos (by omega),show up.toNat=x by omega]
  ·rw[if_neg x0]at hq;have fin:((f<s.size∧¬((eG s f).toNat:Int)=101)∨¬f<s.size):=by
    by_cases h:f<s.size
    ·exact .inl ⟨h,fun h2=>x0 ⟨h,iM (c:=101) |>.1 h2⟩⟩
    ·exact .inr h
   rcases fin with⟨h1,h2⟩ | h1
   ·simp[h1,h2];refine⟨_,⟨N,p,f,k,0,hk,hN,hp,by omega,?_,rfl⟩,by simp[ar,hC]⟩;rw[hq];simp
   ·simp[h1];refine⟨_,⟨N,p,f,k,0,hk,hN,hp,by omega,?_,rfl⟩,by simp[ar,hC]⟩;rw[hq];simp
 ·rintro st ⟨N,p,f,k,up,h1,h2,h3,h4,h5,rfl⟩;exact ON hC hn h1 h2 h3 h4 h5
end Go.Proofs


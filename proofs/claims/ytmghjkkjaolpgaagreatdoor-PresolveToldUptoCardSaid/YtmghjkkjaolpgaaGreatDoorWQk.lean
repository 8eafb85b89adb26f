/- A text of the prover's own. -/
import Derived.Test.YtmghjkkjaolpgaaGreatDoorWQj
open Rat renaming divInt→anj
open Int renaming natAbs_natCast→anE,pow_pos→anF
set_option maxRecDepth 20000
namespace Go.Proofs
open Go.Sv Go Go.Pl
def IH(s:ByteArray)(neg:Bool)(st:St):Prop :=
 (∃c p a,(c=1∨c=2∨c=3)∧fE 300 s=(0,c,p)∧st=rY s ⟨#[]⟩ neg a (some (c,p))) ∨
 (au s<aH s (au s)∧¬au s+300<aH s (au s)∧st=rY s (s.extract (au s) (aH s (au s))) neg (aH s (au s)) none)
theorem Gg{C:Ctx}{Q:aX}(hC:C.fx=[]){s:ByteArray}{neg:Bool}(hs:s.size≤4611686018427387904)(hn:decide (minus s)=neg){st:St}(h:IH s neg st) :
  vc Tryz.prog C (jN 1 (e9 5 readBody)) st (iT C (IA s) Q) (iT C (IA s) Q):=by
 rcases h with⟨c,p,a,hc,hq,rfl⟩ | ⟨h2,h1,rfl⟩
 ·exact IG hC (Nat.zero_le _) hc hq
 ·have rM:=jO s;obtain⟨e,he⟩:∃e,e=aH s (au s):=⟨_,rfl⟩;have hes:=eC rM;have hTd:=fun i (h1:au s≤i) (h2:i<e)=>dC (s:=s) (a:=au s) h1 (he ▸ h2);rw[←he]at h1 h2 hes ⊢;have hTz:=ef s (a:=au s) hes;have hT:=xj (gC hes hTd) (by omega) (by omega);rw[hTz,iK s hes _ (by omega)]at hT;have ht:fw 400 (nv s (au s) (e - au s):Nat):=H7 (fun i i1 i2=>hTd i i1 (by omega)) (by omega);have hT3:(s.extract (au s) e).size≤300:=by omega
  have hq0:fE 300 s=if bH s e 47 then
    if e+1+300<aH s (e+1) then(0,2,e+1+300)
    else if aH s (e+1)=e+1∨aH s (e+1)<s.size then(0,1,aH s (e+1))
    else if nv s (e+1) (s.size - (e+1))=0 then(0,3,e+1)
    else(anj (jC s (nv s (au s) (e - au s))) (nv s (e+1) (s.size - (e+1)):Int),0,0)
   else if bH s e 46 then
    if e+1+300<aH s (e+1) then(0,2,e+1+300)
    else if aH s (e+1)=e+1 then(0,1,e+1)
    else dh s (nv s (au s) (e - au s)*10^(aH s (e+1) - (e+1))+nv s (e+1) (aH s (e+1) - (e+1))) (aH s (e+1) - (e+1)) (aH s (e+1))
   else dh s (nv s (au s) (e - au s)) 0 e:=by
   unfold fE;rw[←he,if_neg h1,if_neg (by omega)]
  clear he hTd h1 h2;generalize nv s (au s) (e - au s)=tv at *;generalize s.extract (au s) e=T at *;by_cases g0:bH s e 47
  ·rw[if_pos g0]at hq0;exact Ci hC hs hn hes hT hT3 ht g0 hq0
  ·rw[if_neg g0]at hq0;by_cases g:bH s e 46
   ·rw[if_pos g]at hq0;by_cases hk:e+1+300<aH s (e+1)∨aH s (e+1)=e+1
    ·exact Fc hC hs hn hes hT hT3 ht g0 g hk hq0
    ·have hk1:¬e+1+300<aH s (e+1):=fun h=>hk (.inl h);have hg:=g.1;have hk2:e+1<aH s (e+1):=by have:=iS s (e+1);omega
     obtain⟨f,hf⟩:∃f,f=aH s (e+1):=⟨_,rfl⟩;have hfs:f≤s.size:=by rw[hf];exact eC (by omega)
     have hPd:=fun i (h1:e+1≤i) (h2:i<f)=>dC (s:=s) (a:=e+1) h1 (hf ▸ h2);rw[if_neg hk1,if_neg (by omega),←hf]at hq0;have hPz:=ef s (a:=e+1) hfs;have hPn:=iK s (a:=e+1) hfs (f - (e+1)) (by omega);have hPa:=gC hfs hPd;rw[←hPn,←hPz]at hq0;by_cases x0:bH s f 101
     ·by_cases x1:bH s (f+1) 45
      ·exact IV hC hs hn hes hT hT3 ht g0 g hk1 hk2 hf rfl hPz hPa hfs hq0 x0 x1
      ·by_cases x2:bH s (f+1) 43
       ·exact Gd hC hs hn hes hT hT3 ht g0 g hk1 hk2 hf rfl hPz hPa hfs hq0 x0 x1 x2
       ·exact IQ hC hs hn hes hT hT3 ht g0 g hk1 hk2 hf rfl hPz hPa hfs hq0 x0 x1 x2
     ·exact Hy hC hs hn hes hT hT3 ht g0 g hk1 hk2 hf rfl hPz hPa hfs hq0 x0
   ·rw[if_neg g]at hq0;have hq1:fE 300 s=dh s (tv*10^(⟨#[]⟩:ByteArray).size+nv ⟨#[]⟩ 0 (⟨#[]⟩:ByteArray).size) (⟨#[]⟩:ByteArray).size e:=by
     rw[hq0,Oh,sA];simp
    by_cases x0:bH s e 101
    ·by_cases x1:bH s (e+1) 45
     ·exact GV hC hs hn hes hT hT3 ht g0 g rfl rfl sA (qT _) hes hq1 x0 x1
     ·by_cases x2:bH s (e+1) 43
      ·exact F7 hC hs hn hes hT hT3 ht g0 g rfl rfl sA (qT _) hes hq1 x0 x1 x2
      ·exact GX hC hs hn hes hT hT3 ht g0 g rfl rfl sA (qT _) hes hq1 x0 x1 x2
    ·exact GJ hC hs hn hes hT hT3 ht g0 g rfl rfl sA (qT _) hes hq1 x0
theorem F3(s:ByteArray)(hs:s.size≤4611686018427387904):aF Tryz.prog 79 [.val (.string s)] (wO (fE 300 s)):=by
 refine fg Tryz.func79 rfl (by simp) (fun C hC=>?_);refine aa.cutAt 3 (fun st=>st=⟨151,[(0,.val (.string s)),(2,.ptr 0 0 0),(3,.val .nilIface),(4,.ptr 1 0 0),(5,.val (.bool (decide (minus s))))],MR s (au s) none⟩) ?_ ?_
 ·simp;refine bt s 0 45 (by simp[ax,bu]) hs (by omega) (by simp) (fun h=>?_) (fun h=>?_)
  ·have hm:minus s:=h;have ha:au s=1:=by simp[au,hm]
   simp[bu,hm,ha,MR,aw,hC,z4]
  ·have hm:¬minus s:=h;have ha:au s=0:=by simp[au,hm]
   simp[hm,ha,MR,aw,hC,z4,bu]
 ·rintro st rfl;simp only[ao,al];refine aa.cutAt 2 (IH s (decide (minus s))) ?_ (fun st h=>aa.cutAt 1 (IA s) (Gg hC hs rfl h) ?_)
  ·simp;have rM:=jO s;generalize hneg:decide (minus s)=neg;refine cM s (au s) (by simp[ax,MR]) hs rM (by simp[MR]) (fun h1=>?_) (fun h1=>?_) (fun h1 h2=>?_)
   ·have hq:fE 300 s=(0,2,au s+300):=by unfold fE;rw[if_pos h1]
    simp;exact⟨_,Or.inl ⟨2,au s+300,au s+300,.inr (.inl rfl),hq,rfl⟩,by simp[aw,hC,MR,ld,rY]⟩
   ·have hq:fE 300 s=(0,1,au s):=by unfold fE;rw[if_neg (by omega),if_pos h1]
    simp;exact⟨_,Or.inl ⟨1,au s,au s,.inl rfl,hq,rfl⟩,by simp[aw,hC,MR,ld,rY]⟩
   ·simp;exact⟨_,Or.inr ⟨h2,h1,rfl⟩,by simp[aw,hC,MR,rY]⟩
  ·rintro st ⟨T,P,Lw,Pw,a,la,pa,E,neg,up,t,d,h1,h2,h3,h4,h5,h6,h7,h8,h9,h10,h11,rfl⟩;have:=Mi (C:=C) hC s T P Lw Pw a la pa E neg up t d h1 h2 h3 h4 h5 h6 h7 h8 h9 h10;rw[h11]at this;exact this
end Go.Proofs
namespace Go.Proofs
open Go.Sv Go Go.Pl
def wL(m:Nat)(s:ByteArray)(a:Nat):Nat × Nat × Int :=
 if a+m<aH s a then(a+m,2,((a+m:Nat):Int)) else if aH s a=a then(a,1,a) else(aH s a,0, -1)
theorem mB(s:ByteArray)(a m:Nat)(ha:a≤s.size)(hs:s.size≤4611686018427387904)(hm:m≤4611686018427387904) :
  aF Tryz.prog 134 [.val (.string s),.val (.int .i64 a),.val (.int .i64 m)] (.bO [.val (.int .i64 (wL m s a).1),fH (wL m s a).2.1 (wL m s a).2.2]):=by
 refine aj Tryz.func134 rfl (by simp) (fun C hC=>?_);simp;refine aa.loop (ι:=Nat) (fun i=>⟨38,[(0,.val (.string s)),(1,.val (.int .i64 a)),(2,.val (.int .i64 m)),(7,.ptr 0 0 0),(8,.val (.int .i64 i))],
   [some ⟨2,[.agg [.val (.int .i64 0),.val (.int .i64 0)]],false⟩]⟩)
  (fun i=>a≤i∧i≤s.size∧i≤a+m∧∀k,a≤k→k<i→bV s k) (fun i=>s.size - i) a ?_ ?_ ?_
 ·exact⟨by omega,ha,by omega,fun k h1 h2=>by omega⟩
 ·simp[aw,hC]
 ·rintro i ⟨h1,h2,h3,h4⟩;have hb:=Iv s i;have stop:¬bV s i→aH s a=i:=fun h=>oC h1 h4 h;have e3:¬bV s i→¬a+m<aH s a:=fun h=>by rw[stop h];omega
  by_cases hi:i<s.size
  ·have hd:=Fi (kV s i) hb;simp[hi];refine ba hd (by simp[kV]) ?_;by_cases hdg:qP (kV s i)
   ·have hdi:bV s i:=⟨hi,hdg⟩;have all:∀k,a≤k→k<i+1→bV s k:=fun k k1 k2=>by
     by_cases e:k=i
     ·subst e;exact hdi
     ·exact h4 k k1 (by omega)
    by_cases he:i=a+m
    ·have he':(i:Int) - a=m:=by omega
     have hgt:=y3 h1 fun k k1 k2=>all k k1 (by omega);have hr:wL m s a=(i,2,(i:Int)):=by
      unfold wL;rw[if_pos (by omega),←he]
     simp(disch:=omega)[hdg,he',aN,hr,fH]
    ·have he':¬(i:Int) - a=m:=by omega
     simp(disch:=omega)[hdg,he',aN];exact⟨i+1,⟨by omega,by omega,by omega,all⟩,by omega,by simp[aw,hC]⟩
   ·have hnd:¬bV s i:=fun h=>hdg h.2;by_cases he:i=a
    ·have hr:wL m s a=(a,1,(a:Int)):=by
      unfold wL;rw[if_neg (e3 hnd),if_pos (by rw[stop hnd,he])]
     subst he;simp[hdg,hr,fH]
    ·have hr:wL m s a=(i,0,(-1:Int)):=by
      unfold wL;rw[if_neg (e3 hnd),if_neg (by rw[stop hnd];exact he),stop hnd]
     have he':¬(i:Int)=a:=by omega
     simp[hdg,hr,fH,he']
  ·have hnd:¬bV s i:=fun h=>hi h.1;by_cases he:i=a
   ·have hr:wL m s a=(a,1,(a:Int)):=by
     unfold wL;rw[if_neg (e3 hnd),if_pos (by rw[stop hnd,he])]
    subst he;simp[hi,hr,fH]
   ·have hr:wL m s a=(i,0,(-1:Int)):=by
     unfold wL;rw[if_neg (e3 hnd),if_neg (by rw[stop hnd];exact he),stop hnd]
    have he':¬(i:Int)=a:=by omega
    simp[hi,hr,fH,he']
theorem pY{n k:Nat}(h:n<10^k)(hk:k≤1000000000000):eo (n:Int):=by
 unfold eo;rw[anE];exact Nat.le_trans (Be (A:=10) (B:=10000) (by omega) (by omega) n) (Nat.le_trans (ir (by omega) h) hk)
theorem AP{i:Nat}(h:i≤900000000000):eo ((10:Int)^i):=by
 rw[show(10:Int)^i=((10^i:Nat):Int) by push_cast;rfl];exact pY (Nat.pow_lt_pow_right (by omega) (Nat.lt_succ_self i)) (by omega)
theorem zd(n:Nat)(hn:n≤900000000000):aF Tryz.prog 138 [.val (.int .i64 n)] (dY ((10:Int)^n)):=by
 refine aj Tryz.func138 rfl (by simp) (fun C hC=>?_);simp;refine akK (gn 1 (by omega) (by omega)) ?_;simp;refine akK (gn 10 (by omega) (by omega)) ?_;simp;refine aa.loop (ι:=Nat) (fun i=>⟨17,[(0,.val (.int .i64 n)),(2,.ptr 0 0 0),(3,.ptr 1 0 0),(4,.ptr 2 0 0),(5,.val (.int .i64 i))],
   [some ⟨2,[.agg [.val (.bool false),.val (.slice none 0 0)]],false⟩,some ⟨2,[dY ((10:Int)^i)],false⟩,some ⟨2,[dY 10],false⟩]⟩)
  (fun i=>i≤n) (fun i=>n - i) 0 ?_ ?_ ?_
 ·exact Nat.zero_le _
 ·simp[aw,hC]
 ·rintro i hi;by_cases az:i<n
  ·have hlt':(i:Int)<n:=by omega
   have m1:=il ((10:Int)^i) 10 (AP (by omega)) (pY (n:=10) (k:=2) (by decide) (by omega));rw[show(10:Int)^i*10=(10:Int)^(i+1) by rw[Int.pow_succ]]at m1;generalize (10:Int)^i=X at *;simp(disch:=omega)[hlt'];refine akK m1 ?_;simp(disch:=omega)[aN];exact⟨i+1,by omega,by omega,by simp[aw,hC]⟩
  ·obtain rfl:i=n:=by omega
   simp
def lE(s:ByteArray)(a:Nat):Nat→Nat
 | 0=>0
 | k+1=>if lE s a k≤60 then 10*lE s a k+(kV s (a+k) - 48) else lE s a k
theorem DT(s:ByteArray)(a:Nat)(h:∀i,kV s i<256):∀k,(lE s a k≤60→lE s a k=nv s a k)∧(60<lE s a k→60<nv s a k)∧lE s a k≤1000
 | 0=>⟨fun _=>rfl,fun h=>by simp[lE]at h,by simp[lE]⟩
 | k+1=>by
  obtain⟨h1,h2,h3⟩:=DT s a h k;have hb:=h (a+k);simp only[lE,nv];by_cases hc:lE s a k≤60
  ·rw[if_pos hc];have:=h1 hc;omega
  ·rw[if_neg hc];have:=h2 (by omega);omega
def XA(s:ByteArray)(e:Nat):SV :=
 if bY s e+300<aH s (bY s e) then .bO [.val (.int .i64 0),.val (.int .i64 (bY s e+300:Nat)),fH 2 (bY s e+300:Nat)]
 else if aH s (bY s e)=bY s e then .bO [.val (.int .i64 0),.val (.int .i64 (bY s e)),fH 1 (bY s e)]
 else if aH s (bY s e)<s.size then .bO [.val (.int .i64 0),.val (.int .i64 (aH s (bY s e))),fH 1 (aH s (bY s e))]
 else if 60<nv s (bY s e) (s.size - bY s e) then .bO [.val (.int .i64 0),.val (.int .i64 s.size),fH 2 (bY s e)]
 else .bO [.val (.int .i64 (if bH s (e+1) 45 then -(nv s (bY s e) (s.size - bY s e):Int) else(nv s (bY s e) (s.size - bY s e):Int))),.val (.int .i64 s.size),fH 0 (-1)]
theorem ET(s:ByteArray)(e:Nat)(he:e<s.size)(hs:s.size≤4611686018427387904):aF Tryz.prog 137 [.val (.string s),.val (.int .i64 (e+1:Nat))] (XA s e):=by
 refine fg Tryz.func137 rfl (by simp) (fun C hC=>?_);obtain⟨b,hb⟩:∃b,b=bY s e:=⟨_,rfl⟩;have hexp:((b=e+2∧e+1<s.size)∨b=e+1):=by
  rw[hb];unfold bY;split
  ·rename_i h;rcases h with h | h<;>exact .inl ⟨rfl,h.1⟩
  ·exact .inr rfl
 have hbs:b≤s.size:=by omega
 have hd:=mB s b 300 hbs hs (by omega);have hpw:XA s e=if b+300<aH s b then .bO [.val (.int .i64 0),.val (.int .i64 (b+300:Nat)),fH 2 (b+300:Nat)]
   else if aH s b=b then .bO [.val (.int .i64 0),.val (.int .i64 b),fH 1 b]
   else if aH s b<s.size then .bO [.val (.int .i64 0),.val (.int .i64 (aH s b)),fH 1 (aH s b)]
   else if 60<nv s b (s.size - b) then .bO [.val (.int .i64 0),.val (.int .i64 s.size),fH 2 b]
   else .bO [.val (.int .i64 (if bH s (e+1) 45 then -(nv s b (s.size - b):Int) else(nv s b (s.size - b):Int))),.val (.int .i64 s.size),fH 0 (-1)]:=by
  unfold XA;rw[←hb]
 rw[hpw];clear hpw;obtain⟨neg,hneg⟩:∃neg:Bool,neg=decide (bH s (e+1) 45):=⟨_,rfl⟩;have hng:(if bH s (e+1) 45 then -(nv s b (s.size - b):Int) else(nv s b (s.size - b):Int))=if neg=true then -(nv s b (s.size - b):Int) else(nv s b (s.size - b):Int):=by
  rw[hneg];by_cases h:bH s (e+1) 45<;>simp[h]
 rw[hng];refine aa.cutAt 3 (fun st=>st=⟨82,[(0,.val (.string s)),(1,.val (.int .i64 b)),(6,.ptr 0 0 0),(7,.val (.bool neg))],[some ⟨2,[.agg [.val (.int .i64 0),.val (.int .i64 0)]],false⟩]⟩) ?_ ?_
 ·have hb':=hb;unfold bY at hb';rw[show e+2=(e+1)+1 by omega]at hb';clear hb hexp hd hng;generalize e+1=p at *;simp;by_cases h1:p<s.size
  ·have h1':(p:Int)<s.size:=by omega
   by_cases h2:kV s p=45
   ·have x1:bH s p 45:=⟨h1,h2⟩;have h2':=iU.2 h2;rw[if_pos (.inl x1)]at hb';have hn:neg=true:=by rw[hneg];simp[x1]
    simp(disch:=omega)[h1,h2',aN];simp[aw,hC,hb',hn]<;>omega
   ·have x1:¬bH s p 45:=fun h=>h2 h.2;have h2':¬((ek s p).toNat:Int)=45:=fun h=>h2 (iU (c:=45) |>.1 h);have hn:neg=false:=by rw[hneg];simp[x1]
    by_cases h3:kV s p=43
    ·have x2:bH s p 43:=⟨h1,h3⟩;have h3':=iU.2 h3;rw[if_pos (.inr x2)]at hb';simp(disch:=omega)[h1,h3',aN];simp[aw,hC,hb',hn]<;>omega
    ·have x2:¬bH s p 43:=fun h=>h3 h.2;have h3':¬((ek s p).toNat:Int)=43:=fun h=>h3 (iU (c:=43) |>.1 h);rw[if_neg (fun h=>h.elim x1 x2)]at hb';simp(disch:=omega)[h1,h2',h3',aN];simp[aw,hC,hb',hn]<;>omega
  ·have x1:¬bH s p 45:=fun h=>h1 h.1;have x2:¬bH s p 43:=fun h=>h1 h.1;rw[if_neg (fun h=>h.elim x1 x2)]at hb';have hn:neg=false:=by rw[hneg];simp[x1]
   simp(disch:=omega)[h1];simp[aw,hC,hb',hn]<;>omega
 ·rintro st rfl;simp only[ao,al];refine aa.go ?_;clear hng hneg hb hexp he;simp;refine akK hd ?_;by_cases k1:b+300<aH s b
  ·have e1:wL 300 s b=(b+300,2,((b+300:Nat):Int)):=by unfold wL;rw[if_pos k1]
   rw[e1,if_pos k1];simp[fH];refine aa.akJ (.qs [0,1,2,3]<|.l 4 [0]<|.nil) ?_;simp
  ·rw[if_neg k1];by_cases k2:aH s b=b
   ·have e1:wL 300 s b=(b,1,(b:Int)):=by unfold wL;rw[if_neg k1,if_pos k2]
    rw[e1,if_pos k2];simp[fH];refine aa.akJ (.qs [0,1,2,3]<|.l 4 [0]<|.nil) ?_;simp
   ·rw[if_neg k2];have e1:wL 300 s b=(aH s b,0,(-1:Int)):=by unfold wL;rw[if_neg k1,if_neg k2]
    have hcs:=eC hbs;have hge:=iS s b;have hWd:=fun i (h1:b≤i) (h2:i<aH s b)=>dC (s:=s) (a:=b) h1 h2;rw[e1];generalize aH s b=c at *;by_cases k3:c<s.size
    ·rw[if_pos k3];simp[fH,k3]
    ·rw[if_neg k3];obtain rfl:c=s.size:=by omega
     simp[fH];refine aa.loop (ι:=Nat) (fun i=>⟨82,[(0,.val (.string s)),(1,.val (.int .i64 b)),(6,.ptr 0 0 0),(7,.val (.bool neg)),(8,.val (.int .i64 s.size)),(10,.val (.int .i64 (lE s b i))),(11,.val (.int .i64 (b+i:Nat)))],[some ⟨2,[.agg [.val (.int .i64 0),.val (.int .i64 0)]],false⟩]⟩)
      (fun i=>b+i≤s.size) (fun i=>s.size - b - i) 0 ?_ ?_ ?_
     ·exact hbs
     ·simp[aw,hC,lE]
     ·rintro i hi;obtain⟨g1,g2,g3⟩:=DT s b (Iv s) i;by_cases az:b+i<s.size
      ·have hlt':(b:Int)+i<s.size:=by omega
       obtain⟨d,hd⟩:∃d,d=kV s (b+i) - 48:=⟨_,rfl⟩;have hdg:=(hWd (b+i) (by omega) az).2;have hcb:kV s (b+i)=48+d:=by have:=hdg.1;omega
       have hc9:d≤9:=by have:=hdg.2;omega
       have hbb:((ek s (b+i)).toNat:Int)=48+d:=by unfold kV at hcb;omega
       have hw:(48+(d:Int) - 48) % 256=d:=by omega
       have e:lE s b (i+1)=if lE s b i≤60 then 10*lE s b i+d else lE s b i:=by simp only[lE];rw[←hd]
       generalize lE s b i=X at *;by_cases hX:X≤60
       ·have hX':(X:Int)≤60:=by omega
        rw[if_pos hX]at e;have e':10*(X:Int)+d=((lE s b (i+1):Nat):Int):=by rw[e];push_cast;rfl
        simp(disch:=omega)[hlt',hbb,Kk,aN,hw,hX',e'];exact⟨by omega,i+1,by omega,by omega,by simp[aw,hC];omega⟩
       ·have hX':¬(X:Int)≤60:=by omega
        rw[if_neg hX]at e;simp(disch:=omega)[hlt',aN,hX'];exact⟨i+1,by omega,by omega,by simp[aw,hC,e];omega⟩
      ·obtain rfl:i=s.size - b:=by omega
       have hlt':¬(b:Int)+((s.size - b:Nat):Int)<s.size:=by omega
       generalize lE s b (s.size - b)=X at *;generalize nv s b (s.size - b)=x at *;by_cases hX:60<X
       ·have hX':(60:Int)<X:=by omega
        rw[if_pos (g2 hX)];simp[hlt',hX']
       ·have hX':¬(60:Int)<X:=by omega
        have ex:=g1 (by omega);subst ex;rw[if_neg hX];cases neg with
        | true =>
         simp(disch:=omega)[hlt',hX',aN]
        | false=>simp[hlt',hX']
end Go.Proofs
namespace Go.Proofs
open Go.Sv Go Go.Pl
def jt(r:Rat × Nat × Nat):SV:=.bO [if r.2.1=0 then bL r.1 else kT,fH r.2.1 (if r.2.1=0 then -1 else(r.2.2:Int))]
noncomputable def gm:Code:=Tryz.f84.body.getD .skip
def q4:Option cx:=some ⟨4,[.agg [.val (.bool false),.val (.slice none 0 0),.val (.bool false),.val (.slice none 0 0)]],false⟩
def fe(c:Nat)(a:Int):Option cx:=some ⟨2,[fH c a],false⟩
abbrev QP(m:Nat)(s:ByteArray):aX:=ka Tryz.prog [.cell 4 31,.cell 5 138] (fun y=>y=jt (fE m s))
theorem Na{C:Ctx}(hC:C.fx=[]){s:ByteArray}{m:Nat}{neg:Bool}{N p f:Nat}{up:Int}(hn:decide (minus s)=neg){k:Nat}(hk:k≤400000000000)(hN:N<10^k)(hp:p≤400000000000)(hup : -60≤up∧up≤60)
  (hq:fE m s=if f<s.size then(0,1,f) else if 0<up then(anj (jC s (N*10^up.toNat)) ((10^p:Nat):Int),0,0) else(anj (jC s N) ((10^(p+(-up).toNat):Nat):Int),0,0)) :
  aa Tryz.prog C (e9 14 gm) ⟨193,[(0,.val (.string s)),(4,.ptr 0 0 0),(5,.ptr 1 0 0),(7,.val (.bool neg)),(8,.val (.int .i64 f)),(11,.ptr 3 0 0),(12,.ptr 4 0 0),(15,.val (.int .i64 p)),(18,.val (.int .i64 up))],[q4,fe 0 0,fe 0 (-1),some ⟨2,[dY N],false⟩,some ⟨2,[dY 1],false⟩]⟩ (QP m s):=by
 simp only[gm,Tryz.f84,Option.getD_some,ao,al];refine aa.go ?_;by_cases h1:f<s.size
 ·rw[if_pos h1]at hq;simp[h1,q4,fe,fH,hq,jt,kT]
 ·rw[if_neg h1]at hq;have ten:=zd p (by omega);have hp10:=AP (i:=p) (by omega);simp[h1];refine akK ten ?_;by_cases h2:0<up
  ·rw[if_pos h2]at hq;obtain⟨u,hu⟩:∃u:Nat,u=up.toNat:=⟨_,rfl⟩;obtain rfl:up=(u:Int):=by omega
   rw[←hu]at hq;have hNu:eo ((N:Int)*(10:Int)^u):=by
    rw[show(N:Int)*(10:Int)^u=((N*10^u:Nat):Int) by push_cast;rfl];refine pY (k:=k+u) ?_ (by omega);rw[Nat.pow_add];exact Nat.mul_lt_mul_of_pos_right hN (Nat.pow_pos (by omega))
   have hv:(if neg=true then -((N:Int)*(10:Int)^u) else(N:Int)*(10:Int)^u)=jC s (N*10^u):=by
    rw[jJ hn];push_cast;rfl
   have mk:=lN neg (N*10^u) (by have:=hNu;unfold eo at this;rwa [show(N:Int)*(10:Int)^u=((N*10^u:Nat):Int) by push_cast;rfl,anE]at this);have ov:=lV (jC s (N*10^u)) ((10:Int)^p) (by rw[←hv];split;exact lW.2 hNu;exact hNu) hp10 (by have:(0:Int)<10^p:=anF (by omega);omega);rw[show(if neg=true then -((N*10^u:Nat):Int) else((N*10^u:Nat):Int))=jC s (N*10^u) from (jJ hn _).symm]at mk;have h2':0<u:=by omega
   have ml:=il (N:Int) ((10:Int)^u) (pY hN (by omega)) (AP (by omega));have hX:((N:Int)*(10:Int)^u).natAbs=N*10^u:=by
    rw[show(N:Int)*(10:Int)^u=((N*10^u:Nat):Int) by push_cast;rfl,anE]
   generalize jC s (N*10^u)=Y at *;rw[←hX]at mk;generalize (N:Int)*(10:Int)^u=X at *;simp[h2',q4,fe,fH];refine akK (zd u (by omega)) ?_;simp;refine akK ml ?_;simp;refine aa.akJ (.qs [0,1,2,4,6]<|.l 3 []<|.l 5 []<|.l 7 [0]<|.l 8 [1]<|.nil) ?_;simp;refine akK mk ?_;simp;refine akK ov ?_;simp[jt,hq,fH]
  ·rw[if_neg h2]at hq;obtain⟨u,hu⟩:∃u:Nat,u=(-up).toNat:=⟨_,rfl⟩;obtain rfl:up = -(u:Int):=by omega
   rw[←hu]at hq;have h2':¬0 < -(u:Int):=h2;have hD:eo ((10:Int)^p*(10:Int)^u):=by rw[←Int.pow_add];exact AP (by omega)
   have hN':eo (N:Int):=pY hN (by omega);have mk:=lN neg N (by have:=hN';unfold eo at this;rwa [anE]at this);rw[show(if neg=true then -((N:Nat):Int) else((N:Nat):Int))=jC s N from (jJ hn _).symm]at mk;have hsN:eo (jC s N):=by rw[jJ hn];split;exact lW.2 hN';exact hN'
   have ov:=lV (jC s N) ((10:Int)^p*(10:Int)^u) hsN hD (by have:(0:Int)<10^p:=anF (by omega);have:(0:Int)<10^u:=anF (by omega);exact Int.mul_ne_zero (by omega) (by omega));have e10:((10^(p+u):Nat):Int)=(10:Int)^p*(10:Int)^u:=by rw[Nat.pow_add];push_cast;rfl
   rw[e10]at hq;have hneg:(0:Int) - -(u:Int)=u:=by omega
   have hu0:¬(u:Int)<0:=by omega
   have ml:=il ((10:Int)^p) ((10:Int)^u) hp10 (AP (by omega));generalize (10:Int)^p*(10:Int)^u=X at *;generalize jC s N=Y at *;simp(disch:=omega)[q4,fe,fH,aN,hneg,hu0];refine akK (zd u (by omega)) ?_;simp;refine akK ml ?_;simp;refine aa.akJ (.qs [0,1,2,4,6]<|.l 3 []<|.l 5 []<|.l 7 [0]<|.l 8 [1]<|.nil) ?_;simp;refine akK mk ?_;simp;refine akK ov ?_;simp[jt,hq,fH]
def XS(m:Nat)(s:ByteArray)(neg:Bool)(st:St):Prop:=∃(N p f k:Nat) (up:Int),k≤400000000000∧N<10^k∧p≤400000000000∧(-60≤up∧up≤60) ∧
 (fE m s=if f<s.size then(0,1,f) else if 0<up then(anj (jC s (N*10^up.toNat)) ((10^p:Nat):Int),0,0) else(anj (jC s N) ((10^(p+(-up).toNat):Nat):Int),0,0)) ∧
 st=⟨193,[(0,.val (.string s)),(4,.ptr 0 0 0),(5,.ptr 1 0 0),(7,.val (.bool neg)),(8,.val (.int .i64 f)),(11,.ptr 3 0 0),(12,.ptr 4 0 0),(15,.val (.int .i64 p)),(18,.val (.int .i64 up))],[q4,fe 0 0,fe 0 (-1),some ⟨2,[dY N],false⟩,some ⟨2,[dY 1],false⟩]⟩
theorem M5{C:Ctx}(hC:C.fx=[]){s:ByteArray}{m:Nat}{neg:Bool}{N p f k:Nat}(hs:s.size≤4611686018427387904)(hn:decide (minus s)=neg)(hk:k≤400000000000)(hN:N<10^k)(hp:p≤400000000000)(hfs:f≤s.size)
  (hq:fE m s=dh s N p f) :
  aa Tryz.prog C (e9 12 gm) ⟨193,[(0,.val (.string s)),(4,.ptr 0 0 0),(5,.ptr 1 0 0),(7,.val (.bool neg)),(8,.val (.int .i64 f)),(11,.ptr 3 0 0),(12,.ptr 4 0 0),(15,.val (.int .i64 p))],[q4,fe 0 0,fe 0 (-1),some ⟨2,[dY N],false⟩,some ⟨2,[dY 1],false⟩]⟩ (QP m s):=by
 refine aa.cutAt 2 (XS m s neg) ?_ ?_
 ·simp only[gm,Tryz.f84,Option.getD_some,ao,al,ar,aq];unfold dh at hq;by_cases x0:bH s f 101
  ·rw[if_pos x0]at hq;have h1:=x0.1;have h2:=iU.2 x0.2;have pw:=ET s f h1 hs;rw[show((f+1:Nat):Int)=(f:Int)+1 by push_cast;rfl]at pw;unfold XA at pw;generalize bY s f=b at *;by_cases k1:b+300<aH s b
   ·rw[if_pos k1]at pw hq;simp(disch:=omega)[h1,h2,aN];refine ai pw (by simp[fH]) ?_;simp[fH,fe,q4];refine aa.akJ (.qs [0]<|.q 1 [0]<|.l 2 [0]<|.l 3 [1]<|.nil) ?_;simp[jt,hq,fH,kT,Sv.Sub,cz]
   ·rw[if_neg k1]at pw hq;by_cases k2:aH s b=b
    ·rw[if_pos k2]at pw;rw[if_pos (.inl k2),k2]at hq;simp(disch:=omega)[h1,h2,aN];refine ai pw (by simp[fH]) ?_;simp[fH,fe,q4];refine aa.akJ (.qs [0]<|.q 1 [0]<|.l 2 [0]<|.l 3 [1]<|.nil) ?_;simp[jt,hq,fH,kT,Sv.Sub,cz]
    ·rw[if_neg k2]at pw;by_cases k3:aH s b<s.size
     ·rw[if_pos k3]at pw;rw[if_pos (.inr k3)]at hq;simp(disch:=omega)[h1,h2,aN];refine ai pw (by simp[fH]) ?_;simp[fH,fe,q4];refine aa.akJ (.qs [0]<|.q 1 [0]<|.l 2 [0]<|.l 3 [1]<|.nil) ?_;simp[jt,hq,fH,kT,Sv.Sub,cz]
     ·rw[if_neg k3]at pw;rw[if_neg (fun h=>h.elim k2 k3)]at hq;generalize nv s b (s.size - b)=x at *;by_cases k4:60<x
      ·rw[if_pos k4]at pw hq;simp(disch:=omega)[h1,h2,aN];refine ai pw (by simp[fH]) ?_;simp[fH,fe,q4];refine aa.akJ (.qs [0]<|.q 1 [0]<|.l 2 [0]<|.l 3 [1]<|.nil) ?_;simp[jt,hq,fH,kT,Sv.Sub,cz]
      ·rw[if_neg k4]at pw hq;obtain⟨up,hup⟩:∃up,up=if bH s (f+1) 45 then -(x:Int) else(x:Int):=⟨_,rfl⟩;rw[←hup]at pw;have hb : -60≤up∧up≤60:=by rw[hup];split<;>omega
       simp(disch:=omega)[h1,h2,aN];refine ai pw (by simp[fH]) ?_;simp[fH,fe,q4];refine⟨_,⟨N,p,s.size,k,up,hk,hN,hp,hb,?_,rfl⟩,by simp[aw,hC,fe,q4,fH]⟩;rw[hq,if_neg (Nat.lt_irrefl _)];by_cases x1:bH s (f+1) 45
       ·rw[if_pos x1]at hup ⊢;rw[if_neg (by omega),show(-up).toNat=x by omega]
       ·rw[if_neg x1]at hup ⊢;by_cases hx0:x=0
        ·subst hx0;simp[hup]
        ·rw[if_pos (by omega),show up.toNat=x by omega]
  ·rw[if_neg x0]at hq;have fin:((f<s.size∧¬((ek s f).toNat:Int)=101)∨¬f<s.size):=by
    by_cases h:f<s.size
    ·exact .inl ⟨h,fun h2=>x0 ⟨h,iU (c:=101) |>.1 h2⟩⟩
    ·exact .inr h
   rcases fin with⟨h1,h2⟩ | h1
   ·simp[h1,h2];refine⟨_,⟨N,p,f,k,0,hk,hN,hp,by omega,?_,rfl⟩,by simp[aw,hC]⟩;rw[hq];simp
   ·simp[h1];refine⟨_,⟨N,p,f,k,0,hk,hN,hp,by omega,?_,rfl⟩,by simp[aw,hC]⟩;rw[hq];simp
 ·rintro st ⟨N,p,f,k,up,h1,h2,h3,h4,h5,rfl⟩;exact Na hC hn h1 h2 h3 h4 h5
end Go.Proofs


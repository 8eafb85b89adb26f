/- A text of the prover's own. -/
import Derived.Test.YtnimjdcaajmfcaaGreatDoorVQi
open Nat renaming zero_le->aBt,not_lt_zero->azL
open Bool renaming false_eq_true->aBv,false_and->aBw
open Go.Proofs.Tryz renaming prog->ay9,f110->aBs
open Option renaming getD_some->ayj
set_option maxRecDepth 20000
namespace Go.Proofs
open Go.Sv Go Go.Pl
theorem GD(s:ByteArray){a b i:Nat}(h:a+i<b)(hb:b<=s.size):eL (s.extract a b) i=eL s (a+i):=by unfold eL;have hs:s.data.size=s.size:=rfl;rw[ByteArray.data_extract,Array.getD_eq_getD_getElem?,Array.getD_eq_getD_getElem?,Array.getElem?_extract];rw[if_pos (by omega)]
theorem eF(s:ByteArray){a b:Nat}(hb:b<=s.size):(s.extract a b).size=b - a:=by simp;omega
theorem jH(s:ByteArray){a b:Nat}(hb:b<=s.size):∀k,a+k<=b->nv (s.extract a b) 0 k=nv s a k
 | 0,_=>rfl
 | k+1,h=>by simp only[nv,Nat.zero_add,kJ];rw[jH s hb k (by omega),GD s (by omega) hb]
theorem iS{s:ByteArray}{a b:Nat}(hb:b<=s.size)(h:∀i,a<=i->i<b->bI s i):∀i,i<(s.extract a b).size->bI (s.extract a b) i:=λi hi=>by refine⟨hi,?_⟩;rw[eF s hb]at hi;unfold kJ;rw[GD s (by omega) hb];exact(h (a+i) (by omega) (by omega)).2
theorem Cy{t:ByteArray}(h:∀i,i<t.size->bI t i)(h0:0<t.size)(h1:t.size<=300):rd t=(((nv t 0 t.size:Nat):Int),0,0):=by
 have hm:¬minus t:=λhm=>by have:=(h 0 h0).2.1;have:=hm.2;omega
 have hs:av t=0:=by simp[av,hm]
 have hd:aK t 0=t.size:=nL (aBt _) (λi _ hi=>h i hi) (λh'=>by have:=h'.1;omega);unfold rd;rw[hs,hd,if_neg (by omega),if_neg (by omega),if_neg hm];simp
theorem Vo{s:ByteArray}{a b:Nat}(hb:b<=s.size)(h:a<b):s.extract a b≠⟨#[]⟩:=λe=>by have:=eF s (a:=a) hb;rw[e]at this;have e0:(⟨#[]⟩:ByteArray).size=0:=rfl;omega
set_option exponentiation.threshold 1000 in
theorem Nt{s:ByteArray}{a k:Nat}(h:∀i,a<=i->i<a+k->bI s i)(hk:k<=400):fw 400 (nv s a k:Nat):=by have:=vg h;exact gG (k:=100) (Uq (y:=((10^k:Nat):Int)) (by simp only[Int.natAbs_natCast];omega) (rq hk)) (by omega)
def B0(r:Rat × Nat × Nat):SV:=.bM [aS r.1,mj r.2.1 r.2.2]
@[simp] theorem Fq(e:Nat × Nat)(b:Bool)(c p:Nat):kS (some e) b c p=some e:=rfl
theorem ku(c p:Nat)(v:Rat)(hc:c≠0):rz (some (c,p)) v=B0 (0,c,p):=by simp[rz,B0,mj,hc]
theorem wN(v:Rat)(p:Nat):rz none v=B0 (v,0,p):=by simp[rz,B0,mj]
def IA(s:ByteArray)(st:St):Prop:=∃(T P Lw Pw:ByteArray) (a la pa:Nat) (E:Option (Nat × Nat)) (neg up:Bool) (t d:Nat),
 (∀c p,E=some (c,p)->c=1∨c=2∨c=3)∧(E=none->rd T=((t:Int),0,0))∧T.size<=400∧P.size<=400∧(∀i,i<P.size->bI P i)∧fw 400 d∧fw 400 t ∧
  ((Lw=⟨#[]⟩∧d=1)∨(Lw≠⟨#[]⟩∧rd Lw=((d:Int),0,0)∧Lw.size<=400))∧(∀i,i<Pw.size->bI Pw i)∧Pw.size<=400 ∧
  rz (kS (kS (kS E (decide (a<s.size)) 1 a) (decide (60<nv Pw 0 Pw.size)) 2 pa) (decide (Lw≠⟨#[]⟩)&&decide (d=0)) 3 la) (uB neg up t P (min (nv Pw 0 Pw.size) 61) d)=B0 (gm 300 s) ∧
  st=⟨151,[(0,.val (.string s)),(2,.ptr 0 0 0),(3,.val .nilIface),(4,.ptr 1 0 0),(5,.val (.bool neg)),(6,.val (.string T)),(7,.val (.string P)),(8,.val (.string Lw)),(9,.val (.string Pw)),(10,.val (.bool up)),(11,.val (.int .i64 la)),(12,.val (.int .i64 pa))],MR s a E⟩
theorem Mh:fw 400 ((1:Nat):Int):=mM (by omega)
theorem IA.err{s T:ByteArray}{a la pa:Nat}{c p:Nat}{neg up:Bool}{st:St}(hc:c=1∨c=2∨c=3)(hT:T.size<=400)(hq:gm 300 s=(0,c,p))
  (h:st=⟨151,[(0,.val (.string s)),(2,.ptr 0 0 0),(3,.val .nilIface),(4,.ptr 1 0 0),(5,.val (.bool neg)),(6,.val (.string T)),(7,.val (.string ⟨#[]⟩)),(8,.val (.string ⟨#[]⟩)),(9,.val (.string ⟨#[]⟩)),(10,.val (.bool up)),(11,.val (.int .i64 la)),(12,.val (.int .i64 pa))],MR s a (some (c,p))⟩):IA s st :=
 ⟨T,⟨#[]⟩,⟨#[]⟩,⟨#[]⟩,a,la,pa,some (c,p),neg,up,0,1,λc' p' h'=>by simp only[Option.some.injEq,Prod.mk.injEq]at h';omega,λh'=>(by cases h'),hT,aBt _,λi hi=>absurd hi (azL _),Mh,kF _,.inl ⟨rfl,rfl⟩,
  λi hi=>absurd hi (azL _),aBt _,by simp only[Fq];rw[ku _ _ _ (by omega),hq],h⟩
theorem wA:(⟨#[]⟩:ByteArray).size=0:=rfl
theorem VS:nv ⟨#[]⟩ 0 (⟨#[]⟩:ByteArray).size=0:=rfl
theorem vU(Q:Nat->Prop):∀i,i<(⟨#[]⟩:ByteArray).size->Q i:=λi hi=>absurd hi (azL _)
theorem kD{s:ByteArray}{neg:Bool}(h:decide (minus s)=neg)(n:Nat):jZ s n=if neg=true then -(n:Int) else(n:Int):=by unfold jZ;rw[<-h];by_cases hm:minus s<;>simp[hm]
theorem O8{s Lw:ByteArray}{e b tv d:Nat}{neg:Bool}(hn:decide (minus s)=neg)(hL:Lw≠⟨#[]⟩)(ao:b<=s.size)(hb:e+1<b)(hd:d=nv s (e+1) (b - (e+1))) :
  rz (kS (kS (kS none (decide (b<s.size)) 1 b) (decide (60<nv ⟨#[]⟩ 0 (⟨#[]⟩:ByteArray).size)) 2 0) (decide (Lw≠⟨#[]⟩)&&decide (d=0)) 3 (e+1)) (uB neg true tv ⟨#[]⟩ (min (nv ⟨#[]⟩ 0 (⟨#[]⟩:ByteArray).size) 61) d) =
   B0 (if b=e+1∨b<s.size then(0,1,b) else if nv s (e+1) (s.size - (e+1))=0 then(0,3,e+1) else(Rat.divInt (jZ s tv) (nv s (e+1) (s.size - (e+1)):Int),0,0)):=by
 rw[VS];by_cases l1:b<s.size
 ·rw[if_pos (.inr l1)];simp only[kS,l1,decide_true,if_true];exact ku _ _ _ (by omega)
 ·rw[if_neg (show ¬(b=e+1∨b<s.size) by omega),show s.size - (e+1)=b - (e+1) by omega,<-hd];by_cases l2:d=0
  ·simp only[kS,l1,l2,hL,if_true,decide_false,aBv,if_false,azL,ne_eq,not_false_eq_true,decide_true,Bool.and_self];exact ku _ _ _ (by omega)
  ·simp only[kS,l1,l2,hL,if_false,decide_false,aBv,azL,ne_eq,not_false_eq_true,decide_true,Bool.and_false];rw[wN _ 0,kD hn];unfold uB;simp[wA,nv]
theorem Fu{s P:ByteArray}{e tv:Nat}{neg:Bool}(hn:decide (minus s)=neg)(he:e<=s.size)(g:¬bR s e 101) :
  rz (kS (kS (kS none (decide (e<s.size)) 1 e) (decide (60<nv ⟨#[]⟩ 0 (⟨#[]⟩:ByteArray).size)) 2 0) (decide ((⟨#[]⟩:ByteArray)≠⟨#[]⟩)&&decide ((1:Nat)=0)) 3 0) (uB neg true tv P (min (nv ⟨#[]⟩ 0 (⟨#[]⟩:ByteArray).size) 61) 1) =
   B0 (dC s (tv*10^P.size+nv P 0 P.size) P.size e):=by
 rw[VS];unfold dC;rw[if_neg g];by_cases l1:e<s.size
 ·rw[if_pos l1];simp only[kS,l1,decide_true,if_true];exact ku _ _ _ (by omega)
 ·rw[if_neg l1];simp only[kS,l1,if_false,decide_false,aBv,azL,ne_eq,not_true,aBw];rw[wN _ 0,kD hn];unfold uB;simp
theorem wR{s P W:ByteArray}{e b c tv:Nat}{neg up:Bool}(hn:decide (minus s)=neg)(aa:c<=s.size)(g:bR s e 101)(hb:cz s e=b)(hu:up=true↔¬bR s (e+1) 45)(hc:aK s b=c)(aC:b<c)(h3:¬b+300<c)(hW:nv W 0 W.size=nv s b (c - b)) :
  rz (kS (kS (kS none (decide (c<s.size)) 1 c) (decide (60<nv W 0 W.size)) 2 b) (decide ((⟨#[]⟩:ByteArray)≠⟨#[]⟩)&&decide ((1:Nat)=0)) 3 0) (uB neg up tv P (min (nv W 0 W.size) 61) 1) =
   B0 (dC s (tv*10^P.size+nv P 0 P.size) P.size e):=by
 unfold dC;rw[if_pos g,hb,hc,if_neg h3,hW];by_cases l1:c<s.size
 ·rw[if_pos (.inr l1)];simp only[kS,l1,decide_true,if_true];exact ku _ _ _ (by omega)
 ·rw[if_neg (show ¬(c=b∨c<s.size) by omega),show s.size - b=c - b by omega];generalize nv s b (c - b)=x at *;by_cases l2:60<x
  ·rw[if_pos l2];simp only[kS,l1,l2,if_true,decide_false,aBv,if_false,decide_true];exact ku _ _ _ (by omega)
  ·rw[if_neg l2];simp only[kS,l1,l2,if_false,decide_false,aBv,ne_eq,not_true,aBw];rw[wN _ 0,show min x 61=x by omega];unfold uB;cases up with
   | true =>
    rw[if_neg (hu.1 rfl),kD hn];simp
   | false =>
    rw[if_pos (show bR s (e+1) 45 from Classical.byContradiction λh=>by have:=hu.2 h;cases this),kD hn];simp[Nat.pow_add]
def xA(s T:ByteArray)(neg:Bool)(a:Nat)(E:Option (Nat × Nat)):St:=⟨151,[(0,.val (.string s)),(2,.ptr 0 0 0),(3,.val .nilIface),(4,.ptr 1 0 0),(5,.val (.bool neg)),(6,.val (.string T)),(7,.val (.string ⟨#[]⟩)),(8,.val (.string ⟨#[]⟩)),(9,.val (.string ⟨#[]⟩)),(10,.val (.bool true)),(11,.val (.int .i64 0)),(12,.val (.int .i64 0))],MR s a E⟩
theorem IA.yF{s T P:ByteArray}{a pa:Nat}{c p:Nat}{neg up:Bool}{st:St}(hc:c=1∨c=2∨c=3)(hT:T.size<=400)(hP:P.size<=400)(ad:∀i,i<P.size->bI P i)(hq:gm 300 s=(0,c,p))
  (h:st=⟨151,[(0,.val (.string s)),(2,.ptr 0 0 0),(3,.val .nilIface),(4,.ptr 1 0 0),(5,.val (.bool neg)),(6,.val (.string T)),(7,.val (.string P)),(8,.val (.string ⟨#[]⟩)),(9,.val (.string ⟨#[]⟩)),(10,.val (.bool up)),(11,.val (.int .i64 0)),(12,.val (.int .i64 pa))],MR s a (some (c,p))⟩):IA s st :=
 ⟨T,P,⟨#[]⟩,⟨#[]⟩,a,0,pa,some (c,p),neg,up,0,1,λc' p' h'=>by simp only[Option.some.injEq,Prod.mk.injEq]at h';omega,λh'=>(by cases h'),hT,hP,ad,Mh,kF _,.inl ⟨rfl,rfl⟩,
  vU _,aBt _,by simp only[Fq];rw[ku _ _ _ (by omega),hq],h⟩
theorem QF{C:Ctx}{Q:bf}(hC:C.fx=[]){s T:ByteArray}{neg:Bool}{a c p:Nat}(al:T.size<=300)(hc:c=1∨c=2∨c=3)(hq:gm 300 s=(0,c,p)):vc ay9 C (kQ 1 (bh 5 readBody)) (xA s T neg a (some (c,p))) (jM C (IA s) Q) (jM C (IA s) Q):=by simp only[readBody,aBs,ayj,ah,ab,aN,aL];simp[xA,MR];refine Am s a 47 (k2:=2) (by simp[aA,bQ]) (by simp) ?_;simp;refine Am s a 46 (k2:=2) (by simp[aA,bQ]) (by simp) ?_;simp;refine Am s a 101 (k2:=2) (by simp[aA,bQ]) (by simp) ?_;simp;exact⟨_,IA.err (T:=T) (a:=a) (la:=0) (pa:=0) (neg:=neg) (up:=true) hc (by omega) hq rfl,by simp[aP,hC,MR,nK,bQ,z4]⟩
theorem I3{C:Ctx}{Q:bf}(hC:C.fx=[]){s T:ByteArray}{neg:Bool}{e tv:Nat}(hs:s.size<=4611686018427387904)(hn:decide (minus s)=neg)(am:e<=s.size)(hT:rd T=((tv:Int),0,0))(al:T.size<=300)(ht:fw 400 (tv:Nat))(g:bR s e 47)
  (ac:gm 300 s=if e+1+300<aK s (e+1) then(0,2,e+1+300) else if aK s (e+1)=e+1∨aK s (e+1)<s.size then(0,1,aK s (e+1)) else if nv s (e+1) (s.size - (e+1))=0 then(0,3,e+1) else(Rat.divInt (jZ s tv) (nv s (e+1) (s.size - (e+1)):Int),0,0)):vc ay9 C (kQ 1 (bh 5 readBody)) (xA s T neg e none) (jM C (IA s) Q) (jM C (IA s) Q):=by
 simp only[readBody,aBs,ayj,ah,ab,aN,aL];simp[xA,MR];have hg:=g.1;refine bP s e 47 (by simp[aA,bQ]) hs (by omega) (by simp) (λ_=>?_) (λg'=>absurd g g');simp[bQ];refine cZ s (e+1) (by simp[aA,bQ]) hs (by omega) (by simp) (λk1=>?_) (λk1=>?_) (λk1 k2=>?_)
 ·have hq:gm 300 s=(0,2,e+1+300):=by rw[ac,if_pos k1]
  simp;exact⟨_,IA.err (T:=T) (a:=e+1+300) (la:=e+1) (pa:=0) (neg:=neg) (up:=true) (by omega) (by omega) hq rfl,by simp[aP,hC,MR,nK,bQ,z4]⟩
 ·have hq:gm 300 s=(0,1,e+1):=by rw[ac,if_neg (by omega),if_pos (.inl k1),k1]
  simp;exact⟨_,IA.err (T:=T) (a:=e+1) (la:=e+1) (pa:=0) (neg:=neg) (up:=true) (by omega) (by omega) hq rfl,by simp[aP,hC,MR,nK,bQ,z4]⟩
 ·obtain⟨b,hb⟩:∃b,b=aK s (e+1):=⟨_,rfl⟩;have ao:=fy (s:=s) (a:=e+1) (by omega);have ax:=λi (h1:e+1<=i) (h2:i<b)=>dv (s:=s) (a:=e+1) h1 (hb ▸ h2);rw[<-hb]at k1 k2 ao ac;rw[if_neg k1]at ac;have az:=eF s (a:=e+1) ao;have hL:=Cy (iS ao ax) (by omega) (by omega);rw[az,jH s ao _ (by omega)]at hL;have hd:fw 400 (nv s (e+1) (b - (e+1)):Nat):=Nt (λi i1 i2=>ax i i1 (by omega)) (by omega);have ay:=Vo ao (show e+1<b by omega);rw[<-hb];have aB:(s.extract (e+1) b).size<=400:=by omega
  have fin:=O8 (tv:=tv) hn ay ao (by omega) (d:=nv s (e+1) (b - (e+1))) rfl;rw[<-ac]at fin;generalize s.extract (e+1) b=Lw at *;simp;exact⟨_,⟨T,⟨#[]⟩,Lw,⟨#[]⟩,b,e+1,0,none,neg,true,tv,nv s (e+1) (b - (e+1)),by simp,λ_=>hT,by omega,aBt _,vU _,hd,ht,.inr ⟨ay,hL,aB⟩,vU _,aBt _,fin,rfl⟩,by simp[aP,hC,MR,bQ,z4]⟩
theorem Lk{C:Ctx}{Q:bf}(hC:C.fx=[]){s T:ByteArray}{neg:Bool}{e tv:Nat}(hs:s.size<=4611686018427387904)(hn:decide (minus s)=neg)(am:e<=s.size)(hT:rd T=((tv:Int),0,0))(al:T.size<=300)(ht:fw 400 (tv:Nat))(g0:¬bR s e 47)(g:bR s e 46)(hk:e+1+300<aK s (e+1)∨aK s (e+1)=e+1)
  (ac:gm 300 s=if e+1+300<aK s (e+1) then(0,2,e+1+300) else if aK s (e+1)=e+1 then(0,1,e+1) else dC s (tv*10^(aK s (e+1) - (e+1))+nv s (e+1) (aK s (e+1) - (e+1))) (aK s (e+1) - (e+1)) (aK s (e+1))):vc ay9 C (kQ 1 (bh 5 readBody)) (xA s T neg e none) (jM C (IA s) Q) (jM C (IA s) Q):=by
 simp only[readBody,aBs,ayj,ah,ab,aN,aL];simp[xA,MR];have hg:=g.1;refine bP s e 47 (by simp[aA,bQ]) hs (by omega) (by simp) (λg'=>absurd g' g0) (λ_=>?_);simp;refine bP s e 46 (by simp[aA,bQ]) hs (by omega) (by simp) (λ_=>?_) (λg'=>absurd g g');simp[bQ];refine cZ s (e+1) (by simp[aA,bQ]) hs (by omega) (by simp) (λk1=>?_) (λk1=>?_) (λk1 k2=>by omega)
 ·have hq:gm 300 s=(0,2,e+1+300):=by rw[ac,if_pos k1]
  simp;refine Am s (e+1+300) 101 (k2:=2) (by simp[aA,bQ]) (by simp) ?_;simp;exact⟨_,IA.err (T:=T) (a:=e+1+300) (la:=0) (pa:=0) (neg:=neg) (up:=true) (by omega) (by omega) hq rfl,by simp[aP,hC,MR,nK,bQ,z4]⟩
 ·have hq:gm 300 s=(0,1,e+1):=by rw[ac,if_neg (by omega),if_pos k1]
  simp;refine Am s (e+1) 101 (k2:=2) (by simp[aA,bQ]) (by simp) ?_;simp;exact⟨_,IA.err (T:=T) (a:=e+1) (la:=0) (pa:=0) (neg:=neg) (up:=true) (by omega) (by omega) hq rfl,by simp[aP,hC,MR,nK,bQ,z4]⟩
theorem Qq{C:Ctx}{Q:bf}(hC:C.fx=[]){s T:ByteArray}{neg:Bool}{e tv:Nat}(hs:s.size<=4611686018427387904)(hn:decide (minus s)=neg)(am:e<=s.size)(hT:rd T=((tv:Int),0,0))(al:T.size<=300)(ht:fw 400 (tv:Nat))(g0:¬bR s e 47)(g:bR s e 46)(ar:¬e+1+300<aK s (e+1))(au:e+1<aK s (e+1)){f:Nat}(hf:f=aK s (e+1)){P:ByteArray}(ag:P=s.extract (e+1) f)(ap:P.size=f - (e+1))(ad:∀i,i<P.size->bI P i)(an:f<=s.size)(ac:gm 300 s=dC s (tv*10^P.size+nv P 0 P.size) P.size f)(x0:¬bR s f 101):vc ay9 C (kQ 1 (bh 5 readBody)) (xA s T neg e none) (jM C (IA s) Q) (jM C (IA s) Q):=by simp only[readBody,aBs,ayj,ah,ab,aN,aL];simp[xA,MR];have hg:=g.1;refine bP s e 47 (by simp[aA,bQ]) hs (by omega) (by simp) (λg'=>absurd g' g0) (λ_=>?_);simp;refine bP s e 46 (by simp[aA,bQ]) hs (by omega) (by simp) (λ_=>?_) (λg'=>absurd g g');simp[bQ];refine cZ s (e+1) (by simp[aA,bQ]) hs (by omega) (by simp) (λk1=>by omega) (λk1=>by omega) (λ_ _=>?_);rw[<-hf,<-ag];simp[bQ];refine bP s f 101 (by simp[aA,bQ]) hs (by omega) (by simp) (λg'=>absurd g' x0) (λ_=>?_);have fin:=Fu (P:=P) (tv:=tv) hn an x0;rw[<-ac]at fin;simp;exact⟨_,⟨T,P,⟨#[]⟩,⟨#[]⟩,f,0,0,none,neg,true,tv,1,by simp,λ_=>hT,by omega,by omega,ad,Mh,ht,.inl ⟨rfl,rfl⟩,vU _,aBt _,fin,rfl⟩,by simp[aP,hC,MR,bQ,z4]⟩
theorem Nc{C:Ctx}{Q:bf}(hC:C.fx=[]){s T:ByteArray}{neg:Bool}{e tv:Nat}(hs:s.size<=4611686018427387904)(hn:decide (minus s)=neg)(am:e<=s.size)(hT:rd T=((tv:Int),0,0))(al:T.size<=300)(ht:fw 400 (tv:Nat))(g0:¬bR s e 47)(g:bR s e 46)(ar:¬e+1+300<aK s (e+1))(au:e+1<aK s (e+1)){f:Nat}(hf:f=aK s (e+1)){P:ByteArray}(ag:P=s.extract (e+1) f)(ap:P.size=f - (e+1))(ad:∀i,i<P.size->bI P i)(an:f<=s.size)(ac:gm 300 s=dC s (tv*10^P.size+nv P 0 P.size) P.size f)(x0:bR s f 101)(x1:bR s (f+1) 45):vc ay9 C (kQ 1 (bh 5 readBody)) (xA s T neg e none) (jM C (IA s) Q) (jM C (IA s) Q):=by
 simp only[readBody,aBs,ayj,ah,ab,aN,aL];simp[xA,MR];have hg:=g.1;refine bP s e 47 (by simp[aA,bQ]) hs (by omega) (by simp) (λg'=>absurd g' g0) (λ_=>?_);simp;refine bP s e 46 (by simp[aA,bQ]) hs (by omega) (by simp) (λ_=>?_) (λg'=>absurd g g');simp[bQ];refine cZ s (e+1) (by simp[aA,bQ]) hs (by omega) (by simp) (λk1=>by omega) (λk1=>by omega) (λ_ _=>?_);rw[<-hf,<-ag];simp[bQ];have aq:=x0.1;refine bP s f 101 (by simp[aA,bQ]) hs (by omega) (by simp) (λ_=>?_) (λg'=>absurd x0 g');simp[bQ];have aw:=x1.1;have hb:cz s f=f+1+1:=by unfold cz;rw[if_pos (.inl x1)]
 refine bP s (f+1) 45 (by simp[aA,bQ]) hs (by omega) (by simp) (λ_=>?_) (λg'=>absurd x1 g');simp[bQ];refine cZ s (f+1+1) (by simp[aA,bQ]) hs (by omega) (by simp) (λk1=>?_) (λk1=>?_) (λk1 k2=>?_)
 ·have hq:gm 300 s=(0,2,f+1+1+300):=by rw[ac];unfold dC;rw[if_pos x0,hb,if_pos k1]
  simp[bQ];exact⟨_,IA.yF (T:=T) (P:=P) (a:=f+1+1+300) (pa:=f+1+1) (neg:=neg) (up:=false) (by omega) (by omega) (by omega) ad hq rfl,by simp[aP,hC,MR,nK,bQ,z4]⟩
 ·have hq:gm 300 s=(0,1,f+1+1):=by rw[ac];unfold dC;rw[if_pos x0,hb,if_neg (by omega),if_pos (.inl k1),k1]
  simp[bQ];exact⟨_,IA.yF (T:=T) (P:=P) (a:=f+1+1) (pa:=f+1+1) (neg:=neg) (up:=false) (by omega) (by omega) (by omega) ad hq rfl,by simp[aP,hC,MR,nK,bQ,z4]⟩
 ·obtain⟨c,hc⟩:∃c,c=aK s (f+1+1):=⟨_,rfl⟩;have aa:=fy (s:=s) (a:=f+1+1) (by omega);have ai:=λi (h1:f+1+1<=i) (h2:i<c)=>dv (s:=s) (a:=f+1+1) h1 (hc ▸ h2);rw[<-hc]at k1 k2 aa;have ae:=eF s (a:=f+1+1) aa;have af:=jH s (a:=f+1+1) aa (c - (f+1+1)) (by omega);rw[<-ae]at af;have aj:=iS aa ai;rw[<-hc];generalize s.extract (f+1+1) c=W at *;rw[ae]at af;have ak:W.size<=400:=by omega
  have fin:=wR (P:=P) (W:=W) (tv:=tv) (up:=false) hn aa x0 hb (by simp[x1]) hc.symm k2 k1 (by rw[ae];exact af);rw[<-ac]at fin;simp[bQ];exact⟨_,⟨T,P,⟨#[]⟩,W,c,0,f+1+1,none,neg,false,tv,1,by simp,λ_=>hT,by omega,by omega,ad,Mh,ht,.inl ⟨rfl,rfl⟩,aj,ak,fin,rfl⟩,by simp[aP,hC,MR,bQ,z4]⟩
theorem Oi{C:Ctx}{Q:bf}(hC:C.fx=[]){s T:ByteArray}{neg:Bool}{e tv:Nat}(hs:s.size<=4611686018427387904)(hn:decide (minus s)=neg)(am:e<=s.size)(hT:rd T=((tv:Int),0,0))(al:T.size<=300)(ht:fw 400 (tv:Nat))(g0:¬bR s e 47)(g:bR s e 46)(ar:¬e+1+300<aK s (e+1))(au:e+1<aK s (e+1)){f:Nat}(hf:f=aK s (e+1)){P:ByteArray}(ag:P=s.extract (e+1) f)(ap:P.size=f - (e+1))(ad:∀i,i<P.size->bI P i)(an:f<=s.size)(ac:gm 300 s=dC s (tv*10^P.size+nv P 0 P.size) P.size f)(x0:bR s f 101)(x1:¬bR s (f+1) 45)(x2:bR s (f+1) 43):vc ay9 C (kQ 1 (bh 5 readBody)) (xA s T neg e none) (jM C (IA s) Q) (jM C (IA s) Q):=by
 simp only[readBody,aBs,ayj,ah,ab,aN,aL];simp[xA,MR];have hg:=g.1;refine bP s e 47 (by simp[aA,bQ]) hs (by omega) (by simp) (λg'=>absurd g' g0) (λ_=>?_);simp;refine bP s e 46 (by simp[aA,bQ]) hs (by omega) (by simp) (λ_=>?_) (λg'=>absurd g g');simp[bQ];refine cZ s (e+1) (by simp[aA,bQ]) hs (by omega) (by simp) (λk1=>by omega) (λk1=>by omega) (λ_ _=>?_);rw[<-hf,<-ag];simp[bQ];have aq:=x0.1;refine bP s f 101 (by simp[aA,bQ]) hs (by omega) (by simp) (λ_=>?_) (λg'=>absurd x0 g');simp[bQ];have aw:=x2.1;have hb:cz s f=f+1+1:=by unfold cz;rw[if_pos (.inr x2)]
 refine bP s (f+1) 45 (by simp[aA,bQ]) hs (by omega) (by simp) (λg'=>absurd g' x1) (λ_=>?_);simp[];refine bP s (f+1) 43 (by simp[aA,bQ]) hs (by omega) (by simp) (λ_=>?_) (λg'=>absurd x2 g');simp[bQ];refine cZ s (f+1+1) (by simp[aA,bQ]) hs (by omega) (by simp) (λk1=>?_) (λk1=>?_) (λk1 k2=>?_)
 ·have hq:gm 300 s=(0,2,f+1+1+300):=by rw[ac];unfold dC;rw[if_pos x0,hb,if_pos k1]
  simp[bQ];exact⟨_,IA.yF (T:=T) (P:=P) (a:=f+1+1+300) (pa:=f+1+1) (neg:=neg) (up:=true) (by omega) (by omega) (by omega) ad hq rfl,by simp[aP,hC,MR,nK,bQ,z4]⟩
 ·have hq:gm 300 s=(0,1,f+1+1):=by rw[ac];unfold dC;rw[if_pos x0,hb,if_neg (by omega),if_pos (.inl k1),k1]
  simp[bQ];exact⟨_,IA.yF (T:=T) (P:=P) (a:=f+1+1) (pa:=f+1+1) (neg:=neg) (up:=true) (by omega) (by omega) (by omega) ad hq rfl,by simp[aP,hC,MR,nK,bQ,z4]⟩
 ·obtain⟨c,hc⟩:∃c,c=aK s (f+1+1):=⟨_,rfl⟩;have aa:=fy (s:=s) (a:=f+1+1) (by omega);have ai:=λi (h1:f+1+1<=i) (h2:i<c)=>dv (s:=s) (a:=f+1+1) h1 (hc ▸ h2);rw[<-hc]at k1 k2 aa;have ae:=eF s (a:=f+1+1) aa;have af:=jH s (a:=f+1+1) aa (c - (f+1+1)) (by omega);rw[<-ae]at af;have aj:=iS aa ai;rw[<-hc];generalize s.extract (f+1+1) c=W at *;rw[ae]at af;have ak:W.size<=400:=by omega
  have fin:=wR (P:=P) (W:=W) (tv:=tv) (up:=true) hn aa x0 hb (by simp[x1]) hc.symm k2 k1 (by rw[ae];exact af);rw[<-ac]at fin;simp[bQ];exact⟨_,⟨T,P,⟨#[]⟩,W,c,0,f+1+1,none,neg,true,tv,1,by simp,λ_=>hT,by omega,by omega,ad,Mh,ht,.inl ⟨rfl,rfl⟩,aj,ak,fin,rfl⟩,by simp[aP,hC,MR,bQ,z4]⟩
theorem M8{C:Ctx}{Q:bf}(hC:C.fx=[]){s T:ByteArray}{neg:Bool}{e tv:Nat}(hs:s.size<=4611686018427387904)(hn:decide (minus s)=neg)(am:e<=s.size)(hT:rd T=((tv:Int),0,0))(al:T.size<=300)(ht:fw 400 (tv:Nat))(g0:¬bR s e 47)(g:bR s e 46)(ar:¬e+1+300<aK s (e+1))(au:e+1<aK s (e+1)){f:Nat}(hf:f=aK s (e+1)){P:ByteArray}(ag:P=s.extract (e+1) f)(ap:P.size=f - (e+1))(ad:∀i,i<P.size->bI P i)(an:f<=s.size)(ac:gm 300 s=dC s (tv*10^P.size+nv P 0 P.size) P.size f)(x0:bR s f 101)(x1:¬bR s (f+1) 45)(x2:¬bR s (f+1) 43):vc ay9 C (kQ 1 (bh 5 readBody)) (xA s T neg e none) (jM C (IA s) Q) (jM C (IA s) Q):=by
 simp only[readBody,aBs,ayj,ah,ab,aN,aL];simp[xA,MR];have hg:=g.1;refine bP s e 47 (by simp[aA,bQ]) hs (by omega) (by simp) (λg'=>absurd g' g0) (λ_=>?_);simp;refine bP s e 46 (by simp[aA,bQ]) hs (by omega) (by simp) (λ_=>?_) (λg'=>absurd g g');simp[bQ];refine cZ s (e+1) (by simp[aA,bQ]) hs (by omega) (by simp) (λk1=>by omega) (λk1=>by omega) (λ_ _=>?_);rw[<-hf,<-ag];simp[bQ];have aq:=x0.1;refine bP s f 101 (by simp[aA,bQ]) hs (by omega) (by simp) (λ_=>?_) (λg'=>absurd x0 g');simp[bQ];have hb:cz s f=f+1:=by unfold cz;rw[if_neg (λh=>h.elim x1 x2)]
 refine bP s (f+1) 45 (by simp[aA,bQ]) hs (by omega) (by simp) (λg'=>absurd g' x1) (λ_=>?_);simp[];refine bP s (f+1) 43 (by simp[aA,bQ]) hs (by omega) (by simp) (λg'=>absurd g' x2) (λ_=>?_);simp[];refine cZ s (f+1) (by simp[aA,bQ]) hs (by omega) (by simp) (λk1=>?_) (λk1=>?_) (λk1 k2=>?_)
 ·have hq:gm 300 s=(0,2,f+1+300):=by rw[ac];unfold dC;rw[if_pos x0,hb,if_pos k1]
  simp[bQ];exact⟨_,IA.yF (T:=T) (P:=P) (a:=f+1+300) (pa:=f+1) (neg:=neg) (up:=true) (by omega) (by omega) (by omega) ad hq rfl,by simp[aP,hC,MR,nK,bQ,z4]⟩
 ·have hq:gm 300 s=(0,1,f+1):=by rw[ac];unfold dC;rw[if_pos x0,hb,if_neg (by omega),if_pos (.inl k1),k1]
  simp[bQ];exact⟨_,IA.yF (T:=T) (P:=P) (a:=f+1) (pa:=f+1) (neg:=neg) (up:=true) (by omega) (by omega) (by omega) ad hq rfl,by simp[aP,hC,MR,nK,bQ,z4]⟩
 ·obtain⟨c,hc⟩:∃c,c=aK s (f+1):=⟨_,rfl⟩;have aa:=fy (s:=s) (a:=f+1) (by omega);have ai:=λi (h1:f+1<=i) (h2:i<c)=>dv (s:=s) (a:=f+1) h1 (hc ▸ h2);rw[<-hc]at k1 k2 aa;have ae:=eF s (a:=f+1) aa;have af:=jH s (a:=f+1) aa (c - (f+1)) (by omega);rw[<-ae]at af;have aj:=iS aa ai;rw[<-hc];generalize s.extract (f+1) c=W at *;rw[ae]at af;have ak:W.size<=400:=by omega
  have fin:=wR (P:=P) (W:=W) (tv:=tv) (up:=true) hn aa x0 hb (by simp[x1]) hc.symm k2 k1 (by rw[ae];exact af);rw[<-ac]at fin;simp[bQ];exact⟨_,⟨T,P,⟨#[]⟩,W,c,0,f+1,none,neg,true,tv,1,by simp,λ_=>hT,by omega,by omega,ad,Mh,ht,.inl ⟨rfl,rfl⟩,aj,ak,fin,rfl⟩,by simp[aP,hC,MR,bQ,z4]⟩
theorem Qh{C:Ctx}{Q:bf}(hC:C.fx=[]){s T:ByteArray}{neg:Bool}{e tv:Nat}(hs:s.size<=4611686018427387904)(hn:decide (minus s)=neg)(am:e<=s.size)(hT:rd T=((tv:Int),0,0))(al:T.size<=300)(ht:fw 400 (tv:Nat))(g0:¬bR s e 47)(g:¬bR s e 46){f:Nat}(hf:f=e){P:ByteArray}(ag:P=⟨#[]⟩)(ap:P.size=0)(ad:∀i,i<P.size->bI P i)(an:f<=s.size)(ac:gm 300 s=dC s (tv*10^P.size+nv P 0 P.size) P.size f)(x0:¬bR s f 101):vc ay9 C (kQ 1 (bh 5 readBody)) (xA s T neg e none) (jM C (IA s) Q) (jM C (IA s) Q):=by simp only[readBody,aBs,ayj,ah,ab,aN,aL];simp[xA,MR];subst hf;subst ag;refine bP s f 47 (by simp[aA,bQ]) hs (by omega) (by simp) (λg'=>absurd g' g0) (λ_=>?_);simp;refine bP s f 46 (by simp[aA,bQ]) hs (by omega) (by simp) (λg'=>absurd g' g) (λ_=>?_);simp[bQ];refine bP s f 101 (by simp[aA,bQ]) hs (by omega) (by simp) (λg'=>absurd g' x0) (λ_=>?_);have fin:=Fu (P:=⟨#[]⟩) (tv:=tv) hn an x0;rw[<-ac]at fin;simp;exact⟨_,⟨T,⟨#[]⟩,⟨#[]⟩,⟨#[]⟩,f,0,0,none,neg,true,tv,1,by simp,λ_=>hT,by omega,by omega,ad,Mh,ht,.inl ⟨rfl,rfl⟩,vU _,aBt _,fin,rfl⟩,by simp[aP,hC,MR,bQ,z4]⟩
theorem Qk{C:Ctx}{Q:bf}(hC:C.fx=[]){s T:ByteArray}{neg:Bool}{e tv:Nat}(hs:s.size<=4611686018427387904)(hn:decide (minus s)=neg)(am:e<=s.size)(hT:rd T=((tv:Int),0,0))(al:T.size<=300)(ht:fw 400 (tv:Nat))(g0:¬bR s e 47)(g:¬bR s e 46){f:Nat}(hf:f=e){P:ByteArray}(ag:P=⟨#[]⟩)(ap:P.size=0)(ad:∀i,i<P.size->bI P i)(an:f<=s.size)(ac:gm 300 s=dC s (tv*10^P.size+nv P 0 P.size) P.size f)(x0:bR s f 101)(x1:bR s (f+1) 45):vc ay9 C (kQ 1 (bh 5 readBody)) (xA s T neg e none) (jM C (IA s) Q) (jM C (IA s) Q):=by
 simp only[readBody,aBs,ayj,ah,ab,aN,aL];simp[xA,MR];subst hf;subst ag;refine bP s f 47 (by simp[aA,bQ]) hs (by omega) (by simp) (λg'=>absurd g' g0) (λ_=>?_);simp;refine bP s f 46 (by simp[aA,bQ]) hs (by omega) (by simp) (λg'=>absurd g' g) (λ_=>?_);simp[bQ];have aq:=x0.1;refine bP s f 101 (by simp[aA,bQ]) hs (by omega) (by simp) (λ_=>?_) (λg'=>absurd x0 g');simp[bQ];have aw:=x1.1;have hb:cz s f=f+1+1:=by unfold cz;rw[if_pos (.inl x1)]
 refine bP s (f+1) 45 (by simp[aA,bQ]) hs (by omega) (by simp) (λ_=>?_) (λg'=>absurd x1 g');simp[bQ];refine cZ s (f+1+1) (by simp[aA,bQ]) hs (by omega) (by simp) (λk1=>?_) (λk1=>?_) (λk1 k2=>?_)
 ·have hq:gm 300 s=(0,2,f+1+1+300):=by rw[ac];unfold dC;rw[if_pos x0,hb,if_pos k1]
  simp[bQ];exact⟨_,IA.yF (T:=T) (P:=⟨#[]⟩) (a:=f+1+1+300) (pa:=f+1+1) (neg:=neg) (up:=false) (by omega) (by omega) (by omega) ad hq rfl,by simp[aP,hC,MR,nK,bQ,z4]⟩
 ·have hq:gm 300 s=(0,1,f+1+1):=by rw[ac];unfold dC;rw[if_pos x0,hb,if_neg (by omega),if_pos (.inl k1),k1]
  simp[bQ];exact⟨_,IA.yF (T:=T) (P:=⟨#[]⟩) (a:=f+1+1) (pa:=f+1+1) (neg:=neg) (up:=false) (by omega) (by omega) (by omega) ad hq rfl,by simp[aP,hC,MR,nK,bQ,z4]⟩
 ·obtain⟨c,hc⟩:∃c,c=aK s (f+1+1):=⟨_,rfl⟩;have aa:=fy (s:=s) (a:=f+1+1) (by omega);have ai:=λi (h1:f+1+1<=i) (h2:i<c)=>dv (s:=s) (a:=f+1+1) h1 (hc ▸ h2);rw[<-hc]at k1 k2 aa;have ae:=eF s (a:=f+1+1) aa;have af:=jH s (a:=f+1+1) aa (c - (f+1+1)) (by omega);rw[<-ae]at af;have aj:=iS aa ai;rw[<-hc];generalize s.extract (f+1+1) c=W at *;rw[ae]at af;have ak:W.size<=400:=by omega
  have fin:=wR (P:=⟨#[]⟩) (W:=W) (tv:=tv) (up:=false) hn aa x0 hb (by simp[x1]) hc.symm k2 k1 (by rw[ae];exact af);rw[<-ac]at fin;simp[bQ];exact⟨_,⟨T,⟨#[]⟩,⟨#[]⟩,W,c,0,f+1+1,none,neg,false,tv,1,by simp,λ_=>hT,by omega,by omega,ad,Mh,ht,.inl ⟨rfl,rfl⟩,aj,ak,fin,rfl⟩,by simp[aP,hC,MR,bQ,z4]⟩
theorem Oh{C:Ctx}{Q:bf}(hC:C.fx=[]){s T:ByteArray}{neg:Bool}{e tv:Nat}(hs:s.size<=4611686018427387904)(hn:decide (minus s)=neg)(am:e<=s.size)(hT:rd T=((tv:Int),0,0))(al:T.size<=300)(ht:fw 400 (tv:Nat))(g0:¬bR s e 47)(g:¬bR s e 46){f:Nat}(hf:f=e){P:ByteArray}(ag:P=⟨#[]⟩)(ap:P.size=0)(ad:∀i,i<P.size->bI P i)(an:f<=s.size)(ac:gm 300 s=dC s (tv*10^P.size+nv P 0 P.size) P.size f)(x0:bR s f 101)(x1:¬bR s (f+1) 45)(x2:bR s (f+1) 43):vc ay9 C (kQ 1 (bh 5 readBody)) (xA s T neg e none) (jM C (IA s) Q) (jM C (IA s) Q):=by
 simp only[readBody,aBs,ayj,ah,ab,aN,aL];simp[xA,MR];subst hf;subst ag;refine bP s f 47 (by simp[aA,bQ]) hs (by omega) (by simp) (λg'=>absurd g' g0) (λ_=>?_);simp;refine bP s f 46 (by simp[aA,bQ]) hs (by omega) (by simp) (λg'=>absurd g' g) (λ_=>?_);simp[bQ];have aq:=x0.1;refine bP s f 101 (by simp[aA,bQ]) hs (by omega) (by simp) (λ_=>?_) (λg'=>absurd x0 g');simp[bQ];have aw:=x2.1;have hb:cz s f=f+1+1:=by unfold cz;rw[if_pos (.inr x2)]
 refine bP s (f+1) 45 (by simp[aA,bQ]) hs (by omega) (by simp) (λg'=>absurd g' x1) (λ_=>?_);simp[];refine bP s (f+1) 43 (by simp[aA,bQ]) hs (by omega) (by simp) (λ_=>?_) (λg'=>absurd x2 g');simp[bQ];refine cZ s (f+1+1) (by simp[aA,bQ]) hs (by omega) (by simp) (λk1=>?_) (λk1=>?_) (λk1 k2=>?_)
 ·have hq:gm 300 s=(0,2,f+1+1+300):=by rw[ac];unfold dC;rw[if_pos x0,hb,if_pos k1]
  simp[bQ];exact⟨_,IA.yF (T:=T) (P:=⟨#[]⟩) (a:=f+1+1+300) (pa:=f+1+1) (neg:=neg) (up:=true) (by omega) (by omega) (by omega) ad hq rfl,by simp[aP,hC,MR,nK,bQ,z4]⟩
 ·have hq:gm 300 s=(0,1,f+1+1):=by rw[ac];unfold dC;rw[if_pos x0,hb,if_neg (by omega),if_pos (.inl k1),k1]
  simp[bQ];exact⟨_,IA.yF (T:=T) (P:=⟨#[]⟩) (a:=f+1+1) (pa:=f+1+1) (neg:=neg) (up:=true) (by omega) (by omega) (by omega) ad hq rfl,by simp[aP,hC,MR,nK,bQ,z4]⟩
 ·obtain⟨c,hc⟩:∃c,c=aK s (f+1+1):=⟨_,rfl⟩;have aa:=fy (s:=s) (a:=f+1+1) (by omega);have ai:=λi (h1:f+1+1<=i) (h2:i<c)=>dv (s:=s) (a:=f+1+1) h1 (hc ▸ h2);rw[<-hc]at k1 k2 aa;have ae:=eF s (a:=f+1+1) aa;have af:=jH s (a:=f+1+1) aa (c - (f+1+1)) (by omega);rw[<-ae]at af;have aj:=iS aa ai;rw[<-hc];generalize s.extract (f+1+1) c=W at *;rw[ae]at af;have ak:W.size<=400:=by omega
  have fin:=wR (P:=⟨#[]⟩) (W:=W) (tv:=tv) (up:=true) hn aa x0 hb (by simp[x1]) hc.symm k2 k1 (by rw[ae];exact af);rw[<-ac]at fin;simp[bQ];exact⟨_,⟨T,⟨#[]⟩,⟨#[]⟩,W,c,0,f+1+1,none,neg,true,tv,1,by simp,λ_=>hT,by omega,by omega,ad,Mh,ht,.inl ⟨rfl,rfl⟩,aj,ak,fin,rfl⟩,by simp[aP,hC,MR,bQ,z4]⟩
theorem PL{C:Ctx}{Q:bf}(hC:C.fx=[]){s T:ByteArray}{neg:Bool}{e tv:Nat}(hs:s.size<=4611686018427387904)(hn:decide (minus s)=neg)(am:e<=s.size)(hT:rd T=((tv:Int),0,0))(al:T.size<=300)(ht:fw 400 (tv:Nat))(g0:¬bR s e 47)(g:¬bR s e 46){f:Nat}(hf:f=e){P:ByteArray}(ag:P=⟨#[]⟩)(ap:P.size=0)(ad:∀i,i<P.size->bI P i)(an:f<=s.size)(ac:gm 300 s=dC s (tv*10^P.size+nv P 0 P.size) P.size f)(x0:bR s f 101)(x1:¬bR s (f+1) 45)(x2:¬bR s (f+1) 43):vc ay9 C (kQ 1 (bh 5 readBody)) (xA s T neg e none) (jM C (IA s) Q) (jM C (IA s) Q):=by
 simp only[readBody,aBs,ayj,ah,ab,aN,aL];simp[xA,MR];subst hf;subst ag;refine bP s f 47 (by simp[aA,bQ]) hs (by omega) (by simp) (λg'=>absurd g' g0) (λ_=>?_);simp;refine bP s f 46 (by simp[aA,bQ]) hs (by omega) (by simp) (λg'=>absurd g' g) (λ_=>?_);simp[bQ];have aq:=x0.1;refine bP s f 101 (by simp[aA,bQ]) hs (by omega) (by simp) (λ_=>?_) (λg'=>absurd x0 g');simp[bQ];have hb:cz s f=f+1:=by unfold cz;rw[if_neg (λh=>h.elim x1 x2)]
 refine bP s (f+1) 45 (by simp[aA,bQ]) hs (by omega) (by simp) (λg'=>absurd g' x1) (λ_=>?_);simp[];refine bP s (f+1) 43 (by simp[aA,bQ]) hs (by omega) (by simp) (λg'=>absurd g' x2) (λ_=>?_);simp[];refine cZ s (f+1) (by simp[aA,bQ]) hs (by omega) (by simp) (λk1=>?_) (λk1=>?_) (λk1 k2=>?_)
 ·have hq:gm 300 s=(0,2,f+1+300):=by rw[ac];unfold dC;rw[if_pos x0,hb,if_pos k1]
  simp[bQ];exact⟨_,IA.yF (T:=T) (P:=⟨#[]⟩) (a:=f+1+300) (pa:=f+1) (neg:=neg) (up:=true) (by omega) (by omega) (by omega) ad hq rfl,by simp[aP,hC,MR,nK,bQ,z4]⟩
 ·have hq:gm 300 s=(0,1,f+1):=by rw[ac];unfold dC;rw[if_pos x0,hb,if_neg (by omega),if_pos (.inl k1),k1]
  simp[bQ];exact⟨_,IA.yF (T:=T) (P:=⟨#[]⟩) (a:=f+1) (pa:=f+1) (neg:=neg) (up:=true) (by omega) (by omega) (by omega) ad hq rfl,by simp[aP,hC,MR,nK,bQ,z4]⟩
 ·obtain⟨c,hc⟩:∃c,c=aK s (f+1):=⟨_,rfl⟩;have aa:=fy (s:=s) (a:=f+1) (by omega);have ai:=λi (h1:f+1<=i) (h2:i<c)=>dv (s:=s) (a:=f+1) h1 (hc ▸ h2);rw[<-hc]at k1 k2 aa;have ae:=eF s (a:=f+1) aa;have af:=jH s (a:=f+1) aa (c - (f+1)) (by omega);rw[<-ae]at af;have aj:=iS aa ai;rw[<-hc];generalize s.extract (f+1) c=W at *;rw[ae]at af;have ak:W.size<=400:=by omega
  have fin:=wR (P:=⟨#[]⟩) (W:=W) (tv:=tv) (up:=true) hn aa x0 hb (by simp[x1]) hc.symm k2 k1 (by rw[ae];exact af);rw[<-ac]at fin;simp[bQ];exact⟨_,⟨T,⟨#[]⟩,⟨#[]⟩,W,c,0,f+1,none,neg,true,tv,1,by simp,λ_=>hT,by omega,by omega,ad,Mh,ht,.inl ⟨rfl,rfl⟩,aj,ak,fin,rfl⟩,by simp[aP,hC,MR,bQ,z4]⟩
end Go.Proofs


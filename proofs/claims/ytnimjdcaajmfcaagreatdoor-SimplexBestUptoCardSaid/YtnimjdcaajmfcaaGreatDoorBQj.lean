/- A text of the prover's own. -/
import Derived.Test.YtnimjdcaajmfcaaGreatDoorBQi
open Nat renaming zero_le->ave,not_lt_zero->atZ
open Bool renaming false_eq_true->avg,false_and->avh
open Go.Proofs.Tryz renaming prog->awW,f110->axp
open Option renaming getD_some->ate
set_option maxRecDepth 20000
namespace Go.Proofs
open Go.Sv Go Go.Pl
theorem E6(s:ByteArray){a b i:Nat}(h:a+i<b)(hb:b<=s.size):eH (s.extract a b) i=eH s (a+i):=by unfold eH;have hs:s.data.size=s.size:=rfl;rw[ByteArray.data_extract,Array.getD_eq_getD_getElem?,Array.getD_eq_getD_getElem?,Array.getElem?_extract];rw[if_pos (by omega)]
theorem dZ(s:ByteArray){a b:Nat}(hb:b<=s.size):(s.extract a b).size=b - a:=by simp;omega
theorem jr(s:ByteArray){a b:Nat}(hb:b<=s.size):∀k,a+k<=b->nv (s.extract a b) 0 k=nv s a k
 | 0,_=>rfl
 | k+1,h=>by simp only[nv,Nat.zero_add,jS];rw[jr s hb k (by omega),E6 s (by omega) hb]
theorem hO{s:ByteArray}{a b:Nat}(hb:b<=s.size)(h:∀i,a<=i->i<b->bA s i):∀i,i<(s.extract a b).size->bA (s.extract a b) i:=λi hi=>by refine⟨hi,?_⟩;rw[dZ s hb]at hi;unfold jS;rw[E6 s (by omega) hb];exact(h (a+i) (by omega) (by omega)).2
theorem Ai{t:ByteArray}(h:∀i,i<t.size->bA t i)(h0:0<t.size)(h1:t.size<=300):rd t=(((nv t 0 t.size:Nat):Int),0,0):=by
 have hm:¬minus t:=λhm=>by have:=(h 0 h0).2.1;have:=hm.2;omega
 have hs:au t=0:=by simp[au,hm]
 have hd:aJ t 0=t.size:=mj (ave _) (λi _ hi=>h i hi) (λh'=>by have:=h'.1;omega);unfold rd;rw[hs,hd,if_neg (by omega),if_neg (by omega),if_neg hm];simp
theorem Sd{s:ByteArray}{a b:Nat}(hb:b<=s.size)(h:a<b):s.extract a b≠⟨#[]⟩:=λe=>by have:=dZ s (a:=a) hb;rw[e]at this;have e0:(⟨#[]⟩:ByteArray).size=0:=rfl;omega
set_option exponentiation.threshold 1000 in
theorem KX{s:ByteArray}{a k:Nat}(h:∀i,a<=i->i<a+k->bA s i)(hk:k<=400):fw 400 (nv s a k:Nat):=by have:=vS h;exact fQ (k:=100) (QN (y:=((10^k:Nat):Int)) (by simp only[Int.natAbs_natCast];omega) (pq hk)) (by omega)
def z3(r:Rat × Nat × Nat):SV:=.bP [aU r.1,lg r.2.1 r.2.2]
@[simp] theorem E9(e:Nat × Nat)(b:Bool)(c p:Nat):j5 (some e) b c p=some e:=rfl
theorem jI(c p:Nat)(v:Rat)(hc:c≠0):pH (some (c,p)) v=z3 (0,c,p):=by simp[pH,z3,lg,hc]
theorem uj(v:Rat)(p:Nat):pH none v=z3 (v,0,p):=by simp[pH,z3,lg]
def IA(s:ByteArray)(st:St):Prop:=∃(T P Lw Pw:ByteArray) (a la pa:Nat) (E:Option (Nat × Nat)) (neg up:Bool) (t d:Nat),
 (∀c p,E=some (c,p)->c=1∨c=2∨c=3)∧(E=none->rd T=((t:Int),0,0))∧T.size<=400∧P.size<=400∧(∀i,i<P.size->bA P i)∧fw 400 d∧fw 400 t ∧
  ((Lw=⟨#[]⟩∧d=1)∨(Lw≠⟨#[]⟩∧rd Lw=((d:Int),0,0)∧Lw.size<=400))∧(∀i,i<Pw.size->bA Pw i)∧Pw.size<=400 ∧
  pH (j5 (j5 (j5 E (decide (a<s.size)) 1 a) (decide (60<nv Pw 0 Pw.size)) 2 pa) (decide (Lw≠⟨#[]⟩)&&decide (d=0)) 3 la) (sw neg up t P (min (nv Pw 0 Pw.size) 61) d)=z3 (fy 300 s) ∧
  st=⟨151,[(0,.val (.string s)),(2,.ptr 0 0 0),(3,.val .nilIface),(4,.ptr 1 0 0),(5,.val (.bool neg)),(6,.val (.string T)),(7,.val (.string P)),(8,.val (.string Lw)),(9,.val (.string Pw)),(10,.val (.bool up)),(11,.val (.int .i64 la)),(12,.val (.int .i64 pa))],MR s a E⟩
theorem JV:fw 400 ((1:Nat):Int):=k7 (by omega)
theorem IA.err{s T:ByteArray}{a la pa:Nat}{c p:Nat}{neg up:Bool}{st:St}(hc:c=1∨c=2∨c=3)(hT:T.size<=400)(hq:fy 300 s=(0,c,p))
  (h:st=⟨151,[(0,.val (.string s)),(2,.ptr 0 0 0),(3,.val .nilIface),(4,.ptr 1 0 0),(5,.val (.bool neg)),(6,.val (.string T)),(7,.val (.string ⟨#[]⟩)),(8,.val (.string ⟨#[]⟩)),(9,.val (.string ⟨#[]⟩)),(10,.val (.bool up)),(11,.val (.int .i64 la)),(12,.val (.int .i64 pa))],MR s a (some (c,p))⟩):IA s st :=
 ⟨T,⟨#[]⟩,⟨#[]⟩,⟨#[]⟩,a,la,pa,some (c,p),neg,up,0,1,λc' p' h'=>by simp only[Option.some.injEq,Prod.mk.injEq]at h';omega,λh'=>(by cases h'),hT,ave _,λi hi=>absurd hi (atZ _),JV,jK _,.inl ⟨rfl,rfl⟩,
  λi hi=>absurd hi (atZ _),ave _,by simp only[E9];rw[jI _ _ _ (by omega),hq],h⟩
theorem vt:(⟨#[]⟩:ByteArray).size=0:=rfl
theorem Ug:nv ⟨#[]⟩ 0 (⟨#[]⟩:ByteArray).size=0:=rfl
theorem ua(Q:Nat->Prop):∀i,i<(⟨#[]⟩:ByteArray).size->Q i:=λi hi=>absurd hi (atZ _)
theorem jO{s:ByteArray}{neg:Bool}(h:decide (minus s)=neg)(n:Nat):jc s n=if neg=true then -(n:Int) else(n:Int):=by unfold jc;rw[<-h];by_cases hm:minus s<;>simp[hm]
theorem KH{s Lw:ByteArray}{e b tv d:Nat}{neg:Bool}(hn:decide (minus s)=neg)(hL:Lw≠⟨#[]⟩)(ao:b<=s.size)(hb:e+1<b)(hd:d=nv s (e+1) (b - (e+1))) :
  pH (j5 (j5 (j5 none (decide (b<s.size)) 1 b) (decide (60<nv ⟨#[]⟩ 0 (⟨#[]⟩:ByteArray).size)) 2 0) (decide (Lw≠⟨#[]⟩)&&decide (d=0)) 3 (e+1)) (sw neg true tv ⟨#[]⟩ (min (nv ⟨#[]⟩ 0 (⟨#[]⟩:ByteArray).size) 61) d) =
   z3 (if b=e+1∨b<s.size then(0,1,b) else if nv s (e+1) (s.size - (e+1))=0 then(0,3,e+1) else(Rat.divInt (jc s tv) (nv s (e+1) (s.size - (e+1)):Int),0,0)):=by
 rw[Ug];by_cases l1:b<s.size
 ·rw[if_pos (.inr l1)];simp only[j5,l1,decide_true,if_true];exact jI _ _ _ (by omega)
 ·rw[if_neg (show ¬(b=e+1∨b<s.size) by omega),show s.size - (e+1)=b - (e+1) by omega,<-hd];by_cases l2:d=0
  ·simp only[j5,l1,l2,hL,if_true,decide_false,avg,if_false,atZ,ne_eq,not_false_eq_true,decide_true,Bool.and_self];exact jI _ _ _ (by omega)
  ·simp only[j5,l1,l2,hL,if_false,decide_false,avg,atZ,ne_eq,not_false_eq_true,decide_true,Bool.and_false];rw[uj _ 0,jO hn];unfold sw;simp[vt,nv]
theorem Fo{s P:ByteArray}{e tv:Nat}{neg:Bool}(hn:decide (minus s)=neg)(he:e<=s.size)(g:¬bK s e 101) :
  pH (j5 (j5 (j5 none (decide (e<s.size)) 1 e) (decide (60<nv ⟨#[]⟩ 0 (⟨#[]⟩:ByteArray).size)) 2 0) (decide ((⟨#[]⟩:ByteArray)≠⟨#[]⟩)&&decide ((1:Nat)=0)) 3 0) (sw neg true tv P (min (nv ⟨#[]⟩ 0 (⟨#[]⟩:ByteArray).size) 61) 1) =
   z3 (da s (tv*10^P.size+nv P 0 P.size) P.size e):=by
 rw[Ug];unfold da;rw[if_neg g];by_cases l1:e<s.size
 ·rw[if_pos l1];simp only[j5,l1,decide_true,if_true];exact jI _ _ _ (by omega)
 ·rw[if_neg l1];simp only[j5,l1,if_false,decide_false,avg,atZ,ne_eq,not_true,avh];rw[uj _ 0,jO hn];unfold sw;simp
theorem uV{s P W:ByteArray}{e b c tv:Nat}{neg up:Bool}(hn:decide (minus s)=neg)(aa:c<=s.size)(g:bK s e 101)(hb:ch s e=b)(hu:up=true↔¬bK s (e+1) 45)(hc:aJ s b=c)(aC:b<c)(h3:¬b+300<c)(hW:nv W 0 W.size=nv s b (c - b)) :
  pH (j5 (j5 (j5 none (decide (c<s.size)) 1 c) (decide (60<nv W 0 W.size)) 2 b) (decide ((⟨#[]⟩:ByteArray)≠⟨#[]⟩)&&decide ((1:Nat)=0)) 3 0) (sw neg up tv P (min (nv W 0 W.size) 61) 1) =
   z3 (da s (tv*10^P.size+nv P 0 P.size) P.size e):=by
 unfold da;rw[if_pos g,hb,hc,if_neg h3,hW];by_cases l1:c<s.size
 ·rw[if_pos (.inr l1)];simp only[j5,l1,decide_true,if_true];exact jI _ _ _ (by omega)
 ·rw[if_neg (show ¬(c=b∨c<s.size) by omega),show s.size - b=c - b by omega];generalize nv s b (c - b)=x at *;by_cases l2:60<x
  ·rw[if_pos l2];simp only[j5,l1,l2,if_true,decide_false,avg,if_false,decide_true];exact jI _ _ _ (by omega)
  ·rw[if_neg l2];simp only[j5,l1,l2,if_false,decide_false,avg,ne_eq,not_true,avh];rw[uj _ 0,show min x 61=x by omega];unfold sw;cases up with
   | true =>
    rw[if_neg (hu.1 rfl),jO hn];simp
   | false =>
    rw[if_pos (show bK s (e+1) 45 from Classical.byContradiction λh=>by have:=hu.2 h;cases this),jO hn];simp[Nat.pow_add]
def uT(s T:ByteArray)(neg:Bool)(a:Nat)(E:Option (Nat × Nat)):St:=⟨151,[(0,.val (.string s)),(2,.ptr 0 0 0),(3,.val .nilIface),(4,.ptr 1 0 0),(5,.val (.bool neg)),(6,.val (.string T)),(7,.val (.string ⟨#[]⟩)),(8,.val (.string ⟨#[]⟩)),(9,.val (.string ⟨#[]⟩)),(10,.val (.bool true)),(11,.val (.int .i64 0)),(12,.val (.int .i64 0))],MR s a E⟩
theorem IA.wi{s T P:ByteArray}{a pa:Nat}{c p:Nat}{neg up:Bool}{st:St}(hc:c=1∨c=2∨c=3)(hT:T.size<=400)(hP:P.size<=400)(ac:∀i,i<P.size->bA P i)(hq:fy 300 s=(0,c,p))
  (h:st=⟨151,[(0,.val (.string s)),(2,.ptr 0 0 0),(3,.val .nilIface),(4,.ptr 1 0 0),(5,.val (.bool neg)),(6,.val (.string T)),(7,.val (.string P)),(8,.val (.string ⟨#[]⟩)),(9,.val (.string ⟨#[]⟩)),(10,.val (.bool up)),(11,.val (.int .i64 0)),(12,.val (.int .i64 pa))],MR s a (some (c,p))⟩):IA s st :=
 ⟨T,P,⟨#[]⟩,⟨#[]⟩,a,0,pa,some (c,p),neg,up,0,1,λc' p' h'=>by simp only[Option.some.injEq,Prod.mk.injEq]at h';omega,λh'=>(by cases h'),hT,hP,ac,JV,jK _,.inl ⟨rfl,rfl⟩,
  ua _,ave _,by simp only[E9];rw[jI _ _ _ (by omega),hq],h⟩
theorem Mc{C:Ctx}{Q:bf}(hC:C.fx=[]){s T:ByteArray}{neg:Bool}{a c p:Nat}(al:T.size<=300)(hc:c=1∨c=2∨c=3)(hq:fy 300 s=(0,c,p)):vc awW C (jW 1 (bs 5 readBody)) (uT s T neg a (some (c,p))) (jl C (IA s) Q) (jl C (IA s) Q):=by simp only[readBody,axp,ate,ai,ah,aN,aM];simp[uT,MR];refine x8 s a 47 (k2:=2) (by simp[aA,bH]) (by simp) ?_;simp;refine x8 s a 46 (k2:=2) (by simp[aA,bH]) (by simp) ?_;simp;refine x8 s a 101 (k2:=2) (by simp[aA,bH]) (by simp) ?_;simp;exact⟨_,IA.err (T:=T) (a:=a) (la:=0) (pa:=0) (neg:=neg) (up:=true) hc (by omega) hq rfl,by simp[aR,hC,MR,mA,bH,z4]⟩
theorem Gy{C:Ctx}{Q:bf}(hC:C.fx=[]){s T:ByteArray}{neg:Bool}{e tv:Nat}(hs:s.size<=4611686018427387904)(hn:decide (minus s)=neg)(am:e<=s.size)(hT:rd T=((tv:Int),0,0))(al:T.size<=300)(ht:fw 400 (tv:Nat))(g:bK s e 47)
  (ab:fy 300 s=if e+1+300<aJ s (e+1) then(0,2,e+1+300) else if aJ s (e+1)=e+1∨aJ s (e+1)<s.size then(0,1,aJ s (e+1)) else if nv s (e+1) (s.size - (e+1))=0 then(0,3,e+1) else(Rat.divInt (jc s tv) (nv s (e+1) (s.size - (e+1)):Int),0,0)):vc awW C (jW 1 (bs 5 readBody)) (uT s T neg e none) (jl C (IA s) Q) (jl C (IA s) Q):=by
 simp only[readBody,axp,ate,ai,ah,aN,aM];simp[uT,MR];have hg:=g.1;refine bI s e 47 (by simp[aA,bH]) hs (by omega) (by simp) (λ_=>?_) (λg'=>absurd g g');simp[bH];refine cQ s (e+1) (by simp[aA,bH]) hs (by omega) (by simp) (λk1=>?_) (λk1=>?_) (λk1 k2=>?_)
 ·have hq:fy 300 s=(0,2,e+1+300):=by rw[ab,if_pos k1]
  simp;exact⟨_,IA.err (T:=T) (a:=e+1+300) (la:=e+1) (pa:=0) (neg:=neg) (up:=true) (by omega) (by omega) hq rfl,by simp[aR,hC,MR,mA,bH,z4]⟩
 ·have hq:fy 300 s=(0,1,e+1):=by rw[ab,if_neg (by omega),if_pos (.inl k1),k1]
  simp;exact⟨_,IA.err (T:=T) (a:=e+1) (la:=e+1) (pa:=0) (neg:=neg) (up:=true) (by omega) (by omega) hq rfl,by simp[aR,hC,MR,mA,bH,z4]⟩
 ·obtain⟨b,hb⟩:∃b,b=aJ s (e+1):=⟨_,rfl⟩;have ao:=eY (s:=s) (a:=e+1) (by omega);have ax:=λi (h1:e+1<=i) (h2:i<b)=>di (s:=s) (a:=e+1) h1 (hb ▸ h2);rw[<-hb]at k1 k2 ao ab;rw[if_neg k1]at ab;have az:=dZ s (a:=e+1) ao;have hL:=Ai (hO ao ax) (by omega) (by omega);rw[az,jr s ao _ (by omega)]at hL;have hd:fw 400 (nv s (e+1) (b - (e+1)):Nat):=KX (λi i1 i2=>ax i i1 (by omega)) (by omega);have ay:=Sd ao (show e+1<b by omega);rw[<-hb];have aB:(s.extract (e+1) b).size<=400:=by omega
  have fin:=KH (tv:=tv) hn ay ao (by omega) (d:=nv s (e+1) (b - (e+1))) rfl;rw[<-ab]at fin;generalize s.extract (e+1) b=Lw at *;simp;exact⟨_,⟨T,⟨#[]⟩,Lw,⟨#[]⟩,b,e+1,0,none,neg,true,tv,nv s (e+1) (b - (e+1)),by simp,λ_=>hT,by omega,ave _,ua _,hd,ht,.inr ⟨ay,hL,aB⟩,ua _,ave _,fin,rfl⟩,by simp[aR,hC,MR,bH,z4]⟩
theorem JH{C:Ctx}{Q:bf}(hC:C.fx=[]){s T:ByteArray}{neg:Bool}{e tv:Nat}(hs:s.size<=4611686018427387904)(hn:decide (minus s)=neg)(am:e<=s.size)(hT:rd T=((tv:Int),0,0))(al:T.size<=300)(ht:fw 400 (tv:Nat))(g0:¬bK s e 47)(g:bK s e 46)(hk:e+1+300<aJ s (e+1)∨aJ s (e+1)=e+1)
  (ab:fy 300 s=if e+1+300<aJ s (e+1) then(0,2,e+1+300) else if aJ s (e+1)=e+1 then(0,1,e+1) else da s (tv*10^(aJ s (e+1) - (e+1))+nv s (e+1) (aJ s (e+1) - (e+1))) (aJ s (e+1) - (e+1)) (aJ s (e+1))):vc awW C (jW 1 (bs 5 readBody)) (uT s T neg e none) (jl C (IA s) Q) (jl C (IA s) Q):=by
 simp only[readBody,axp,ate,ai,ah,aN,aM];simp[uT,MR];have hg:=g.1;refine bI s e 47 (by simp[aA,bH]) hs (by omega) (by simp) (λg'=>absurd g' g0) (λ_=>?_);simp;refine bI s e 46 (by simp[aA,bH]) hs (by omega) (by simp) (λ_=>?_) (λg'=>absurd g g');simp[bH];refine cQ s (e+1) (by simp[aA,bH]) hs (by omega) (by simp) (λk1=>?_) (λk1=>?_) (λk1 k2=>by omega)
 ·have hq:fy 300 s=(0,2,e+1+300):=by rw[ab,if_pos k1]
  simp;refine x8 s (e+1+300) 101 (k2:=2) (by simp[aA,bH]) (by simp) ?_;simp;exact⟨_,IA.err (T:=T) (a:=e+1+300) (la:=0) (pa:=0) (neg:=neg) (up:=true) (by omega) (by omega) hq rfl,by simp[aR,hC,MR,mA,bH,z4]⟩
 ·have hq:fy 300 s=(0,1,e+1):=by rw[ab,if_neg (by omega),if_pos k1]
  simp;refine x8 s (e+1) 101 (k2:=2) (by simp[aA,bH]) (by simp) ?_;simp;exact⟨_,IA.err (T:=T) (a:=e+1) (la:=0) (pa:=0) (neg:=neg) (up:=true) (by omega) (by omega) hq rfl,by simp[aR,hC,MR,mA,bH,z4]⟩
theorem Nx{C:Ctx}{Q:bf}(hC:C.fx=[]){s T:ByteArray}{neg:Bool}{e tv:Nat}(hs:s.size<=4611686018427387904)(hn:decide (minus s)=neg)(am:e<=s.size)(hT:rd T=((tv:Int),0,0))(al:T.size<=300)(ht:fw 400 (tv:Nat))(g0:¬bK s e 47)(g:bK s e 46)(ar:¬e+1+300<aJ s (e+1))(av:e+1<aJ s (e+1)){f:Nat}(hf:f=aJ s (e+1)){P:ByteArray}(af:P=s.extract (e+1) f)(ap:P.size=f - (e+1))(ac:∀i,i<P.size->bA P i)(an:f<=s.size)(ab:fy 300 s=da s (tv*10^P.size+nv P 0 P.size) P.size f)(x0:¬bK s f 101):vc awW C (jW 1 (bs 5 readBody)) (uT s T neg e none) (jl C (IA s) Q) (jl C (IA s) Q):=by simp only[readBody,axp,ate,ai,ah,aN,aM];simp[uT,MR];have hg:=g.1;refine bI s e 47 (by simp[aA,bH]) hs (by omega) (by simp) (λg'=>absurd g' g0) (λ_=>?_);simp;refine bI s e 46 (by simp[aA,bH]) hs (by omega) (by simp) (λ_=>?_) (λg'=>absurd g g');simp[bH];refine cQ s (e+1) (by simp[aA,bH]) hs (by omega) (by simp) (λk1=>by omega) (λk1=>by omega) (λ_ _=>?_);rw[<-hf,<-af];simp[bH];refine bI s f 101 (by simp[aA,bH]) hs (by omega) (by simp) (λg'=>absurd g' x0) (λ_=>?_);have fin:=Fo (P:=P) (tv:=tv) hn an x0;rw[<-ab]at fin;simp;exact⟨_,⟨T,P,⟨#[]⟩,⟨#[]⟩,f,0,0,none,neg,true,tv,1,by simp,λ_=>hT,by omega,by omega,ac,JV,ht,.inl ⟨rfl,rfl⟩,ua _,ave _,fin,rfl⟩,by simp[aR,hC,MR,bH,z4]⟩
theorem Lp{C:Ctx}{Q:bf}(hC:C.fx=[]){s T:ByteArray}{neg:Bool}{e tv:Nat}(hs:s.size<=4611686018427387904)(hn:decide (minus s)=neg)(am:e<=s.size)(hT:rd T=((tv:Int),0,0))(al:T.size<=300)(ht:fw 400 (tv:Nat))(g0:¬bK s e 47)(g:bK s e 46)(ar:¬e+1+300<aJ s (e+1))(av:e+1<aJ s (e+1)){f:Nat}(hf:f=aJ s (e+1)){P:ByteArray}(af:P=s.extract (e+1) f)(ap:P.size=f - (e+1))(ac:∀i,i<P.size->bA P i)(an:f<=s.size)(ab:fy 300 s=da s (tv*10^P.size+nv P 0 P.size) P.size f)(x0:bK s f 101)(x1:bK s (f+1) 45):vc awW C (jW 1 (bs 5 readBody)) (uT s T neg e none) (jl C (IA s) Q) (jl C (IA s) Q):=by
 simp only[readBody,axp,ate,ai,ah,aN,aM];simp[uT,MR];have hg:=g.1;refine bI s e 47 (by simp[aA,bH]) hs (by omega) (by simp) (λg'=>absurd g' g0) (λ_=>?_);simp;refine bI s e 46 (by simp[aA,bH]) hs (by omega) (by simp) (λ_=>?_) (λg'=>absurd g g');simp[bH];refine cQ s (e+1) (by simp[aA,bH]) hs (by omega) (by simp) (λk1=>by omega) (λk1=>by omega) (λ_ _=>?_);rw[<-hf,<-af];simp[bH];have aq:=x0.1;refine bI s f 101 (by simp[aA,bH]) hs (by omega) (by simp) (λ_=>?_) (λg'=>absurd x0 g');simp[bH];have aw:=x1.1;have hb:ch s f=f+1+1:=by unfold ch;rw[if_pos (.inl x1)]
 refine bI s (f+1) 45 (by simp[aA,bH]) hs (by omega) (by simp) (λ_=>?_) (λg'=>absurd x1 g');simp[bH];refine cQ s (f+1+1) (by simp[aA,bH]) hs (by omega) (by simp) (λk1=>?_) (λk1=>?_) (λk1 k2=>?_)
 ·have hq:fy 300 s=(0,2,f+1+1+300):=by rw[ab];unfold da;rw[if_pos x0,hb,if_pos k1]
  simp[bH];exact⟨_,IA.wi (T:=T) (P:=P) (a:=f+1+1+300) (pa:=f+1+1) (neg:=neg) (up:=false) (by omega) (by omega) (by omega) ac hq rfl,by simp[aR,hC,MR,mA,bH,z4]⟩
 ·have hq:fy 300 s=(0,1,f+1+1):=by rw[ab];unfold da;rw[if_pos x0,hb,if_neg (by omega),if_pos (.inl k1),k1]
  simp[bH];exact⟨_,IA.wi (T:=T) (P:=P) (a:=f+1+1) (pa:=f+1+1) (neg:=neg) (up:=false) (by omega) (by omega) (by omega) ac hq rfl,by simp[aR,hC,MR,mA,bH,z4]⟩
 ·obtain⟨c,hc⟩:∃c,c=aJ s (f+1+1):=⟨_,rfl⟩;have aa:=eY (s:=s) (a:=f+1+1) (by omega);have ag:=λi (h1:f+1+1<=i) (h2:i<c)=>di (s:=s) (a:=f+1+1) h1 (hc ▸ h2);rw[<-hc]at k1 k2 aa;have ad:=dZ s (a:=f+1+1) aa;have ae:=jr s (a:=f+1+1) aa (c - (f+1+1)) (by omega);rw[<-ad]at ae;have aj:=hO aa ag;rw[<-hc];generalize s.extract (f+1+1) c=W at *;rw[ad]at ae;have ak:W.size<=400:=by omega
  have fin:=uV (P:=P) (W:=W) (tv:=tv) (up:=false) hn aa x0 hb (by simp[x1]) hc.symm k2 k1 (by rw[ad];exact ae);rw[<-ab]at fin;simp[bH];exact⟨_,⟨T,P,⟨#[]⟩,W,c,0,f+1+1,none,neg,false,tv,1,by simp,λ_=>hT,by omega,by omega,ac,JV,ht,.inl ⟨rfl,rfl⟩,aj,ak,fin,rfl⟩,by simp[aR,hC,MR,bH,z4]⟩
theorem MJ{C:Ctx}{Q:bf}(hC:C.fx=[]){s T:ByteArray}{neg:Bool}{e tv:Nat}(hs:s.size<=4611686018427387904)(hn:decide (minus s)=neg)(am:e<=s.size)(hT:rd T=((tv:Int),0,0))(al:T.size<=300)(ht:fw 400 (tv:Nat))(g0:¬bK s e 47)(g:bK s e 46)(ar:¬e+1+300<aJ s (e+1))(av:e+1<aJ s (e+1)){f:Nat}(hf:f=aJ s (e+1)){P:ByteArray}(af:P=s.extract (e+1) f)(ap:P.size=f - (e+1))(ac:∀i,i<P.size->bA P i)(an:f<=s.size)(ab:fy 300 s=da s (tv*10^P.size+nv P 0 P.size) P.size f)(x0:bK s f 101)(x1:¬bK s (f+1) 45)(x2:bK s (f+1) 43):vc awW C (jW 1 (bs 5 readBody)) (uT s T neg e none) (jl C (IA s) Q) (jl C (IA s) Q):=by
 simp only[readBody,axp,ate,ai,ah,aN,aM];simp[uT,MR];have hg:=g.1;refine bI s e 47 (by simp[aA,bH]) hs (by omega) (by simp) (λg'=>absurd g' g0) (λ_=>?_);simp;refine bI s e 46 (by simp[aA,bH]) hs (by omega) (by simp) (λ_=>?_) (λg'=>absurd g g');simp[bH];refine cQ s (e+1) (by simp[aA,bH]) hs (by omega) (by simp) (λk1=>by omega) (λk1=>by omega) (λ_ _=>?_);rw[<-hf,<-af];simp[bH];have aq:=x0.1;refine bI s f 101 (by simp[aA,bH]) hs (by omega) (by simp) (λ_=>?_) (λg'=>absurd x0 g');simp[bH];have aw:=x2.1;have hb:ch s f=f+1+1:=by unfold ch;rw[if_pos (.inr x2)]
 refine bI s (f+1) 45 (by simp[aA,bH]) hs (by omega) (by simp) (λg'=>absurd g' x1) (λ_=>?_);simp[];refine bI s (f+1) 43 (by simp[aA,bH]) hs (by omega) (by simp) (λ_=>?_) (λg'=>absurd x2 g');simp[bH];refine cQ s (f+1+1) (by simp[aA,bH]) hs (by omega) (by simp) (λk1=>?_) (λk1=>?_) (λk1 k2=>?_)
 ·have hq:fy 300 s=(0,2,f+1+1+300):=by rw[ab];unfold da;rw[if_pos x0,hb,if_pos k1]
  simp[bH];exact⟨_,IA.wi (T:=T) (P:=P) (a:=f+1+1+300) (pa:=f+1+1) (neg:=neg) (up:=true) (by omega) (by omega) (by omega) ac hq rfl,by simp[aR,hC,MR,mA,bH,z4]⟩
 ·have hq:fy 300 s=(0,1,f+1+1):=by rw[ab];unfold da;rw[if_pos x0,hb,if_neg (by omega),if_pos (.inl k1),k1]
  simp[bH];exact⟨_,IA.wi (T:=T) (P:=P) (a:=f+1+1) (pa:=f+1+1) (neg:=neg) (up:=true) (by omega) (by omega) (by omega) ac hq rfl,by simp[aR,hC,MR,mA,bH,z4]⟩
 ·obtain⟨c,hc⟩:∃c,c=aJ s (f+1+1):=⟨_,rfl⟩;have aa:=eY (s:=s) (a:=f+1+1) (by omega);have ag:=λi (h1:f+1+1<=i) (h2:i<c)=>di (s:=s) (a:=f+1+1) h1 (hc ▸ h2);rw[<-hc]at k1 k2 aa;have ad:=dZ s (a:=f+1+1) aa;have ae:=jr s (a:=f+1+1) aa (c - (f+1+1)) (by omega);rw[<-ad]at ae;have aj:=hO aa ag;rw[<-hc];generalize s.extract (f+1+1) c=W at *;rw[ad]at ae;have ak:W.size<=400:=by omega
  have fin:=uV (P:=P) (W:=W) (tv:=tv) (up:=true) hn aa x0 hb (by simp[x1]) hc.symm k2 k1 (by rw[ad];exact ae);rw[<-ab]at fin;simp[bH];exact⟨_,⟨T,P,⟨#[]⟩,W,c,0,f+1+1,none,neg,true,tv,1,by simp,λ_=>hT,by omega,by omega,ac,JV,ht,.inl ⟨rfl,rfl⟩,aj,ak,fin,rfl⟩,by simp[aR,hC,MR,bH,z4]⟩
theorem KS{C:Ctx}{Q:bf}(hC:C.fx=[]){s T:ByteArray}{neg:Bool}{e tv:Nat}(hs:s.size<=4611686018427387904)(hn:decide (minus s)=neg)(am:e<=s.size)(hT:rd T=((tv:Int),0,0))(al:T.size<=300)(ht:fw 400 (tv:Nat))(g0:¬bK s e 47)(g:bK s e 46)(ar:¬e+1+300<aJ s (e+1))(av:e+1<aJ s (e+1)){f:Nat}(hf:f=aJ s (e+1)){P:ByteArray}(af:P=s.extract (e+1) f)(ap:P.size=f - (e+1))(ac:∀i,i<P.size->bA P i)(an:f<=s.size)(ab:fy 300 s=da s (tv*10^P.size+nv P 0 P.size) P.size f)(x0:bK s f 101)(x1:¬bK s (f+1) 45)(x2:¬bK s (f+1) 43):vc awW C (jW 1 (bs 5 readBody)) (uT s T neg e none) (jl C (IA s) Q) (jl C (IA s) Q):=by
 simp only[readBody,axp,ate,ai,ah,aN,aM];simp[uT,MR];have hg:=g.1;refine bI s e 47 (by simp[aA,bH]) hs (by omega) (by simp) (λg'=>absurd g' g0) (λ_=>?_);simp;refine bI s e 46 (by simp[aA,bH]) hs (by omega) (by simp) (λ_=>?_) (λg'=>absurd g g');simp[bH];refine cQ s (e+1) (by simp[aA,bH]) hs (by omega) (by simp) (λk1=>by omega) (λk1=>by omega) (λ_ _=>?_);rw[<-hf,<-af];simp[bH];have aq:=x0.1;refine bI s f 101 (by simp[aA,bH]) hs (by omega) (by simp) (λ_=>?_) (λg'=>absurd x0 g');simp[bH];have hb:ch s f=f+1:=by unfold ch;rw[if_neg (λh=>h.elim x1 x2)]
 refine bI s (f+1) 45 (by simp[aA,bH]) hs (by omega) (by simp) (λg'=>absurd g' x1) (λ_=>?_);simp[];refine bI s (f+1) 43 (by simp[aA,bH]) hs (by omega) (by simp) (λg'=>absurd g' x2) (λ_=>?_);simp[];refine cQ s (f+1) (by simp[aA,bH]) hs (by omega) (by simp) (λk1=>?_) (λk1=>?_) (λk1 k2=>?_)
 ·have hq:fy 300 s=(0,2,f+1+300):=by rw[ab];unfold da;rw[if_pos x0,hb,if_pos k1]
  simp[bH];exact⟨_,IA.wi (T:=T) (P:=P) (a:=f+1+300) (pa:=f+1) (neg:=neg) (up:=true) (by omega) (by omega) (by omega) ac hq rfl,by simp[aR,hC,MR,mA,bH,z4]⟩
 ·have hq:fy 300 s=(0,1,f+1):=by rw[ab];unfold da;rw[if_pos x0,hb,if_neg (by omega),if_pos (.inl k1),k1]
  simp[bH];exact⟨_,IA.wi (T:=T) (P:=P) (a:=f+1) (pa:=f+1) (neg:=neg) (up:=true) (by omega) (by omega) (by omega) ac hq rfl,by simp[aR,hC,MR,mA,bH,z4]⟩
 ·obtain⟨c,hc⟩:∃c,c=aJ s (f+1):=⟨_,rfl⟩;have aa:=eY (s:=s) (a:=f+1) (by omega);have ag:=λi (h1:f+1<=i) (h2:i<c)=>di (s:=s) (a:=f+1) h1 (hc ▸ h2);rw[<-hc]at k1 k2 aa;have ad:=dZ s (a:=f+1) aa;have ae:=jr s (a:=f+1) aa (c - (f+1)) (by omega);rw[<-ad]at ae;have aj:=hO aa ag;rw[<-hc];generalize s.extract (f+1) c=W at *;rw[ad]at ae;have ak:W.size<=400:=by omega
  have fin:=uV (P:=P) (W:=W) (tv:=tv) (up:=true) hn aa x0 hb (by simp[x1]) hc.symm k2 k1 (by rw[ad];exact ae);rw[<-ab]at fin;simp[bH];exact⟨_,⟨T,P,⟨#[]⟩,W,c,0,f+1,none,neg,true,tv,1,by simp,λ_=>hT,by omega,by omega,ac,JV,ht,.inl ⟨rfl,rfl⟩,aj,ak,fin,rfl⟩,by simp[aR,hC,MR,bH,z4]⟩
theorem LH{C:Ctx}{Q:bf}(hC:C.fx=[]){s T:ByteArray}{neg:Bool}{e tv:Nat}(hs:s.size<=4611686018427387904)(hn:decide (minus s)=neg)(am:e<=s.size)(hT:rd T=((tv:Int),0,0))(al:T.size<=300)(ht:fw 400 (tv:Nat))(g0:¬bK s e 47)(g:¬bK s e 46){f:Nat}(hf:f=e){P:ByteArray}(af:P=⟨#[]⟩)(ap:P.size=0)(ac:∀i,i<P.size->bA P i)(an:f<=s.size)(ab:fy 300 s=da s (tv*10^P.size+nv P 0 P.size) P.size f)(x0:¬bK s f 101):vc awW C (jW 1 (bs 5 readBody)) (uT s T neg e none) (jl C (IA s) Q) (jl C (IA s) Q):=by simp only[readBody,axp,ate,ai,ah,aN,aM];simp[uT,MR];subst hf;subst af;refine bI s f 47 (by simp[aA,bH]) hs (by omega) (by simp) (λg'=>absurd g' g0) (λ_=>?_);simp;refine bI s f 46 (by simp[aA,bH]) hs (by omega) (by simp) (λg'=>absurd g' g) (λ_=>?_);simp[bH];refine bI s f 101 (by simp[aA,bH]) hs (by omega) (by simp) (λg'=>absurd g' x0) (λ_=>?_);have fin:=Fo (P:=⟨#[]⟩) (tv:=tv) hn an x0;rw[<-ab]at fin;simp;exact⟨_,⟨T,⟨#[]⟩,⟨#[]⟩,⟨#[]⟩,f,0,0,none,neg,true,tv,1,by simp,λ_=>hT,by omega,by omega,ac,JV,ht,.inl ⟨rfl,rfl⟩,ua _,ave _,fin,rfl⟩,by simp[aR,hC,MR,bH,z4]⟩
theorem Nw{C:Ctx}{Q:bf}(hC:C.fx=[]){s T:ByteArray}{neg:Bool}{e tv:Nat}(hs:s.size<=4611686018427387904)(hn:decide (minus s)=neg)(am:e<=s.size)(hT:rd T=((tv:Int),0,0))(al:T.size<=300)(ht:fw 400 (tv:Nat))(g0:¬bK s e 47)(g:¬bK s e 46){f:Nat}(hf:f=e){P:ByteArray}(af:P=⟨#[]⟩)(ap:P.size=0)(ac:∀i,i<P.size->bA P i)(an:f<=s.size)(ab:fy 300 s=da s (tv*10^P.size+nv P 0 P.size) P.size f)(x0:bK s f 101)(x1:bK s (f+1) 45):vc awW C (jW 1 (bs 5 readBody)) (uT s T neg e none) (jl C (IA s) Q) (jl C (IA s) Q):=by
 simp only[readBody,axp,ate,ai,ah,aN,aM];simp[uT,MR];subst hf;subst af;refine bI s f 47 (by simp[aA,bH]) hs (by omega) (by simp) (λg'=>absurd g' g0) (λ_=>?_);simp;refine bI s f 46 (by simp[aA,bH]) hs (by omega) (by simp) (λg'=>absurd g' g) (λ_=>?_);simp[bH];have aq:=x0.1;refine bI s f 101 (by simp[aA,bH]) hs (by omega) (by simp) (λ_=>?_) (λg'=>absurd x0 g');simp[bH];have aw:=x1.1;have hb:ch s f=f+1+1:=by unfold ch;rw[if_pos (.inl x1)]
 refine bI s (f+1) 45 (by simp[aA,bH]) hs (by omega) (by simp) (λ_=>?_) (λg'=>absurd x1 g');simp[bH];refine cQ s (f+1+1) (by simp[aA,bH]) hs (by omega) (by simp) (λk1=>?_) (λk1=>?_) (λk1 k2=>?_)
 ·have hq:fy 300 s=(0,2,f+1+1+300):=by rw[ab];unfold da;rw[if_pos x0,hb,if_pos k1]
  simp[bH];exact⟨_,IA.wi (T:=T) (P:=⟨#[]⟩) (a:=f+1+1+300) (pa:=f+1+1) (neg:=neg) (up:=false) (by omega) (by omega) (by omega) ac hq rfl,by simp[aR,hC,MR,mA,bH,z4]⟩
 ·have hq:fy 300 s=(0,1,f+1+1):=by rw[ab];unfold da;rw[if_pos x0,hb,if_neg (by omega),if_pos (.inl k1),k1]
  simp[bH];exact⟨_,IA.wi (T:=T) (P:=⟨#[]⟩) (a:=f+1+1) (pa:=f+1+1) (neg:=neg) (up:=false) (by omega) (by omega) (by omega) ac hq rfl,by simp[aR,hC,MR,mA,bH,z4]⟩
 ·obtain⟨c,hc⟩:∃c,c=aJ s (f+1+1):=⟨_,rfl⟩;have aa:=eY (s:=s) (a:=f+1+1) (by omega);have ag:=λi (h1:f+1+1<=i) (h2:i<c)=>di (s:=s) (a:=f+1+1) h1 (hc ▸ h2);rw[<-hc]at k1 k2 aa;have ad:=dZ s (a:=f+1+1) aa;have ae:=jr s (a:=f+1+1) aa (c - (f+1+1)) (by omega);rw[<-ad]at ae;have aj:=hO aa ag;rw[<-hc];generalize s.extract (f+1+1) c=W at *;rw[ad]at ae;have ak:W.size<=400:=by omega
  have fin:=uV (P:=⟨#[]⟩) (W:=W) (tv:=tv) (up:=false) hn aa x0 hb (by simp[x1]) hc.symm k2 k1 (by rw[ad];exact ae);rw[<-ab]at fin;simp[bH];exact⟨_,⟨T,⟨#[]⟩,⟨#[]⟩,W,c,0,f+1+1,none,neg,false,tv,1,by simp,λ_=>hT,by omega,by omega,ac,JV,ht,.inl ⟨rfl,rfl⟩,aj,ak,fin,rfl⟩,by simp[aR,hC,MR,bH,z4]⟩
theorem No{C:Ctx}{Q:bf}(hC:C.fx=[]){s T:ByteArray}{neg:Bool}{e tv:Nat}(hs:s.size<=4611686018427387904)(hn:decide (minus s)=neg)(am:e<=s.size)(hT:rd T=((tv:Int),0,0))(al:T.size<=300)(ht:fw 400 (tv:Nat))(g0:¬bK s e 47)(g:¬bK s e 46){f:Nat}(hf:f=e){P:ByteArray}(af:P=⟨#[]⟩)(ap:P.size=0)(ac:∀i,i<P.size->bA P i)(an:f<=s.size)(ab:fy 300 s=da s (tv*10^P.size+nv P 0 P.size) P.size f)(x0:bK s f 101)(x1:¬bK s (f+1) 45)(x2:bK s (f+1) 43):vc awW C (jW 1 (bs 5 readBody)) (uT s T neg e none) (jl C (IA s) Q) (jl C (IA s) Q):=by
 simp only[readBody,axp,ate,ai,ah,aN,aM];simp[uT,MR];subst hf;subst af;refine bI s f 47 (by simp[aA,bH]) hs (by omega) (by simp) (λg'=>absurd g' g0) (λ_=>?_);simp;refine bI s f 46 (by simp[aA,bH]) hs (by omega) (by simp) (λg'=>absurd g' g) (λ_=>?_);simp[bH];have aq:=x0.1;refine bI s f 101 (by simp[aA,bH]) hs (by omega) (by simp) (λ_=>?_) (λg'=>absurd x0 g');simp[bH];have aw:=x2.1;have hb:ch s f=f+1+1:=by unfold ch;rw[if_pos (.inr x2)]
 refine bI s (f+1) 45 (by simp[aA,bH]) hs (by omega) (by simp) (λg'=>absurd g' x1) (λ_=>?_);simp[];refine bI s (f+1) 43 (by simp[aA,bH]) hs (by omega) (by simp) (λ_=>?_) (λg'=>absurd x2 g');simp[bH];refine cQ s (f+1+1) (by simp[aA,bH]) hs (by omega) (by simp) (λk1=>?_) (λk1=>?_) (λk1 k2=>?_)
 ·have hq:fy 300 s=(0,2,f+1+1+300):=by rw[ab];unfold da;rw[if_pos x0,hb,if_pos k1]
  simp[bH];exact⟨_,IA.wi (T:=T) (P:=⟨#[]⟩) (a:=f+1+1+300) (pa:=f+1+1) (neg:=neg) (up:=true) (by omega) (by omega) (by omega) ac hq rfl,by simp[aR,hC,MR,mA,bH,z4]⟩
 ·have hq:fy 300 s=(0,1,f+1+1):=by rw[ab];unfold da;rw[if_pos x0,hb,if_neg (by omega),if_pos (.inl k1),k1]
  simp[bH];exact⟨_,IA.wi (T:=T) (P:=⟨#[]⟩) (a:=f+1+1) (pa:=f+1+1) (neg:=neg) (up:=true) (by omega) (by omega) (by omega) ac hq rfl,by simp[aR,hC,MR,mA,bH,z4]⟩
 ·obtain⟨c,hc⟩:∃c,c=aJ s (f+1+1):=⟨_,rfl⟩;have aa:=eY (s:=s) (a:=f+1+1) (by omega);have ag:=λi (h1:f+1+1<=i) (h2:i<c)=>di (s:=s) (a:=f+1+1) h1 (hc ▸ h2);rw[<-hc]at k1 k2 aa;have ad:=dZ s (a:=f+1+1) aa;have ae:=jr s (a:=f+1+1) aa (c - (f+1+1)) (by omega);rw[<-ad]at ae;have aj:=hO aa ag;rw[<-hc];generalize s.extract (f+1+1) c=W at *;rw[ad]at ae;have ak:W.size<=400:=by omega
  have fin:=uV (P:=⟨#[]⟩) (W:=W) (tv:=tv) (up:=true) hn aa x0 hb (by simp[x1]) hc.symm k2 k1 (by rw[ad];exact ae);rw[<-ab]at fin;simp[bH];exact⟨_,⟨T,⟨#[]⟩,⟨#[]⟩,W,c,0,f+1+1,none,neg,true,tv,1,by simp,λ_=>hT,by omega,by omega,ac,JV,ht,.inl ⟨rfl,rfl⟩,aj,ak,fin,rfl⟩,by simp[aR,hC,MR,bH,z4]⟩
theorem MV{C:Ctx}{Q:bf}(hC:C.fx=[]){s T:ByteArray}{neg:Bool}{e tv:Nat}(hs:s.size<=4611686018427387904)(hn:decide (minus s)=neg)(am:e<=s.size)(hT:rd T=((tv:Int),0,0))(al:T.size<=300)(ht:fw 400 (tv:Nat))(g0:¬bK s e 47)(g:¬bK s e 46){f:Nat}(hf:f=e){P:ByteArray}(af:P=⟨#[]⟩)(ap:P.size=0)(ac:∀i,i<P.size->bA P i)(an:f<=s.size)(ab:fy 300 s=da s (tv*10^P.size+nv P 0 P.size) P.size f)(x0:bK s f 101)(x1:¬bK s (f+1) 45)(x2:¬bK s (f+1) 43):vc awW C (jW 1 (bs 5 readBody)) (uT s T neg e none) (jl C (IA s) Q) (jl C (IA s) Q):=by
 simp only[readBody,axp,ate,ai,ah,aN,aM];simp[uT,MR];subst hf;subst af;refine bI s f 47 (by simp[aA,bH]) hs (by omega) (by simp) (λg'=>absurd g' g0) (λ_=>?_);simp;refine bI s f 46 (by simp[aA,bH]) hs (by omega) (by simp) (λg'=>absurd g' g) (λ_=>?_);simp[bH];have aq:=x0.1;refine bI s f 101 (by simp[aA,bH]) hs (by omega) (by simp) (λ_=>?_) (λg'=>absurd x0 g');simp[bH];have hb:ch s f=f+1:=by unfold ch;rw[if_neg (λh=>h.elim x1 x2)]
 refine bI s (f+1) 45 (by simp[aA,bH]) hs (by omega) (by simp) (λg'=>absurd g' x1) (λ_=>?_);simp[];refine bI s (f+1) 43 (by simp[aA,bH]) hs (by omega) (by simp) (λg'=>absurd g' x2) (λ_=>?_);simp[];refine cQ s (f+1) (by simp[aA,bH]) hs (by omega) (by simp) (λk1=>?_) (λk1=>?_) (λk1 k2=>?_)
 ·have hq:fy 300 s=(0,2,f+1+300):=by rw[ab];unfold da;rw[if_pos x0,hb,if_pos k1]
  simp[bH];exact⟨_,IA.wi (T:=T) (P:=⟨#[]⟩) (a:=f+1+300) (pa:=f+1) (neg:=neg) (up:=true) (by omega) (by omega) (by omega) ac hq rfl,by simp[aR,hC,MR,mA,bH,z4]⟩
 ·have hq:fy 300 s=(0,1,f+1):=by rw[ab];unfold da;rw[if_pos x0,hb,if_neg (by omega),if_pos (.inl k1),k1]
  simp[bH];exact⟨_,IA.wi (T:=T) (P:=⟨#[]⟩) (a:=f+1) (pa:=f+1) (neg:=neg) (up:=true) (by omega) (by omega) (by omega) ac hq rfl,by simp[aR,hC,MR,mA,bH,z4]⟩
 ·obtain⟨c,hc⟩:∃c,c=aJ s (f+1):=⟨_,rfl⟩;have aa:=eY (s:=s) (a:=f+1) (by omega);have ag:=λi (h1:f+1<=i) (h2:i<c)=>di (s:=s) (a:=f+1) h1 (hc ▸ h2);rw[<-hc]at k1 k2 aa;have ad:=dZ s (a:=f+1) aa;have ae:=jr s (a:=f+1) aa (c - (f+1)) (by omega);rw[<-ad]at ae;have aj:=hO aa ag;rw[<-hc];generalize s.extract (f+1) c=W at *;rw[ad]at ae;have ak:W.size<=400:=by omega
  have fin:=uV (P:=⟨#[]⟩) (W:=W) (tv:=tv) (up:=true) hn aa x0 hb (by simp[x1]) hc.symm k2 k1 (by rw[ad];exact ae);rw[<-ab]at fin;simp[bH];exact⟨_,⟨T,⟨#[]⟩,⟨#[]⟩,W,c,0,f+1,none,neg,true,tv,1,by simp,λ_=>hT,by omega,by omega,ac,JV,ht,.inl ⟨rfl,rfl⟩,aj,ak,fin,rfl⟩,by simp[aR,hC,MR,bH,z4]⟩
end Go.Proofs


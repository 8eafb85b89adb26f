/- A text of the prover's own. -/
import Derived.Test.YtmghjkkjaolpgaaGreatDoorWQi
open Nat renaming zero_le→anA,not_lt_zero→amo
open Bool renaming false_eq_true→anC,false_and→anD
open Option renaming getD_some→alE
set_option maxRecDepth 20000
namespace Go.Proofs
open Go.Sv Go Go.Pl
theorem Ak(s:ByteArray){a b i:Nat}(h:a+i<b)(hb:b≤s.size):ek (s.extract a b) i=ek s (a+i):=by
 unfold ek;have hs:s.data.size=s.size:=rfl;rw[ByteArray.data_extract,Array.getD_eq_getD_getElem?,Array.getD_eq_getD_getElem?,Array.getElem?_extract];rw[if_pos (by omega)]
theorem ef(s:ByteArray){a b:Nat}(hb:b≤s.size):(s.extract a b).size=b - a:=by simp;omega
theorem iK(s:ByteArray){a b:Nat}(hb:b≤s.size):∀k,a+k≤b→nv (s.extract a b) 0 k=nv s a k
 | 0,_=>rfl
 | k+1,h=>by
  simp only[nv,Nat.zero_add,kV];rw[iK s hb k (by omega),Ak s (by omega) hb]
theorem gC{s:ByteArray}{a b:Nat}(hb:b≤s.size)(h:∀i,a≤i→i<b→bV s i):∀i,i<(s.extract a b).size→bV (s.extract a b) i:=fun i hi=>by
 refine⟨hi,?_⟩;rw[ef s hb]at hi;unfold kV;rw[Ak s (by omega) hb];exact(h (a+i) (by omega) (by omega)).2
theorem xj{t:ByteArray}(h:∀i,i<t.size→bV t i)(h0:0<t.size)(h1:t.size≤300):rd t=(((nv t 0 t.size:Nat):Int),0,0):=by
 have hm:¬minus t:=fun hm=>by
  have:=(h 0 h0).2.1;have:=hm.2;omega
 have hs:au t=0:=by simp[au,hm]
 have hd:aH t 0=t.size:=oC (anA _) (fun i _ hi=>h i hi) (fun h'=>by have:=h'.1;omega);unfold rd;rw[hs,hd,if_neg (by omega),if_neg (by omega),if_neg hm];simp
theorem NU{s:ByteArray}{a b:Nat}(hb:b≤s.size)(h:a<b):s.extract a b≠⟨#[]⟩:=fun e=>by
 have:=ef s (a:=a) hb;rw[e]at this;have e0:(⟨#[]⟩:ByteArray).size=0:=rfl;omega
set_option exponentiation.threshold 1000 in
theorem H7{s:ByteArray}{a k:Nat}(h:∀i,a≤i→i<a+k→bV s i)(hk:k≤400):fw 400 (nv s a k:Nat):=by
 have:=th h;exact fo (k:=100) (IT (y:=((10^k:Nat):Int)) (by simp only[Int.natAbs_natCast];omega) (nT hk)) (by omega)
def wO(r:Rat × Nat × Nat):SV:=.bO [bs r.1,kN r.2.1 r.2.2]
@[simp] theorem AZ(e:Nat × Nat)(b:Bool)(c p:Nat):jS (some e) b c p=some e:=rfl
theorem jw(c p:Nat)(v:Rat)(hc:c≠0):oc (some (c,p)) v=wO (0,c,p):=by simp[oc,wO,kN,hc]
theorem rO(v:Rat)(p:Nat):oc none v=wO (v,0,p):=by simp[oc,wO,kN]
def IA(s:ByteArray)(st:St):Prop:=∃(T P Lw Pw:ByteArray) (a la pa:Nat) (E:Option (Nat × Nat)) (neg up:Bool) (t d:Nat),
 (∀c p,E=some (c,p)→c=1∨c=2∨c=3)∧(E=none→rd T=((t:Int),0,0))∧T.size≤400∧P.size≤400∧(∀i,i<P.size→bV P i)∧fw 400 d∧fw 400 t ∧
  ((Lw=⟨#[]⟩∧d=1)∨(Lw≠⟨#[]⟩∧rd Lw=((d:Int),0,0)∧Lw.size≤400))∧(∀i,i<Pw.size→bV Pw i)∧Pw.size≤400 ∧
  oc (jS (jS (jS E (decide (a<s.size)) 1 a) (decide (60<nv Pw 0 Pw.size)) 2 pa) (decide (Lw≠⟨#[]⟩)&&decide (d=0)) 3 la) (qV neg up t P (min (nv Pw 0 Pw.size) 61) d)=wO (fE 300 s) ∧
  st=⟨151,[(0,.val (.string s)),(2,.ptr 0 0 0),(3,.val .nilIface),(4,.ptr 1 0 0),(5,.val (.bool neg)),(6,.val (.string T)),(7,.val (.string P)),(8,.val (.string Lw)),(9,.val (.string Pw)),(10,.val (.bool up)),(11,.val (.int .i64 la)),(12,.val (.int .i64 pa))],MR s a E⟩
theorem FB:fw 400 ((1:Nat):Int):=p6 (by omega)
theorem IA.err{s T:ByteArray}{a la pa:Nat}{c p:Nat}{neg up:Bool}{st:St}(hc:c=1∨c=2∨c=3)(hT:T.size≤400)(hq:fE 300 s=(0,c,p))
  (h:st=⟨151,[(0,.val (.string s)),(2,.ptr 0 0 0),(3,.val .nilIface),(4,.ptr 1 0 0),(5,.val (.bool neg)),(6,.val (.string T)),(7,.val (.string ⟨#[]⟩)),(8,.val (.string ⟨#[]⟩)),(9,.val (.string ⟨#[]⟩)),(10,.val (.bool up)),(11,.val (.int .i64 la)),(12,.val (.int .i64 pa))],MR s a (some (c,p))⟩):IA s st :=
 ⟨T,⟨#[]⟩,⟨#[]⟩,⟨#[]⟩,a,la,pa,some (c,p),neg,up,0,1,fun c' p' h'=>by simp only[Option.some.injEq,Prod.mk.injEq]at h';omega,fun h'=>(by cases h'),hT,anA _,fun i hi=>absurd hi (amo _),FB,tN _,.inl ⟨rfl,rfl⟩,
  fun i hi=>absurd hi (amo _),anA _,by simp only[AZ];rw[jw _ _ _ (by omega),hq],h⟩
theorem sA:(⟨#[]⟩:ByteArray).size=0:=rfl
theorem Oh:nv ⟨#[]⟩ 0 (⟨#[]⟩:ByteArray).size=0:=rfl
theorem qT(Q:Nat→Prop):∀i,i<(⟨#[]⟩:ByteArray).size→Q i:=fun i hi=>absurd hi (amo _)
theorem jJ{s:ByteArray}{neg:Bool}(h:decide (minus s)=neg)(n:Nat):jC s n=if neg=true then -(n:Int) else(n:Int):=by
 unfold jC;rw[←h];by_cases hm:minus s<;>simp[hm]
theorem HU{s Lw:ByteArray}{e b tv d:Nat}{neg:Bool}(hn:decide (minus s)=neg)(hL:Lw≠⟨#[]⟩)(hbs:b≤s.size)(hb:e+1<b)(hd:d=nv s (e+1) (b - (e+1))) :
  oc (jS (jS (jS none (decide (b<s.size)) 1 b) (decide (60<nv ⟨#[]⟩ 0 (⟨#[]⟩:ByteArray).size)) 2 0) (decide (Lw≠⟨#[]⟩)&&decide (d=0)) 3 (e+1)) (qV neg true tv ⟨#[]⟩ (min (nv ⟨#[]⟩ 0 (⟨#[]⟩:ByteArray).size) 61) d) =
   wO (if b=e+1∨b<s.size then(0,1,b) else if nv s (e+1) (s.size - (e+1))=0 then(0,3,e+1) else(Rat.divInt (jC s tv) (nv s (e+1) (s.size - (e+1)):Int),0,0)):=by
 rw[Oh];by_cases l1:b<s.size
 ·rw[if_pos (.inr l1)];simp only[jS,l1,decide_true,if_true];exact jw _ _ _ (by omega)
 ·rw[if_neg (show ¬(b=e+1∨b<s.size) by omega),show s.size - (e+1)=b - (e+1) by omega,←hd];by_cases l2:d=0
  ·simp only[jS,l1,l2,hL,if_true,decide_false,anC,if_false,amo,ne_eq,not_false_eq_true,decide_true,Bool.and_self];exact jw _ _ _ (by omega)
  ·simp only[jS,l1,l2,hL,if_false,decide_false,anC,amo,ne_eq,not_false_eq_true,decide_true,Bool.and_false];rw[rO _ 0,jJ hn];unfold qV;simp[sA,nv]
theorem A5{s P:ByteArray}{e tv:Nat}{neg:Bool}(hn:decide (minus s)=neg)(he:e≤s.size)(g:¬bH s e 101) :
  oc (jS (jS (jS none (decide (e<s.size)) 1 e) (decide (60<nv ⟨#[]⟩ 0 (⟨#[]⟩:ByteArray).size)) 2 0) (decide ((⟨#[]⟩:ByteArray)≠⟨#[]⟩)&&decide ((1:Nat)=0)) 3 0) (qV neg true tv P (min (nv ⟨#[]⟩ 0 (⟨#[]⟩:ByteArray).size) 61) 1) =
   wO (dh s (tv*10^P.size+nv P 0 P.size) P.size e):=by
 rw[Oh];unfold dh;rw[if_neg g];by_cases l1:e<s.size
 ·rw[if_pos l1];simp only[jS,l1,decide_true,if_true];exact jw _ _ _ (by omega)
 ·rw[if_neg l1];simp only[jS,l1,if_false,decide_false,anC,amo,ne_eq,not_true,anD];rw[rO _ 0,jJ hn];unfold qV;simp
theorem rX{s P W:ByteArray}{e b c tv:Nat}{neg up:Bool}(hn:decide (minus s)=neg)(hcs:c≤s.size)(g:bH s e 101)(hb:bY s e=b)(hu:up=true↔¬bH s (e+1) 45)(hc:aH s b=c)(hbc:b<c)(h3:¬b+300<c)(hW:nv W 0 W.size=nv s b (c - b)) :
  oc (jS (jS (jS none (decide (c<s.size)) 1 c) (decide (60<nv W 0 W.size)) 2 b) (decide ((⟨#[]⟩:ByteArray)≠⟨#[]⟩)&&decide ((1:Nat)=0)) 3 0) (qV neg up tv P (min (nv W 0 W.size) 61) 1) =
   wO (dh s (tv*10^P.size+nv P 0 P.size) P.size e):=by
 unfold dh;rw[if_pos g,hb,hc,if_neg h3,hW];by_cases l1:c<s.size
 ·rw[if_pos (.inr l1)];simp only[jS,l1,decide_true,if_true];exact jw _ _ _ (by omega)
 ·rw[if_neg (show ¬(c=b∨c<s.size) by omega),show s.size - b=c - b by omega];generalize nv s b (c - b)=x at *;by_cases l2:60<x
  ·rw[if_pos l2];simp only[jS,l1,l2,if_true,decide_false,anC,if_false,decide_true];exact jw _ _ _ (by omega)
  ·rw[if_neg l2];simp only[jS,l1,l2,if_false,decide_false,anC,ne_eq,not_true,anD];rw[rO _ 0,show min x 61=x by omega];unfold qV;cases up with
   | true =>
    rw[if_neg (hu.1 rfl),jJ hn];simp
   | false =>
    rw[if_pos (show bH s (e+1) 45 from Classical.byContradiction fun h=>by have:=hu.2 h;cases this),jJ hn];simp[Nat.pow_add]
def rY(s T:ByteArray)(neg:Bool)(a:Nat)(E:Option (Nat × Nat)):St:=⟨151,[(0,.val (.string s)),(2,.ptr 0 0 0),(3,.val .nilIface),(4,.ptr 1 0 0),(5,.val (.bool neg)),(6,.val (.string T)),(7,.val (.string ⟨#[]⟩)),(8,.val (.string ⟨#[]⟩)),(9,.val (.string ⟨#[]⟩)),(10,.val (.bool true)),(11,.val (.int .i64 0)),(12,.val (.int .i64 0))],MR s a E⟩
theorem IA.tC{s T P:ByteArray}{a pa:Nat}{c p:Nat}{neg up:Bool}{st:St}(hc:c=1∨c=2∨c=3)(hT:T.size≤400)(hP:P.size≤400)(hPd:∀i,i<P.size→bV P i)(hq:fE 300 s=(0,c,p))
  (h:st=⟨151,[(0,.val (.string s)),(2,.ptr 0 0 0),(3,.val .nilIface),(4,.ptr 1 0 0),(5,.val (.bool neg)),(6,.val (.string T)),(7,.val (.string P)),(8,.val (.string ⟨#[]⟩)),(9,.val (.string ⟨#[]⟩)),(10,.val (.bool up)),(11,.val (.int .i64 0)),(12,.val (.int .i64 pa))],MR s a (some (c,p))⟩):IA s st :=
 ⟨T,P,⟨#[]⟩,⟨#[]⟩,a,0,pa,some (c,p),neg,up,0,1,fun c' p' h'=>by simp only[Option.some.injEq,Prod.mk.injEq]at h';omega,fun h'=>(by cases h'),hT,hP,hPd,FB,tN _,.inl ⟨rfl,rfl⟩,
  qT _,anA _,by simp only[AZ];rw[jw _ _ _ (by omega),hq],h⟩
theorem IG{C:Ctx}{Q:aX}(hC:C.fx=[]){s T:ByteArray}{neg:Bool}{a c p:Nat}(hTz:T.size≤300)(hc:c=1∨c=2∨c=3)(hq:fE 300 s=(0,c,p)):vc Tryz.prog C (jN 1 (e9 5 readBody)) (rY s T neg a (some (c,p))) (iT C (IA s) Q) (iT C (IA s) Q):=by
 simp only[readBody,Tryz.f79,alE,ao,al,ar,aq];simp[rY,MR];refine vg s a 47 (k2:=2) (by simp[ax,bu]) (by simp) ?_;simp;refine vg s a 46 (k2:=2) (by simp[ax,bu]) (by simp) ?_;simp;refine vg s a 101 (k2:=2) (by simp[ax,bu]) (by simp) ?_;simp;exact⟨_,IA.err (T:=T) (a:=a) (la:=0) (pa:=0) (neg:=neg) (up:=true) hc (by omega) hq rfl,by simp[aw,hC,MR,ld,bu,z4]⟩
theorem Ci{C:Ctx}{Q:aX}(hC:C.fx=[]){s T:ByteArray}{neg:Bool}{e tv:Nat}(hs:s.size≤4611686018427387904)(hn:decide (minus s)=neg)(hes:e≤s.size)(hT:rd T=((tv:Int),0,0))(hTz:T.size≤300)(ht:fw 400 (tv:Nat))(g:bH s e 47)
  (hq0:fE 300 s=if e+1+300<aH s (e+1) then(0,2,e+1+300) else if aH s (e+1)=e+1∨aH s (e+1)<s.size then(0,1,aH s (e+1)) else if nv s (e+1) (s.size - (e+1))=0 then(0,3,e+1) else(Rat.divInt (jC s tv) (nv s (e+1) (s.size - (e+1)):Int),0,0)):vc Tryz.prog C (jN 1 (e9 5 readBody)) (rY s T neg e none) (iT C (IA s) Q) (iT C (IA s) Q):=by
 simp only[readBody,Tryz.f79,alE,ao,al,ar,aq];simp[rY,MR];have hg:=g.1;refine bt s e 47 (by simp[ax,bu]) hs (by omega) (by simp) (fun _=>?_) (fun g'=>absurd g g');simp[bu];refine cM s (e+1) (by simp[ax,bu]) hs (by omega) (by simp) (fun k1=>?_) (fun k1=>?_) (fun k1 k2=>?_)
 ·have hq:fE 300 s=(0,2,e+1+300):=by rw[hq0,if_pos k1]
  simp;exact⟨_,IA.err (T:=T) (a:=e+1+300) (la:=e+1) (pa:=0) (neg:=neg) (up:=true) (by omega) (by omega) hq rfl,by simp[aw,hC,MR,ld,bu,z4]⟩
 ·have hq:fE 300 s=(0,1,e+1):=by rw[hq0,if_neg (by omega),if_pos (.inl k1),k1]
  simp;exact⟨_,IA.err (T:=T) (a:=e+1) (la:=e+1) (pa:=0) (neg:=neg) (up:=true) (by omega) (by omega) hq rfl,by simp[aw,hC,MR,ld,bu,z4]⟩
 ·obtain⟨b,hb⟩:∃b,b=aH s (e+1):=⟨_,rfl⟩;have hbs:=eC (s:=s) (a:=e+1) (by omega);have hLd:=fun i (h1:e+1≤i) (h2:i<b)=>dC (s:=s) (a:=e+1) h1 (hb ▸ h2);rw[←hb]at k1 k2 hbs hq0;rw[if_neg k1]at hq0;have hLz:=ef s (a:=e+1) hbs;have hL:=xj (gC hbs hLd) (by omega) (by omega);rw[hLz,iK s hbs _ (by omega)]at hL;have hd:fw 400 (nv s (e+1) (b - (e+1)):Nat):=H7 (fun i i1 i2=>hLd i i1 (by omega)) (by omega);have hLn:=NU hbs (show e+1<b by omega);rw[←hb];have hL4:(s.extract (e+1) b).size≤400:=by omega
  have fin:=HU (tv:=tv) hn hLn hbs (by omega) (d:=nv s (e+1) (b - (e+1))) rfl;rw[←hq0]at fin;generalize s.extract (e+1) b=Lw at *;simp;exact⟨_,⟨T,⟨#[]⟩,Lw,⟨#[]⟩,b,e+1,0,none,neg,true,tv,nv s (e+1) (b - (e+1)),by simp,fun _=>hT,by omega,anA _,qT _,hd,ht,.inr ⟨hLn,hL,hL4⟩,qT _,anA _,fin,rfl⟩,by simp[aw,hC,MR,ld,bu,z4]⟩
theorem Fc{C:Ctx}{Q:aX}(hC:C.fx=[]){s T:ByteArray}{neg:Bool}{e tv:Nat}(hs:s.size≤4611686018427387904)(hn:decide (minus s)=neg)(hes:e≤s.size)(hT:rd T=((tv:Int),0,0))(hTz:T.size≤300)(ht:fw 400 (tv:Nat))(g0:¬bH s e 47)(g:bH s e 46)(hk:e+1+300<aH s (e+1)∨aH s (e+1)=e+1)
  (hq0:fE 300 s=if e+1+300<aH s (e+1) then(0,2,e+1+300) else if aH s (e+1)=e+1 then(0,1,e+1) else dh s (tv*10^(aH s (e+1) - (e+1))+nv s (e+1) (aH s (e+1) - (e+1))) (aH s (e+1) - (e+1)) (aH s (e+1))):vc Tryz.prog C (jN 1 (e9 5 readBody)) (rY s T neg e none) (iT C (IA s) Q) (iT C (IA s) Q):=by
 simp only[readBody,Tryz.f79,alE,ao,al,ar,aq];simp[rY,MR];have hg:=g.1;refine bt s e 47 (by simp[ax,bu]) hs (by omega) (by simp) (fun g'=>absurd g' g0) (fun _=>?_);simp;refine bt s e 46 (by simp[ax,bu]) hs (by omega) (by simp) (fun _=>?_) (fun g'=>absurd g g');simp[bu];refine cM s (e+1) (by simp[ax,bu]) hs (by omega) (by simp) (fun k1=>?_) (fun k1=>?_) (fun k1 k2=>by omega)
 ·have hq:fE 300 s=(0,2,e+1+300):=by rw[hq0,if_pos k1]
  simp;refine vg s (e+1+300) 101 (k2:=2) (by simp[ax,bu]) (by simp) ?_;simp;exact⟨_,IA.err (T:=T) (a:=e+1+300) (la:=0) (pa:=0) (neg:=neg) (up:=true) (by omega) (by omega) hq rfl,by simp[aw,hC,MR,ld,bu,z4]⟩
 ·have hq:fE 300 s=(0,1,e+1):=by rw[hq0,if_neg (by omega),if_pos k1]
  simp;refine vg s (e+1) 101 (k2:=2) (by simp[ax,bu]) (by simp) ?_;simp;exact⟨_,IA.err (T:=T) (a:=e+1) (la:=0) (pa:=0) (neg:=neg) (up:=true) (by omega) (by omega) hq rfl,by simp[aw,hC,MR,ld,bu,z4]⟩
theorem Hy{C:Ctx}{Q:aX}(hC:C.fx=[]){s T:ByteArray}{neg:Bool}{e tv:Nat}(hs:s.size≤4611686018427387904)(hn:decide (minus s)=neg)(hes:e≤s.size)(hT:rd T=((tv:Int),0,0))(hTz:T.size≤300)(ht:fw 400 (tv:Nat))(g0:¬bH s e 47)(g:bH s e 46)(hk1:¬e+1+300<aH s (e+1))(hk2:e+1<aH s (e+1)){f:Nat}(hf:f=aH s (e+1)){P:ByteArray}(hPe:P=s.extract (e+1) f)(hPz:P.size=f - (e+1))(hPd:∀i,i<P.size→bV P i)(hfs:f≤s.size)(hq0:fE 300 s=dh s (tv*10^P.size+nv P 0 P.size) P.size f)(x0:¬bH s f 101):vc Tryz.prog C (jN 1 (e9 5 readBody)) (rY s T neg e none) (iT C (IA s) Q) (iT C (IA s) Q):=by
 simp only[readBody,Tryz.f79,alE,ao,al,ar,aq];simp[rY,MR];have hg:=g.1;refine bt s e 47 (by simp[ax,bu]) hs (by omega) (by simp) (fun g'=>absurd g' g0) (fun _=>?_);simp;refine bt s e 46 (by simp[ax,bu]) hs (by omega) (by simp) (fun _=>?_) (fun g'=>absurd g g');simp[bu];refine cM s (e+1) (by simp[ax,bu]) hs (by omega) (by simp) (fun k1=>by omega) (fun k1=>by omega) (fun _ _=>?_);rw[←hf,←hPe];simp[bu];refine bt s f 101 (by simp[ax,bu]) hs (by omega) (by simp) (fun g'=>absurd g' x0) (fun _=>?_);have fin:=A5 (P:=P) (tv:=tv) hn hfs x0;rw[←hq0]at fin;simp;exact⟨_,⟨T,P,⟨#[]⟩,⟨#[]⟩,f,0,0,none,neg,true,tv,1,by simp,fun _=>hT,by omega,by omega,hPd,FB,ht,.inl ⟨rfl,rfl⟩,qT _,anA _,fin,rfl⟩,by simp[aw,hC,MR,ld,bu,z4]⟩
theorem IV{C:Ctx}{Q:aX}(hC:C.fx=[]){s T:ByteArray}{neg:Bool}{e tv:Nat}(hs:s.size≤4611686018427387904)(hn:decide (minus s)=neg)(hes:e≤s.size)(hT:rd T=((tv:Int),0,0))(hTz:T.size≤300)(ht:fw 400 (tv:Nat))(g0:¬bH s e 47)(g:bH s e 46)(hk1:¬e+1+300<aH s (e+1))(hk2:e+1<aH s (e+1)){f:Nat}(hf:f=aH s (e+1)){P:ByteArray}(hPe:P=s.extract (e+1) f)(hPz:P.size=f - (e+1))(hPd:∀i,i<P.size→bV P i)(hfs:f≤s.size)(hq0:fE 300 s=dh s (tv*10^P.size+nv P 0 P.size) P.size f)(x0:bH s f 101)(x1:bH s (f+1) 45):vc Tryz.prog C (jN 1 (e9 5 readBody)) (rY s T neg e none) (iT C (IA s) Q) (iT C (IA s) Q):=by
 simp only[readBody,Tryz.f79,alE,ao,al,ar,aq];simp[rY,MR];have hg:=g.1;refine bt s e 47 (by simp[ax,bu]) hs (by omega) (by simp) (fun g'=>absurd g' g0) (fun _=>?_);simp;refine bt s e 46 (by simp[ax,bu]) hs (by omega) (by simp) (fun _=>?_) (fun g'=>absurd g g');simp[bu];refine cM s (e+1) (by simp[ax,bu]) hs (by omega) (by simp) (fun k1=>by omega) (fun k1=>by omega) (fun _ _=>?_);rw[←hf,←hPe];simp[bu];have hx0:=x0.1;refine bt s f 101 (by simp[ax,bu]) hs (by omega) (by simp) (fun _=>?_) (fun g'=>absurd x0 g');simp[bu];have hx1:=x1.1;have hb:bY s f=f+1+1:=by unfold bY;rw[if_pos (.inl x1)]
 refine bt s (f+1) 45 (by simp[ax,bu]) hs (by omega) (by simp) (fun _=>?_) (fun g'=>absurd x1 g');simp[bu];refine cM s (f+1+1) (by simp[ax,bu]) hs (by omega) (by simp) (fun k1=>?_) (fun k1=>?_) (fun k1 k2=>?_)
 ·have hq:fE 300 s=(0,2,f+1+1+300):=by rw[hq0];unfold dh;rw[if_pos x0,hb,if_pos k1]
  simp[bu];exact⟨_,IA.tC (T:=T) (P:=P) (a:=f+1+1+300) (pa:=f+1+1) (neg:=neg) (up:=false) (by omega) (by omega) (by omega) hPd hq rfl,by simp[aw,hC,MR,ld,bu,z4]⟩
 ·have hq:fE 300 s=(0,1,f+1+1):=by rw[hq0];unfold dh;rw[if_pos x0,hb,if_neg (by omega),if_pos (.inl k1),k1]
  simp[bu];exact⟨_,IA.tC (T:=T) (P:=P) (a:=f+1+1) (pa:=f+1+1) (neg:=neg) (up:=false) (by omega) (by omega) (by omega) hPd hq rfl,by simp[aw,hC,MR,ld,bu,z4]⟩
 ·obtain⟨c,hc⟩:∃c,c=aH s (f+1+1):=⟨_,rfl⟩;have hcs:=eC (s:=s) (a:=f+1+1) (by omega);have hWd:=fun i (h1:f+1+1≤i) (h2:i<c)=>dC (s:=s) (a:=f+1+1) h1 (hc ▸ h2);rw[←hc]at k1 k2 hcs;have hWz:=ef s (a:=f+1+1) hcs;have hWn:=iK s (a:=f+1+1) hcs (c - (f+1+1)) (by omega);rw[←hWz]at hWn;have hWa:=gC hcs hWd;rw[←hc];generalize s.extract (f+1+1) c=W at *;rw[hWz]at hWn;have hW4:W.size≤400:=by omega
  have fin:=rX (P:=P) (W:=W) (tv:=tv) (up:=false) hn hcs x0 hb (by simp[x1]) hc.symm k2 k1 (by rw[hWz];exact hWn);rw[←hq0]at fin;simp[bu];exact⟨_,⟨T,P,⟨#[]⟩,W,c,0,f+1+1,none,neg,false,tv,1,by simp,fun _=>hT,by omega,by omega,hPd,FB,ht,.inl ⟨rfl,rfl⟩,hWa,hW4,fin,rfl⟩,by simp[aw,hC,MR,ld,bu,z4]⟩
theorem Gd{C:Ctx}{Q:aX}(hC:C.fx=[]){s T:ByteArray}{neg:Bool}{e tv:Nat}(hs:s.size≤4611686018427387904)(hn:decide (minus s)=neg)(hes:e≤s.size)(hT:rd T=((tv:Int),0,0))(hTz:T.size≤300)(ht:fw 400 (tv:Nat))(g0:¬bH s e 47)(g:bH s e 46)(hk1:¬e+1+300<aH s (e+1))(hk2:e+1<aH s (e+1)){f:Nat}(hf:f=aH s (e+1)){P:ByteArray}(hPe:P=s.extract (e+1) f)(hPz:P.size=f - (e+1))(hPd:∀i,i<P.size→bV P i)(hfs:f≤s.size)(hq0:fE 300 s=dh s (tv*10^P.size+nv P 0 P.size) P.size f)(x0:bH s f 101)(x1:¬bH s (f+1) 45)(x2:bH s (f+1) 43):vc Tryz.prog C (jN 1 (e9 5 readBody)) (rY s T neg e none) (iT C (IA s) Q) (iT C (IA s) Q):=by
 simp only[readBody,Tryz.f79,alE,ao,al,ar,aq];simp[rY,MR];have hg:=g.1;refine bt s e 47 (by simp[ax,bu]) hs (by omega) (by simp) (fun g'=>absurd g' g0) (fun _=>?_);simp;refine bt s e 46 (by simp[ax,bu]) hs (by omega) (by simp) (fun _=>?_) (fun g'=>absurd g g');simp[bu];refine cM s (e+1) (by simp[ax,bu]) hs (by omega) (by simp) (fun k1=>by omega) (fun k1=>by omega) (fun _ _=>?_);rw[←hf,←hPe];simp[bu];have hx0:=x0.1;refine bt s f 101 (by simp[ax,bu]) hs (by omega) (by simp) (fun _=>?_) (fun g'=>absurd x0 g');simp[bu];have hx1:=x2.1;have hb:bY s f=f+1+1:=by unfold bY;rw[if_pos (.inr x2)]
 refine bt s (f+1) 45 (by simp[ax,bu]) hs (by omega) (by simp) (fun g'=>absurd g' x1) (fun _=>?_);simp[bu];refine bt s (f+1) 43 (by simp[ax,bu]) hs (by omega) (by simp) (fun _=>?_) (fun g'=>absurd x2 g');simp[bu];refine cM s (f+1+1) (by simp[ax,bu]) hs (by omega) (by simp) (fun k1=>?_) (fun k1=>?_) (fun k1 k2=>?_)
 ·have hq:fE 300 s=(0,2,f+1+1+300):=by rw[hq0];unfold dh;rw[if_pos x0,hb,if_pos k1]
  simp[bu];exact⟨_,IA.tC (T:=T) (P:=P) (a:=f+1+1+300) (pa:=f+1+1) (neg:=neg) (up:=true) (by omega) (by omega) (by omega) hPd hq rfl,by simp[aw,hC,MR,ld,bu,z4]⟩
 ·have hq:fE 300 s=(0,1,f+1+1):=by rw[hq0];unfold dh;rw[if_pos x0,hb,if_neg (by omega),if_pos (.inl k1),k1]
  simp[bu];exact⟨_,IA.tC (T:=T) (P:=P) (a:=f+1+1) (pa:=f+1+1) (neg:=neg) (up:=true) (by omega) (by omega) (by omega) hPd hq rfl,by simp[aw,hC,MR,ld,bu,z4]⟩
 ·obtain⟨c,hc⟩:∃c,c=aH s (f+1+1):=⟨_,rfl⟩;have hcs:=eC (s:=s) (a:=f+1+1) (by omega);have hWd:=fun i (h1:f+1+1≤i) (h2:i<c)=>dC (s:=s) (a:=f+1+1) h1 (hc ▸ h2);rw[←hc]at k1 k2 hcs;have hWz:=ef s (a:=f+1+1) hcs;have hWn:=iK s (a:=f+1+1) hcs (c - (f+1+1)) (by omega);rw[←hWz]at hWn;have hWa:=gC hcs hWd;rw[←hc];generalize s.extract (f+1+1) c=W at *;rw[hWz]at hWn;have hW4:W.size≤400:=by omega
  have fin:=rX (P:=P) (W:=W) (tv:=tv) (up:=true) hn hcs x0 hb (by simp[x1]) hc.symm k2 k1 (by rw[hWz];exact hWn);rw[←hq0]at fin;simp[bu];exact⟨_,⟨T,P,⟨#[]⟩,W,c,0,f+1+1,none,neg,true,tv,1,by simp,fun _=>hT,by omega,by omega,hPd,FB,ht,.inl ⟨rfl,rfl⟩,hWa,hW4,fin,rfl⟩,by simp[aw,hC,MR,ld,bu,z4]⟩
theorem IQ{C:Ctx}{Q:aX}(hC:C.fx=[]){s T:ByteArray}{neg:Bool}{e tv:Nat}(hs:s.size≤4611686018427387904)(hn:decide (minus s)=neg)(hes:e≤s.size)(hT:rd T=((tv:Int),0,0))(hTz:T.size≤300)(ht:fw 400 (tv:Nat))(g0:¬bH s e 47)(g:bH s e 46)(hk1:¬e+1+300<aH s (e+1))(hk2:e+1<aH s (e+1)){f:Nat}(hf:f=aH s (e+1)){P:ByteArray}(hPe:P=s.extract (e+1) f)(hPz:P.size=f - (e+1))(hPd:∀i,i<P.size→bV P i)(hfs:f≤s.size)(hq0:fE 300 s=dh s (tv*10^P.size+nv P 0 P.size) P.size f)(x0:bH s f 101)(x1:¬bH s (f+1) 45)(x2:¬bH s (f+1) 43):vc Tryz.prog C (jN 1 (e9 5 readBody)) (rY s T neg e none) (iT C (IA s) Q) (iT C (IA s) Q):=by
 simp only[readBody,Tryz.f79,alE,ao,al,ar,aq];simp[rY,MR];have hg:=g.1;refine bt s e 47 (by simp[ax,bu]) hs (by omega) (by simp) (fun g'=>absurd g' g0) (fun _=>?_);simp;refine bt s e 46 (by simp[ax,bu]) hs (by omega) (by simp) (fun _=>?_) (fun g'=>absurd g g');simp[bu];refine cM s (e+1) (by simp[ax,bu]) hs (by omega) (by simp) (fun k1=>by omega) (fun k1=>by omega) (fun _ _=>?_);rw[←hf,←hPe];simp[bu];have hx0:=x0.1;refine bt s f 101 (by simp[ax,bu]) hs (by omega) (by simp) (fun _=>?_) (fun g'=>absurd x0 g');simp[bu];have hb:bY s f=f+1:=by unfold bY;rw[if_neg (fun h=>h.elim x1 x2)]
 refine bt s (f+1) 45 (by simp[ax,bu]) hs (by omega) (by simp) (fun g'=>absurd g' x1) (fun _=>?_);simp[bu];refine bt s (f+1) 43 (by simp[ax,bu]) hs (by omega) (by simp) (fun g'=>absurd g' x2) (fun _=>?_);simp[bu];refine cM s (f+1) (by simp[ax,bu]) hs (by omega) (by simp) (fun k1=>?_) (fun k1=>?_) (fun k1 k2=>?_)
 ·have hq:fE 300 s=(0,2,f+1+300):=by rw[hq0];unfold dh;rw[if_pos x0,hb,if_pos k1]
  simp[bu];exact⟨_,IA.tC (T:=T) (P:=P) (a:=f+1+300) (pa:=f+1) (neg:=neg) (up:=true) (by omega) (by omega) (by omega) hPd hq rfl,by simp[aw,hC,MR,ld,bu,z4]⟩
 ·have hq:fE 300 s=(0,1,f+1):=by rw[hq0];unfold dh;rw[if_pos x0,hb,if_neg (by omega),if_pos (.inl k1),k1]
  simp[bu];exact⟨_,IA.tC (T:=T) (P:=P) (a:=f+1) (pa:=f+1) (neg:=neg) (up:=true) (by omega) (by omega) (by omega) hPd hq rfl,by simp[aw,hC,MR,ld,bu,z4]⟩
 ·obtain⟨c,hc⟩:∃c,c=aH s (f+1):=⟨_,rfl⟩;have hcs:=eC (s:=s) (a:=f+1) (by omega);have hWd:=fun i (h1:f+1≤i) (h2:i<c)=>dC (s:=s) (a:=f+1) h1 (hc ▸ h2);rw[←hc]at k1 k2 hcs;have hWz:=ef s (a:=f+1) hcs;have hWn:=iK s (a:=f+1) hcs (c - (f+1)) (by omega);rw[←hWz]at hWn;have hWa:=gC hcs hWd;rw[←hc];generalize s.extract (f+1) c=W at *;rw[hWz]at hWn;have hW4:W.size≤400:=by omega
  have fin:=rX (P:=P) (W:=W) (tv:=tv) (up:=true) hn hcs x0 hb (by simp[x1]) hc.symm k2 k1 (by rw[hWz];exact hWn);rw[←hq0]at fin;simp[bu];exact⟨_,⟨T,P,⟨#[]⟩,W,c,0,f+1,none,neg,true,tv,1,by simp,fun _=>hT,by omega,by omega,hPd,FB,ht,.inl ⟨rfl,rfl⟩,hWa,hW4,fin,rfl⟩,by simp[aw,hC,MR,ld,bu,z4]⟩
theorem GJ{C:Ctx}{Q:aX}(hC:C.fx=[]){s T:ByteArray}{neg:Bool}{e tv:Nat}(hs:s.size≤4611686018427387904)(hn:decide (minus s)=neg)(hes:e≤s.size)(hT:rd T=((tv:Int),0,0))(hTz:T.size≤300)(ht:fw 400 (tv:Nat))(g0:¬bH s e 47)(g:¬bH s e 46){f:Nat}(hf:f=e){P:ByteArray}(hPe:P=⟨#[]⟩)(hPz:P.size=0)(hPd:∀i,i<P.size→bV P i)(hfs:f≤s.size)(hq0:fE 300 s=dh s (tv*10^P.size+nv P 0 P.size) P.size f)(x0:¬bH s f 101):vc Tryz.prog C (jN 1 (e9 5 readBody)) (rY s T neg e none) (iT C (IA s) Q) (iT C (IA s) Q):=by
 simp only[readBody,Tryz.f79,alE,ao,al,ar,aq];simp[rY,MR];subst hf;subst hPe;refine bt s f 47 (by simp[ax,bu]) hs (by omega) (by simp) (fun g'=>absurd g' g0) (fun _=>?_);simp;refine bt s f 46 (by simp[ax,bu]) hs (by omega) (by simp) (fun g'=>absurd g' g) (fun _=>?_);simp[bu];refine bt s f 101 (by simp[ax,bu]) hs (by omega) (by simp) (fun g'=>absurd g' x0) (fun _=>?_);have fin:=A5 (P:=⟨#[]⟩) (tv:=tv) hn hfs x0;rw[←hq0]at fin;simp;exact⟨_,⟨T,⟨#[]⟩,⟨#[]⟩,⟨#[]⟩,f,0,0,none,neg,true,tv,1,by simp,fun _=>hT,by omega,by omega,hPd,FB,ht,.inl ⟨rfl,rfl⟩,qT _,anA _,fin,rfl⟩,by simp[aw,hC,MR,ld,bu,z4]⟩
theorem GV{C:Ctx}{Q:aX}(hC:C.fx=[]){s T:ByteArray}{neg:Bool}{e tv:Nat}(hs:s.size≤4611686018427387904)(hn:decide (minus s)=neg)(hes:e≤s.size)(hT:rd T=((tv:Int),0,0))(hTz:T.size≤300)(ht:fw 400 (tv:Nat))(g0:¬bH s e 47)(g:¬bH s e 46){f:Nat}(hf:f=e){P:ByteArray}(hPe:P=⟨#[]⟩)(hPz:P.size=0)(hPd:∀i,i<P.size→bV P i)(hfs:f≤s.size)(hq0:fE 300 s=dh s (tv*10^P.size+nv P 0 P.size) P.size f)(x0:bH s f 101)(x1:bH s (f+1) 45):vc Tryz.prog C (jN 1 (e9 5 readBody)) (rY s T neg e none) (iT C (IA s) Q) (iT C (IA s) Q):=by
 simp only[readBody,Tryz.f79,alE,ao,al,ar,aq];simp[rY,MR];subst hf;subst hPe;refine bt s f 47 (by simp[ax,bu]) hs (by omega) (by simp) (fun g'=>absurd g' g0) (fun _=>?_);simp;refine bt s f 46 (by simp[ax,bu]) hs (by omega) (by simp) (fun g'=>absurd g' g) (fun _=>?_);simp[bu];have hx0:=x0.1;refine bt s f 101 (by simp[ax,bu]) hs (by omega) (by simp) (fun _=>?_) (fun g'=>absurd x0 g');simp[bu];have hx1:=x1.1;have hb:bY s f=f+1+1:=by unfold bY;rw[if_pos (.inl x1)]
 refine bt s (f+1) 45 (by simp[ax,bu]) hs (by omega) (by simp) (fun _=>?_) (fun g'=>absurd x1 g');simp[bu];refine cM s (f+1+1) (by simp[ax,bu]) hs (by omega) (by simp) (fun k1=>?_) (fun k1=>?_) (fun k1 k2=>?_)
 ·have hq:fE 300 s=(0,2,f+1+1+300):=by rw[hq0];unfold dh;rw[if_pos x0,hb,if_pos k1]
  simp[bu];exact⟨_,IA.tC (T:=T) (P:=⟨#[]⟩) (a:=f+1+1+300) (pa:=f+1+1) (neg:=neg) (up:=false) (by omega) (by omega) (by omega) hPd hq rfl,by simp[aw,hC,MR,ld,bu,z4]⟩
 ·have hq:fE 300 s=(0,1,f+1+1):=by rw[hq0];unfold dh;rw[if_pos x0,hb,if_neg (by omega),if_pos (.inl k1),k1]
  simp[bu];exact⟨_,IA.tC (T:=T) (P:=⟨#[]⟩) (a:=f+1+1) (pa:=f+1+1) (neg:=neg) (up:=false) (by omega) (by omega) (by omega) hPd hq rfl,by simp[aw,hC,MR,ld,bu,z4]⟩
 ·obtain⟨c,hc⟩:∃c,c=aH s (f+1+1):=⟨_,rfl⟩;have hcs:=eC (s:=s) (a:=f+1+1) (by omega);have hWd:=fun i (h1:f+1+1≤i) (h2:i<c)=>dC (s:=s) (a:=f+1+1) h1 (hc ▸ h2);rw[←hc]at k1 k2 hcs;have hWz:=ef s (a:=f+1+1) hcs;have hWn:=iK s (a:=f+1+1) hcs (c - (f+1+1)) (by omega);rw[←hWz]at hWn;have hWa:=gC hcs hWd;rw[←hc];generalize s.extract (f+1+1) c=W at *;rw[hWz]at hWn;have hW4:W.size≤400:=by omega
  have fin:=rX (P:=⟨#[]⟩) (W:=W) (tv:=tv) (up:=false) hn hcs x0 hb (by simp[x1]) hc.symm k2 k1 (by rw[hWz];exact hWn);rw[←hq0]at fin;simp[bu];exact⟨_,⟨T,⟨#[]⟩,⟨#[]⟩,W,c,0,f+1+1,none,neg,false,tv,1,by simp,fun _=>hT,by omega,by omega,hPd,FB,ht,.inl ⟨rfl,rfl⟩,hWa,hW4,fin,rfl⟩,by simp[aw,hC,MR,ld,bu,z4]⟩
theorem F7{C:Ctx}{Q:aX}(hC:C.fx=[]){s T:ByteArray}{neg:Bool}{e tv:Nat}(hs:s.size≤4611686018427387904)(hn:decide (minus s)=neg)(hes:e≤s.size)(hT:rd T=((tv:Int),0,0))(hTz:T.size≤300)(ht:fw 400 (tv:Nat))(g0:¬bH s e 47)(g:¬bH s e 46){f:Nat}(hf:f=e){P:ByteArray}(hPe:P=⟨#[]⟩)(hPz:P.size=0)(hPd:∀i,i<P.size→bV P i)(hfs:f≤s.size)(hq0:fE 300 s=dh s (tv*10^P.size+nv P 0 P.size) P.size f)(x0:bH s f 101)(x1:¬bH s (f+1) 45)(x2:bH s (f+1) 43):vc Tryz.prog C (jN 1 (e9 5 readBody)) (rY s T neg e none) (iT C (IA s) Q) (iT C (IA s) Q):=by
 simp only[readBody,Tryz.f79,alE,ao,al,ar,aq];simp[rY,MR];subst hf;subst hPe;refine bt s f 47 (by simp[ax,bu]) hs (by omega) (by simp) (fun g'=>absurd g' g0) (fun _=>?_);simp;refine bt s f 46 (by simp[ax,bu]) hs (by omega) (by simp) (fun g'=>absurd g' g) (fun _=>?_);simp[bu];have hx0:=x0.1;refine bt s f 101 (by simp[ax,bu]) hs (by omega) (by simp) (fun _=>?_) (fun g'=>absurd x0 g');simp[bu];have hx1:=x2.1;have hb:bY s f=f+1+1:=by unfold bY;rw[if_pos (.inr x2)]
 refine bt s (f+1) 45 (by simp[ax,bu]) hs (by omega) (by simp) (fun g'=>absurd g' x1) (fun _=>?_);simp[bu];refine bt s (f+1) 43 (by simp[ax,bu]) hs (by omega) (by simp) (fun _=>?_) (fun g'=>absurd x2 g');simp[bu];refine cM s (f+1+1) (by simp[ax,bu]) hs (by omega) (by simp) (fun k1=>?_) (fun k1=>?_) (fun k1 k2=>?_)
 ·have hq:fE 300 s=(0,2,f+1+1+300):=by rw[hq0];unfold dh;rw[if_pos x0,hb,if_pos k1]
  simp[bu];exact⟨_,IA.tC (T:=T) (P:=⟨#[]⟩) (a:=f+1+1+300) (pa:=f+1+1) (neg:=neg) (up:=true) (by omega) (by omega) (by omega) hPd hq rfl,by simp[aw,hC,MR,ld,bu,z4]⟩
 ·have hq:fE 300 s=(0,1,f+1+1):=by rw[hq0];unfold dh;rw[if_pos x0,hb,if_neg (by omega),if_pos (.inl k1),k1]
  simp[bu];exact⟨_,IA.tC (T:=T) (P:=⟨#[]⟩) (a:=f+1+1) (pa:=f+1+1) (neg:=neg) (up:=true) (by omega) (by omega) (by omega) hPd hq rfl,by simp[aw,hC,MR,ld,bu,z4]⟩
 ·obtain⟨c,hc⟩:∃c,c=aH s (f+1+1):=⟨_,rfl⟩;have hcs:=eC (s:=s) (a:=f+1+1) (by omega);have hWd:=fun i (h1:f+1+1≤i) (h2:i<c)=>dC (s:=s) (a:=f+1+1) h1 (hc ▸ h2);rw[←hc]at k1 k2 hcs;have hWz:=ef s (a:=f+1+1) hcs;have hWn:=iK s (a:=f+1+1) hcs (c - (f+1+1)) (by omega);rw[←hWz]at hWn;have hWa:=gC hcs hWd;rw[←hc];generalize s.extract (f+1+1) c=W at *;rw[hWz]at hWn;have hW4:W.size≤400:=by omega
  have fin:=rX (P:=⟨#[]⟩) (W:=W) (tv:=tv) (up:=true) hn hcs x0 hb (by simp[x1]) hc.symm k2 k1 (by rw[hWz];exact hWn);rw[←hq0]at fin;simp[bu];exact⟨_,⟨T,⟨#[]⟩,⟨#[]⟩,W,c,0,f+1+1,none,neg,true,tv,1,by simp,fun _=>hT,by omega,by omega,hPd,FB,ht,.inl ⟨rfl,rfl⟩,hWa,hW4,fin,rfl⟩,by simp[aw,hC,MR,ld,bu,z4]⟩
theorem GX{C:Ctx}{Q:aX}(hC:C.fx=[]){s T:ByteArray}{neg:Bool}{e tv:Nat}(hs:s.size≤4611686018427387904)(hn:decide (minus s)=neg)(hes:e≤s.size)(hT:rd T=((tv:Int),0,0))(hTz:T.size≤300)(ht:fw 400 (tv:Nat))(g0:¬bH s e 47)(g:¬bH s e 46){f:Nat}(hf:f=e){P:ByteArray}(hPe:P=⟨#[]⟩)(hPz:P.size=0)(hPd:∀i,i<P.size→bV P i)(hfs:f≤s.size)(hq0:fE 300 s=dh s (tv*10^P.size+nv P 0 P.size) P.size f)(x0:bH s f 101)(x1:¬bH s (f+1) 45)(x2:¬bH s (f+1) 43):vc Tryz.prog C (jN 1 (e9 5 readBody)) (rY s T neg e none) (iT C (IA s) Q) (iT C (IA s) Q):=by
 simp only[readBody,Tryz.f79,alE,ao,al,ar,aq];simp[rY,MR];subst hf;subst hPe;refine bt s f 47 (by simp[ax,bu]) hs (by omega) (by simp) (fun g'=>absurd g' g0) (fun _=>?_);simp;refine bt s f 46 (by simp[ax,bu]) hs (by omega) (by simp) (fun g'=>absurd g' g) (fun _=>?_);simp[bu];have hx0:=x0.1;refine bt s f 101 (by simp[ax,bu]) hs (by omega) (by simp) (fun _=>?_) (fun g'=>absurd x0 g');simp[bu];have hb:bY s f=f+1:=by unfold bY;rw[if_neg (fun h=>h.elim x1 x2)]
 refine bt s (f+1) 45 (by simp[ax,bu]) hs (by omega) (by simp) (fun g'=>absurd g' x1) (fun _=>?_);simp[bu];refine bt s (f+1) 43 (by simp[ax,bu]) hs (by omega) (by simp) (fun g'=>absurd g' x2) (fun _=>?_);simp[bu];refine cM s (f+1) (by simp[ax,bu]) hs (by omega) (by simp) (fun k1=>?_) (fun k1=>?_) (fun k1 k2=>?_)
 ·have hq:fE 300 s=(0,2,f+1+300):=by rw[hq0];unfold dh;rw[if_pos x0,hb,if_pos k1]
  simp[bu];exact⟨_,IA.tC (T:=T) (P:=⟨#[]⟩) (a:=f+1+300) (pa:=f+1) (neg:=neg) (up:=true) (by omega) (by omega) (by omega) hPd hq rfl,by simp[aw,hC,MR,ld,bu,z4]⟩
 ·have hq:fE 300 s=(0,1,f+1):=by rw[hq0];unfold dh;rw[if_pos x0,hb,if_neg (by omega),if_pos (.inl k1),k1]
  simp[bu];exact⟨_,IA.tC (T:=T) (P:=⟨#[]⟩) (a:=f+1) (pa:=f+1) (neg:=neg) (up:=true) (by omega) (by omega) (by omega) hPd hq rfl,by simp[aw,hC,MR,ld,bu,z4]⟩
 ·obtain⟨c,hc⟩:∃c,c=aH s (f+1):=⟨_,rfl⟩;have hcs:=eC (s:=s) (a:=f+1) (by omega);have hWd:=fun i (h1:f+1≤i) (h2:i<c)=>dC (s:=s) (a:=f+1) h1 (hc ▸ h2);rw[←hc]at k1 k2 hcs;have hWz:=ef s (a:=f+1) hcs;have hWn:=iK s (a:=f+1) hcs (c - (f+1)) (by omega);rw[←hWz]at hWn;have hWa:=gC hcs hWd;rw[←hc];generalize s.extract (f+1) c=W at *;rw[hWz]at hWn;have hW4:W.size≤400:=by omega
  have fin:=rX (P:=⟨#[]⟩) (W:=W) (tv:=tv) (up:=true) hn hcs x0 hb (by simp[x1]) hc.symm k2 k1 (by rw[hWz];exact hWn);rw[←hq0]at fin;simp[bu];exact⟨_,⟨T,⟨#[]⟩,⟨#[]⟩,W,c,0,f+1,none,neg,true,tv,1,by simp,fun _=>hT,by omega,by omega,hPd,FB,ht,.inl ⟨rfl,rfl⟩,hWa,hW4,fin,rfl⟩,by simp[aw,hC,MR,ld,bu,z4]⟩
end Go.Proofs


/- A text of the prover's own. -/
import Derived.Test.YtmghjkkjaolpgaaGreatDoorUQi
open Nat renaming zero_le→aoE,not_lt_zero→anw
open Bool renaming false_eq_true→aoG,false_and→aoH
open Option renaming getD_some→amL
set_option maxRecDepth 20000
namespace Go.Proofs
open Go.Sv Go Go.Pl
theorem A7(s:ByteArray){a b i:Nat}(h:a+i<b)(hb:b≤s.size):eG (s.extract a b) i=eG s (a+i):=by
 unfold eG;have hs:s.data.size=s.size:=rfl;rw[ByteArray.data_extract,Array.getD_eq_getD_getElem?,Array.getD_eq_getD_getElem?,Array.getElem?_extract];rw[if_pos (by omega)]
theorem ef(s:ByteArray){a b:Nat}(hb:b≤s.size):(s.extract a b).size=b - a:=by simp;omega
theorem iA(s:ByteArray){a b:Nat}(hb:b≤s.size):∀k,a+k≤b→nv (s.extract a b) 0 k=nv s a k
 | 0,_=>rfl
 | k+1,h=>by
  simp only[nv,Nat.zero_add,jB];rw[iA s hb k (by omega),A7 s (by omega) hb]
theorem gp{s:ByteArray}{a b:Nat}(hb:b≤s.size)(h:∀i,a≤i→i<b→bj s i):∀i,i<(s.extract a b).size→bj (s.extract a b) i:=fun i hi=>by
 refine⟨hi,?_⟩;rw[ef s hb]at hi;unfold jB;rw[A7 s (by omega) hb];exact(h (a+i) (by omega) (by omega)).2
theorem yh{t:ByteArray}(h:∀i,i<t.size→bj t i)(h0:0<t.size)(h1:t.size≤300):rd t=(((nv t 0 t.size:Nat):Int),0,0):=by
 have hm:¬minus t:=fun hm=>by
  have:=(h 0 h0).2.1;have:=hm.2;omega
 have hs:ak t=0:=by simp[ak,hm]
 have hd:aw t 0=t.size:=kI (aoE _) (fun i _ hi=>h i hi) (fun h'=>by have:=h'.1;omega);unfold rd;rw[hs,hd,if_neg (by omega),if_neg (by omega),if_neg hm];simp
theorem PD{s:ByteArray}{a b:Nat}(hb:b≤s.size)(h:a<b):s.extract a b≠⟨#[]⟩:=fun e=>by
 have:=ef s (a:=a) hb;rw[e]at this;have e0:(⟨#[]⟩:ByteArray).size=0:=rfl;omega
set_option exponentiation.threshold 1000 in
theorem JE{s:ByteArray}{a k:Nat}(h:∀i,a≤i→i<a+k→bj s i)(hk:k≤400):fw 400 (nv s a k:Nat):=by
 have:=rA h;exact cI (k:=100) (EK (y:=((10^k:Nat):Int)) (by simp only[Int.natAbs_natCast];omega) (jN hk)) (by omega)
def xm(r:Rat × Nat × Nat):SV:=.bG [aY r.1,kv r.2.1 r.2.2]
@[simp] theorem Al(e:Nat × Nat)(b:Bool)(c p:Nat):jG (some e) b c p=some e:=rfl
theorem je(c p:Nat)(v:Rat)(hc:c≠0):oa (some (c,p)) v=xm (0,c,p):=by simp[oa,xm,kv,hc]
theorem su(v:Rat)(p:Nat):oa none v=xm (v,0,p):=by simp[oa,xm,kv]
def IA(s:ByteArray)(st:St):Prop:=∃(T P Lw Pw:ByteArray) (a la pa:Nat) (E:Option (Nat × Nat)) (neg up:Bool) (t d:Nat),
 (∀c p,E=some (c,p)→c=1∨c=2∨c=3)∧(E=none→rd T=((t:Int),0,0))∧T.size≤400∧P.size≤400∧(∀i,i<P.size→bj P i)∧fw 400 d∧fw 400 t ∧
  ((Lw=⟨#[]⟩∧d=1)∨(Lw≠⟨#[]⟩∧rd Lw=((d:Int),0,0)∧Lw.size≤400))∧(∀i,i<Pw.size→bj Pw i)∧Pw.size≤400 ∧
  oa (jG (jG (jG E (decide (a<s.size)) 1 a) (decide (60<nv Pw 0 Pw.size)) 2 pa) (decide (Lw≠⟨#[]⟩)&&decide (d=0)) 3 la) (pY neg up t P (min (nv Pw 0 Pw.size) 61) d)=xm (eH 300 s) ∧
  st=⟨151,[(0,.val (.string s)),(2,.ptr 0 0 0),(3,.val .nilIface),(4,.ptr 1 0 0),(5,.val (.bool neg)),(6,.val (.string T)),(7,.val (.string P)),(8,.val (.string Lw)),(9,.val (.string Pw)),(10,.val (.bool up)),(11,.val (.int .i64 la)),(12,.val (.int .i64 pa))],MR s a E⟩
theorem Gt:fw 400 ((1:Nat):Int):=pD (by omega)
theorem IA.err{s T:ByteArray}{a la pa:Nat}{c p:Nat}{neg up:Bool}{st:St}(hc:c=1∨c=2∨c=3)(hT:T.size≤400)(hq:eH 300 s=(0,c,p))
  (h:st=⟨151,[(0,.val (.string s)),(2,.ptr 0 0 0),(3,.val .nilIface),(4,.ptr 1 0 0),(5,.val (.bool neg)),(6,.val (.string T)),(7,.val (.string ⟨#[]⟩)),(8,.val (.string ⟨#[]⟩)),(9,.val (.string ⟨#[]⟩)),(10,.val (.bool up)),(11,.val (.int .i64 la)),(12,.val (.int .i64 pa))],MR s a (some (c,p))⟩):IA s st :=
 ⟨T,⟨#[]⟩,⟨#[]⟩,⟨#[]⟩,a,la,pa,some (c,p),neg,up,0,1,fun c' p' h'=>by simp only[Option.some.injEq,Prod.mk.injEq]at h';omega,fun h'=>(by cases h'),hT,aoE _,fun i hi=>absurd hi (anw _),Gt,ug _,.inl ⟨rfl,rfl⟩,
  fun i hi=>absurd hi (anw _),aoE _,by simp only[Al];rw[je _ _ _ (by omega),hq],h⟩
theorem sa:(⟨#[]⟩:ByteArray).size=0:=rfl
theorem Pq:nv ⟨#[]⟩ 0 (⟨#[]⟩:ByteArray).size=0:=rfl
theorem qd(Q:Nat→Prop):∀i,i<(⟨#[]⟩:ByteArray).size→Q i:=fun i hi=>absurd hi (anw _)
theorem js{s:ByteArray}{neg:Bool}(h:decide (minus s)=neg)(n:Nat):iO s n=if neg=true then -(n:Int) else(n:Int):=by
 unfold iO;rw[←h];by_cases hm:minus s<;>simp[hm]
theorem IS{s Lw:ByteArray}{e b tv d:Nat}{neg:Bool}(hn:decide (minus s)=neg)(hL:Lw≠⟨#[]⟩)(hbs:b≤s.size)(hb:e+1<b)(hd:d=nv s (e+1) (b - (e+1))) :
  oa (jG (jG (jG none (decide (b<s.size)) 1 b) (decide (60<nv ⟨#[]⟩ 0 (⟨#[]⟩:ByteArray).size)) 2 0) (decide (Lw≠⟨#[]⟩)&&decide (d=0)) 3 (e+1)) (pY neg true tv ⟨#[]⟩ (min (nv ⟨#[]⟩ 0 (⟨#[]⟩:ByteArray).size) 61) d) =
   xm (if b=e+1∨b<s.size then(0,1,b) else if nv s (e+1) (s.size - (e+1))=0 then(0,3,e+1) else(Rat.divInt (iO s tv) (nv s (e+1) (s.size - (e+1)):Int),0,0)):=by
 rw[Pq];by_cases l1:b<s.size
 ·rw[if_pos (.inr l1)];simp only[jG,l1,decide_true,if_true];exact je _ _ _ (by omega)
 ·rw[if_neg (show ¬(b=e+1∨b<s.size) by omega),show s.size - (e+1)=b - (e+1) by omega,←hd];by_cases l2:d=0
  ·simp only[jG,l1,l2,hL,if_true,decide_false,aoG,if_false,anw,ne_eq,not_false_eq_true,decide_true,Bool.and_self];exact je _ _ _ (by omega)
  ·simp only[jG,l1,l2,hL,if_false,decide_false,aoG,anw,ne_eq,not_false_eq_true,decide_true,Bool.and_false];rw[su _ 0,js hn];unfold pY;simp[sa,nv]
theorem BA{s P:ByteArray}{e tv:Nat}{neg:Bool}(hn:decide (minus s)=neg)(he:e≤s.size)(g:¬bA s e 101) :
  oa (jG (jG (jG none (decide (e<s.size)) 1 e) (decide (60<nv ⟨#[]⟩ 0 (⟨#[]⟩:ByteArray).size)) 2 0) (decide ((⟨#[]⟩:ByteArray)≠⟨#[]⟩)&&decide ((1:Nat)=0)) 3 0) (pY neg true tv P (min (nv ⟨#[]⟩ 0 (⟨#[]⟩:ByteArray).size) 61) 1) =
   xm (cS s (tv*10^P.size+nv P 0 P.size) P.size e):=by
 rw[Pq];unfold cS;rw[if_neg g];by_cases l1:e<s.size
 ·rw[if_pos l1];simp only[jG,l1,decide_true,if_true];exact je _ _ _ (by omega)
 ·rw[if_neg l1];simp only[jG,l1,if_false,decide_false,aoG,anw,ne_eq,not_true,aoH];rw[su _ 0,js hn];unfold pY;simp
theorem rX{s P W:ByteArray}{e b c tv:Nat}{neg up:Bool}(hn:decide (minus s)=neg)(hcs:c≤s.size)(g:bA s e 101)(hb:bQ s e=b)(hu:up=true↔¬bA s (e+1) 45)(hc:aw s b=c)(hbc:b<c)(h3:¬b+300<c)(hW:nv W 0 W.size=nv s b (c - b)) :
  oa (jG (jG (jG none (decide (c<s.size)) 1 c) (decide (60<nv W 0 W.size)) 2 b) (decide ((⟨#[]⟩:ByteArray)≠⟨#[]⟩)&&decide ((1:Nat)=0)) 3 0) (pY neg up tv P (min (nv W 0 W.size) 61) 1) =
   xm (cS s (tv*10^P.size+nv P 0 P.size) P.size e):=by
 unfold cS;rw[if_pos g,hb,hc,if_neg h3,hW];by_cases l1:c<s.size
 ·rw[if_pos (.inr l1)];simp only[jG,l1,decide_true,if_true];exact je _ _ _ (by omega)
 ·rw[if_neg (show ¬(c=b∨c<s.size) by omega),show s.size - b=c - b by omega];generalize nv s b (c - b)=x at *;by_cases l2:60<x
  ·rw[if_pos l2];simp only[jG,l1,l2,if_true,decide_false,aoG,if_false,decide_true];exact je _ _ _ (by omega)
  ·rw[if_neg l2];simp only[jG,l1,l2,if_false,decide_false,aoG,ne_eq,not_true,aoH];rw[su _ 0,show min x 61=x by omega];unfold pY;cases up with
   | true =>
    rw[if_neg (hu.1 rfl),js hn];simp
   | false =>
    rw[if_pos (show bA s (e+1) 45 from Classical.byContradiction fun h=>by have:=hu.2 h;cases this),js hn];simp[Nat.pow_add]
def rZ(s T:ByteArray)(neg:Bool)(a:Nat)(E:Option (Nat × Nat)):St:=⟨151,[(0,.val (.string s)),(2,.ptr 0 0 0),(3,.val .nilIface),(4,.ptr 1 0 0),(5,.val (.bool neg)),(6,.val (.string T)),(7,.val (.string ⟨#[]⟩)),(8,.val (.string ⟨#[]⟩)),(9,.val (.string ⟨#[]⟩)),(10,.val (.bool true)),(11,.val (.int .i64 0)),(12,.val (.int .i64 0))],MR s a E⟩
theorem IA.tF{s T P:ByteArray}{a pa:Nat}{c p:Nat}{neg up:Bool}{st:St}(hc:c=1∨c=2∨c=3)(hT:T.size≤400)(hP:P.size≤400)(hPd:∀i,i<P.size→bj P i)(hq:eH 300 s=(0,c,p))
  (h:st=⟨151,[(0,.val (.string s)),(2,.ptr 0 0 0),(3,.val .nilIface),(4,.ptr 1 0 0),(5,.val (.bool neg)),(6,.val (.string T)),(7,.val (.string P)),(8,.val (.string ⟨#[]⟩)),(9,.val (.string ⟨#[]⟩)),(10,.val (.bool up)),(11,.val (.int .i64 0)),(12,.val (.int .i64 pa))],MR s a (some (c,p))⟩):IA s st :=
 ⟨T,P,⟨#[]⟩,⟨#[]⟩,a,0,pa,some (c,p),neg,up,0,1,fun c' p' h'=>by simp only[Option.some.injEq,Prod.mk.injEq]at h';omega,fun h'=>(by cases h'),hT,hP,hPd,Gt,ug _,.inl ⟨rfl,rfl⟩,
  qd _,aoE _,by simp only[Al];rw[je _ _ _ (by omega),hq],h⟩
theorem IP{C:Ctx}{Q:aV}(hC:C.fx=[]){s T:ByteArray}{neg:Bool}{a c p:Nat}(hTz:T.size≤300)(hc:c=1∨c=2∨c=3)(hq:eH 300 s=(0,c,p)):vc Tryz.prog C (jK 1 (fk 5 readBody)) (rZ s T neg a (some (c,p))) (iK C (IA s) Q) (iK C (IA s) Q):=by
 simp only[readBody,Tryz.f79,amL,ax,au,aG,aE];simp[rZ,MR];refine uQ s a 47 (k2:=2) (by simp[ao,bu]) (by simp) ?_;simp;refine uQ s a 46 (k2:=2) (by simp[ao,bu]) (by simp) ?_;simp;refine uQ s a 101 (k2:=2) (by simp[ao,bu]) (by simp) ?_;simp;exact⟨_,IA.err (T:=T) (a:=a) (la:=0) (pa:=0) (neg:=neg) (up:=true) hc (by omega) hq rfl,by simp[ar,hC,MR,kY,bu,z4]⟩
theorem CK{C:Ctx}{Q:aV}(hC:C.fx=[]){s T:ByteArray}{neg:Bool}{e tv:Nat}(hs:s.size≤4611686018427387904)(hn:decide (minus s)=neg)(hes:e≤s.size)(hT:rd T=((tv:Int),0,0))(hTz:T.size≤300)(ht:fw 400 (tv:Nat))(g:bA s e 47)
  (hq0:eH 300 s=if e+1+300<aw s (e+1) then(0,2,e+1+300) else if aw s (e+1)=e+1∨aw s (e+1)<s.size then(0,1,aw s (e+1)) else if nv s (e+1) (s.size - (e+1))=0 then(0,3,e+1) else(Rat.divInt (iO s tv) (nv s (e+1) (s.size - (e+1)):Int),0,0)):vc Tryz.prog C (jK 1 (fk 5 readBody)) (rZ s T neg e none) (iK C (IA s) Q) (iK C (IA s) Q):=by
 simp only[readBody,Tryz.f79,amL,ax,au,aG,aE];simp[rZ,MR];have hg:=g.1;refine bz s e 47 (by simp[ao,bu]) hs (by omega) (by simp) (fun _=>?_) (fun g'=>absurd g g');simp[bu];refine cM s (e+1) (by simp[ao,bu]) hs (by omega) (by simp) (fun k1=>?_) (fun k1=>?_) (fun k1 k2=>?_)
 ·have hq:eH 300 s=(0,2,e+1+300):=by rw[hq0,if_pos k1]
  simp;exact⟨_,IA.err (T:=T) (a:=e+1+300) (la:=e+1) (pa:=0) (neg:=neg) (up:=true) (by omega) (by omega) hq rfl,by simp[ar,hC,MR,kY,bu,z4]⟩
 ·have hq:eH 300 s=(0,1,e+1):=by rw[hq0,if_neg (by omega),if_pos (.inl k1),k1]
  simp;exact⟨_,IA.err (T:=T) (a:=e+1) (la:=e+1) (pa:=0) (neg:=neg) (up:=true) (by omega) (by omega) hq rfl,by simp[ar,hC,MR,kY,bu,z4]⟩
 ·obtain⟨b,hb⟩:∃b,b=aw s (e+1):=⟨_,rfl⟩;have hbs:=dI (s:=s) (a:=e+1) (by omega);have hLd:=fun i (h1:e+1≤i) (h2:i<b)=>cV (s:=s) (a:=e+1) h1 (hb ▸ h2);rw[←hb]at k1 k2 hbs hq0;rw[if_neg k1]at hq0;have hLz:=ef s (a:=e+1) hbs;have hL:=yh (gp hbs hLd) (by omega) (by omega);rw[hLz,iA s hbs _ (by omega)]at hL;have hd:fw 400 (nv s (e+1) (b - (e+1)):Nat):=JE (fun i i1 i2=>hLd i i1 (by omega)) (by omega);have hLn:=PD hbs (show e+1<b by omega);rw[←hb];have hL4:(s.extract (e+1) b).size≤400:=by omega
  have fin:=IS (tv:=tv) hn hLn hbs (by omega) (d:=nv s (e+1) (b - (e+1))) rfl;rw[←hq0]at fin;generalize s.extract (e+1) b=Lw at *;simp;exact⟨_,⟨T,⟨#[]⟩,Lw,⟨#[]⟩,b,e+1,0,none,neg,true,tv,nv s (e+1) (b - (e+1)),by simp,fun _=>hT,by omega,aoE _,qd _,hd,ht,.inr ⟨hLn,hL,hL4⟩,qd _,aoE _,fin,rfl⟩,by simp[ar,hC,MR,kY,bu,z4]⟩
theorem Fs{C:Ctx}{Q:aV}(hC:C.fx=[]){s T:ByteArray}{neg:Bool}{e tv:Nat}(hs:s.size≤4611686018427387904)(hn:decide (minus s)=neg)(hes:e≤s.size)(hT:rd T=((tv:Int),0,0))(hTz:T.size≤300)(ht:fw 400 (tv:Nat))(g0:¬bA s e 47)(g:bA s e 46)(hk:e+1+300<aw s (e+1)∨aw s (e+1)=e+1)
  (hq0:eH 300 s=if e+1+300<aw s (e+1) then(0,2,e+1+300) else if aw s (e+1)=e+1 then(0,1,e+1) else cS s (tv*10^(aw s (e+1) - (e+1))+nv s (e+1) (aw s (e+1) - (e+1))) (aw s (e+1) - (e+1)) (aw s (e+1))):vc Tryz.prog C (jK 1 (fk 5 readBody)) (rZ s T neg e none) (iK C (IA s) Q) (iK C (IA s) Q):=by
 simp only[readBody,Tryz.f79,amL,ax,au,aG,aE];simp[rZ,MR];have hg:=g.1;refine bz s e 47 (by simp[ao,bu]) hs (by omega) (by simp) (fun g'=>absurd g' g0) (fun _=>?_);simp;refine bz s e 46 (by simp[ao,bu]) hs (by omega) (by simp) (fun _=>?_) (fun g'=>absurd g g');simp[bu];refine cM s (e+1) (by simp[ao,bu]) hs (by omega) (by simp) (fun k1=>?_) (fun k1=>?_) (fun k1 k2=>by omega)
 ·have hq:eH 300 s=(0,2,e+1+300):=by rw[hq0,if_pos k1]
  simp;refine uQ s (e+1+300) 101 (k2:=2) (by simp[ao,bu]) (by simp) ?_;simp;exact⟨_,IA.err (T:=T) (a:=e+1+300) (la:=0) (pa:=0) (neg:=neg) (up:=true) (by omega) (by omega) hq rfl,by simp[ar,hC,MR,kY,bu,z4]⟩
 ·have hq:eH 300 s=(0,1,e+1):=by rw[hq0,if_neg (by omega),if_pos k1]
  simp;refine uQ s (e+1) 101 (k2:=2) (by simp[ao,bu]) (by simp) ?_;simp;exact⟨_,IA.err (T:=T) (a:=e+1) (la:=0) (pa:=0) (neg:=neg) (up:=true) (by omega) (by omega) hq rfl,by simp[ar,hC,MR,kY,bu,z4]⟩
theorem Hn{C:Ctx}{Q:aV}(hC:C.fx=[]){s T:ByteArray}{neg:Bool}{e tv:Nat}(hs:s.size≤4611686018427387904)(hn:decide (minus s)=neg)(hes:e≤s.size)(hT:rd T=((tv:Int),0,0))(hTz:T.size≤300)(ht:fw 400 (tv:Nat))(g0:¬bA s e 47)(g:bA s e 46)(hk1:¬e+1+300<aw s (e+1))(hk2:e+1<aw s (e+1)){f:Nat}(hf:f=aw s (e+1)){P:ByteArray}(hPe:P=s.extract (e+1) f)(hPz:P.size=f - (e+1))(hPd:∀i,i<P.size→bj P i)(hfs:f≤s.size)(hq0:eH 300 s=cS s (tv*10^P.size+nv P 0 P.size) P.size f)(x0:¬bA s f 101):vc Tryz.prog C (jK 1 (fk 5 readBody)) (rZ s T neg e none) (iK C (IA s) Q) (iK C (IA s) Q):=by
 simp only[readBody,Tryz.f79,amL,ax,au,aG,aE];simp[rZ,MR];have hg:=g.1;refine bz s e 47 (by simp[ao,bu]) hs (by omega) (by simp) (fun g'=>absurd g' g0) (fun _=>?_);simp;refine bz s e 46 (by simp[ao,bu]) hs (by omega) (by simp) (fun _=>?_) (fun g'=>absurd g g');simp[bu];refine cM s (e+1) (by simp[ao,bu]) hs (by omega) (by simp) (fun k1=>by omega) (fun k1=>by omega) (fun _ _=>?_);rw[←hf,←hPe];simp[bu];refine bz s f 101 (by simp[ao,bu]) hs (by omega) (by simp) (fun g'=>absurd g' x0) (fun _=>?_);have fin:=BA (P:=P) (tv:=tv) hn hfs x0;rw[←hq0]at fin;simp;exact⟨_,⟨T,P,⟨#[]⟩,⟨#[]⟩,f,0,0,none,neg,true,tv,1,by simp,fun _=>hT,by omega,by omega,hPd,Gt,ht,.inl ⟨rfl,rfl⟩,qd _,aoE _,fin,rfl⟩,by simp[ar,hC,MR,kY,bu,z4]⟩
theorem Jd{C:Ctx}{Q:aV}(hC:C.fx=[]){s T:ByteArray}{neg:Bool}{e tv:Nat}(hs:s.size≤4611686018427387904)(hn:decide (minus s)=neg)(hes:e≤s.size)(hT:rd T=((tv:Int),0,0))(hTz:T.size≤300)(ht:fw 400 (tv:Nat))(g0:¬bA s e 47)(g:bA s e 46)(hk1:¬e+1+300<aw s (e+1))(hk2:e+1<aw s (e+1)){f:Nat}(hf:f=aw s (e+1)){P:ByteArray}(hPe:P=s.extract (e+1) f)(hPz:P.size=f - (e+1))(hPd:∀i,i<P.size→bj P i)(hfs:f≤s.size)(hq0:eH 300 s=cS s (tv*10^P.size+nv P 0 P.size) P.size f)(x0:bA s f 101)(x1:bA s (f+1) 45):vc Tryz.prog C (jK 1 (fk 5 readBody)) (rZ s T neg e none) (iK C (IA s) Q) (iK C (IA s) Q):=by
 simp only[readBody,Tryz.f79,amL,ax,au,aG,aE];simp[rZ,MR];have hg:=g.1;refine bz s e 47 (by simp[ao,bu]) hs (by omega) (by simp) (fun g'=>absurd g' g0) (fun _=>?_);simp;refine bz s e 46 (by simp[ao,bu]) hs (by omega) (by simp) (fun _=>?_) (fun g'=>absurd g g');simp[bu];refine cM s (e+1) (by simp[ao,bu]) hs (by omega) (by simp) (fun k1=>by omega) (fun k1=>by omega) (fun _ _=>?_);rw[←hf,←hPe];simp[bu];have hx0:=x0.1;refine bz s f 101 (by simp[ao,bu]) hs (by omega) (by simp) (fun _=>?_) (fun g'=>absurd x0 g');simp[bu];have hx1:=x1.1;have hb:bQ s f=f+1+1:=by unfold bQ;rw[if_pos (.inl x1)]
 refine bz s (f+1) 45 (by simp[ao,bu]) hs (by omega) (by simp) (fun _=>?_) (fun g'=>absurd x1 g');simp[bu];refine cM s (f+1+1) (by simp[ao,bu]) hs (by omega) (by simp) (fun k1=>?_) (fun k1=>?_) (fun k1 k2=>?_)
 ·have hq:eH 300 s=(0,2,f+1+1+300):=by rw[hq0];unfold cS;rw[if_pos x0,hb,if_pos k1]
  simp[bu];exact⟨_,IA.tF (T:=T) (P:=P) (a:=f+1+1+300) (pa:=f+1+1) (neg:=neg) (up:=false) (by omega) (by omega) (by omega) hPd hq rfl,by simp[ar,hC,MR,kY,bu,z4]⟩
 ·have hq:eH 300 s=(0,1,f+1+1):=by rw[hq0];unfold cS;rw[if_pos x0,hb,if_neg (by omega),if_pos (.inl k1),k1]
  simp[bu];exact⟨_,IA.tF (T:=T) (P:=P) (a:=f+1+1) (pa:=f+1+1) (neg:=neg) (up:=false) (by omega) (by omega) (by omega) hPd hq rfl,by simp[ar,hC,MR,kY,bu,z4]⟩
 ·obtain⟨c,hc⟩:∃c,c=aw s (f+1+1):=⟨_,rfl⟩;have hcs:=dI (s:=s) (a:=f+1+1) (by omega);have hWd:=fun i (h1:f+1+1≤i) (h2:i<c)=>cV (s:=s) (a:=f+1+1) h1 (hc ▸ h2);rw[←hc]at k1 k2 hcs;have hWz:=ef s (a:=f+1+1) hcs;have hWn:=iA s (a:=f+1+1) hcs (c - (f+1+1)) (by omega);rw[←hWz]at hWn;have hWa:=gp hcs hWd;rw[←hc];generalize s.extract (f+1+1) c=W at *;rw[hWz]at hWn;have hW4:W.size≤400:=by omega
  have fin:=rX (P:=P) (W:=W) (tv:=tv) (up:=false) hn hcs x0 hb (by simp[x1]) hc.symm k2 k1 (by rw[hWz];exact hWn);rw[←hq0]at fin;simp[bu];exact⟨_,⟨T,P,⟨#[]⟩,W,c,0,f+1+1,none,neg,false,tv,1,by simp,fun _=>hT,by omega,by omega,hPd,Gt,ht,.inl ⟨rfl,rfl⟩,hWa,hW4,fin,rfl⟩,by simp[ar,hC,MR,kY,bu,z4]⟩
theorem Hg{C:Ctx}{Q:aV}(hC:C.fx=[]){s T:ByteArray}{neg:Bool}{e tv:Nat}(hs:s.size≤4611686018427387904)(hn:decide (minus s)=neg)(hes:e≤s.size)(hT:rd T=((tv:Int),0,0))(hTz:T.size≤300)(ht:fw 400 (tv:Nat))(g0:¬bA s e 47)(g:bA s e 46)(hk1:¬e+1+300<aw s (e+1))(hk2:e+1<aw s (e+1)){f:Nat}(hf:f=aw s (e+1)){P:ByteArray}(hPe:P=s.extract (e+1) f)(hPz:P.size=f - (e+1))(hPd:∀i,i<P.size→bj P i)(hfs:f≤s.size)(hq0:eH 300 s=cS s (tv*10^P.size+nv P 0 P.size) P.size f)(x0:bA s f 101)(x1:¬bA s (f+1) 45)(x2:bA s (f+1) 43):vc Tryz.prog C (jK 1 (fk 5 readBody)) (rZ s T neg e none) (iK C (IA s) Q) (iK C (IA s) Q):=by
 simp only[readBody,Tryz.f79,amL,ax,au,aG,aE];simp[rZ,MR];have hg:=g.1;refine bz s e 47 (by simp[ao,bu]) hs (by omega) (by simp) (fun g'=>absurd g' g0) (fun _=>?_);simp;refine bz s e 46 (by simp[ao,bu]) hs (by omega) (by simp) (fun _=>?_) (fun g'=>absurd g g');simp[bu];refine cM s (e+1) (by simp[ao,bu]) hs (by omega) (by simp) (fun k1=>by omega) (fun k1=>by omega) (fun _ _=>?_);rw[←hf,←hPe];simp[bu];have hx0:=x0.1;refine bz s f 101 (by simp[ao,bu]) hs (by omega) (by simp) (fun _=>?_) (fun g'=>absurd x0 g');simp[bu];have hx1:=x2.1;have hb:bQ s f=f+1+1:=by unfold bQ;rw[if_pos (.inr x2)]
 refine bz s (f+1) 45 (by simp[ao,bu]) hs (by omega) (by simp) (fun g'=>absurd g' x1) (fun _=>?_);simp[bu];refine bz s (f+1) 43 (by simp[ao,bu]) hs (by omega) (by simp) (fun _=>?_) (fun g'=>absurd x2 g');simp[bu];refine cM s (f+1+1) (by simp[ao,bu]) hs (by omega) (by simp) (fun k1=>?_) (fun k1=>?_) (fun k1 k2=>?_)
 ·have hq:eH 300 s=(0,2,f+1+1+300):=by rw[hq0];unfold cS;rw[if_pos x0,hb,if_pos k1]
  simp[bu];exact⟨_,IA.tF (T:=T) (P:=P) (a:=f+1+1+300) (pa:=f+1+1) (neg:=neg) (up:=true) (by omega) (by omega) (by omega) hPd hq rfl,by simp[ar,hC,MR,kY,bu,z4]⟩
 ·have hq:eH 300 s=(0,1,f+1+1):=by rw[hq0];unfold cS;rw[if_pos x0,hb,if_neg (by omega),if_pos (.inl k1),k1]
  simp[bu];exact⟨_,IA.tF (T:=T) (P:=P) (a:=f+1+1) (pa:=f+1+1) (neg:=neg) (up:=true) (by omega) (by omega) (by omega) hPd hq rfl,by simp[ar,hC,MR,kY,bu,z4]⟩
 ·obtain⟨c,hc⟩:∃c,c=aw s (f+1+1):=⟨_,rfl⟩;have hcs:=dI (s:=s) (a:=f+1+1) (by omega);have hWd:=fun i (h1:f+1+1≤i) (h2:i<c)=>cV (s:=s) (a:=f+1+1) h1 (hc ▸ h2);rw[←hc]at k1 k2 hcs;have hWz:=ef s (a:=f+1+1) hcs;have hWn:=iA s (a:=f+1+1) hcs (c - (f+1+1)) (by omega);rw[←hWz]at hWn;have hWa:=gp hcs hWd;rw[←hc];generalize s.extract (f+1+1) c=W at *;rw[hWz]at hWn;have hW4:W.size≤400:=by omega
  have fin:=rX (P:=P) (W:=W) (tv:=tv) (up:=true) hn hcs x0 hb (by simp[x1]) hc.symm k2 k1 (by rw[hWz];exact hWn);rw[←hq0]at fin;simp[bu];exact⟨_,⟨T,P,⟨#[]⟩,W,c,0,f+1+1,none,neg,true,tv,1,by simp,fun _=>hT,by omega,by omega,hPd,Gt,ht,.inl ⟨rfl,rfl⟩,hWa,hW4,fin,rfl⟩,by simp[ar,hC,MR,kY,bu,z4]⟩
theorem JG{C:Ctx}{Q:aV}(hC:C.fx=[]){s T:ByteArray}{neg:Bool}{e tv:Nat}(hs:s.size≤4611686018427387904)(hn:decide (minus s)=neg)(hes:e≤s.size)(hT:rd T=((tv:Int),0,0))(hTz:T.size≤300)(ht:fw 400 (tv:Nat))(g0:¬bA s e 47)(g:bA s e 46)(hk1:¬e+1+300<aw s (e+1))(hk2:e+1<aw s (e+1)){f:Nat}(hf:f=aw s (e+1)){P:ByteArray}(hPe:P=s.extract (e+1) f)(hPz:P.size=f - (e+1))(hPd:∀i,i<P.size→bj P i)(hfs:f≤s.size)(hq0:eH 300 s=cS s (tv*10^P.size+nv P 0 P.size) P.size f)(x0:bA s f 101)(x1:¬bA s (f+1) 45)(x2:¬bA s (f+1) 43):vc Tryz.prog C (jK 1 (fk 5 readBody)) (rZ s T neg e none) (iK C (IA s) Q) (iK C (IA s) Q):=by
 simp only[readBody,Tryz.f79,amL,ax,au,aG,aE];simp[rZ,MR];have hg:=g.1;refine bz s e 47 (by simp[ao,bu]) hs (by omega) (by simp) (fun g'=>absurd g' g0) (fun _=>?_);simp;refine bz s e 46 (by simp[ao,bu]) hs (by omega) (by simp) (fun _=>?_) (fun g'=>absurd g g');simp[bu];refine cM s (e+1) (by simp[ao,bu]) hs (by omega) (by simp) (fun k1=>by omega) (fun k1=>by omega) (fun _ _=>?_);rw[←hf,←hPe];simp[bu];have hx0:=x0.1;refine bz s f 101 (by simp[ao,bu]) hs (by omega) (by simp) (fun _=>?_) (fun g'=>absurd x0 g');simp[bu];have hb:bQ s f=f+1:=by unfold bQ;rw[if_neg (fun h=>h.elim x1 x2)]
 refine bz s (f+1) 45 (by simp[ao,bu]) hs (by omega) (by simp) (fun g'=>absurd g' x1) (fun _=>?_);simp[bu];refine bz s (f+1) 43 (by simp[ao,bu]) hs (by omega) (by simp) (fun g'=>absurd g' x2) (fun _=>?_);simp[bu];refine cM s (f+1) (by simp[ao,bu]) hs (by omega) (by simp) (fun k1=>?_) (fun k1=>?_) (fun k1 k2=>?_)
 ·have hq:eH 300 s=(0,2,f+1+300):=by rw[hq0];unfold cS;rw[if_pos x0,hb,if_pos k1]
  simp[bu];exact⟨_,IA.tF (T:=T) (P:=P) (a:=f+1+300) (pa:=f+1) (neg:=neg) (up:=true) (by omega) (by omega) (by omega) hPd hq rfl,by simp[ar,hC,MR,kY,bu,z4]⟩
 ·have hq:eH 300 s=(0,1,f+1):=by rw[hq0];unfold cS;rw[if_pos x0,hb,if_neg (by omega),if_pos (.inl k1),k1]
  simp[bu];exact⟨_,IA.tF (T:=T) (P:=P) (a:=f+1) (pa:=f+1) (neg:=neg) (up:=true) (by omega) (by omega) (by omega) hPd hq rfl,by simp[ar,hC,MR,kY,bu,z4]⟩
 ·obtain⟨c,hc⟩:∃c,c=aw s (f+1):=⟨_,rfl⟩;have hcs:=dI (s:=s) (a:=f+1) (by omega);have hWd:=fun i (h1:f+1≤i) (h2:i<c)=>cV (s:=s) (a:=f+1) h1 (hc ▸ h2);rw[←hc]at k1 k2 hcs;have hWz:=ef s (a:=f+1) hcs;have hWn:=iA s (a:=f+1) hcs (c - (f+1)) (by omega);rw[←hWz]at hWn;have hWa:=gp hcs hWd;rw[←hc];generalize s.extract (f+1) c=W at *;rw[hWz]at hWn;have hW4:W.size≤400:=by omega
  have fin:=rX (P:=P) (W:=W) (tv:=tv) (up:=true) hn hcs x0 hb (by simp[x1]) hc.symm k2 k1 (by rw[hWz];exact hWn);rw[←hq0]at fin;simp[bu];exact⟨_,⟨T,P,⟨#[]⟩,W,c,0,f+1,none,neg,true,tv,1,by simp,fun _=>hT,by omega,by omega,hPd,Gt,ht,.inl ⟨rfl,rfl⟩,hWa,hW4,fin,rfl⟩,by simp[ar,hC,MR,kY,bu,z4]⟩
theorem Jx{C:Ctx}{Q:aV}(hC:C.fx=[]){s T:ByteArray}{neg:Bool}{e tv:Nat}(hs:s.size≤4611686018427387904)(hn:decide (minus s)=neg)(hes:e≤s.size)(hT:rd T=((tv:Int),0,0))(hTz:T.size≤300)(ht:fw 400 (tv:Nat))(g0:¬bA s e 47)(g:¬bA s e 46){f:Nat}(hf:f=e){P:ByteArray}(hPe:P=⟨#[]⟩)(hPz:P.size=0)(hPd:∀i,i<P.size→bj P i)(hfs:f≤s.size)(hq0:eH 300 s=cS s (tv*10^P.size+nv P 0 P.size) P.size f)(x0:¬bA s f 101):vc Tryz.prog C (jK 1 (fk 5 readBody)) (rZ s T neg e none) (iK C (IA s) Q) (iK C (IA s) Q):=by
 simp only[readBody,Tryz.f79,amL,ax,au,aG,aE];simp[rZ,MR];subst hf;subst hPe;refine bz s f 47 (by simp[ao,bu]) hs (by omega) (by simp) (fun g'=>absurd g' g0) (fun _=>?_);simp;refine bz s f 46 (by simp[ao,bu]) hs (by omega) (by simp) (fun g'=>absurd g' g) (fun _=>?_);simp[bu];refine bz s f 101 (by simp[ao,bu]) hs (by omega) (by simp) (fun g'=>absurd g' x0) (fun _=>?_);have fin:=BA (P:=⟨#[]⟩) (tv:=tv) hn hfs x0;rw[←hq0]at fin;simp;exact⟨_,⟨T,⟨#[]⟩,⟨#[]⟩,⟨#[]⟩,f,0,0,none,neg,true,tv,1,by simp,fun _=>hT,by omega,by omega,hPd,Gt,ht,.inl ⟨rfl,rfl⟩,qd _,aoE _,fin,rfl⟩,by simp[ar,hC,MR,kY,bu,z4]⟩
theorem Ih{C:Ctx}{Q:aV}(hC:C.fx=[]){s T:ByteArray}{neg:Bool}{e tv:Nat}(hs:s.size≤4611686018427387904)(hn:decide (minus s)=neg)(hes:e≤s.size)(hT:rd T=((tv:Int),0,0))(hTz:T.size≤300)(ht:fw 400 (tv:Nat))(g0:¬bA s e 47)(g:¬bA s e 46){f:Nat}(hf:f=e){P:ByteArray}(hPe:P=⟨#[]⟩)(hPz:P.size=0)(hPd:∀i,i<P.size→bj P i)(hfs:f≤s.size)(hq0:eH 300 s=cS s (tv*10^P.size+nv P 0 P.size) P.size f)(x0:bA s f 101)(x1:bA s (f+1) 45):vc Tryz.prog C (jK 1 (fk 5 readBody)) (rZ s T neg e none) (iK C (IA s) Q) (iK C (IA s) Q):=by
 simp only[readBody,Tryz.f79,amL,ax,au,aG,aE];simp[rZ,MR];subst hf;subst hPe;refine bz s f 47 (by simp[ao,bu]) hs (by omega) (by simp) (fun g'=>absurd g' g0) (fun _=>?_);simp;refine bz s f 46 (by simp[ao,bu]) hs (by omega) (by simp) (fun g'=>absurd g' g) (fun _=>?_);simp[bu];have hx0:=x0.1;refine bz s f 101 (by simp[ao,bu]) hs (by omega) (by simp) (fun _=>?_) (fun g'=>absurd x0 g');simp[bu];have hx1:=x1.1;have hb:bQ s f=f+1+1:=by unfold bQ;rw[if_pos (.inl x1)]
 refine bz s (f+1) 45 (by simp[ao,bu]) hs (by omega) (by simp) (fun _=>?_) (fun g'=>absurd x1 g');simp[bu];refine cM s (f+1+1) (by simp[ao,bu]) hs (by omega) (by simp) (fun k1=>?_) (fun k1=>?_) (fun k1 k2=>?_)
 ·have hq:eH 300 s=(0,2,f+1+1+300):=by rw[hq0];unfold cS;rw[if_pos x0,hb,if_pos k1]
  simp[bu];exact⟨_,IA.tF (T:=T) (P:=⟨#[]⟩) (a:=f+1+1+300) (pa:=f+1+1) (neg:=neg) (up:=false) (by omega) (by omega) (by omega) hPd hq rfl,by simp[ar,hC,MR,kY,bu,z4]⟩
 ·have hq:eH 300 s=(0,1,f+1+1):=by rw[hq0];unfold cS;rw[if_pos x0,hb,if_neg (by omega),if_pos (.inl k1),k1]
  simp[bu];exact⟨_,IA.tF (T:=T) (P:=⟨#[]⟩) (a:=f+1+1) (pa:=f+1+1) (neg:=neg) (up:=false) (by omega) (by omega) (by omega) hPd hq rfl,by simp[ar,hC,MR,kY,bu,z4]⟩
 ·obtain⟨c,hc⟩:∃c,c=aw s (f+1+1):=⟨_,rfl⟩;have hcs:=dI (s:=s) (a:=f+1+1) (by omega);have hWd:=fun i (h1:f+1+1≤i) (h2:i<c)=>cV (s:=s) (a:=f+1+1) h1 (hc ▸ h2);rw[←hc]at k1 k2 hcs;have hWz:=ef s (a:=f+1+1) hcs;have hWn:=iA s (a:=f+1+1) hcs (c - (f+1+1)) (by omega);rw[←hWz]at hWn;have hWa:=gp hcs hWd;rw[←hc];generalize s.extract (f+1+1) c=W at *;rw[hWz]at hWn;have hW4:W.size≤400:=by omega
  have fin:=rX (P:=⟨#[]⟩) (W:=W) (tv:=tv) (up:=false) hn hcs x0 hb (by simp[x1]) hc.symm k2 k1 (by rw[hWz];exact hWn);rw[←hq0]at fin;simp[bu];exact⟨_,⟨T,⟨#[]⟩,⟨#[]⟩,W,c,0,f+1+1,none,neg,false,tv,1,by simp,fun _=>hT,by omega,by omega,hPd,Gt,ht,.inl ⟨rfl,rfl⟩,hWa,hW4,fin,rfl⟩,by simp[ar,hC,MR,kY,bu,z4]⟩
theorem Gy{C:Ctx}{Q:aV}(hC:C.fx=[]){s T:ByteArray}{neg:Bool}{e tv:Nat}(hs:s.size≤4611686018427387904)(hn:decide (minus s)=neg)(hes:e≤s.size)(hT:rd T=((tv:Int),0,0))(hTz:T.size≤300)(ht:fw 400 (tv:Nat))(g0:¬bA s e 47)(g:¬bA s e 46){f:Nat}(hf:f=e){P:ByteArray}(hPe:P=⟨#[]⟩)(hPz:P.size=0)(hPd:∀i,i<P.size→bj P i)(hfs:f≤s.size)(hq0:eH 300 s=cS s (tv*10^P.size+nv P 0 P.size) P.size f)(x0:bA s f 101)(x1:¬bA s (f+1) 45)(x2:bA s (f+1) 43):vc Tryz.prog C (jK 1 (fk 5 readBody)) (rZ s T neg e none) (iK C (IA s) Q) (iK C (IA s) Q):=by
 simp only[readBody,Tryz.f79,amL,ax,au,aG,aE];simp[rZ,MR];subst hf;subst hPe;refine bz s f 47 (by simp[ao,bu]) hs (by omega) (by simp) (fun g'=>absurd g' g0) (fun _=>?_);simp;refine bz s f 46 (by simp[ao,bu]) hs (by omega) (by simp) (fun g'=>absurd g' g) (fun _=>?_);simp[bu];have hx0:=x0.1;refine bz s f 101 (by simp[ao,bu]) hs (by omega) (by simp) (fun _=>?_) (fun g'=>absurd x0 g');simp[bu];have hx1:=x2.1;have hb:bQ s f=f+1+1:=by unfold bQ;rw[if_pos (.inr x2)]
 refine bz s (f+1) 45 (by simp[ao,bu]) hs (by omega) (by simp) (fun g'=>absurd g' x1) (fun _=>?_);simp[bu];refine bz s (f+1) 43 (by simp[ao,bu]) hs (by omega) (by simp) (fun _=>?_) (fun g'=>absurd x2 g');simp[bu];refine cM s (f+1+1) (by simp[ao,bu]) hs (by omega) (by simp) (fun k1=>?_) (fun k1=>?_) (fun k1 k2=>?_)
 ·have hq:eH 300 s=(0,2,f+1+1+300):=by rw[hq0];unfold cS;rw[if_pos x0,hb,if_pos k1]
  simp[bu];exact⟨_,IA.tF (T:=T) (P:=⟨#[]⟩) (a:=f+1+1+300) (pa:=f+1+1) (neg:=neg) (up:=true) (by omega) (by omega) (by omega) hPd hq rfl,by simp[ar,hC,MR,kY,bu,z4]⟩
 ·have hq:eH 300 s=(0,1,f+1+1):=by rw[hq0];unfold cS;rw[if_pos x0,hb,if_neg (by omega),if_pos (.inl k1),k1]
  simp[bu];exact⟨_,IA.tF (T:=T) (P:=⟨#[]⟩) (a:=f+1+1) (pa:=f+1+1) (neg:=neg) (up:=true) (by omega) (by omega) (by omega) hPd hq rfl,by simp[ar,hC,MR,kY,bu,z4]⟩
 ·obtain⟨c,hc⟩:∃c,c=aw s (f+1+1):=⟨_,rfl⟩;have hcs:=dI (s:=s) (a:=f+1+1) (by omega);have hWd:=fun i (h1:f+1+1≤i) (h2:i<c)=>cV (s:=s) (a:=f+1+1) h1 (hc ▸ h2);rw[←hc]at k1 k2 hcs;have hWz:=ef s (a:=f+1+1) hcs;have hWn:=iA s (a:=f+1+1) hcs (c - (f+1+1)) (by omega);rw[←hWz]at hWn;have hWa:=gp hcs hWd;rw[←hc];generalize s.extract (f+1+1) c=W at *;rw[hWz]at hWn;have hW4:W.size≤400:=by omega
  have fin:=rX (P:=⟨#[]⟩) (W:=W) (tv:=tv) (up:=true) hn hcs x0 hb (by simp[x1]) hc.symm k2 k1 (by rw[hWz];exact hWn);rw[←hq0]at fin;simp[bu];exact⟨_,⟨T,⟨#[]⟩,⟨#[]⟩,W,c,0,f+1+1,none,neg,true,tv,1,by simp,fun _=>hT,by omega,by omega,hPd,Gt,ht,.inl ⟨rfl,rfl⟩,hWa,hW4,fin,rfl⟩,by simp[ar,hC,MR,kY,bu,z4]⟩
theorem H5{C:Ctx}{Q:aV}(hC:C.fx=[]){s T:ByteArray}{neg:Bool}{e tv:Nat}(hs:s.size≤4611686018427387904)(hn:decide (minus s)=neg)(hes:e≤s.size)(hT:rd T=((tv:Int),0,0))(hTz:T.size≤300)(ht:fw 400 (tv:Nat))(g0:¬bA s e 47)(g:¬bA s e 46){f:Nat}(hf:f=e){P:ByteArray}(hPe:P=⟨#[]⟩)(hPz:P.size=0)(hPd:∀i,i<P.size→bj P i)(hfs:f≤s.size)(hq0:eH 300 s=cS s (tv*10^P.size+nv P 0 P.size) P.size f)(x0:bA s f 101)(x1:¬bA s (f+1) 45)(x2:¬bA s (f+1) 43):vc Tryz.prog C (jK 1 (fk 5 readBody)) (rZ s T neg e none) (iK C (IA s) Q) (iK C (IA s) Q):=by
 simp only[readBody,Tryz.f79,amL,ax,au,aG,aE];simp[rZ,MR];subst hf;subst hPe;refine bz s f 47 (by simp[ao,bu]) hs (by omega) (by simp) (fun g'=>absurd g' g0) (fun _=>?_);simp;refine bz s f 46 (by simp[ao,bu]) hs (by omega) (by simp) (fun g'=>absurd g' g) (fun _=>?_);simp[bu];have hx0:=x0.1;refine bz s f 101 (by simp[ao,bu]) hs (by omega) (by simp) (fun _=>?_) (fun g'=>absurd x0 g');simp[bu];have hb:bQ s f=f+1:=by unfold bQ;rw[if_neg (fun h=>h.elim x1 x2)]
 refine bz s (f+1) 45 (by simp[ao,bu]) hs (by omega) (by simp) (fun g'=>absurd g' x1) (fun _=>?_);simp[bu];refine bz s (f+1) 43 (by simp[ao,bu]) hs (by omega) (by simp) (fun g'=>absurd g' x2) (fun _=>?_);simp[bu];refine cM s (f+1) (by simp[ao,bu]) hs (by omega) (by simp) (fun k1=>?_) (fun k1=>?_) (fun k1 k2=>?_)
 ·have hq:eH 300 s=(0,2,f+1+300):=by rw[hq0];unfold cS;rw[if_pos x0,hb,if_pos k1]
  simp[bu];exact⟨_,IA.tF (T:=T) (P:=⟨#[]⟩) (a:=f+1+300) (pa:=f+1) (neg:=neg) (up:=true) (by omega) (by omega) (by omega) hPd hq rfl,by simp[ar,hC,MR,kY,bu,z4]⟩
 ·have hq:eH 300 s=(0,1,f+1):=by rw[hq0];unfold cS;rw[if_pos x0,hb,if_neg (by omega),if_pos (.inl k1),k1]
  simp[bu];exact⟨_,IA.tF (T:=T) (P:=⟨#[]⟩) (a:=f+1) (pa:=f+1) (neg:=neg) (up:=true) (by omega) (by omega) (by omega) hPd hq rfl,by simp[ar,hC,MR,kY,bu,z4]⟩
 ·obtain⟨c,hc⟩:∃c,c=aw s (f+1):=⟨_,rfl⟩;have hcs:=dI (s:=s) (a:=f+1) (by omega);have hWd:=fun i (h1:f+1≤i) (h2:i<c)=>cV (s:=s) (a:=f+1) h1 (hc ▸ h2);rw[←hc]at k1 k2 hcs;have hWz:=ef s (a:=f+1) hcs;have hWn:=iA s (a:=f+1) hcs (c - (f+1)) (by omega);rw[←hWz]at hWn;have hWa:=gp hcs hWd;rw[←hc];generalize s.extract (f+1) c=W at *;rw[hWz]at hWn;have hW4:W.size≤400:=by omega
  have fin:=rX (P:=⟨#[]⟩) (W:=W) (tv:=tv) (up:=true) hn hcs x0 hb (by simp[x1]) hc.symm k2 k1 (by rw[hWz];exact hWn);rw[←hq0]at fin;simp[bu];exact⟨_,⟨T,⟨#[]⟩,⟨#[]⟩,W,c,0,f+1,none,neg,true,tv,1,by simp,fun _=>hT,by omega,by omega,hPd,Gt,ht,.inl ⟨rfl,rfl⟩,hWa,hW4,fin,rfl⟩,by simp[ar,hC,MR,kY,bu,z4]⟩
end Go.Proofs


/- A text of the prover's own. -/
import Derived.Test.YtmghjkkjaolpgaaGreatDoorWQh
open Nat renaming zero_le→anA,pow_succ→amb,zero_add→alv,mul_assoc→ame,pow_zero→anB,mul_one→ak9
open Option renaming getD_some→alE
set_option maxRecDepth 20000
namespace Go.Proofs
open Go.Sv Go Go.Pl
noncomputable def readBody:Code:=Tryz.f79.body.getD .skip
def z4:Option cx:=some ⟨4,[.agg [.val (.bool false),.val (.slice none 0 0),.val (.bool false),.val (.slice none 0 0)]],false⟩
def ld(c p:Nat):Option cx:=some ⟨2,[.agg [.val (.int .i64 p),.fc eE (p7 c)]],false⟩
def MR(s:ByteArray)(a:Nat):Option (Nat × Nat)→aJ
 | none=>[z4,bu s a (.val .nilIface)]
 | some (c,p)=>[z4,bu s a (.iH fG (.ptr 2 0 0)),ld c p]
def oc(E:Option (Nat × Nat))(v:Rat):SV:=match E with
 | none=>.bO [bs v,.val .nilIface]
 | some (c,p)=>.bO [bs 0,.iH fG (.bK (.agg [.val (.int .i64 p),.fc eE (p7 c)]) 0)]
def qV(neg up:Bool)(t:Nat)(P:ByteArray)(x d:Nat):Rat :=
 Rat.divInt (if neg=true then -(((t*10^P.size+nv P 0 P.size)*10^(if up=true then x else 0):Nat):Int) else(((t*10^P.size+nv P 0 P.size)*10^(if up=true then x else 0):Nat):Int)) ((d*10^P.size*10^(if up=true then 0 else x):Nat):Int)
theorem HC:fw 1 10:=ir (by omega) (by decide)
theorem o5:fit 10:=gJ HC (by omega)
set_option exponentiation.threshold 1000 in
theorem nT{i:Nat}(hi:i≤400):fw 100 ((10^i:Nat):Int):=by
 unfold fw;rw[Int.natAbs_natCast];refine ir (by omega) (Nat.lt_of_le_of_lt (Nat.pow_le_pow_right (by omega) hi) (by decide))
theorem K1{d i:Nat}(hd:fw 400 d)(hi:i≤400):fw 500 ((d*10^i:Nat):Int):=by
 rw[Int.natCast_mul];exact fQ hd (nT hi)
theorem R4{P:ByteArray}{t i:Nat}(ht:fw 400 t)(hP:∀i,i<P.size→bV P i)(hi:i≤400)(hi':i≤P.size):fw 501 ((t*10^i+nv P 0 i:Nat):Int):=by
 have h1:=th (s:=P) (a:=0) (k:=i) fun j _ hj=>hP j (by omega);rw[Int.natCast_add];refine v8 (K1 ht hi) (fo (k:=100) ?_ (by omega));exact IT (y:=((10^i:Nat):Int)) (by simp only[Int.natAbs_natCast];omega) (nT hi)
theorem Od{C:Ctx}(hC:C.fx=[])(s T P:ByteArray)(a:Nat)(E:Option (Nat × Nat))(neg up:Bool)(t x d:Nat)(hE:∀c p,E=some (c,p)→c=1∨c=2∨c=3)
  (hT:E=none→rd T=((t:Int),0,0)) (hTs:T.size≤400) (hPs:P.size≤400) (hP:∀i,i<P.size→bV P i) (hx:x≤61) (hd:fw 400 d) (ht:fw 400 t) :
  aa Tryz.prog C (e9 12 readBody) ⟨151,[(2,.ptr 0 0 0),(3,.val .nilIface),(4,.ptr 1 0 0),(5,.val (.bool neg)),(6,.val (.string T)),(7,.val (.string P)),(10,.val (.bool up)),(13,.val (.int .i64 x)),(15,.ptr (MR s a E).length 0 0)],MR s a E++[some ⟨2,[cK d],false⟩]⟩
   (ka Tryz.prog [.cell 2 61,.tmp 3] (fun y=>y=oc E (qV neg up t P x d))):=by
 simp only[readBody,Tryz.f79,alE,ao,al];refine aa.go ?_;cases E with
 | some cp =>
  obtain⟨c,p⟩:=cp;simp[MR,bu,ld,z4];refine aa.akJ (.qs [0,1,2,3]<|.q 4 [0]<|.l 5 [0]<|.qs [6]<|.nil) ?_;simp[oc,Bb,Sv.Sub,cz]
 | none =>
  have hr:=zr T (by omega);rw[hT rfl]at hr;simp[MR,bu,z4];refine akK hr ?_;simp[kN];refine aa.loop (ι:=Nat) (fun i=>⟨151,[(2,.ptr 0 0 0),(3,.val .nilIface),(5,.val (.bool neg)),(7,.val (.string P)),(10,.val (.bool up)),(13,.val (.int .i64 x)),(15,.ptr 2 0 0),(16,.ptr 3 0 0),(116,.val (.int .i64 P.size)),(117,.val (.int .i64 i))],
    [z4,bu s a (.val .nilIface),some ⟨2,[cK ((d*10^i:Nat):Int)],false⟩,some ⟨2,[cK ((t*10^i+nv P 0 i:Nat):Int)],false⟩]⟩)
   (fun i=>i≤P.size) (fun i=>P.size - i) 0 ?_ ?_ ?_
  ·exact anA _
  ·simp[aw,hC,z4,bu,nv]
  ·rintro i hi;have f1:=K1 hd (show i≤400 by omega);have f2:=R4 ht hP (show i≤400 by omega) hi;by_cases az:i<P.size
   ·obtain⟨c,hc⟩:∃c,c=kV P i - 48:=⟨_,rfl⟩;have hdg:=(hP i az).2;have hcb:kV P i=48+c:=by have:=hdg.1;omega
    have hc9:c≤9:=by have:=hdg.2;omega
    have hb:((ek P i).toNat:Int)=48+c:=by unfold kV at hcb;omega
    have e1:(t*10^i+nv P 0 i)*10+c=t*10^(i+1)+nv P 0 (i+1):=by
     rw[amb];simp only[nv,alv];rw[←hc];grind
    have e2:d*10^i*10=d*10^(i+1):=by rw[amb,ame]
    have m1:=iO ((t*10^i+nv P 0 i:Nat):Int) 10 (gJ f2 (by omega)) (o5);have a1:=pH (((t*10^i+nv P 0 i:Nat):Int)*10) c (gJ (fQ f2 (HC)) (by omega)) (rW (by omega));have m2:=iO ((d*10^i:Nat):Int) 10 (gJ f1 (by omega)) (o5);rw[show((t*10^i+nv P 0 i:Nat):Int)*10+c=((t*10^(i+1)+nv P 0 (i+1):Nat):Int) by rw[←e1];push_cast;rfl]at a1;rw[show((d*10^i:Nat):Int)*10=((d*10^(i+1):Nat):Int) by rw[←e2];push_cast;rfl]at m2;generalize ((t*10^i+nv P 0 i:Nat):Int)=N at *;generalize ((d*10^i:Nat):Int)=D at *;simp(disch:=omega)[az,z4,bu];refine aa.akJ (.qs [0,3,4,5,6,7]<|.l 1 []<|.l 2 []<|.l 8 []<|.l 9 []<|.l 10 [3]<|.nil) ?_;have hw:(48+(c:Int) - 48) % 256=c:=by omega
    simp(disch:=omega)[az,hb,Kk,aN,hw];refine akK (lJ 10 (by omega) (by omega)) ?_;simp;refine akK m1 ?_;simp;refine akK (lJ c (by omega) (by omega)) ?_;simp;refine akK a1 ?_;simp;refine aa.akJ (.qs [0]<|.l 1 []<|.l 2 []<|.l 3 [2]<|.nil) ?_;simp;refine akK (lJ 10 (by omega) (by omega)) ?_;simp;refine akK m2 ?_;simp(disch:=omega)[aN];exact⟨i+1,by omega,by omega,by simp[aw,hC,z4,bu]⟩
   ·obtain rfl:i=P.size:=by omega
    generalize hN:t*10^P.size+nv P 0 P.size=N at *;generalize hD:d*10^P.size=D at *;simp[z4,bu];refine aa.loop (ι:=Nat) (fun i=>⟨151,[(2,.ptr 0 0 0),(3,.val .nilIface),(5,.val (.bool neg)),(10,.val (.bool up)),(15,.ptr 2 0 0),(16,.ptr 3 0 0),(134,.val (.int .i64 x)),(135,.val (.int .i64 i))],
      [z4,bu s a (.val .nilIface),some ⟨2,[cK ((D*10^(if up=true then 0 else i):Nat):Int)],false⟩,some ⟨2,[cK ((N*10^(if up=true then i else 0):Nat):Int)],false⟩]⟩)
     (fun i=>i≤x) (fun i=>x - i) 0 ?_ ?_ ?_
    ·exact anA _
    ·simp[aw,hC,z4,bu]
    ·rintro i hi;have g1:=fQ f1 (nT (i:=if up=true then 0 else i) (by split<;>omega));have g2:=fQ f2 (nT (i:=if up=true then i else 0) (by split<;>omega));rw[←Int.natCast_mul]at g1 g2;by_cases az:i<x
     ·have hlt':(i:Int)<x:=by omega
      cases up with
      | true =>
       simp only[if_true,anB,ak9]at g1 g2 ⊢;have m1:=iO ((N*10^i:Nat):Int) 10 (gJ g2 (by omega)) o5;rw[show((N*10^i:Nat):Int)*10=((N*10^(i+1):Nat):Int) by rw[amb,←ame];push_cast;rfl]at m1;generalize ((N*10^i:Nat):Int)=Y at *;simp[hlt',z4,bu];refine aa.akJ (.qs [0]<|.l 1 []<|.l 2 []<|.l 3 [3]<|.nil) ?_;simp;refine akK (lJ 10 (by omega) (by omega)) ?_;simp;refine akK m1 ?_;simp(disch:=omega)[aN];exact⟨i+1,by omega,by omega,by simp[aw,hC,z4,bu]⟩
      | false =>
       simp only[Bool.false_eq_true,if_false,anB,ak9]at g1 g2 ⊢;have m1:=iO ((D*10^i:Nat):Int) 10 (gJ g1 (by omega)) o5;rw[show((D*10^i:Nat):Int)*10=((D*10^(i+1):Nat):Int) by rw[amb,←ame];push_cast;rfl]at m1;generalize ((D*10^i:Nat):Int)=Y at *;simp[hlt',z4,bu];refine aa.akJ (.qs [0]<|.l 1 []<|.l 2 []<|.l 3 [2]<|.nil) ?_;simp;refine akK (lJ 10 (by omega) (by omega)) ?_;simp;refine akK m1 ?_;simp(disch:=omega)[aN];exact⟨i+1,by omega,by omega,by simp[aw,hC,z4,bu]⟩
     ·obtain rfl:i=x:=by omega
      have hv:qV neg up t P i d=Rat.divInt (if neg=true then -((N*10^(if up=true then i else 0):Nat):Int) else((N*10^(if up=true then i else 0):Nat):Int)) ((D*10^(if up=true then 0 else i):Nat):Int):=by
       unfold qV;rw[hN,hD]
      rw[hv];generalize ((N*10^(if up=true then i else 0):Nat):Int)=Y at *;generalize ((D*10^(if up=true then 0 else i):Nat):Int)=Z at *;cases neg with
      | false =>
       simp[z4,bu];refine akK (qJ Y Z (gJ g2 (by omega)) (gJ g1 (by omega))) ?_;simp[oc]
      | true =>
       simp[z4,bu];refine akK (rT Y) ?_;simp;refine akK (qJ (-Y) Z (uq.2 (gJ g2 (by omega))) (gJ g1 (by omega))) ?_;simp[oc]
theorem JC{C:Ctx}(hC:C.fx=[])(s T P:ByteArray)(a c p:Nat)(neg up:Bool)(x:Nat)(D:Option cx)(v:Rat) :
  aa Tryz.prog C (e9 12 readBody) ⟨151,[(2,.ptr 0 0 0),(3,.val .nilIface),(4,.ptr 1 0 0),(5,.val (.bool neg)),(6,.val (.string T)),(7,.val (.string P)),(10,.val (.bool up)),(13,.val (.int .i64 x)),(15,.ptr 2 0 0)],[z4,bu s a (.iH fG (.ptr 3 0 0)),D,ld c p]⟩
   (ka Tryz.prog [.cell 2 61,.tmp 3] (fun y=>y=oc (some (c,p)) v)):=by
 simp only[readBody,Tryz.f79,alE,ao,al];refine aa.go ?_;simp[bu,ld,z4];refine aa.akJ (.qs [0,1,2,3]<|.q 4 [0]<|.l 5 [0]<|.qs [6]<|.nil) ?_;simp[oc,Bb,Sv.Sub,cz]
def jS(E:Option (Nat × Nat))(b:Bool)(c p:Nat):Option (Nat × Nat):=match E with
 | none=>if b=true then some (c,p) else none
 | some e=>some e
theorem BH{E:Option (Nat × Nat)}{b:Bool}{c p:Nat}(h:∀c p,E=some (c,p)→c=1∨c=2∨c=3)(hc:c=1∨c=2∨c=3):∀c' p',jS E b c p=some (c',p')→c'=1∨c'=2∨c'=3:=fun c' p' h'=>by
 cases E with
 | none =>
  simp only[jS]at h';split at h'
  ·simp only[Option.some.injEq,Prod.mk.injEq]at h';rw[←h'.1];exact hc
  ·cases h'
 | some e=>exact h c' p' h'
theorem v3{E:Option (Nat × Nat)}{b:Bool}{c p:Nat}(h:jS E b c p=none):E=none:=by
 cases E with
 | none=>rfl
 | some e=>cases h
def Ic(E:Option (Nat × Nat))(s T P Lw:ByteArray)(a la:Nat)(neg up:Bool)(x d:Nat)(st:St):Prop :=
 (E=none∧Lw≠⟨#[]⟩∧d=0∧st=⟨151,[(2,.ptr 0 0 0),(3,.val .nilIface),(4,.ptr 1 0 0),(5,.val (.bool neg)),(6,.val (.string T)),(7,.val (.string P)),(10,.val (.bool up)),(13,.val (.int .i64 x)),(15,.ptr 2 0 0)],[z4,bu s a (.iH fG (.ptr 3 0 0)),some ⟨2,[cK d],false⟩,ld 3 la]⟩)∨st=⟨151,[(2,.ptr 0 0 0),(3,.val .nilIface),(4,.ptr 1 0 0),(5,.val (.bool neg)),(6,.val (.string T)),(7,.val (.string P)),(10,.val (.bool up)),(13,.val (.int .i64 x)),(15,.ptr (MR s a (jS E (decide (Lw≠⟨#[]⟩)&&decide (d=0)) 3 la)).length 0 0)],MR s a (jS E (decide (Lw≠⟨#[]⟩)&&decide (d=0)) 3 la)++[some ⟨2,[cK d],false⟩]⟩
theorem Mt{C:Ctx}(hC:C.fx=[])(s T P Lw:ByteArray)(a la:Nat)(E:Option (Nat × Nat))(neg up:Bool)(t x d:Nat)(hE:∀c p,E=some (c,p)→c=1∨c=2∨c=3)
  (hT:E=none→rd T=((t:Int),0,0)) (hTs:T.size≤400) (hPs:P.size≤400) (hP:∀i,i<P.size→bV P i) (hx:x≤61) (hd:fw 400 d) (ht:fw 400 t)
  (hL:(Lw=⟨#[]⟩∧d=1)∨(Lw≠⟨#[]⟩∧rd Lw=((d:Int),0,0)∧Lw.size≤400)) :
  aa Tryz.prog C (e9 10 readBody) ⟨151,[(2,.ptr 0 0 0),(3,.val .nilIface),(4,.ptr 1 0 0),(5,.val (.bool neg)),(6,.val (.string T)),(7,.val (.string P)),(8,.val (.string Lw)),(10,.val (.bool up)),(11,.val (.int .i64 la)),(13,.val (.int .i64 x))],MR s a E⟩
   (ka Tryz.prog [.cell 2 61,.tmp 3] (fun y=>y=oc (jS E (decide (Lw≠⟨#[]⟩)&&decide (d=0)) 3 la) (qV neg up t P x d))):=by
 refine aa.cutAt 2 (Ic E s T P Lw a la neg up x d) ?_ ?_
 ·simp only[readBody,Tryz.f79,alE,ao,al,ar,aq];cases E with
  | some cp =>
   obtain⟨c,p⟩:=cp;simp[MR,bu,ld,z4,jS];refine akK (lJ 1 (by omega) (by omega)) ?_;rcases hL with⟨rfl,rfl⟩ | ⟨h1,h2,h3⟩
   ·simp;exact⟨_,Or.inr rfl,by simp[aw,hC,MR,jS,z4,bu,ld]⟩
   ·have hr:=zr Lw (by omega);rw[h2]at hr;simp[h1];refine akK hr ?_;simp;refine akK (mv _) ?_;by_cases hd0:d=0
    ·simp[hd0];refine uO s a _ _ (k2:=2) (by simp[ax,bu]) (by simp) ?_;simp;exact⟨_,Or.inr rfl,by simp[aw,hC,hd0,h1,MR,jS,z4,bu,ld]⟩
    ·simp[hd0];exact⟨_,Or.inr rfl,by simp[aw,hC,hd0,h1,MR,jS,z4,bu,ld]⟩
  | none =>
   simp[MR,bu,ld,z4,jS];refine akK (lJ 1 (by omega) (by omega)) ?_;rcases hL with⟨rfl,rfl⟩ | ⟨h1,h2,h3⟩
   ·simp;exact⟨_,Or.inr rfl,by simp[aw,hC,MR,jS,z4,bu,ld]⟩
   ·have hr:=zr Lw (by omega);rw[h2]at hr;simp[h1];refine akK hr ?_;simp;refine akK (mv _) ?_;by_cases hd0:d=0
    ·subst hd0;simp;refine lM s a _ _ (by simp[ax,bu]) (by simp) ?_;simp[bu];exact⟨_,Or.inl ⟨rfl,h1,rfl,rfl⟩,by simp[aw,hC,p7,z4,bu,ld]⟩
    ·simp[hd0];exact⟨_,Or.inr rfl,by simp[aw,hC,hd0,h1,MR,jS,z4,bu,ld]⟩
 ·rintro st (⟨rfl,h1,rfl,rfl⟩ | rfl)
  ·have:=JC (C:=C) hC s T P a 3 la neg up x (some ⟨2,[cK ((0:Nat):Int)],false⟩) (qV neg up t P x 0);have e2:jS none (decide (Lw≠⟨#[]⟩)&&decide ((0:Nat)=0)) 3 la=some (3,la):=by simp[jS,h1]
   rw[e2];exact this
  have:=Od (C:=C) hC s T P a (jS E (decide (Lw≠⟨#[]⟩)&&decide (d=0)) 3 la) neg up t x d (BH hE (by omega)) (fun h=>hT (v3 h)) hTs hPs hP hx hd ht;exact this
def uJ(s:ByteArray):Nat→Nat
 | 0=>0
 | k+1=>min (uJ s k*10+(kV s k - 48)) 61
theorem ym(s:ByteArray):∀k,uJ s k=min (nv s 0 k) 61
 | 0=>rfl
 | k+1=>by
  simp only[uJ,nv,ym s k,alv];omega
theorem acF{x y:Option cx}:∀(i:Nat) (e:cx),ax [x,y] i=some e→i=0∨i=1
 | 0,_,_=>.inl rfl
 | 1,_,_=>.inr rfl
 | _+2,_,h=>by simp[ax]at h
theorem adg{x y z:Option cx}:∀(i:Nat) (e:cx),ax [x,y,z] i=some e→i=0∨i=1∨i=2
 | 0,_,_=>.inl rfl
 | 1,_,_=>.inr (.inl rfl)
 | 2,_,_=>.inr (.inr rfl)
 | _+3,_,h=>by simp[ax]at h
theorem Ok{C:Ctx}(hC:C.fx=[])(s T P Lw Pw:ByteArray)(a la pa:Nat)(E:Option (Nat × Nat))(neg up:Bool)(t d:Nat)(hE:∀c p,E=some (c,p)→c=1∨c=2∨c=3)
  (hT:E=none→rd T=((t:Int),0,0)) (hTs:T.size≤400) (hPs:P.size≤400) (hP:∀i,i<P.size→bV P i) (hd:fw 400 d) (ht:fw 400 t)
  (hL:(Lw=⟨#[]⟩∧d=1)∨(Lw≠⟨#[]⟩∧rd Lw=((d:Int),0,0)∧Lw.size≤400)) (hW:∀i,i<Pw.size→bV Pw i) (hWs:Pw.size≤400) :
  aa Tryz.prog C (e9 7 readBody) ⟨151,[(2,.ptr 0 0 0),(3,.val .nilIface),(4,.ptr 1 0 0),(5,.val (.bool neg)),(6,.val (.string T)),(7,.val (.string P)),(8,.val (.string Lw)),(9,.val (.string Pw)),(10,.val (.bool up)),(11,.val (.int .i64 la)),(12,.val (.int .i64 pa))],MR s a E⟩
   (ka Tryz.prog [.cell 2 61,.tmp 3] (fun y=>y=oc (jS (jS E (decide (60<nv Pw 0 Pw.size)) 2 pa) (decide (Lw≠⟨#[]⟩)&&decide (d=0)) 3 la) (qV neg up t P (min (nv Pw 0 Pw.size) 61) d))):=by
 refine aa.cutAt 3 (fun st=>st=⟨151,[(2,.ptr 0 0 0),(3,.val .nilIface),(4,.ptr 1 0 0),(5,.val (.bool neg)),(6,.val (.string T)),(7,.val (.string P)),(8,.val (.string Lw)),(10,.val (.bool up)),(11,.val (.int .i64 la)),(13,.val (.int .i64 (min (nv Pw 0 Pw.size) 61:Nat)))],MR s a (jS E (decide (60<nv Pw 0 Pw.size)) 2 pa)⟩) ?_ ?_
 ·simp only[readBody,Tryz.f79,alE,ao,al,ar,aq];simp;refine aa.loop (ι:=Nat) (fun i=>⟨151,[(2,.ptr 0 0 0),(3,.val .nilIface),(4,.ptr 1 0 0),(5,.val (.bool neg)),(6,.val (.string T)),(7,.val (.string P)),(8,.val (.string Lw)),(9,.val (.string Pw)),(10,.val (.bool up)),(11,.val (.int .i64 la)),(12,.val (.int .i64 pa)),(13,.val (.int .i64 (uJ Pw i))),(65,.val (.int .i64 Pw.size)),(66,.val (.int .i64 i))],MR s a E⟩)
   (fun i=>i≤Pw.size) (fun i=>Pw.size - i) 0 ?_ ?_ ?_
  ·exact anA _
  ·simp[aw,hC,uJ]
  ·rintro i hi;have hcap:uJ Pw i≤61:=by rw[ym];omega
   by_cases az:i<Pw.size
   ·obtain⟨c,hc⟩:∃c,c=kV Pw i - 48:=⟨_,rfl⟩;have hdg:=(hW i az).2;have hcb:kV Pw i=48+c:=by have:=hdg.1;omega
    have hc9:c≤9:=by have:=hdg.2;omega
    have hb:((ek Pw i).toNat:Int)=48+c:=by unfold kV at hcb;omega
    have hw:(48+(c:Int) - 48) % 256=c:=by omega
    have e:uJ Pw (i+1)=min (uJ Pw i*10+c) 61:=by simp only[uJ];rw[←hc]
    generalize uJ Pw i=X at *;have e':min ((X:Int)*10+c) 61=((uJ Pw (i+1):Nat):Int):=by rw[e];omega
    simp(disch:=omega)[az,hb,Kk,aN,hw,e'];exact⟨i+1,by omega,by omega,by simp[aw,hC]⟩
   ·obtain rfl:i=Pw.size:=by omega
    rw[ym]at hcap ⊢;obtain⟨m,hm⟩:∃m,m=min (nv Pw 0 Pw.size) 61:=⟨_,rfl⟩;rw[←hm]at hcap ⊢;by_cases h60:60<nv Pw 0 Pw.size
    ·have hm60:(60:Int)<m:=by omega
     simp[h60,hm60];cases E with
     | some cp =>
      obtain⟨c,p⟩:=cp;refine uO s a _ _ (k2:=2) (by simp[ax,bu,MR]) (by simp) ?_;simp[aw,hC,MR,jS,hm]
     | none =>
      refine lM s a _ _ (by simp[ax,bu,MR]) (by simp) ?_;simp[aw,hC,MR,jS,hm,bu,ld,p7]
    ·have hm60:¬(60:Int)<m:=by omega
     have:jS E false 2 pa=E:=by cases E<;>rfl
     simp[h60,hm60,this];simp[aw,hC,hm]
 ·rintro st rfl;exact Mt (C:=C) hC s T P Lw a la (jS E (decide (60<nv Pw 0 Pw.size)) 2 pa) neg up t (min (nv Pw 0 Pw.size) 61) d (BH hE (by omega)) (fun h=>hT (v3 h)) hTs hPs hP (by omega) hd ht hL
theorem Mi{C:Ctx}(hC:C.fx=[])(s T P Lw Pw:ByteArray)(a la pa:Nat)(E:Option (Nat × Nat))(neg up:Bool)(t d:Nat)(hE:∀c p,E=some (c,p)→c=1∨c=2∨c=3)
  (hT:E=none→rd T=((t:Int),0,0)) (hTs:T.size≤400) (hPs:P.size≤400) (hP:∀i,i<P.size→bV P i) (hd:fw 400 d) (ht:fw 400 t)
  (hL:(Lw=⟨#[]⟩∧d=1)∨(Lw≠⟨#[]⟩∧rd Lw=((d:Int),0,0)∧Lw.size≤400)) (hW:∀i,i<Pw.size→bV Pw i) (hWs:Pw.size≤400) :
  aa Tryz.prog C (e9 6 readBody) ⟨151,[(0,.val (.string s)),(2,.ptr 0 0 0),(3,.val .nilIface),(4,.ptr 1 0 0),(5,.val (.bool neg)),(6,.val (.string T)),(7,.val (.string P)),(8,.val (.string Lw)),(9,.val (.string Pw)),(10,.val (.bool up)),(11,.val (.int .i64 la)),(12,.val (.int .i64 pa))],MR s a E⟩
   (ka Tryz.prog [.cell 2 61,.tmp 3] (fun y=>y=oc (jS (jS (jS E (decide (a<s.size)) 1 a) (decide (60<nv Pw 0 Pw.size)) 2 pa) (decide (Lw≠⟨#[]⟩)&&decide (d=0)) 3 la) (qV neg up t P (min (nv Pw 0 Pw.size) 61) d))):=by
 refine aa.cutAt 1 (fun st=>st=⟨151,[(2,.ptr 0 0 0),(3,.val .nilIface),(4,.ptr 1 0 0),(5,.val (.bool neg)),(6,.val (.string T)),(7,.val (.string P)),(8,.val (.string Lw)),(9,.val (.string Pw)),(10,.val (.bool up)),(11,.val (.int .i64 la)),(12,.val (.int .i64 pa))],MR s a (jS E (decide (a<s.size)) 1 a)⟩) ?_ ?_
 ·simp only[readBody,Tryz.f79,alE,ao,al,ar,aq];cases E with
  | some cp =>
   obtain⟨c,p⟩:=cp;by_cases az:a<s.size
   ·simp[MR,bu,az,jS];refine aa.akJ (.qs [0,1,2,3,4,5]<|.l 6 [0,1,2]<|.nil) ?_;simp[ld,z4];refine uO s a _ _ (k2:=2) (by simp[ax,bu]) (by simpa using adg) ?_;simp[aw,hC]
   ·simp[MR,bu,az,jS,aw,hC]
  | none =>
   by_cases az:a<s.size
   ·simp[MR,bu,az,jS];refine aa.akJ (.qs [0,1,2,3,4,5]<|.l 6 [0,1]<|.nil) ?_;simp[z4];refine lM s a _ _ (by simp[ax,bu]) (by simpa using acF) ?_;simp[aw,hC,bu,ld,p7]
   ·simp[MR,bu,az,jS,aw,hC]
 ·rintro st rfl;exact Ok (C:=C) hC s T P Lw Pw a la pa (jS E (decide (a<s.size)) 1 a) neg up t d (BH hE (by omega)) (fun h=>hT (v3 h)) hTs hPs hP hd ht hL hW hWs
end Go.Proofs


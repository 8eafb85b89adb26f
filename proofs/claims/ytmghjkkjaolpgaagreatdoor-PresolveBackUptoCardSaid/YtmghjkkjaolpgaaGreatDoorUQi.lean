/- A text of the prover's own. -/
import Derived.Test.YtmghjkkjaolpgaaGreatDoorUQh
open Nat renaming zero_le→aoE,pow_succ→anj,zero_add→amC,mul_assoc→anm,pow_zero→aoF,mul_one→ami
open Option renaming getD_some→amL
set_option maxRecDepth 20000
namespace Go.Proofs
open Go.Sv Go Go.Pl
noncomputable def readBody:Code:=Tryz.f79.body.getD .skip
def z4:Option cx:=some ⟨4,[.agg [.val (.bool false),.val (.slice none 0 0),.val (.bool false),.val (.slice none 0 0)]],false⟩
def kY(c p:Nat):Option cx:=some ⟨2,[.agg [.val (.int .i64 p),.fp eM (pT c)]],false⟩
def MR(s:ByteArray)(a:Nat):Option (Nat × Nat)→aJ
 | none=>[z4,bu s a (.val .nilIface)]
 | some (c,p)=>[z4,bu s a (.iw fN (.ptr 2 0 0)),kY c p]
def oa(E:Option (Nat × Nat))(v:Rat):SV:=match E with
 | none=>.bG [aY v,.val .nilIface]
 | some (c,p)=>.bG [aY 0,.iw fN (.bU (.agg [.val (.int .i64 p),.fp eM (pT c)]) 0)]
def pY(neg up:Bool)(t:Nat)(P:ByteArray)(x d:Nat):Rat :=
 Rat.divInt (if neg=true then -(((t*10^P.size+nv P 0 P.size)*10^(if up=true then x else 0):Nat):Int) else(((t*10^P.size+nv P 0 P.size)*10^(if up=true then x else 0):Nat):Int)) ((d*10^P.size*10^(if up=true then 0 else x):Nat):Int)
theorem IF:fw 1 10:=gZ (by omega) (by decide)
theorem oC:fit 10:=gz IF (by omega)
set_option exponentiation.threshold 1000 in
theorem jN{i:Nat}(hi:i≤400):fw 100 ((10^i:Nat):Int):=by
 unfold fw;rw[Int.natAbs_natCast];refine gZ (by omega) (Nat.lt_of_le_of_lt (Nat.pow_le_pow_right (by omega) hi) (by decide))
theorem L1{d i:Nat}(hd:fw 400 d)(hi:i≤400):fw 500 ((d*10^i:Nat):Int):=by
 rw[Int.natCast_mul];exact fF hd (jN hi)
theorem Vx{P:ByteArray}{t i:Nat}(ht:fw 400 t)(hP:∀i,i<P.size→bj P i)(hi:i≤400)(hi':i≤P.size):fw 501 ((t*10^i+nv P 0 i:Nat):Int):=by
 have h1:=rA (s:=P) (a:=0) (k:=i) fun j _ hj=>hP j (by omega);rw[Int.natCast_add];refine sf (L1 ht hi) (cI (k:=100) ?_ (by omega));exact EK (y:=((10^i:Nat):Int)) (by simp only[Int.natAbs_natCast];omega) (jN hi)
theorem NS{C:Ctx}(hC:C.fx=[])(s T P:ByteArray)(a:Nat)(E:Option (Nat × Nat))(neg up:Bool)(t x d:Nat)(hE:∀c p,E=some (c,p)→c=1∨c=2∨c=3)
  (hT:E=none→rd T=((t:Int),0,0)) (hTs:T.size≤400) (hPs:P.size≤400) (hP:∀i,i<P.size→bj P i) (hx:x≤61) (hd:fw 400 d) (ht:fw 400 t) :
  ae Tryz.prog C (fk 12 readBody) ⟨151,[(2,.ptr 0 0 0),(3,.val .nilIface),(4,.ptr 1 0 0),(5,.val (.bool neg)),(6,.val (.string T)),(7,.val (.string P)),(10,.val (.bool up)),(13,.val (.int .i64 x)),(15,.ptr (MR s a E).length 0 0)],MR s a E++[some ⟨2,[cK d],false⟩]⟩
   (jX Tryz.prog [.cell 2 61,.tmp 3] (fun y=>y=oa E (pY neg up t P x d))):=by
 simp only[readBody,Tryz.f79,amL,ax,au];refine ae.go ?_;cases E with
 | some cp =>
  obtain⟨c,p⟩:=cp;simp[MR,bu,kY,z4];refine ae.alS (.qs [0,1,2,3]<|.q 4 [0]<|.l 5 [0]<|.qs [6]<|.nil) ?_;simp[oa,B7,Sv.Sub,cA]
 | none =>
  have hr:=yy T (by omega);rw[hT rfl]at hr;simp[MR,bu,z4];refine alT hr ?_;simp[kv];refine ae.loop (ι:=Nat) (fun i=>⟨151,[(2,.ptr 0 0 0),(3,.val .nilIface),(5,.val (.bool neg)),(7,.val (.string P)),(10,.val (.bool up)),(13,.val (.int .i64 x)),(15,.ptr 2 0 0),(16,.ptr 3 0 0),(116,.val (.int .i64 P.size)),(117,.val (.int .i64 i))],
    [z4,bu s a (.val .nilIface),some ⟨2,[cK ((d*10^i:Nat):Int)],false⟩,some ⟨2,[cK ((t*10^i+nv P 0 i:Nat):Int)],false⟩]⟩)
   (fun i=>i≤P.size) (fun i=>P.size - i) 0 ?_ ?_ ?_
  ·exact aoE _
  ·simp[ar,hC,z4,bu,nv]
  ·rintro i hi;have f1:=L1 hd (show i≤400 by omega);have f2:=Vx ht hP (show i≤400 by omega) hi;by_cases aF:i<P.size
   ·obtain⟨c,hc⟩:∃c,c=jB P i - 48:=⟨_,rfl⟩;have hdg:=(hP i aF).2;have hcb:jB P i=48+c:=by have:=hdg.1;omega
    have hc9:c≤9:=by have:=hdg.2;omega
    have hb:((eG P i).toNat:Int)=48+c:=by unfold jB at hcb;omega
    have e1:(t*10^i+nv P 0 i)*10+c=t*10^(i+1)+nv P 0 (i+1):=by
     rw[anj];simp only[nv,amC];rw[←hc];grind
    have e2:d*10^i*10=d*10^(i+1):=by rw[anj,anm]
    have m1:=iH ((t*10^i+nv P 0 i:Nat):Int) 10 (gz f2 (by omega)) (oC);have a1:=pK (((t*10^i+nv P 0 i:Nat):Int)*10) c (gz (fF f2 (IF)) (by omega)) (sM (by omega));have m2:=iH ((d*10^i:Nat):Int) 10 (gz f1 (by omega)) (oC);rw[show((t*10^i+nv P 0 i:Nat):Int)*10+c=((t*10^(i+1)+nv P 0 (i+1):Nat):Int) by rw[←e1];push_cast;rfl]at a1;rw[show((d*10^i:Nat):Int)*10=((d*10^(i+1):Nat):Int) by rw[←e2];push_cast;rfl]at m2;generalize ((t*10^i+nv P 0 i:Nat):Int)=N at *;generalize ((d*10^i:Nat):Int)=D at *;simp(disch:=omega)[aF,z4,bu];refine ae.alS (.qs [0,3,4,5,6,7]<|.l 1 []<|.l 2 []<|.l 8 []<|.l 9 []<|.l 10 [3]<|.nil) ?_;have hw:(48+(c:Int) - 48) % 256=c:=by omega
    simp(disch:=omega)[aF,hb,L5,aP,hw];refine alT (lE 10 (by omega) (by omega)) ?_;simp;refine alT m1 ?_;simp;refine alT (lE c (by omega) (by omega)) ?_;simp;refine alT a1 ?_;simp;refine ae.alS (.qs [0]<|.l 1 []<|.l 2 []<|.l 3 [2]<|.nil) ?_;simp;refine alT (lE 10 (by omega) (by omega)) ?_;simp;refine alT m2 ?_;simp(disch:=omega)[aP];exact⟨i+1,by omega,by omega,by simp[ar,hC,z4,bu]⟩
   ·obtain rfl:i=P.size:=by omega
    generalize hN:t*10^P.size+nv P 0 P.size=N at *;generalize hD:d*10^P.size=D at *;simp[z4,bu];refine ae.loop (ι:=Nat) (fun i=>⟨151,[(2,.ptr 0 0 0),(3,.val .nilIface),(5,.val (.bool neg)),(10,.val (.bool up)),(15,.ptr 2 0 0),(16,.ptr 3 0 0),(134,.val (.int .i64 x)),(135,.val (.int .i64 i))],
      [z4,bu s a (.val .nilIface),some ⟨2,[cK ((D*10^(if up=true then 0 else i):Nat):Int)],false⟩,some ⟨2,[cK ((N*10^(if up=true then i else 0):Nat):Int)],false⟩]⟩)
     (fun i=>i≤x) (fun i=>x - i) 0 ?_ ?_ ?_
    ·exact aoE _
    ·simp[ar,hC,z4,bu]
    ·rintro i hi;have g1:=fF f1 (jN (i:=if up=true then 0 else i) (by split<;>omega));have g2:=fF f2 (jN (i:=if up=true then i else 0) (by split<;>omega));rw[←Int.natCast_mul]at g1 g2;by_cases aF:i<x
     ·have hlt':(i:Int)<x:=by omega
      cases up with
      | true =>
       simp only[if_true,aoF,ami]at g1 g2 ⊢;have m1:=iH ((N*10^i:Nat):Int) 10 (gz g2 (by omega)) oC;rw[show((N*10^i:Nat):Int)*10=((N*10^(i+1):Nat):Int) by rw[anj,←anm];push_cast;rfl]at m1;generalize ((N*10^i:Nat):Int)=Y at *;simp[hlt',z4,bu];refine ae.alS (.qs [0]<|.l 1 []<|.l 2 []<|.l 3 [3]<|.nil) ?_;simp;refine alT (lE 10 (by omega) (by omega)) ?_;simp;refine alT m1 ?_;simp(disch:=omega)[aP];exact⟨i+1,by omega,by omega,by simp[ar,hC,z4,bu]⟩
      | false =>
       simp only[Bool.false_eq_true,if_false,aoF,ami]at g1 g2 ⊢;have m1:=iH ((D*10^i:Nat):Int) 10 (gz g1 (by omega)) oC;rw[show((D*10^i:Nat):Int)*10=((D*10^(i+1):Nat):Int) by rw[anj,←anm];push_cast;rfl]at m1;generalize ((D*10^i:Nat):Int)=Y at *;simp[hlt',z4,bu];refine ae.alS (.qs [0]<|.l 1 []<|.l 2 []<|.l 3 [2]<|.nil) ?_;simp;refine alT (lE 10 (by omega) (by omega)) ?_;simp;refine alT m1 ?_;simp(disch:=omega)[aP];exact⟨i+1,by omega,by omega,by simp[ar,hC,z4,bu]⟩
     ·obtain rfl:i=x:=by omega
      have hv:pY neg up t P i d=Rat.divInt (if neg=true then -((N*10^(if up=true then i else 0):Nat):Int) else((N*10^(if up=true then i else 0):Nat):Int)) ((D*10^(if up=true then 0 else i):Nat):Int):=by
       unfold pY;rw[hN,hD]
      rw[hv];generalize ((N*10^(if up=true then i else 0):Nat):Int)=Y at *;generalize ((D*10^(if up=true then 0 else i):Nat):Int)=Z at *;cases neg with
      | false =>
       simp[z4,bu];refine alT (rf Y Z (gz g2 (by omega)) (gz g1 (by omega))) ?_;simp[oa]
      | true =>
       simp[z4,bu];refine alT (sq Y) ?_;simp;refine alT (rf (-Y) Z (uI.2 (gz g2 (by omega))) (gz g1 (by omega))) ?_;simp[oa]
theorem LV{C:Ctx}(hC:C.fx=[])(s T P:ByteArray)(a c p:Nat)(neg up:Bool)(x:Nat)(D:Option cx)(v:Rat) :
  ae Tryz.prog C (fk 12 readBody) ⟨151,[(2,.ptr 0 0 0),(3,.val .nilIface),(4,.ptr 1 0 0),(5,.val (.bool neg)),(6,.val (.string T)),(7,.val (.string P)),(10,.val (.bool up)),(13,.val (.int .i64 x)),(15,.ptr 2 0 0)],[z4,bu s a (.iw fN (.ptr 3 0 0)),D,kY c p]⟩
   (jX Tryz.prog [.cell 2 61,.tmp 3] (fun y=>y=oa (some (c,p)) v)):=by
 simp only[readBody,Tryz.f79,amL,ax,au];refine ae.go ?_;simp[bu,kY,z4];refine ae.alS (.qs [0,1,2,3]<|.q 4 [0]<|.l 5 [0]<|.qs [6]<|.nil) ?_;simp[oa,B7,Sv.Sub,cA]
def jG(E:Option (Nat × Nat))(b:Bool)(c p:Nat):Option (Nat × Nat):=match E with
 | none=>if b=true then some (c,p) else none
 | some e=>some e
theorem Dj{E:Option (Nat × Nat)}{b:Bool}{c p:Nat}(h:∀c p,E=some (c,p)→c=1∨c=2∨c=3)(hc:c=1∨c=2∨c=3):∀c' p',jG E b c p=some (c',p')→c'=1∨c'=2∨c'=3:=fun c' p' h'=>by
 cases E with
 | none =>
  simp only[jG]at h';split at h'
  ·simp only[Option.some.injEq,Prod.mk.injEq]at h';rw[←h'.1];exact hc
  ·cases h'
 | some e=>exact h c' p' h'
theorem uM{E:Option (Nat × Nat)}{b:Bool}{c p:Nat}(h:jG E b c p=none):E=none:=by
 cases E with
 | none=>rfl
 | some e=>cases h
def Ic(E:Option (Nat × Nat))(s T P Lw:ByteArray)(a la:Nat)(neg up:Bool)(x d:Nat)(st:St):Prop :=
 (E=none∧Lw≠⟨#[]⟩∧d=0∧st=⟨151,[(2,.ptr 0 0 0),(3,.val .nilIface),(4,.ptr 1 0 0),(5,.val (.bool neg)),(6,.val (.string T)),(7,.val (.string P)),(10,.val (.bool up)),(13,.val (.int .i64 x)),(15,.ptr 2 0 0)],[z4,bu s a (.iw fN (.ptr 3 0 0)),some ⟨2,[cK d],false⟩,kY 3 la]⟩)∨st=⟨151,[(2,.ptr 0 0 0),(3,.val .nilIface),(4,.ptr 1 0 0),(5,.val (.bool neg)),(6,.val (.string T)),(7,.val (.string P)),(10,.val (.bool up)),(13,.val (.int .i64 x)),(15,.ptr (MR s a (jG E (decide (Lw≠⟨#[]⟩)&&decide (d=0)) 3 la)).length 0 0)],MR s a (jG E (decide (Lw≠⟨#[]⟩)&&decide (d=0)) 3 la)++[some ⟨2,[cK d],false⟩]⟩
theorem Of{C:Ctx}(hC:C.fx=[])(s T P Lw:ByteArray)(a la:Nat)(E:Option (Nat × Nat))(neg up:Bool)(t x d:Nat)(hE:∀c p,E=some (c,p)→c=1∨c=2∨c=3)
  (hT:E=none→rd T=((t:Int),0,0)) (hTs:T.size≤400) (hPs:P.size≤400) (hP:∀i,i<P.size→bj P i) (hx:x≤61) (hd:fw 400 d) (ht:fw 400 t)
  (hL:(Lw=⟨#[]⟩∧d=1)∨(Lw≠⟨#[]⟩∧rd Lw=((d:Int),0,0)∧Lw.size≤400)) :
  ae Tryz.prog C (fk 10 readBody) ⟨151,[(2,.ptr 0 0 0),(3,.val .nilIface),(4,.ptr 1 0 0),(5,.val (.bool neg)),(6,.val (.string T)),(7,.val (.string P)),(8,.val (.string Lw)),(10,.val (.bool up)),(11,.val (.int .i64 la)),(13,.val (.int .i64 x))],MR s a E⟩
   (jX Tryz.prog [.cell 2 61,.tmp 3] (fun y=>y=oa (jG E (decide (Lw≠⟨#[]⟩)&&decide (d=0)) 3 la) (pY neg up t P x d))):=by
 refine ae.cutAt 2 (Ic E s T P Lw a la neg up x d) ?_ ?_
 ·simp only[readBody,Tryz.f79,amL,ax,au,aG,aE];cases E with
  | some cp =>
   obtain⟨c,p⟩:=cp;simp[MR,bu,kY,z4,jG];refine alT (lE 1 (by omega) (by omega)) ?_;rcases hL with⟨rfl,rfl⟩ | ⟨h1,h2,h3⟩
   ·simp;exact⟨_,Or.inr rfl,by simp[ar,hC,MR,jG,z4,bu,kY]⟩
   ·have hr:=yy Lw (by omega);rw[h2]at hr;simp[h1];refine alT hr ?_;simp;refine alT (mv _) ?_;by_cases hd0:d=0
    ·simp[hd0];refine vD s a _ _ (k2:=2) (by simp[ao,bu]) (by simp) ?_;simp;exact⟨_,Or.inr rfl,by simp[ar,hC,hd0,h1,MR,jG,z4,bu,kY]⟩
    ·simp[hd0];exact⟨_,Or.inr rfl,by simp[ar,hC,hd0,h1,MR,jG,z4,bu,kY]⟩
  | none =>
   simp[MR,bu,kY,z4,jG];refine alT (lE 1 (by omega) (by omega)) ?_;rcases hL with⟨rfl,rfl⟩ | ⟨h1,h2,h3⟩
   ·simp;exact⟨_,Or.inr rfl,by simp[ar,hC,MR,jG,z4,bu,kY]⟩
   ·have hr:=yy Lw (by omega);rw[h2]at hr;simp[h1];refine alT hr ?_;simp;refine alT (mv _) ?_;by_cases hd0:d=0
    ·subst hd0;simp;refine lJ s a _ _ (by simp[ao,bu]) (by simp) ?_;simp[bu];exact⟨_,Or.inl ⟨rfl,h1,rfl,rfl⟩,by simp[ar,hC,pT,z4,bu,kY]⟩
    ·simp[hd0];exact⟨_,Or.inr rfl,by simp[ar,hC,hd0,h1,MR,jG,z4,bu,kY]⟩
 ·rintro st (⟨rfl,h1,rfl,rfl⟩ | rfl)
  ·have:=LV (C:=C) hC s T P a 3 la neg up x (some ⟨2,[cK ((0:Nat):Int)],false⟩) (pY neg up t P x 0);have e2:jG none (decide (Lw≠⟨#[]⟩)&&decide ((0:Nat)=0)) 3 la=some (3,la):=by simp[jG,h1]
   rw[e2];exact this
  have:=NS (C:=C) hC s T P a (jG E (decide (Lw≠⟨#[]⟩)&&decide (d=0)) 3 la) neg up t x d (Dj hE (by omega)) (fun h=>hT (uM h)) hTs hPs hP hx hd ht;exact this
def vk(s:ByteArray):Nat→Nat
 | 0=>0
 | k+1=>min (vk s k*10+(jB s k - 48)) 61
theorem yR(s:ByteArray):∀k,vk s k=min (nv s 0 k) 61
 | 0=>rfl
 | k+1=>by
  simp only[vk,nv,yR s k,amC];omega
theorem agt{x y:Option cx}:∀(i:Nat) (e:cx),ao [x,y] i=some e→i=0∨i=1
 | 0,_,_=>.inl rfl
 | 1,_,_=>.inr rfl
 | _+2,_,h=>by simp[ao]at h
theorem agA{x y z:Option cx}:∀(i:Nat) (e:cx),ao [x,y,z] i=some e→i=0∨i=1∨i=2
 | 0,_,_=>.inl rfl
 | 1,_,_=>.inr (.inl rfl)
 | 2,_,_=>.inr (.inr rfl)
 | _+3,_,h=>by simp[ao]at h
theorem NJ{C:Ctx}(hC:C.fx=[])(s T P Lw Pw:ByteArray)(a la pa:Nat)(E:Option (Nat × Nat))(neg up:Bool)(t d:Nat)(hE:∀c p,E=some (c,p)→c=1∨c=2∨c=3)
  (hT:E=none→rd T=((t:Int),0,0)) (hTs:T.size≤400) (hPs:P.size≤400) (hP:∀i,i<P.size→bj P i) (hd:fw 400 d) (ht:fw 400 t)
  (hL:(Lw=⟨#[]⟩∧d=1)∨(Lw≠⟨#[]⟩∧rd Lw=((d:Int),0,0)∧Lw.size≤400)) (hW:∀i,i<Pw.size→bj Pw i) (hWs:Pw.size≤400) :
  ae Tryz.prog C (fk 7 readBody) ⟨151,[(2,.ptr 0 0 0),(3,.val .nilIface),(4,.ptr 1 0 0),(5,.val (.bool neg)),(6,.val (.string T)),(7,.val (.string P)),(8,.val (.string Lw)),(9,.val (.string Pw)),(10,.val (.bool up)),(11,.val (.int .i64 la)),(12,.val (.int .i64 pa))],MR s a E⟩
   (jX Tryz.prog [.cell 2 61,.tmp 3] (fun y=>y=oa (jG (jG E (decide (60<nv Pw 0 Pw.size)) 2 pa) (decide (Lw≠⟨#[]⟩)&&decide (d=0)) 3 la) (pY neg up t P (min (nv Pw 0 Pw.size) 61) d))):=by
 refine ae.cutAt 3 (fun st=>st=⟨151,[(2,.ptr 0 0 0),(3,.val .nilIface),(4,.ptr 1 0 0),(5,.val (.bool neg)),(6,.val (.string T)),(7,.val (.string P)),(8,.val (.string Lw)),(10,.val (.bool up)),(11,.val (.int .i64 la)),(13,.val (.int .i64 (min (nv Pw 0 Pw.size) 61:Nat)))],MR s a (jG E (decide (60<nv Pw 0 Pw.size)) 2 pa)⟩) ?_ ?_
 ·simp only[readBody,Tryz.f79,amL,ax,au,aG,aE];simp;refine ae.loop (ι:=Nat) (fun i=>⟨151,[(2,.ptr 0 0 0),(3,.val .nilIface),(4,.ptr 1 0 0),(5,.val (.bool neg)),(6,.val (.string T)),(7,.val (.string P)),(8,.val (.string Lw)),(9,.val (.string Pw)),(10,.val (.bool up)),(11,.val (.int .i64 la)),(12,.val (.int .i64 pa)),(13,.val (.int .i64 (vk Pw i))),(65,.val (.int .i64 Pw.size)),(66,.val (.int .i64 i))],MR s a E⟩)
   (fun i=>i≤Pw.size) (fun i=>Pw.size - i) 0 ?_ ?_ ?_
  ·exact aoE _
  ·simp[ar,hC,vk]
  ·rintro i hi;have hcap:vk Pw i≤61:=by rw[yR];omega
   by_cases aF:i<Pw.size
   ·obtain⟨c,hc⟩:∃c,c=jB Pw i - 48:=⟨_,rfl⟩;have hdg:=(hW i aF).2;have hcb:jB Pw i=48+c:=by have:=hdg.1;omega
    have hc9:c≤9:=by have:=hdg.2;omega
    have hb:((eG Pw i).toNat:Int)=48+c:=by unfold jB at hcb;omega
    have hw:(48+(c:Int) - 48) % 256=c:=by omega
    have e:vk Pw (i+1)=min (vk Pw i*10+c) 61:=by simp only[vk];rw[←hc]
    generalize vk Pw i=X at *;have e':min ((X:Int)*10+c) 61=((vk Pw (i+1):Nat):Int):=by rw[e];omega
    simp(disch:=omega)[aF,hb,L5,aP,hw,e'];exact⟨i+1,by omega,by omega,by simp[ar,hC]⟩
   ·obtain rfl:i=Pw.size:=by omega
    rw[yR]at hcap ⊢;obtain⟨m,hm⟩:∃m,m=min (nv Pw 0 Pw.size) 61:=⟨_,rfl⟩;rw[←hm]at hcap ⊢;by_cases h60:60<nv Pw 0 Pw.size
    ·have hm60:(60:Int)<m:=by omega
     simp[h60,hm60];cases E with
     | some cp =>
      obtain⟨c,p⟩:=cp;refine vD s a _ _ (k2:=2) (by simp[ao,bu,MR]) (by simp) ?_;simp[ar,hC,MR,jG,hm]
     | none =>
      refine lJ s a _ _ (by simp[ao,bu,MR]) (by simp) ?_;simp[ar,hC,MR,jG,hm,bu,kY,pT]
    ·have hm60:¬(60:Int)<m:=by omega
     have:jG E false 2 pa=E:=by cases E<;>rfl
     simp[h60,hm60,this];simp[ar,hC,hm]
 ·rintro st rfl;exact Of (C:=C) hC s T P Lw a la (jG E (decide (60<nv Pw 0 Pw.size)) 2 pa) neg up t (min (nv Pw 0 Pw.size) 61) d (Dj hE (by omega)) (fun h=>hT (uM h)) hTs hPs hP (by omega) hd ht hL
theorem NW{C:Ctx}(hC:C.fx=[])(s T P Lw Pw:ByteArray)(a la pa:Nat)(E:Option (Nat × Nat))(neg up:Bool)(t d:Nat)(hE:∀c p,E=some (c,p)→c=1∨c=2∨c=3)
  (hT:E=none→rd T=((t:Int),0,0)) (hTs:T.size≤400) (hPs:P.size≤400) (hP:∀i,i<P.size→bj P i) (hd:fw 400 d) (ht:fw 400 t)
  (hL:(Lw=⟨#[]⟩∧d=1)∨(Lw≠⟨#[]⟩∧rd Lw=((d:Int),0,0)∧Lw.size≤400)) (hW:∀i,i<Pw.size→bj Pw i) (hWs:Pw.size≤400) :
  ae Tryz.prog C (fk 6 readBody) ⟨151,[(0,.val (.string s)),(2,.ptr 0 0 0),(3,.val .nilIface),(4,.ptr 1 0 0),(5,.val (.bool neg)),(6,.val (.string T)),(7,.val (.string P)),(8,.val (.string Lw)),(9,.val (.string Pw)),(10,.val (.bool up)),(11,.val (.int .i64 la)),(12,.val (.int .i64 pa))],MR s a E⟩
   (jX Tryz.prog [.cell 2 61,.tmp 3] (fun y=>y=oa (jG (jG (jG E (decide (a<s.size)) 1 a) (decide (60<nv Pw 0 Pw.size)) 2 pa) (decide (Lw≠⟨#[]⟩)&&decide (d=0)) 3 la) (pY neg up t P (min (nv Pw 0 Pw.size) 61) d))):=by
 refine ae.cutAt 1 (fun st=>st=⟨151,[(2,.ptr 0 0 0),(3,.val .nilIface),(4,.ptr 1 0 0),(5,.val (.bool neg)),(6,.val (.string T)),(7,.val (.string P)),(8,.val (.string Lw)),(9,.val (.string Pw)),(10,.val (.bool up)),(11,.val (.int .i64 la)),(12,.val (.int .i64 pa))],MR s a (jG E (decide (a<s.size)) 1 a)⟩) ?_ ?_
 ·simp only[readBody,Tryz.f79,amL,ax,au,aG,aE];cases E with
  | some cp =>
   obtain⟨c,p⟩:=cp;by_cases aF:a<s.size
   ·simp[MR,bu,aF,jG];refine ae.alS (.qs [0,1,2,3,4,5]<|.l 6 [0,1,2]<|.nil) ?_;simp[kY,z4];refine vD s a _ _ (k2:=2) (by simp[ao,bu]) (by simpa using agA) ?_;simp[ar,hC]
   ·simp[MR,bu,aF,jG,ar,hC]
  | none =>
   by_cases aF:a<s.size
   ·simp[MR,bu,aF,jG];refine ae.alS (.qs [0,1,2,3,4,5]<|.l 6 [0,1]<|.nil) ?_;simp[z4];refine lJ s a _ _ (by simp[ao,bu]) (by simpa using agt) ?_;simp[ar,hC,bu,kY,pT]
   ·simp[MR,bu,aF,jG,ar,hC]
 ·rintro st rfl;exact NJ (C:=C) hC s T P Lw Pw a la pa (jG E (decide (a<s.size)) 1 a) neg up t d (Dj hE (by omega)) (fun h=>hT (uM h)) hTs hPs hP hd ht hL hW hWs
end Go.Proofs


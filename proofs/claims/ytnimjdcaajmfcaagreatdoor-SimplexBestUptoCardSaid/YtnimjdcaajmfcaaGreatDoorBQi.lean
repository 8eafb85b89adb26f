/- A text of the prover's own. -/
import Derived.Test.YtnimjdcaajmfcaaGreatDoorBQh
open Go.Proofs.Tryz renaming f110->axp,prog->awW
open Nat renaming zero_le->ave,pow_succ->atL,zero_add->as5,mul_assoc->atP,pow_zero->avf,mul_one->asL
open Option renaming getD_some->ate
set_option maxRecDepth 20000
namespace Go.Proofs
open Go.Sv Go Go.Pl
noncomputable def readBody:Code:=axp.body.getD .skip
def z4:Option cz:=some ⟨4,[.agg [.val (.bool false),.val (.slice none 0 0),.val (.bool false),.val (.slice none 0 0)]],false⟩
def mA(c p:Nat):Option cz:=some ⟨2,[.agg [.val (.int .i64 p),.iJ mC (rL c)]],false⟩
def MR(s:ByteArray)(a:Nat):Option (Nat × Nat)->aD
 | none=>[z4,bH s a (.val .nilIface)]
 | some (c,p)=>[z4,bH s a (.iT gE (.ptr 2 0 0)),mA c p]
def pH(E:Option (Nat × Nat))(v:Rat):SV:=match E with
 | none=>.bP [aU v,.val .nilIface]
 | some (c,p)=>.bP [aU 0,.iT gE (.dc (.agg [.val (.int .i64 p),.iJ mC (rL c)]) 0)]
def sw(neg up:Bool)(t:Nat)(P:ByteArray)(x d:Nat):Rat :=
 Rat.divInt (if neg=true then -(((t*10^P.size+nv P 0 P.size)*10^(if up=true then x else 0):Nat):Int) else(((t*10^P.size+nv P 0 P.size)*10^(if up=true then x else 0):Nat):Int)) ((d*10^P.size*10^(if up=true then 0 else x):Nat):Int)
theorem Nv:fw 1 10:=iS (by omega) (by decide)
theorem qn:fit 10:=iu Nv (by omega)
set_option exponentiation.threshold 1000 in
theorem pq{i:Nat}(hi:i<=400):fw 100 ((10^i:Nat):Int):=by unfold fw;rw[Int.natAbs_natCast];refine iS (by omega) (Nat.lt_of_le_of_lt (Nat.pow_le_pow_right (by omega) hi) (by decide))
theorem Q4{d i:Nat}(hd:fw 400 d)(hi:i<=400):fw 500 ((d*10^i:Nat):Int):=by rw[Int.natCast_mul];exact gV hd (pq hi)
theorem aaP{P:ByteArray}{t i:Nat}(ht:fw 400 t)(hP:∀i,i<P.size->bA P i)(hi:i<=400)(ao:i<=P.size):fw 501 ((t*10^i+nv P 0 i:Nat):Int):=by have h1:=vS (s:=P) (a:=0) (k:=i) λj _ hj=>hP j (by omega);rw[Int.natCast_add];refine yX (Q4 ht hi) (fQ (k:=100) ?_ (by omega));exact QN (y:=((10^i:Nat):Int)) (by simp only[Int.natAbs_natCast];omega) (pq hi)
theorem TW{C:Ctx}(hC:C.fx=[])(s T P:ByteArray)(a:Nat)(E:Option (Nat × Nat))(neg up:Bool)(t x d:Nat)(hE:∀c p,E=some (c,p)->c=1∨c=2∨c=3)
  (hT:E=none->rd T=((t:Int),0,0)) (ad:T.size<=400) (ae:P.size<=400) (hP:∀i,i<P.size->bA P i) (hx:x<=61) (hd:fw 400 d) (ht:fw 400 t) :
  aa awW C (bs 12 readBody) ⟨151,[(2,.ptr 0 0 0),(3,.val .nilIface),(4,.ptr 1 0 0),(5,.val (.bool neg)),(6,.val (.string T)),(7,.val (.string P)),(10,.val (.bool up)),(13,.val (.int .i64 x)),(15,.ptr (MR s a E).length 0 0)],MR s a E++[some ⟨2,[cR d],false⟩]⟩
   (lZ awW [.cell 2 50,.tmp 3] (λy=>y=pH E (sw neg up t P x d))):=by
 simp only[readBody,axp,ate,ai,ah];refine aa.go ?_;cases E with
 | some cp =>
  obtain⟨c,p⟩:=cp;simp[MR,bH,mA,z4];refine aa.asj (.qs [0,1,2,3]<|.q 4 [0]<|.l 5 [0]<|.qs [6]<|.nil) ?_;simp[pH,DS,Sv.Sub,cK]
 | none =>
  have hr:=Bw T (by omega);rw[hT rfl]at hr;simp[MR,bH,z4];refine asl hr ?_;simp[lg];refine aa.loop (ι:=Nat) (λi=>⟨151,[(2,.ptr 0 0 0),(3,.val .nilIface),(5,.val (.bool neg)),(7,.val (.string P)),(10,.val (.bool up)),(13,.val (.int .i64 x)),(15,.ptr 2 0 0),(16,.ptr 3 0 0),(116,.val (.int .i64 P.size)),(117,.val (.int .i64 i))],
    [z4,bH s a (.val .nilIface),some ⟨2,[cR ((d*10^i:Nat):Int)],false⟩,some ⟨2,[cR ((t*10^i+nv P 0 i:Nat):Int)],false⟩]⟩)
   (λi=>i<=P.size) (λi=>P.size - i) 0 ?_ ?_ ?_
  ·exact ave _
  ·simp[aR,hC,z4,bH,nv]
  ·rintro i hi;have f1:=Q4 hd (show i<=400 by omega);have f2:=aaP ht hP (show i<=400 by omega) hi;by_cases aP:i<P.size
   ·obtain⟨c,hc⟩:∃c,c=jS P i - 48:=⟨_,rfl⟩;have af:=(hP i aP).2;have ak:jS P i=48+c:=by have:=af.1;omega
    have an:c<=9:=by have:=af.2;omega
    have hb:((eH P i).toNat:Int)=48+c:=by unfold jS at ak;omega
    have e1:(t*10^i+nv P 0 i)*10+c=t*10^(i+1)+nv P 0 (i+1):=by rw[atL];simp only[nv,as5];rw[<-hc];grind
    have e2:d*10^i*10=d*10^(i+1):=by rw[atL,atP]
    have m1:=je ((t*10^i+nv P 0 i:Nat):Int) 10 (iu f2 (by omega)) (qn);have a1:=rZ (((t*10^i+nv P 0 i:Nat):Int)*10) c (iu (gV f2 (Nv)) (by omega)) (uM (by omega));have m2:=je ((d*10^i:Nat):Int) 10 (iu f1 (by omega)) (qn);rw[show((t*10^i+nv P 0 i:Nat):Int)*10+c=((t*10^(i+1)+nv P 0 (i+1):Nat):Int) by rw[<-e1];push_cast;rfl]at a1;rw[show((d*10^i:Nat):Int)*10=((d*10^(i+1):Nat):Int) by rw[<-e2];push_cast;rfl]at m2;generalize ((t*10^i+nv P 0 i:Nat):Int)=N at *;generalize ((d*10^i:Nat):Int)=D at *;simp(disch:=omega)[aP,z4,bH];refine aa.asj (.qs [0,3,4,5,6,7]<|.l 1 []<|.l 2 []<|.l 8 []<|.l 9 []<|.l 10 [3]<|.nil) ?_;have hw:(48+(c:Int) - 48) % 256=c:=by omega
    simp(disch:=omega)[aP,hb,QO,aK,hw];refine asl (m4 10 (by omega) (by omega)) ?_;simp;refine asl m1 ?_;simp;refine asl (m4 c (by omega) (by omega)) ?_;simp;refine asl a1 ?_;simp;refine aa.asj (.qs [0]<|.l 1 []<|.l 2 []<|.l 3 [2]<|.nil) ?_;simp;refine asl (m4 10 (by omega) (by omega)) ?_;simp;refine asl m2 ?_;simp(disch:=omega)[aK];exact⟨i+1,by omega,by omega,by simp[aR,hC]⟩
   ·obtain rfl:i=P.size:=by omega
    generalize hN:t*10^P.size+nv P 0 P.size=N at *;generalize hD:d*10^P.size=D at *;simp[z4,bH];refine aa.loop (ι:=Nat) (λi=>⟨151,[(2,.ptr 0 0 0),(3,.val .nilIface),(5,.val (.bool neg)),(10,.val (.bool up)),(15,.ptr 2 0 0),(16,.ptr 3 0 0),(134,.val (.int .i64 x)),(135,.val (.int .i64 i))],
      [z4,bH s a (.val .nilIface),some ⟨2,[cR ((D*10^(if up=true then 0 else i):Nat):Int)],false⟩,some ⟨2,[cR ((N*10^(if up=true then i else 0):Nat):Int)],false⟩]⟩)
     (λi=>i<=x) (λi=>x - i) 0 ?_ ?_ ?_
    ·exact ave _
    ·simp[aR,hC,z4,bH]
    ·rintro i hi;have g1:=gV f1 (pq (i:=if up=true then 0 else i) (by split<;>omega));have g2:=gV f2 (pq (i:=if up=true then i else 0) (by split<;>omega));rw[<-Int.natCast_mul]at g1 g2;by_cases aP:i<x
     ·have ag:(i:Int)<x:=by omega
      cases up with
      | true =>
       simp only[if_true,avf,asL]at g1 g2 ⊢;have m1:=je ((N*10^i:Nat):Int) 10 (iu g2 (by omega)) qn;rw[show((N*10^i:Nat):Int)*10=((N*10^(i+1):Nat):Int) by rw[atL,<-atP];push_cast;rfl]at m1;generalize ((N*10^i:Nat):Int)=Y at *;simp[ag,z4,bH];refine aa.asj (.qs [0]<|.l 1 []<|.l 2 []<|.l 3 [3]<|.nil) ?_;simp;refine asl (m4 10 (by omega) (by omega)) ?_;simp;refine asl m1 ?_;simp(disch:=omega)[aK];exact⟨i+1,by omega,by omega,by simp[aR,hC]⟩
      | false =>
       simp only[Bool.false_eq_true,if_false,avf,asL]at g1 g2 ⊢;have m1:=je ((D*10^i:Nat):Int) 10 (iu g1 (by omega)) qn;rw[show((D*10^i:Nat):Int)*10=((D*10^(i+1):Nat):Int) by rw[atL,<-atP];push_cast;rfl]at m1;generalize ((D*10^i:Nat):Int)=Y at *;simp[ag,z4,bH];refine aa.asj (.qs [0]<|.l 1 []<|.l 2 []<|.l 3 [2]<|.nil) ?_;simp;refine asl (m4 10 (by omega) (by omega)) ?_;simp;refine asl m1 ?_;simp(disch:=omega)[aK];exact⟨i+1,by omega,by omega,by simp[aR,hC]⟩
     ·obtain rfl:i=x:=by omega
      have hv:sw neg up t P i d=Rat.divInt (if neg=true then -((N*10^(if up=true then i else 0):Nat):Int) else((N*10^(if up=true then i else 0):Nat):Int)) ((D*10^(if up=true then 0 else i):Nat):Int):=by unfold sw;rw[hN,hD]
      rw[hv];generalize ((N*10^(if up=true then i else 0):Nat):Int)=Y at *;generalize ((D*10^(if up=true then 0 else i):Nat):Int)=Z at *;cases neg with
      | false =>
       simp[z4,bH];refine asl (sH Y Z (iu g2 (by omega)) (iu g1 (by omega))) ?_;simp[pH]
      | true =>
       simp[z4,bH];refine asl (yk Y) ?_;simp;refine asl (sH (-Y) Z (wU.2 (iu g2 (by omega))) (iu g1 (by omega))) ?_;simp[pH]
theorem OS{C:Ctx}(hC:C.fx=[])(s T P:ByteArray)(a c p:Nat)(neg up:Bool)(x:Nat)(D:Option cz)(v:Rat) :
  aa awW C (bs 12 readBody) ⟨151,[(2,.ptr 0 0 0),(3,.val .nilIface),(4,.ptr 1 0 0),(5,.val (.bool neg)),(6,.val (.string T)),(7,.val (.string P)),(10,.val (.bool up)),(13,.val (.int .i64 x)),(15,.ptr 2 0 0)],[z4,bH s a (.iT gE (.ptr 3 0 0)),D,mA c p]⟩
   (lZ awW [.cell 2 50,.tmp 3] (λy=>y=pH (some (c,p)) v)):=by
 simp only[readBody,axp,ate,ai,ah];refine aa.go ?_;simp[bH,mA,z4];refine aa.asj (.qs [0,1,2,3]<|.q 4 [0]<|.l 5 [0]<|.qs [6]<|.nil) ?_;simp[pH,DS,Sv.Sub,cK]
def j5(E:Option (Nat × Nat))(b:Bool)(c p:Nat):Option (Nat × Nat):=match E with
 | none=>if b=true then some (c,p) else none
 | some e=>some e
theorem FI{E:Option (Nat × Nat)}{b:Bool}{c p:Nat}(h:∀c p,E=some (c,p)->c=1∨c=2∨c=3)(hc:c=1∨c=2∨c=3):∀c' p',j5 E b c p=some (c',p')->c'=1∨c'=2∨c'=3:=λc' p' h'=>by
 cases E with
 | none =>
  simp only[j5]at h';split at h'
  ·simp only[Option.some.injEq,Prod.mk.injEq]at h';rw[<-h'.1];exact hc
  ·cases h'
 | some e=>exact h c' p' h'
theorem yY{E:Option (Nat × Nat)}{b:Bool}{c p:Nat}(h:j5 E b c p=none):E=none:=by
 cases E with
 | none=>rfl
 | some e=>cases h
def Ic(E:Option (Nat × Nat))(s T P Lw:ByteArray)(a la:Nat)(neg up:Bool)(x d:Nat)(st:St):Prop :=
 (E=none∧Lw≠⟨#[]⟩∧d=0∧st=⟨151,[(2,.ptr 0 0 0),(3,.val .nilIface),(4,.ptr 1 0 0),(5,.val (.bool neg)),(6,.val (.string T)),(7,.val (.string P)),(10,.val (.bool up)),(13,.val (.int .i64 x)),(15,.ptr 2 0 0)],[z4,bH s a (.iT gE (.ptr 3 0 0)),some ⟨2,[cR d],false⟩,mA 3 la]⟩)∨st=⟨151,[(2,.ptr 0 0 0),(3,.val .nilIface),(4,.ptr 1 0 0),(5,.val (.bool neg)),(6,.val (.string T)),(7,.val (.string P)),(10,.val (.bool up)),(13,.val (.int .i64 x)),(15,.ptr (MR s a (j5 E (decide (Lw≠⟨#[]⟩)&&decide (d=0)) 3 la)).length 0 0)],MR s a (j5 E (decide (Lw≠⟨#[]⟩)&&decide (d=0)) 3 la)++[some ⟨2,[cR d],false⟩]⟩
theorem Sr{C:Ctx}(hC:C.fx=[])(s T P Lw:ByteArray)(a la:Nat)(E:Option (Nat × Nat))(neg up:Bool)(t x d:Nat)(hE:∀c p,E=some (c,p)->c=1∨c=2∨c=3)
  (hT:E=none->rd T=((t:Int),0,0)) (ad:T.size<=400) (ae:P.size<=400) (hP:∀i,i<P.size->bA P i) (hx:x<=61) (hd:fw 400 d) (ht:fw 400 t)
  (hL:(Lw=⟨#[]⟩∧d=1)∨(Lw≠⟨#[]⟩∧rd Lw=((d:Int),0,0)∧Lw.size<=400)) :
  aa awW C (bs 10 readBody) ⟨151,[(2,.ptr 0 0 0),(3,.val .nilIface),(4,.ptr 1 0 0),(5,.val (.bool neg)),(6,.val (.string T)),(7,.val (.string P)),(8,.val (.string Lw)),(10,.val (.bool up)),(11,.val (.int .i64 la)),(13,.val (.int .i64 x))],MR s a E⟩
   (lZ awW [.cell 2 50,.tmp 3] (λy=>y=pH (j5 E (decide (Lw≠⟨#[]⟩)&&decide (d=0)) 3 la) (sw neg up t P x d))):=by
 refine aa.cutAt 2 (Ic E s T P Lw a la neg up x d) ?_ ?_
 ·simp only[readBody,axp,ate,ai,ah,aN,aM];cases E with
  | some cp =>
   obtain⟨c,p⟩:=cp;simp[MR,bH,mA,z4,j5];refine asl (m4 1 (by omega) (by omega)) ?_;rcases hL with⟨rfl,rfl⟩ | ⟨h1,h2,h3⟩
   ·simp;exact⟨_,Or.inr rfl,by simp[aR,hC,MR,j5,z4,bH,mA]⟩
   ·have hr:=Bw Lw (by omega);rw[h2]at hr;simp[h1];refine asl hr ?_;simp;refine asl (nF _) ?_;by_cases ab:d=0
    ·simp[ab];refine zm s a _ _ (k2:=2) (by simp[aA,bH]) (by simp) ?_;simp;exact⟨_,Or.inr rfl,by simp[aR,hC,MR,j5,z4,bH,mA]⟩
    ·simp[ab];exact⟨_,Or.inr rfl,by simp[aR,hC,MR,j5,z4,bH,mA]⟩
  | none =>
   simp[MR,bH,z4,j5];refine asl (m4 1 (by omega) (by omega)) ?_;rcases hL with⟨rfl,rfl⟩ | ⟨h1,h2,h3⟩
   ·simp;exact⟨_,Or.inr rfl,by simp[aR,hC,MR,j5,z4,bH]⟩
   ·have hr:=Bw Lw (by omega);rw[h2]at hr;simp[h1];refine asl hr ?_;simp;refine asl (nF _) ?_;by_cases ab:d=0
    ·subst ab;simp;refine mZ s a _ _ (by simp[aA,bH]) (by simp) ?_;simp[bH];exact⟨_,Or.inl ⟨rfl,h1,rfl,rfl⟩,by simp[aR,hC,rL,z4,bH,mA]⟩
    ·simp[ab];exact⟨_,Or.inr rfl,by simp[aR,hC,ab,h1,MR,j5,z4,bH]⟩
 ·rintro st (⟨rfl,h1,rfl,rfl⟩ | rfl)
  ·have:=OS (C:=C) hC s T P a 3 la neg up x (some ⟨2,[cR ((0:Nat):Int)],false⟩) (sw neg up t P x 0);have e2:j5 none (decide (Lw≠⟨#[]⟩)&&decide ((0:Nat)=0)) 3 la=some (3,la):=by simp[j5,h1]
   rw[e2];exact this
  have:=TW (C:=C) hC s T P a (j5 E (decide (Lw≠⟨#[]⟩)&&decide (d=0)) 3 la) neg up t x d (FI hE (by omega)) (λh=>hT (yY h)) ad ae hP hx hd ht;exact this
def xT(s:ByteArray):Nat->Nat
 | 0=>0
 | k+1=>min (xT s k*10+(jS s k - 48)) 61
theorem BX(s:ByteArray):∀k,xT s k=min (nv s 0 k) 61
 | 0=>rfl
 | k+1=>by simp only[xT,nv,BX s k,as5];omega
theorem aiS{x y:Option cz}:∀(i:Nat) (e:cz),aA [x,y] i=some e->i=0∨i=1
 | 0,_,_=>.inl rfl
 | 1,_,_=>.inr rfl
 | _+2,_,h=>by simp[aA]at h
theorem ai2{x y z:Option cz}:∀(i:Nat) (e:cz),aA [x,y,z] i=some e->i=0∨i=1∨i=2
 | 0,_,_=>.inl rfl
 | 1,_,_=>.inr (.inl rfl)
 | 2,_,_=>.inr (.inr rfl)
 | _+3,_,h=>by simp[aA]at h
theorem Tj{C:Ctx}(hC:C.fx=[])(s T P Lw Pw:ByteArray)(a la pa:Nat)(E:Option (Nat × Nat))(neg up:Bool)(t d:Nat)(hE:∀c p,E=some (c,p)->c=1∨c=2∨c=3)
  (hT:E=none->rd T=((t:Int),0,0)) (ad:T.size<=400) (ae:P.size<=400) (hP:∀i,i<P.size->bA P i) (hd:fw 400 d) (ht:fw 400 t)
  (hL:(Lw=⟨#[]⟩∧d=1)∨(Lw≠⟨#[]⟩∧rd Lw=((d:Int),0,0)∧Lw.size<=400)) (hW:∀i,i<Pw.size->bA Pw i) (al:Pw.size<=400) :
  aa awW C (bs 7 readBody) ⟨151,[(2,.ptr 0 0 0),(3,.val .nilIface),(4,.ptr 1 0 0),(5,.val (.bool neg)),(6,.val (.string T)),(7,.val (.string P)),(8,.val (.string Lw)),(9,.val (.string Pw)),(10,.val (.bool up)),(11,.val (.int .i64 la)),(12,.val (.int .i64 pa))],MR s a E⟩
   (lZ awW [.cell 2 50,.tmp 3] (λy=>y=pH (j5 (j5 E (decide (60<nv Pw 0 Pw.size)) 2 pa) (decide (Lw≠⟨#[]⟩)&&decide (d=0)) 3 la) (sw neg up t P (min (nv Pw 0 Pw.size) 61) d))):=by
 refine aa.cutAt 3 (λst=>st=⟨151,[(2,.ptr 0 0 0),(3,.val .nilIface),(4,.ptr 1 0 0),(5,.val (.bool neg)),(6,.val (.string T)),(7,.val (.string P)),(8,.val (.string Lw)),(10,.val (.bool up)),(11,.val (.int .i64 la)),(13,.val (.int .i64 (min (nv Pw 0 Pw.size) 61:Nat)))],MR s a (j5 E (decide (60<nv Pw 0 Pw.size)) 2 pa)⟩) ?_ ?_
 ·simp only[readBody,axp,ate,ai,ah,aN,aM];simp;refine aa.loop (ι:=Nat) (λi=>⟨151,[(2,.ptr 0 0 0),(3,.val .nilIface),(4,.ptr 1 0 0),(5,.val (.bool neg)),(6,.val (.string T)),(7,.val (.string P)),(8,.val (.string Lw)),(9,.val (.string Pw)),(10,.val (.bool up)),(11,.val (.int .i64 la)),(12,.val (.int .i64 pa)),(13,.val (.int .i64 (xT Pw i))),(65,.val (.int .i64 Pw.size)),(66,.val (.int .i64 i))],MR s a E⟩)
   (λi=>i<=Pw.size) (λi=>Pw.size - i) 0 ?_ ?_ ?_
  ·exact ave _
  ·simp[aR,hC,xT]
  ·rintro i hi;have aj:xT Pw i<=61:=by rw[BX];omega
   by_cases aP:i<Pw.size
   ·obtain⟨c,hc⟩:∃c,c=jS Pw i - 48:=⟨_,rfl⟩;have af:=(hW i aP).2;have ak:jS Pw i=48+c:=by have:=af.1;omega
    have an:c<=9:=by have:=af.2;omega
    have hb:((eH Pw i).toNat:Int)=48+c:=by unfold jS at ak;omega
    have hw:(48+(c:Int) - 48) % 256=c:=by omega
    have e:xT Pw (i+1)=min (xT Pw i*10+c) 61:=by simp only[xT];rw[<-hc]
    generalize xT Pw i=X at *;have e':min ((X:Int)*10+c) 61=((xT Pw (i+1):Nat):Int):=by rw[e];omega
    simp(disch:=omega)[aP,hb,QO,aK,hw,e'];exact⟨i+1,by omega,by omega,by simp[aR,hC]⟩
   ·obtain rfl:i=Pw.size:=by omega
    rw[BX]at aj ⊢;obtain⟨m,hm⟩:∃m,m=min (nv Pw 0 Pw.size) 61:=⟨_,rfl⟩;rw[<-hm]at aj ⊢;by_cases am:60<nv Pw 0 Pw.size
    ·have ac:(60:Int)<m:=by omega
     simp[am,ac];cases E with
     | some cp =>
      obtain⟨c,p⟩:=cp;refine zm s a _ _ (k2:=2) (by simp[aA,bH,MR]) (by simp) ?_;simp[aR,hC,MR,j5,hm]
     | none =>
      refine mZ s a _ _ (by simp[aA,bH,MR]) (by simp) ?_;simp[aR,hC,MR,j5,hm,bH,mA,rL]
    ·have ac:¬(60:Int)<m:=by omega
     have:j5 E false 2 pa=E:=by cases E<;>rfl
     simp[am,ac,this];simp[aR,hC,hm]
 ·rintro st rfl;exact Sr (C:=C) hC s T P Lw a la (j5 E (decide (60<nv Pw 0 Pw.size)) 2 pa) neg up t (min (nv Pw 0 Pw.size) 61) d (FI hE (by omega)) (λh=>hT (yY h)) ad ae hP (by omega) hd ht hL
theorem T2{C:Ctx}(hC:C.fx=[])(s T P Lw Pw:ByteArray)(a la pa:Nat)(E:Option (Nat × Nat))(neg up:Bool)(t d:Nat)(hE:∀c p,E=some (c,p)->c=1∨c=2∨c=3)
  (hT:E=none->rd T=((t:Int),0,0)) (ad:T.size<=400) (ae:P.size<=400) (hP:∀i,i<P.size->bA P i) (hd:fw 400 d) (ht:fw 400 t)
  (hL:(Lw=⟨#[]⟩∧d=1)∨(Lw≠⟨#[]⟩∧rd Lw=((d:Int),0,0)∧Lw.size<=400)) (hW:∀i,i<Pw.size->bA Pw i) (al:Pw.size<=400) :
  aa awW C (bs 6 readBody) ⟨151,[(0,.val (.string s)),(2,.ptr 0 0 0),(3,.val .nilIface),(4,.ptr 1 0 0),(5,.val (.bool neg)),(6,.val (.string T)),(7,.val (.string P)),(8,.val (.string Lw)),(9,.val (.string Pw)),(10,.val (.bool up)),(11,.val (.int .i64 la)),(12,.val (.int .i64 pa))],MR s a E⟩
   (lZ awW [.cell 2 50,.tmp 3] (λy=>y=pH (j5 (j5 (j5 E (decide (a<s.size)) 1 a) (decide (60<nv Pw 0 Pw.size)) 2 pa) (decide (Lw≠⟨#[]⟩)&&decide (d=0)) 3 la) (sw neg up t P (min (nv Pw 0 Pw.size) 61) d))):=by
 refine aa.cutAt 1 (λst=>st=⟨151,[(2,.ptr 0 0 0),(3,.val .nilIface),(4,.ptr 1 0 0),(5,.val (.bool neg)),(6,.val (.string T)),(7,.val (.string P)),(8,.val (.string Lw)),(9,.val (.string Pw)),(10,.val (.bool up)),(11,.val (.int .i64 la)),(12,.val (.int .i64 pa))],MR s a (j5 E (decide (a<s.size)) 1 a)⟩) ?_ ?_
 ·simp only[readBody,axp,ate,ai,ah,aN,aM];cases E with
  | some cp =>
   obtain⟨c,p⟩:=cp;by_cases aP:a<s.size
   ·simp[MR,bH,aP,j5];refine aa.asj (.qs [0,1,2,3,4,5]<|.l 6 [0,1,2]<|.nil) ?_;simp[mA,z4];refine zm s a _ _ (k2:=2) (by simp[aA,bH]) (by simpa using ai2) ?_;simp[aR,hC]
   ·simp[MR,bH,aP,j5,aR,hC]
  | none =>
   by_cases aP:a<s.size
   ·simp[MR,bH,aP,j5];refine aa.asj (.qs [0,1,2,3,4,5]<|.l 6 [0,1]<|.nil) ?_;simp[z4];refine mZ s a _ _ (by simp[aA,bH]) (by simpa using aiS) ?_;simp[aR,hC,bH,mA,rL]
   ·simp[MR,bH,aP,j5,aR,hC]
 ·rintro st rfl;exact Tj (C:=C) hC s T P Lw Pw a la pa (j5 E (decide (a<s.size)) 1 a) neg up t d (FI hE (by omega)) (λh=>hT (yY h)) ad ae hP hd ht hL hW al
end Go.Proofs


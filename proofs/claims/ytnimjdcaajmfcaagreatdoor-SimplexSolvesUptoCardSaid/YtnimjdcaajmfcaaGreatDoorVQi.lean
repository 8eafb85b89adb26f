/- A text of the prover's own. -/
import Derived.Test.YtnimjdcaajmfcaaGreatDoorVQh
open Go.Proofs.Tryz renaming f110->aBs,prog->ay9
open Nat renaming zero_le->aBt,pow_succ->ayX,zero_add->axW,mul_assoc->ay0,pow_zero->aBu,mul_one->axo
open Option renaming getD_some->ayj
set_option maxRecDepth 20000
namespace Go.Proofs
open Go.Sv Go Go.Pl
noncomputable def readBody:Code:=aBs.body.getD .skip
def z4:Option cJ:=some ⟨4,[.agg [.val (.bool false),.val (.slice none 0 0),.val (.bool false),.val (.slice none 0 0)]],false⟩
def nK(c p:Nat):Option cJ:=some ⟨2,[.agg [.val (.int .i64 p),.fT fD (uo c)]],false⟩
def MR(s:ByteArray)(a:Nat):Option (Nat × Nat)->aC
 | none=>[z4,bQ s a (.val .nilIface)]
 | some (c,p)=>[z4,bQ s a (.ju gZ (.ptr 2 0 0)),nK c p]
def rz(E:Option (Nat × Nat))(v:Rat):SV:=match E with
 | none=>.bM [aS v,.val .nilIface]
 | some (c,p)=>.bM [aS 0,.ju gZ (.dG (.agg [.val (.int .i64 p),.fT fD (uo c)]) 0)]
def uB(neg up:Bool)(t:Nat)(P:ByteArray)(x d:Nat):Rat :=
 Rat.divInt (if neg=true then -(((t*10^P.size+nv P 0 P.size)*10^(if up=true then x else 0):Nat):Int) else(((t*10^P.size+nv P 0 P.size)*10^(if up=true then x else 0):Nat):Int)) ((d*10^P.size*10^(if up=true then 0 else x):Nat):Int)
theorem OE:fw 1 10:=iC (by omega) (by decide)
theorem r6:fit 10:=iX OE (by omega)
set_option exponentiation.threshold 1000 in
theorem rq{i:Nat}(hi:i<=400):fw 100 ((10^i:Nat):Int):=by unfold fw;rw[Int.natAbs_natCast];refine iC (by omega) (Nat.lt_of_le_of_lt (Nat.pow_le_pow_right (by omega) hi) (by decide))
theorem TE{d i:Nat}(hd:fw 400 d)(hi:i<=400):fw 500 ((d*10^i:Nat):Int):=by rw[Int.natCast_mul];exact iD hd (rq hi)
theorem ae6{P:ByteArray}{t i:Nat}(ht:fw 400 t)(hP:∀i,i<P.size->bI P i)(hi:i<=400)(ao:i<=P.size):fw 501 ((t*10^i+nv P 0 i:Nat):Int):=by have h1:=vg (s:=P) (a:=0) (k:=i) λj _ hj=>hP j (by omega);rw[Int.natCast_add];refine Bj (TE ht hi) (gG (k:=100) ?_ (by omega));exact Uq (y:=((10^i:Nat):Int)) (by simp only[Int.natAbs_natCast];omega) (rq hi)
theorem Wo{C:Ctx}(hC:C.fx=[])(s T P:ByteArray)(a:Nat)(E:Option (Nat × Nat))(neg up:Bool)(t x d:Nat)(hE:∀c p,E=some (c,p)->c=1∨c=2∨c=3)
  (hT:E=none->rd T=((t:Int),0,0)) (ae:T.size<=400) (af:P.size<=400) (hP:∀i,i<P.size->bI P i) (hx:x<=61) (hd:fw 400 d) (ht:fw 400 t) :
  aa ay9 C (bh 12 readBody) ⟨151,[(2,.ptr 0 0 0),(3,.val .nilIface),(4,.ptr 1 0 0),(5,.val (.bool neg)),(6,.val (.string T)),(7,.val (.string P)),(10,.val (.bool up)),(13,.val (.int .i64 x)),(15,.ptr (MR s a E).length 0 0)],MR s a E++[some ⟨2,[dm d],false⟩]⟩
   (kg ay9 [.cell 2 50,.tmp 3] (λy=>y=rz E (uB neg up t P x d))):=by
 simp only[readBody,aBs,ayj,ah,ab];refine aa.go ?_;cases E with
 | some cp =>
  obtain⟨c,p⟩:=cp;simp[MR,bQ,nK,z4];refine aa.awH (.qs [0,1,2,3]<|.q 4 [0]<|.l 5 [0]<|.qs [6]<|.nil) ?_;simp[rz,Gy,Sv.Sub,cP]
 | none =>
  have hr:=En T (by omega);rw[hT rfl]at hr;simp[MR,bQ,z4];refine awI hr ?_;simp[mj];refine aa.loop (ι:=Nat) (λi=>⟨151,[(2,.ptr 0 0 0),(3,.val .nilIface),(5,.val (.bool neg)),(7,.val (.string P)),(10,.val (.bool up)),(13,.val (.int .i64 x)),(15,.ptr 2 0 0),(16,.ptr 3 0 0),(116,.val (.int .i64 P.size)),(117,.val (.int .i64 i))],
    [z4,bQ s a (.val .nilIface),some ⟨2,[dm ((d*10^i:Nat):Int)],false⟩,some ⟨2,[dm ((t*10^i+nv P 0 i:Nat):Int)],false⟩]⟩)
   (λi=>i<=P.size) (λi=>P.size - i) 0 ?_ ?_ ?_
  ·exact aBt _
  ·simp[aP,hC,z4,bQ,nv]
  ·rintro i hi;have f1:=TE hd (show i<=400 by omega);have f2:=ae6 ht hP (show i<=400 by omega) hi;by_cases aR:i<P.size
   ·obtain⟨c,hc⟩:∃c,c=kJ P i - 48:=⟨_,rfl⟩;have ag:=(hP i aR).2;have ak:kJ P i=48+c:=by have:=ag.1;omega
    have an:c<=9:=by have:=ag.2;omega
    have hb:((eL P i).toNat:Int)=48+c:=by unfold kJ at ak;omega
    have e1:(t*10^i+nv P 0 i)*10+c=t*10^(i+1)+nv P 0 (i+1):=by rw[ayX];simp only[nv,axW];rw[<-hc];grind
    have e2:d*10^i*10=d*10^(i+1):=by rw[ayX,ay0]
    have m1:=jI ((t*10^i+nv P 0 i:Nat):Int) 10 (iX f2 (by omega)) (r6);have a1:=uc (((t*10^i+nv P 0 i:Nat):Int)*10) c (iX (iD f2 (OE)) (by omega)) (w9 (by omega));have m2:=jI ((d*10^i:Nat):Int) 10 (iX f1 (by omega)) (r6);rw[show((t*10^i+nv P 0 i:Nat):Int)*10+c=((t*10^(i+1)+nv P 0 (i+1):Nat):Int) by rw[<-e1];push_cast;rfl]at a1;rw[show((d*10^i:Nat):Int)*10=((d*10^(i+1):Nat):Int) by rw[<-e2];push_cast;rfl]at m2;generalize ((t*10^i+nv P 0 i:Nat):Int)=N at *;generalize ((d*10^i:Nat):Int)=D at *;simp(disch:=omega)[aR,z4,bQ];refine aa.awH (.qs [0,3,4,5,6,7]<|.l 1 []<|.l 2 []<|.l 8 []<|.l 9 []<|.l 10 [3]<|.nil) ?_;have hw:(48+(c:Int) - 48) % 256=c:=by omega
    simp(disch:=omega)[aR,hb,SW,aD,hw];refine awI (oS 10 (by omega) (by omega)) ?_;simp;refine awI m1 ?_;simp;refine awI (oS c (by omega) (by omega)) ?_;simp;refine awI a1 ?_;simp;refine aa.awH (.qs [0]<|.l 1 []<|.l 2 []<|.l 3 [2]<|.nil) ?_;simp;refine awI (oS 10 (by omega) (by omega)) ?_;simp;refine awI m2 ?_;simp(disch:=omega)[aD];exact⟨i+1,by omega,by omega,by simp[aP,hC]⟩
   ·obtain rfl:i=P.size:=by omega
    generalize hN:t*10^P.size+nv P 0 P.size=N at *;generalize hD:d*10^P.size=D at *;simp[z4,bQ];refine aa.loop (ι:=Nat) (λi=>⟨151,[(2,.ptr 0 0 0),(3,.val .nilIface),(5,.val (.bool neg)),(10,.val (.bool up)),(15,.ptr 2 0 0),(16,.ptr 3 0 0),(134,.val (.int .i64 x)),(135,.val (.int .i64 i))],
      [z4,bQ s a (.val .nilIface),some ⟨2,[dm ((D*10^(if up=true then 0 else i):Nat):Int)],false⟩,some ⟨2,[dm ((N*10^(if up=true then i else 0):Nat):Int)],false⟩]⟩)
     (λi=>i<=x) (λi=>x - i) 0 ?_ ?_ ?_
    ·exact aBt _
    ·simp[aP,hC,z4,bQ]
    ·rintro i hi;have g1:=iD f1 (rq (i:=if up=true then 0 else i) (by split<;>omega));have g2:=iD f2 (rq (i:=if up=true then i else 0) (by split<;>omega));rw[<-Int.natCast_mul]at g1 g2;by_cases aR:i<x
     ·have ai:(i:Int)<x:=by omega
      cases up with
      | true =>
       simp only[if_true,aBu,axo]at g1 g2 ⊢;have m1:=jI ((N*10^i:Nat):Int) 10 (iX g2 (by omega)) r6;rw[show((N*10^i:Nat):Int)*10=((N*10^(i+1):Nat):Int) by rw[ayX,<-ay0];push_cast;rfl]at m1;generalize ((N*10^i:Nat):Int)=Y at *;simp[ai,z4,bQ];refine aa.awH (.qs [0]<|.l 1 []<|.l 2 []<|.l 3 [3]<|.nil) ?_;simp;refine awI (oS 10 (by omega) (by omega)) ?_;simp;refine awI m1 ?_;simp(disch:=omega)[aD];exact⟨i+1,by omega,by omega,by simp[aP,hC]⟩
      | false =>
       simp only[Bool.false_eq_true,if_false,aBu,axo]at g1 g2 ⊢;have m1:=jI ((D*10^i:Nat):Int) 10 (iX g1 (by omega)) r6;rw[show((D*10^i:Nat):Int)*10=((D*10^(i+1):Nat):Int) by rw[ayX,<-ay0];push_cast;rfl]at m1;generalize ((D*10^i:Nat):Int)=Y at *;simp[ai,z4,bQ];refine aa.awH (.qs [0]<|.l 1 []<|.l 2 []<|.l 3 [2]<|.nil) ?_;simp;refine awI (oS 10 (by omega) (by omega)) ?_;simp;refine awI m1 ?_;simp(disch:=omega)[aD];exact⟨i+1,by omega,by omega,by simp[aP,hC]⟩
     ·obtain rfl:i=x:=by omega
      have hv:uB neg up t P i d=Rat.divInt (if neg=true then -((N*10^(if up=true then i else 0):Nat):Int) else((N*10^(if up=true then i else 0):Nat):Int)) ((D*10^(if up=true then 0 else i):Nat):Int):=by unfold uB;rw[hN,hD]
      rw[hv];generalize ((N*10^(if up=true then i else 0):Nat):Int)=Y at *;generalize ((D*10^(if up=true then 0 else i):Nat):Int)=Z at *;cases neg with
      | false =>
       simp[z4,bQ];refine awI (vT Y Z (iX g2 (by omega)) (iX g1 (by omega))) ?_;simp[rz]
      | true =>
       simp[z4,bQ];refine awI (Aj Y) ?_;simp;refine awI (vT (-Y) Z (zp.2 (iX g2 (by omega))) (iX g1 (by omega))) ?_;simp[rz]
theorem Rj{C:Ctx}(hC:C.fx=[])(s T P:ByteArray)(a c p:Nat)(neg up:Bool)(x:Nat)(D:Option cJ)(v:Rat) :
  aa ay9 C (bh 12 readBody) ⟨151,[(2,.ptr 0 0 0),(3,.val .nilIface),(4,.ptr 1 0 0),(5,.val (.bool neg)),(6,.val (.string T)),(7,.val (.string P)),(10,.val (.bool up)),(13,.val (.int .i64 x)),(15,.ptr 2 0 0)],[z4,bQ s a (.ju gZ (.ptr 3 0 0)),D,nK c p]⟩
   (kg ay9 [.cell 2 50,.tmp 3] (λy=>y=rz (some (c,p)) v)):=by
 simp only[readBody,aBs,ayj,ah,ab];refine aa.go ?_;simp[bQ,nK,z4];refine aa.awH (.qs [0,1,2,3]<|.q 4 [0]<|.l 5 [0]<|.qs [6]<|.nil) ?_;simp[rz,Gy,Sv.Sub,cP]
def kS(E:Option (Nat × Nat))(b:Bool)(c p:Nat):Option (Nat × Nat):=match E with
 | none=>if b=true then some (c,p) else none
 | some e=>some e
theorem I9{E:Option (Nat × Nat)}{b:Bool}{c p:Nat}(h:∀c p,E=some (c,p)->c=1∨c=2∨c=3)(hc:c=1∨c=2∨c=3):∀c' p',kS E b c p=some (c',p')->c'=1∨c'=2∨c'=3:=λc' p' h'=>by
 cases E with
 | none =>
  simp only[kS]at h';split at h'
  ·simp only[Option.some.injEq,Prod.mk.injEq]at h';rw[<-h'.1];exact hc
  ·cases h'
 | some e=>exact h c' p' h'
theorem AX{E:Option (Nat × Nat)}{b:Bool}{c p:Nat}(h:kS E b c p=none):E=none:=by
 cases E with
 | none=>rfl
 | some e=>cases h
def Ic(E:Option (Nat × Nat))(s T P Lw:ByteArray)(a la:Nat)(neg up:Bool)(x d:Nat)(st:St):Prop :=
 (E=none∧Lw≠⟨#[]⟩∧d=0∧st=⟨151,[(2,.ptr 0 0 0),(3,.val .nilIface),(4,.ptr 1 0 0),(5,.val (.bool neg)),(6,.val (.string T)),(7,.val (.string P)),(10,.val (.bool up)),(13,.val (.int .i64 x)),(15,.ptr 2 0 0)],[z4,bQ s a (.ju gZ (.ptr 3 0 0)),some ⟨2,[dm d],false⟩,nK 3 la]⟩)∨st=⟨151,[(2,.ptr 0 0 0),(3,.val .nilIface),(4,.ptr 1 0 0),(5,.val (.bool neg)),(6,.val (.string T)),(7,.val (.string P)),(10,.val (.bool up)),(13,.val (.int .i64 x)),(15,.ptr (MR s a (kS E (decide (Lw≠⟨#[]⟩)&&decide (d=0)) 3 la)).length 0 0)],MR s a (kS E (decide (Lw≠⟨#[]⟩)&&decide (d=0)) 3 la)++[some ⟨2,[dm d],false⟩]⟩
theorem WO{C:Ctx}(hC:C.fx=[])(s T P Lw:ByteArray)(a la:Nat)(E:Option (Nat × Nat))(neg up:Bool)(t x d:Nat)(hE:∀c p,E=some (c,p)->c=1∨c=2∨c=3)
  (hT:E=none->rd T=((t:Int),0,0)) (ae:T.size<=400) (af:P.size<=400) (hP:∀i,i<P.size->bI P i) (hx:x<=61) (hd:fw 400 d) (ht:fw 400 t)
  (hL:(Lw=⟨#[]⟩∧d=1)∨(Lw≠⟨#[]⟩∧rd Lw=((d:Int),0,0)∧Lw.size<=400)) :
  aa ay9 C (bh 10 readBody) ⟨151,[(2,.ptr 0 0 0),(3,.val .nilIface),(4,.ptr 1 0 0),(5,.val (.bool neg)),(6,.val (.string T)),(7,.val (.string P)),(8,.val (.string Lw)),(10,.val (.bool up)),(11,.val (.int .i64 la)),(13,.val (.int .i64 x))],MR s a E⟩
   (kg ay9 [.cell 2 50,.tmp 3] (λy=>y=rz (kS E (decide (Lw≠⟨#[]⟩)&&decide (d=0)) 3 la) (uB neg up t P x d))):=by
 refine aa.cutAt 2 (Ic E s T P Lw a la neg up x d) ?_ ?_
 ·simp only[readBody,aBs,ayj,ah,ab,aN,aL];cases E with
  | some cp =>
   obtain⟨c,p⟩:=cp;simp[MR,bQ,nK,z4,kS];refine awI (oS 1 (by omega) (by omega)) ?_;rcases hL with⟨rfl,rfl⟩ | ⟨h1,h2,h3⟩
   ·simp;exact⟨_,Or.inr rfl,by simp[aP,hC,MR,kS,z4,bQ,nK]⟩
   ·have hr:=En Lw (by omega);rw[h2]at hr;simp[h1];refine awI hr ?_;simp;refine awI (pF _) ?_;by_cases ac:d=0
    ·simp[ac];refine z3 s a _ _ (k2:=2) (by simp[aA,bQ]) (by simp) ?_;simp;exact⟨_,Or.inr rfl,by simp[aP,hC,MR,kS,z4,bQ,nK]⟩
    ·simp[ac];exact⟨_,Or.inr rfl,by simp[aP,hC,MR,kS,z4,bQ,nK]⟩
  | none =>
   simp[MR,bQ,z4,kS];refine awI (oS 1 (by omega) (by omega)) ?_;rcases hL with⟨rfl,rfl⟩ | ⟨h1,h2,h3⟩
   ·simp;exact⟨_,Or.inr rfl,by simp[aP,hC,MR,kS,z4,bQ]⟩
   ·have hr:=En Lw (by omega);rw[h2]at hr;simp[h1];refine awI hr ?_;simp;refine awI (pF _) ?_;by_cases ac:d=0
    ·subst ac;simp;refine n9 s a _ _ (by simp[aA,bQ]) (by simp) ?_;simp[bQ];exact⟨_,Or.inl ⟨rfl,h1,rfl,rfl⟩,by simp[aP,hC,uo,z4,bQ,nK]⟩
    ·simp[ac];exact⟨_,Or.inr rfl,by simp[aP,hC,ac,h1,MR,kS,z4,bQ]⟩
 ·rintro st (⟨rfl,h1,rfl,rfl⟩ | rfl)
  ·have:=Rj (C:=C) hC s T P a 3 la neg up x (some ⟨2,[dm ((0:Nat):Int)],false⟩) (uB neg up t P x 0);have e2:kS none (decide (Lw≠⟨#[]⟩)&&decide ((0:Nat)=0)) 3 la=some (3,la):=by simp[kS,h1]
   rw[e2];exact this
  have:=Wo (C:=C) hC s T P a (kS E (decide (Lw≠⟨#[]⟩)&&decide (d=0)) 3 la) neg up t x d (I9 hE (by omega)) (λh=>hT (AX h)) ae af hP hx hd ht;exact this
def AF(s:ByteArray):Nat->Nat
 | 0=>0
 | k+1=>min (AF s k*10+(kJ s k - 48)) 61
theorem Es(s:ByteArray):∀k,AF s k=min (nv s 0 k) 61
 | 0=>rfl
 | k+1=>by simp only[AF,nv,Es s k,axW];omega
theorem akQ{x y:Option cJ}:∀(i:Nat) (e:cJ),aA [x,y] i=some e->i=0∨i=1
 | 0,_,_=>.inl rfl
 | 1,_,_=>.inr rfl
 | _+2,_,h=>by simp[aA]at h
theorem anT{x y z:Option cJ}:∀(i:Nat) (e:cJ),aA [x,y,z] i=some e->i=0∨i=1∨i=2
 | 0,_,_=>.inl rfl
 | 1,_,_=>.inr (.inl rfl)
 | 2,_,_=>.inr (.inr rfl)
 | _+3,_,h=>by simp[aA]at h
theorem VE{C:Ctx}(hC:C.fx=[])(s T P Lw Pw:ByteArray)(a la pa:Nat)(E:Option (Nat × Nat))(neg up:Bool)(t d:Nat)(hE:∀c p,E=some (c,p)->c=1∨c=2∨c=3)
  (hT:E=none->rd T=((t:Int),0,0)) (ae:T.size<=400) (af:P.size<=400) (hP:∀i,i<P.size->bI P i) (hd:fw 400 d) (ht:fw 400 t)
  (hL:(Lw=⟨#[]⟩∧d=1)∨(Lw≠⟨#[]⟩∧rd Lw=((d:Int),0,0)∧Lw.size<=400)) (hW:∀i,i<Pw.size->bI Pw i) (al:Pw.size<=400) :
  aa ay9 C (bh 7 readBody) ⟨151,[(2,.ptr 0 0 0),(3,.val .nilIface),(4,.ptr 1 0 0),(5,.val (.bool neg)),(6,.val (.string T)),(7,.val (.string P)),(8,.val (.string Lw)),(9,.val (.string Pw)),(10,.val (.bool up)),(11,.val (.int .i64 la)),(12,.val (.int .i64 pa))],MR s a E⟩
   (kg ay9 [.cell 2 50,.tmp 3] (λy=>y=rz (kS (kS E (decide (60<nv Pw 0 Pw.size)) 2 pa) (decide (Lw≠⟨#[]⟩)&&decide (d=0)) 3 la) (uB neg up t P (min (nv Pw 0 Pw.size) 61) d))):=by
 refine aa.cutAt 3 (λst=>st=⟨151,[(2,.ptr 0 0 0),(3,.val .nilIface),(4,.ptr 1 0 0),(5,.val (.bool neg)),(6,.val (.string T)),(7,.val (.string P)),(8,.val (.string Lw)),(10,.val (.bool up)),(11,.val (.int .i64 la)),(13,.val (.int .i64 (min (nv Pw 0 Pw.size) 61:Nat)))],MR s a (kS E (decide (60<nv Pw 0 Pw.size)) 2 pa)⟩) ?_ ?_
 ·simp only[readBody,aBs,ayj,ah,ab,aN,aL];simp;refine aa.loop (ι:=Nat) (λi=>⟨151,[(2,.ptr 0 0 0),(3,.val .nilIface),(4,.ptr 1 0 0),(5,.val (.bool neg)),(6,.val (.string T)),(7,.val (.string P)),(8,.val (.string Lw)),(9,.val (.string Pw)),(10,.val (.bool up)),(11,.val (.int .i64 la)),(12,.val (.int .i64 pa)),(13,.val (.int .i64 (AF Pw i))),(65,.val (.int .i64 Pw.size)),(66,.val (.int .i64 i))],MR s a E⟩)
   (λi=>i<=Pw.size) (λi=>Pw.size - i) 0 ?_ ?_ ?_
  ·exact aBt _
  ·simp[aP,hC,AF]
  ·rintro i hi;have aj:AF Pw i<=61:=by rw[Es];omega
   by_cases aR:i<Pw.size
   ·obtain⟨c,hc⟩:∃c,c=kJ Pw i - 48:=⟨_,rfl⟩;have ag:=(hW i aR).2;have ak:kJ Pw i=48+c:=by have:=ag.1;omega
    have an:c<=9:=by have:=ag.2;omega
    have hb:((eL Pw i).toNat:Int)=48+c:=by unfold kJ at ak;omega
    have hw:(48+(c:Int) - 48) % 256=c:=by omega
    have e:AF Pw (i+1)=min (AF Pw i*10+c) 61:=by simp only[AF];rw[<-hc]
    generalize AF Pw i=X at *;have e':min ((X:Int)*10+c) 61=((AF Pw (i+1):Nat):Int):=by rw[e];omega
    simp(disch:=omega)[aR,hb,SW,aD,hw,e'];exact⟨i+1,by omega,by omega,by simp[aP,hC]⟩
   ·obtain rfl:i=Pw.size:=by omega
    rw[Es]at aj ⊢;obtain⟨m,hm⟩:∃m,m=min (nv Pw 0 Pw.size) 61:=⟨_,rfl⟩;rw[<-hm]at aj ⊢;by_cases am:60<nv Pw 0 Pw.size
    ·have ad:(60:Int)<m:=by omega
     simp[am,ad];cases E with
     | some cp =>
      obtain⟨c,p⟩:=cp;refine z3 s a _ _ (k2:=2) (by simp[aA,bQ,MR]) (by simp) ?_;simp[aP,hC,MR,kS,hm]
     | none =>
      refine n9 s a _ _ (by simp[aA,bQ,MR]) (by simp) ?_;simp[aP,hC,MR,kS,hm,bQ,nK,uo]
    ·have ad:¬(60:Int)<m:=by omega
     have:kS E false 2 pa=E:=by cases E<;>rfl
     simp[am,ad,this];simp[aP,hC,hm]
 ·rintro st rfl;exact WO (C:=C) hC s T P Lw a la (kS E (decide (60<nv Pw 0 Pw.size)) 2 pa) neg up t (min (nv Pw 0 Pw.size) 61) d (I9 hE (by omega)) (λh=>hT (AX h)) ae af hP (by omega) hd ht hL
theorem Xm{C:Ctx}(hC:C.fx=[])(s T P Lw Pw:ByteArray)(a la pa:Nat)(E:Option (Nat × Nat))(neg up:Bool)(t d:Nat)(hE:∀c p,E=some (c,p)->c=1∨c=2∨c=3)
  (hT:E=none->rd T=((t:Int),0,0)) (ae:T.size<=400) (af:P.size<=400) (hP:∀i,i<P.size->bI P i) (hd:fw 400 d) (ht:fw 400 t)
  (hL:(Lw=⟨#[]⟩∧d=1)∨(Lw≠⟨#[]⟩∧rd Lw=((d:Int),0,0)∧Lw.size<=400)) (hW:∀i,i<Pw.size->bI Pw i) (al:Pw.size<=400) :
  aa ay9 C (bh 6 readBody) ⟨151,[(0,.val (.string s)),(2,.ptr 0 0 0),(3,.val .nilIface),(4,.ptr 1 0 0),(5,.val (.bool neg)),(6,.val (.string T)),(7,.val (.string P)),(8,.val (.string Lw)),(9,.val (.string Pw)),(10,.val (.bool up)),(11,.val (.int .i64 la)),(12,.val (.int .i64 pa))],MR s a E⟩
   (kg ay9 [.cell 2 50,.tmp 3] (λy=>y=rz (kS (kS (kS E (decide (a<s.size)) 1 a) (decide (60<nv Pw 0 Pw.size)) 2 pa) (decide (Lw≠⟨#[]⟩)&&decide (d=0)) 3 la) (uB neg up t P (min (nv Pw 0 Pw.size) 61) d))):=by
 refine aa.cutAt 1 (λst=>st=⟨151,[(2,.ptr 0 0 0),(3,.val .nilIface),(4,.ptr 1 0 0),(5,.val (.bool neg)),(6,.val (.string T)),(7,.val (.string P)),(8,.val (.string Lw)),(9,.val (.string Pw)),(10,.val (.bool up)),(11,.val (.int .i64 la)),(12,.val (.int .i64 pa))],MR s a (kS E (decide (a<s.size)) 1 a)⟩) ?_ ?_
 ·simp only[readBody,aBs,ayj,ah,ab,aN,aL];cases E with
  | some cp =>
   obtain⟨c,p⟩:=cp;by_cases aR:a<s.size
   ·simp[MR,bQ,aR,kS];refine aa.awH (.qs [0,1,2,3,4,5]<|.l 6 [0,1,2]<|.nil) ?_;simp[nK,z4];refine z3 s a _ _ (k2:=2) (by simp[aA,bQ]) (by simpa using anT) ?_;simp[aP,hC]
   ·simp[MR,bQ,aR,kS,aP,hC]
  | none =>
   by_cases aR:a<s.size
   ·simp[MR,bQ,aR,kS];refine aa.awH (.qs [0,1,2,3,4,5]<|.l 6 [0,1]<|.nil) ?_;simp[z4];refine n9 s a _ _ (by simp[aA,bQ]) (by simpa using akQ) ?_;simp[aP,hC,bQ,nK,uo]
   ·simp[MR,bQ,aR,kS,aP,hC]
 ·rintro st rfl;exact VE (C:=C) hC s T P Lw Pw a la pa (kS E (decide (a<s.size)) 1 a) neg up t d (I9 hE (by omega)) (λh=>hT (AX h)) ae af hP hd ht hL hW al
end Go.Proofs


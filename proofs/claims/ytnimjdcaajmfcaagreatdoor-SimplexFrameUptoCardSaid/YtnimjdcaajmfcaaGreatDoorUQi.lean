/- A text of the prover's own. -/
import Derived.Test.YtnimjdcaajmfcaaGreatDoorUQh
set_option maxRecDepth 20000
namespace Go.Proofs
open Go.Sv Go Go.Pl
noncomputable def readBody:Code:=Tryz.f110.body.getD .skip
def z4:Option Ent:=some ⟨4,[.agg [.val (.bool false),.val (.slice none 0 0),.val (.bool false),.val (.slice none 0 0)]],false⟩
def flt (c p:Nat):Option Ent:=some ⟨2,[.agg [.val (.int .i64 p),.sen sent (gErr c)]],false⟩
def MR (s:ByteArray) (a:Nat):Option (Nat × Nat)→Tab
 | none=>[z4,rdr s a (.val .nilIface)]
 | some (c,p)=>[z4,rdr s a (.ifc tFault (.ptr 2 0 0)),flt c p]
def outR (E:Option (Nat × Nat)) (v:Rat):SV:=match E with
 | none=>.tup [rsv v,.val .nilIface]
 | some (c,p)=>.tup [rsv 0,.ifc tFault (.rop (.agg [.val (.int .i64 p),.sen sent (gErr c)]) 0)]
def valR (neg up:Bool) (t:Nat) (P:ByteArray) (x d:Nat):Rat :=
 Rat.divInt (if neg=true then -(((t*10^P.size+nv P 0 P.size)*10^(if up=true then x else 0):Nat):Int) else (((t*10^P.size+nv P 0 P.size)*10^(if up=true then x else 0):Nat):Int)) ((d*10^P.size*10^(if up=true then 0 else x):Nat):Int)
theorem fw_ten:fw 1 10:=wid_le (by omega) (by decide)
theorem fit_int10:fit 10:=fit_fw fw_ten (by omega)
set_option exponentiation.threshold 1000 in
theorem fw_p10 {i:Nat} (hi:i≤400):fw 100 ((10^i:Nat):Int):=by
 unfold fw
 rw [Int.natAbs_natCast]
 refine wid_le (by omega) (Nat.lt_of_le_of_lt (Nat.pow_le_pow_right (by omega) hi) (by decide))
theorem fw_dt {d i:Nat} (hd:fw 400 d) (hi:i≤400):fw 500 ((d*10^i:Nat):Int):=by
 rw [Int.natCast_mul];exact fw_mul hd (fw_p10 hi)
theorem fw_nt {P:ByteArray} {t i:Nat} (ht:fw 400 t) (hP:∀i,i<P.size→digAt P i) (hi:i≤400) (hi':i≤P.size):fw 501 ((t*10^i+nv P 0 i:Nat):Int):=by
 have h1:=nv_lt (s:=P) (a:=0) (k:=i) fun j _ hj=>hP j (by omega)
 rw [Int.natCast_add]
 refine fw_add (fw_dt ht hi) (fw_mono (k:=100) ?_ (by omega))
 exact fw_le (y:=((10^i:Nat):Int)) (by simp only [Int.natAbs_natCast];omega) (fw_p10 hi)
theorem read_d {C:Ctx} (hC:C.fx=[]) (s T P:ByteArray) (a:Nat) (E:Option (Nat × Nat)) (neg up:Bool) (t x d:Nat) (hE:∀c p,E=some (c,p)→c=1∨c=2∨c=3)
  (hT:E=none→rd T=((t:Int),0,0)) (hTs:T.size≤400) (hPs:P.size≤400) (hP:∀i,i<P.size→digAt P i) (hx:x≤61) (hd:fw 400 d) (ht:fw 400 t) :
  CodeJ Tryz.prog C (dropC 12 readBody) ⟨151,[(2,.ptr 0 0 0),(3,.val .nilIface),(4,.ptr 1 0 0),(5,.val (.bool neg)),(6,.val (.string T)),(7,.val (.string P)),(10,.val (.bool up)),(13,.val (.int .i64 x)),(15,.ptr (MR s a E).length 0 0)],MR s a E++[some ⟨2,[zsv d],false⟩]⟩
   (retQ Tryz.prog [.cell 2 50,.tmp 3] (fun y=>y=outR E (valR neg up t P x d))):=by
 simp only [readBody,Tryz.f110,Option.getD_some,dropC_succ,dropC_zero]
 refine CodeJ.go ?_
 cases E with
 | some cp =>
  obtain ⟨c,p⟩:=cp
  simp [MR,rdr,flt,z4]
  refine CodeJ.draw (.qs [0,1,2,3]<|.q 4 [0]<|.l 5 [0]<|.qs [6]<|.nil) (by kernel_rfl) (by kernel_rfl) (by simp) ?_
  simp [outR,rsv_zero,Sv.Sub,SubL]
 | none =>
  have hr:=read_ok T (by omega)
  rw [hT rfl] at hr
  simp [MR,rdr,z4]
  refine callS hr (by simp) ?_
  simp [errSV]
  refine CodeJ.loop (ι:=Nat) (fun i=>⟨151,[(2,.ptr 0 0 0),(3,.val .nilIface),(5,.val (.bool neg)),(7,.val (.string P)),(10,.val (.bool up)),(13,.val (.int .i64 x)),(15,.ptr 2 0 0),(16,.ptr 3 0 0),(116,.val (.int .i64 P.size)),(117,.val (.int .i64 i))],
    [z4,rdr s a (.val .nilIface),some ⟨2,[zsv ((d*10^i:Nat):Int)],false⟩,some ⟨2,[zsv ((t*10^i+nv P 0 i:Nat):Int)],false⟩]⟩)
   (fun i=>i≤P.size) (fun i=>P.size - i) 0 ?_ ?_ ?_
  ·exact Nat.zero_le _
  ·simp [leS,hC,z4,rdr,nv]
  ·rintro i hi
   have f1:=fw_dt hd (show i≤400 by omega)
   have f2:=fw_nt ht hP (show i≤400 by omega) hi
   by_cases hlt:i<P.size
   ·obtain ⟨c,hc⟩:∃c,c=byt P i - 48:=⟨_,rfl⟩
    have hdg:=(hP i hlt).2
    have hcb:byt P i=48+c:=by have:=hdg.1;omega
    have hc9:c≤9:=by have:=hdg.2;omega
    have hb:((sget P i).toNat:Int)=48+c:=by unfold byt at hcb;omega
    have e1:(t*10^i+nv P 0 i)*10+c=t*10^(i+1)+nv P 0 (i+1):=by
     rw [Nat.pow_succ];simp only [nv,Nat.zero_add];rw [←hc];grind
    have e2:d*10^i*10=d*10^(i+1):=by rw [Nat.pow_succ,Nat.mul_assoc]
    have m1:=mul_ok ((t*10^i+nv P 0 i:Nat):Int) 10 (fit_fw f2 (by omega)) (fit_int10)
    have a1:=add_ok (((t*10^i+nv P 0 i:Nat):Int)*10) c (fit_fw (fw_mul f2 (fw_ten)) (by omega)) (fit_small (by omega))
    have m2:=mul_ok ((d*10^i:Nat):Int) 10 (fit_fw f1 (by omega)) (fit_int10)
    rw [show ((t*10^i+nv P 0 i:Nat):Int)*10+c=((t*10^(i+1)+nv P 0 (i+1):Nat):Int) by rw [←e1];push_cast;rfl] at a1
    rw [show ((d*10^i:Nat):Int)*10=((d*10^(i+1):Nat):Int) by rw [←e2];push_cast;rfl] at m2
    generalize ((t*10^i+nv P 0 i:Nat):Int)=N at *
    generalize ((d*10^i:Nat):Int)=D at *
    simp (disch:=omega) [hlt,z4,rdr]
    refine CodeJ.draw (.qs [0,3,4,5,6,7]<|.l 1 []<|.l 2 []<|.l 8 []<|.l 9 []<|.l 10 [3]<|.nil) (by kernel_rfl) (by kernel_rfl) (by simp) ?_
    have hw:(48+(c:Int) - 48) % 256=c:=by omega
    simp (disch:=omega) [hlt,hb,u8w,w64,hw]
    refine callS (of_ok 10 (by omega) (by omega)) (by simp) ?_
    simp
    refine callS m1 (by simp) ?_
    simp
    refine callS (of_ok c (by omega) (by omega)) (by simp) ?_
    simp
    refine callS a1 (by simp) ?_
    simp
    refine CodeJ.draw (.qs [0]<|.l 1 []<|.l 2 []<|.l 3 [2]<|.nil) (by kernel_rfl) (by kernel_rfl) (by simp) ?_
    simp
    refine callS (of_ok 10 (by omega) (by omega)) (by simp) ?_
    simp
    refine callS m2 (by simp) ?_
    simp (disch:=omega) [w64]
    exact ⟨i+1,by omega,by omega,by simp [leS,hC,z4,rdr]⟩
   ·obtain rfl:i=P.size:=by omega
    generalize hN:t*10^P.size+nv P 0 P.size=N at *
    generalize hD:d*10^P.size=D at *
    simp [z4,rdr]
    refine CodeJ.loop (ι:=Nat) (fun i=>⟨151,[(2,.ptr 0 0 0),(3,.val .nilIface),(5,.val (.bool neg)),(10,.val (.bool up)),(15,.ptr 2 0 0),(16,.ptr 3 0 0),(134,.val (.int .i64 x)),(135,.val (.int .i64 i))],
      [z4,rdr s a (.val .nilIface),some ⟨2,[zsv ((D*10^(if up=true then 0 else i):Nat):Int)],false⟩,some ⟨2,[zsv ((N*10^(if up=true then i else 0):Nat):Int)],false⟩]⟩)
     (fun i=>i≤x) (fun i=>x - i) 0 ?_ ?_ ?_
    ·exact Nat.zero_le _
    ·simp [leS,hC,z4,rdr]
    ·rintro i hi
     have g1:=fw_mul f1 (fw_p10 (i:=if up=true then 0 else i) (by split<;>omega))
     have g2:=fw_mul f2 (fw_p10 (i:=if up=true then i else 0) (by split<;>omega))
     rw [←Int.natCast_mul] at g1 g2
     by_cases hlt:i<x
     ·have hlt':(i:Int)<x:=by omega
      cases up with
      | true =>
       simp only [if_true,Nat.pow_zero,Nat.mul_one] at g1 g2 ⊢
       have m1:=mul_ok ((N*10^i:Nat):Int) 10 (fit_fw g2 (by omega)) fit_int10
       rw [show ((N*10^i:Nat):Int)*10=((N*10^(i+1):Nat):Int) by rw [Nat.pow_succ,←Nat.mul_assoc];push_cast;rfl] at m1
       generalize ((N*10^i:Nat):Int)=Y at *
       simp [hlt',z4,rdr]
       refine CodeJ.draw (.qs [0]<|.l 1 []<|.l 2 []<|.l 3 [3]<|.nil) (by kernel_rfl) (by kernel_rfl) (by simp) ?_
       simp
       refine callS (of_ok 10 (by omega) (by omega)) (by simp) ?_
       simp
       refine callS m1 (by simp) ?_
       simp (disch:=omega) [w64]
       exact ⟨i+1,by omega,by omega,by simp [leS,hC,z4,rdr]⟩
      | false =>
       simp only [Bool.false_eq_true,if_false,Nat.pow_zero,Nat.mul_one] at g1 g2 ⊢
       have m1:=mul_ok ((D*10^i:Nat):Int) 10 (fit_fw g1 (by omega)) fit_int10
       rw [show ((D*10^i:Nat):Int)*10=((D*10^(i+1):Nat):Int) by rw [Nat.pow_succ,←Nat.mul_assoc];push_cast;rfl] at m1
       generalize ((D*10^i:Nat):Int)=Y at *
       simp [hlt',z4,rdr]
       refine CodeJ.draw (.qs [0]<|.l 1 []<|.l 2 []<|.l 3 [2]<|.nil) (by kernel_rfl) (by kernel_rfl) (by simp) ?_
       simp
       refine callS (of_ok 10 (by omega) (by omega)) (by simp) ?_
       simp
       refine callS m1 (by simp) ?_
       simp (disch:=omega) [w64]
       exact ⟨i+1,by omega,by omega,by simp [leS,hC,z4,rdr]⟩
     ·obtain rfl:i=x:=by omega
      have hv:valR neg up t P i d=Rat.divInt (if neg=true then -((N*10^(if up=true then i else 0):Nat):Int) else ((N*10^(if up=true then i else 0):Nat):Int)) ((D*10^(if up=true then 0 else i):Nat):Int):=by
       unfold valR;rw [hN,hD]
      rw [hv]
      generalize ((N*10^(if up=true then i else 0):Nat):Int)=Y at *
      generalize ((D*10^(if up=true then 0 else i):Nat):Int)=Z at *
      cases neg with
      | false =>
       simp [z4,rdr]
       refine callS (qOver_ok Y Z (fit_fw g2 (by omega)) (fit_fw g1 (by omega))) (by simp) ?_
       simp [outR]
      | true =>
       simp [z4,rdr]
       refine callS (neg_ok Y) (by simp) ?_
       simp
       refine callS (qOver_ok (-Y) Z (fit_neg.2 (fit_fw g2 (by omega))) (fit_fw g1 (by omega))) (by simp) ?_
       simp [outR]
theorem read_d2 {C:Ctx} (hC:C.fx=[]) (s T P:ByteArray) (a c p:Nat) (neg up:Bool) (x:Nat) (D:Option Ent) (v:Rat) :
  CodeJ Tryz.prog C (dropC 12 readBody) ⟨151,[(2,.ptr 0 0 0),(3,.val .nilIface),(4,.ptr 1 0 0),(5,.val (.bool neg)),(6,.val (.string T)),(7,.val (.string P)),(10,.val (.bool up)),(13,.val (.int .i64 x)),(15,.ptr 2 0 0)],[z4,rdr s a (.ifc tFault (.ptr 3 0 0)),D,flt c p]⟩
   (retQ Tryz.prog [.cell 2 50,.tmp 3] (fun y=>y=outR (some (c,p)) v)):=by
 simp only [readBody,Tryz.f110,Option.getD_some,dropC_succ,dropC_zero]
 refine CodeJ.go ?_
 simp [rdr,flt,z4]
 refine CodeJ.draw (.qs [0,1,2,3]<|.q 4 [0]<|.l 5 [0]<|.qs [6]<|.nil) (by kernel_rfl) (by kernel_rfl) (by simp) ?_
 simp [outR,rsv_zero,Sv.Sub,SubL]
def orF (E:Option (Nat × Nat)) (b:Bool) (c p:Nat):Option (Nat × Nat):=match E with
 | none=>if b=true then some (c,p) else none
 | some e=>some e
theorem orF_ok {E:Option (Nat × Nat)} {b:Bool} {c p:Nat} (h:∀c p,E=some (c,p)→c=1∨c=2∨c=3) (hc:c=1∨c=2∨c=3):∀c' p',orF E b c p=some (c',p')→c'=1∨c'=2∨c'=3:=fun c' p' h'=>by
 cases E with
 | none =>
  simp only [orF] at h'
  split at h'
  ·simp only [Option.some.injEq,Prod.mk.injEq] at h';rw [←h'.1];exact hc
  ·cases h'
 | some e=>exact h c' p' h'
theorem orF_none {E:Option (Nat × Nat)} {b:Bool} {c p:Nat} (h:orF E b c p=none):E=none:=by
 cases E with
 | none=>rfl
 | some e=>cases h
def Ic (E:Option (Nat × Nat)) (s T P Lw:ByteArray) (a la:Nat) (neg up:Bool) (x d:Nat) (st:St):Prop :=
 (E=none∧Lw≠⟨#[]⟩∧d=0∧st=⟨151,[(2,.ptr 0 0 0),(3,.val .nilIface),(4,.ptr 1 0 0),(5,.val (.bool neg)),(6,.val (.string T)),(7,.val (.string P)),(10,.val (.bool up)),(13,.val (.int .i64 x)),(15,.ptr 2 0 0)],[z4,rdr s a (.ifc tFault (.ptr 3 0 0)),some ⟨2,[zsv d],false⟩,flt 3 la]⟩)∨st=⟨151,[(2,.ptr 0 0 0),(3,.val .nilIface),(4,.ptr 1 0 0),(5,.val (.bool neg)),(6,.val (.string T)),(7,.val (.string P)),(10,.val (.bool up)),(13,.val (.int .i64 x)),(15,.ptr (MR s a (orF E (decide (Lw≠⟨#[]⟩)&&decide (d=0)) 3 la)).length 0 0)],MR s a (orF E (decide (Lw≠⟨#[]⟩)&&decide (d=0)) 3 la)++[some ⟨2,[zsv d],false⟩]⟩
theorem read_c {C:Ctx} (hC:C.fx=[]) (s T P Lw:ByteArray) (a la:Nat) (E:Option (Nat × Nat)) (neg up:Bool) (t x d:Nat) (hE:∀c p,E=some (c,p)→c=1∨c=2∨c=3)
  (hT:E=none→rd T=((t:Int),0,0)) (hTs:T.size≤400) (hPs:P.size≤400) (hP:∀i,i<P.size→digAt P i) (hx:x≤61) (hd:fw 400 d) (ht:fw 400 t)
  (hL:(Lw=⟨#[]⟩∧d=1)∨(Lw≠⟨#[]⟩∧rd Lw=((d:Int),0,0)∧Lw.size≤400)) :
  CodeJ Tryz.prog C (dropC 10 readBody) ⟨151,[(2,.ptr 0 0 0),(3,.val .nilIface),(4,.ptr 1 0 0),(5,.val (.bool neg)),(6,.val (.string T)),(7,.val (.string P)),(8,.val (.string Lw)),(10,.val (.bool up)),(11,.val (.int .i64 la)),(13,.val (.int .i64 x))],MR s a E⟩
   (retQ Tryz.prog [.cell 2 50,.tmp 3] (fun y=>y=outR (orF E (decide (Lw≠⟨#[]⟩)&&decide (d=0)) 3 la) (valR neg up t P x d))):=by
 refine CodeJ.cutAt 2 (Ic E s T P Lw a la neg up x d) ?_ ?_
 ·simp only [readBody,Tryz.f110,Option.getD_some,dropC_succ,dropC_zero,takeC_succ,takeC_zero]
  cases E with
  | some cp =>
   obtain ⟨c,p⟩:=cp
   simp [MR,rdr,flt,z4,orF]
   refine callS (of_ok 1 (by omega) (by omega)) (by simp) ?_
   rcases hL with ⟨rfl,rfl⟩ | ⟨h1,h2,h3⟩
   ·simp
    exact ⟨_,Or.inr rfl,by simp [leS,hC,MR,orF,z4,rdr,flt]⟩
   ·have hr:=read_ok Lw (by omega)
    rw [h2] at hr
    simp [h1]
    refine callS hr (by simp) ?_
    simp
    refine callS (sign_ok _) (by simp) ?_
    by_cases hd0:d=0
    ·simp [hd0]
     refine fail_err s a _ _ (k2:=2) (by simp [tget,rdr]) (by simp) ?_
     simp
     exact ⟨_,Or.inr rfl,by simp [leS,hC,hd0,h1,MR,orF,z4,rdr,flt]⟩
    ·simp [hd0]
     exact ⟨_,Or.inr rfl,by simp [leS,hC,hd0,h1,MR,orF,z4,rdr,flt]⟩
  | none =>
   simp [MR,rdr,flt,z4,orF]
   refine callS (of_ok 1 (by omega) (by omega)) (by simp) ?_
   rcases hL with ⟨rfl,rfl⟩ | ⟨h1,h2,h3⟩
   ·simp
    exact ⟨_,Or.inr rfl,by simp [leS,hC,MR,orF,z4,rdr,flt]⟩
   ·have hr:=read_ok Lw (by omega)
    rw [h2] at hr
    simp [h1]
    refine callS hr (by simp) ?_
    simp
    refine callS (sign_ok _) (by simp) ?_
    by_cases hd0:d=0
    ·subst hd0
     simp
     refine fail_here s a _ _ (by simp [tget,rdr]) (by simp) ?_
     simp [rdr]
     exact ⟨_,Or.inl ⟨rfl,h1,rfl,rfl⟩,by simp [leS,hC,gErr,z4,rdr,flt]⟩
    ·simp [hd0]
     exact ⟨_,Or.inr rfl,by simp [leS,hC,hd0,h1,MR,orF,z4,rdr,flt]⟩
 ·rintro st (⟨rfl,h1,rfl,rfl⟩ | rfl)
  ·have:=read_d2 (C:=C) hC s T P a 3 la neg up x (some ⟨2,[zsv ((0:Nat):Int)],false⟩) (valR neg up t P x 0)
   have e2:orF none (decide (Lw≠⟨#[]⟩)&&decide ((0:Nat)=0)) 3 la=some (3,la):=by simp [orF,h1]
   rw [e2]
   exact this
  have:=read_d (C:=C) hC s T P a (orF E (decide (Lw≠⟨#[]⟩)&&decide (d=0)) 3 la) neg up t x d (orF_ok hE (by omega)) (fun h=>hT (orF_none h)) hTs hPs hP hx hd ht
  exact this
def capN (s:ByteArray):Nat→Nat
 | 0=>0
 | k+1=>min (capN s k*10+(byt s k - 48)) 61
theorem capN_eq (s:ByteArray):∀k,capN s k=min (nv s 0 k) 61
 | 0=>rfl
 | k+1=>by
  simp only [capN,nv,capN_eq s k,Nat.zero_add]
  omega
theorem tab2 {x y:Option Ent}:∀(i:Nat) (e:Ent),tget [x,y] i=some e→i=0∨i=1
 | 0,_,_=>.inl rfl
 | 1,_,_=>.inr rfl
 | _+2,_,h=>by simp [tget] at h
theorem tab3 {x y z:Option Ent}:∀(i:Nat) (e:Ent),tget [x,y,z] i=some e→i=0∨i=1∨i=2
 | 0,_,_=>.inl rfl
 | 1,_,_=>.inr (.inl rfl)
 | 2,_,_=>.inr (.inr rfl)
 | _+3,_,h=>by simp [tget] at h
theorem read_b {C:Ctx} (hC:C.fx=[]) (s T P Lw Pw:ByteArray) (a la pa:Nat) (E:Option (Nat × Nat)) (neg up:Bool) (t d:Nat) (hE:∀c p,E=some (c,p)→c=1∨c=2∨c=3)
  (hT:E=none→rd T=((t:Int),0,0)) (hTs:T.size≤400) (hPs:P.size≤400) (hP:∀i,i<P.size→digAt P i) (hd:fw 400 d) (ht:fw 400 t)
  (hL:(Lw=⟨#[]⟩∧d=1)∨(Lw≠⟨#[]⟩∧rd Lw=((d:Int),0,0)∧Lw.size≤400)) (hW:∀i,i<Pw.size→digAt Pw i) (hWs:Pw.size≤400) :
  CodeJ Tryz.prog C (dropC 7 readBody) ⟨151,[(2,.ptr 0 0 0),(3,.val .nilIface),(4,.ptr 1 0 0),(5,.val (.bool neg)),(6,.val (.string T)),(7,.val (.string P)),(8,.val (.string Lw)),(9,.val (.string Pw)),(10,.val (.bool up)),(11,.val (.int .i64 la)),(12,.val (.int .i64 pa))],MR s a E⟩
   (retQ Tryz.prog [.cell 2 50,.tmp 3] (fun y=>y=outR (orF (orF E (decide (60<nv Pw 0 Pw.size)) 2 pa) (decide (Lw≠⟨#[]⟩)&&decide (d=0)) 3 la) (valR neg up t P (min (nv Pw 0 Pw.size) 61) d))):=by
 refine CodeJ.cutAt 3 (fun st=>st=⟨151,[(2,.ptr 0 0 0),(3,.val .nilIface),(4,.ptr 1 0 0),(5,.val (.bool neg)),(6,.val (.string T)),(7,.val (.string P)),(8,.val (.string Lw)),(10,.val (.bool up)),(11,.val (.int .i64 la)),(13,.val (.int .i64 (min (nv Pw 0 Pw.size) 61:Nat)))],MR s a (orF E (decide (60<nv Pw 0 Pw.size)) 2 pa)⟩) ?_ ?_
 ·simp only [readBody,Tryz.f110,Option.getD_some,dropC_succ,dropC_zero,takeC_succ,takeC_zero]
  simp
  refine CodeJ.loop (ι:=Nat) (fun i=>⟨151,[(2,.ptr 0 0 0),(3,.val .nilIface),(4,.ptr 1 0 0),(5,.val (.bool neg)),(6,.val (.string T)),(7,.val (.string P)),(8,.val (.string Lw)),(9,.val (.string Pw)),(10,.val (.bool up)),(11,.val (.int .i64 la)),(12,.val (.int .i64 pa)),(13,.val (.int .i64 (capN Pw i))),(65,.val (.int .i64 Pw.size)),(66,.val (.int .i64 i))],MR s a E⟩)
   (fun i=>i≤Pw.size) (fun i=>Pw.size - i) 0 ?_ ?_ ?_
  ·exact Nat.zero_le _
  ·simp [leS,hC,capN]
  ·rintro i hi
   have hcap:capN Pw i≤61:=by rw [capN_eq];omega
   by_cases hlt:i<Pw.size
   ·obtain ⟨c,hc⟩:∃c,c=byt Pw i - 48:=⟨_,rfl⟩
    have hdg:=(hW i hlt).2
    have hcb:byt Pw i=48+c:=by have:=hdg.1;omega
    have hc9:c≤9:=by have:=hdg.2;omega
    have hb:((sget Pw i).toNat:Int)=48+c:=by unfold byt at hcb;omega
    have hw:(48+(c:Int) - 48) % 256=c:=by omega
    have e:capN Pw (i+1)=min (capN Pw i*10+c) 61:=by simp only [capN];rw [←hc]
    generalize capN Pw i=X at *
    have e':min ((X:Int)*10+c) 61=((capN Pw (i+1):Nat):Int):=by rw [e];omega
    simp (disch:=omega) [hlt,hb,u8w,w64,hw,e']
    exact ⟨i+1,by omega,by omega,by simp [leS,hC]⟩
   ·obtain rfl:i=Pw.size:=by omega
    rw [capN_eq] at hcap ⊢
    obtain ⟨m,hm⟩:∃m,m=min (nv Pw 0 Pw.size) 61:=⟨_,rfl⟩
    rw [←hm] at hcap ⊢
    by_cases h60:60<nv Pw 0 Pw.size
    ·have hm60:(60:Int)<m:=by omega
     simp [h60,hm60]
     cases E with
     | some cp =>
      obtain ⟨c,p⟩:=cp
      refine fail_err s a _ _ (k2:=2) (by simp [tget,rdr,MR]) (by simp) ?_
      simp [leS,hC,MR,orF,hm]
     | none =>
      refine fail_here s a _ _ (by simp [tget,rdr,MR]) (by simp) ?_
      simp [leS,hC,MR,orF,hm,rdr,flt,gErr]
    ·have hm60:¬(60:Int)<m:=by omega
     have:orF E false 2 pa=E:=by cases E<;>rfl
     simp [h60,hm60,this]
     simp [leS,hC,hm]
 ·rintro st rfl
  exact read_c (C:=C) hC s T P Lw a la (orF E (decide (60<nv Pw 0 Pw.size)) 2 pa) neg up t (min (nv Pw 0 Pw.size) 61) d (orF_ok hE (by omega)) (fun h=>hT (orF_none h)) hTs hPs hP (by omega) hd ht hL
theorem read_a {C:Ctx} (hC:C.fx=[]) (s T P Lw Pw:ByteArray) (a la pa:Nat) (E:Option (Nat × Nat)) (neg up:Bool) (t d:Nat) (hE:∀c p,E=some (c,p)→c=1∨c=2∨c=3)
  (hT:E=none→rd T=((t:Int),0,0)) (hTs:T.size≤400) (hPs:P.size≤400) (hP:∀i,i<P.size→digAt P i) (hd:fw 400 d) (ht:fw 400 t)
  (hL:(Lw=⟨#[]⟩∧d=1)∨(Lw≠⟨#[]⟩∧rd Lw=((d:Int),0,0)∧Lw.size≤400)) (hW:∀i,i<Pw.size→digAt Pw i) (hWs:Pw.size≤400) :
  CodeJ Tryz.prog C (dropC 6 readBody) ⟨151,[(0,.val (.string s)),(2,.ptr 0 0 0),(3,.val .nilIface),(4,.ptr 1 0 0),(5,.val (.bool neg)),(6,.val (.string T)),(7,.val (.string P)),(8,.val (.string Lw)),(9,.val (.string Pw)),(10,.val (.bool up)),(11,.val (.int .i64 la)),(12,.val (.int .i64 pa))],MR s a E⟩
   (retQ Tryz.prog [.cell 2 50,.tmp 3] (fun y=>y=outR (orF (orF (orF E (decide (a<s.size)) 1 a) (decide (60<nv Pw 0 Pw.size)) 2 pa) (decide (Lw≠⟨#[]⟩)&&decide (d=0)) 3 la) (valR neg up t P (min (nv Pw 0 Pw.size) 61) d))):=by
 refine CodeJ.cutAt 1 (fun st=>st=⟨151,[(2,.ptr 0 0 0),(3,.val .nilIface),(4,.ptr 1 0 0),(5,.val (.bool neg)),(6,.val (.string T)),(7,.val (.string P)),(8,.val (.string Lw)),(9,.val (.string Pw)),(10,.val (.bool up)),(11,.val (.int .i64 la)),(12,.val (.int .i64 pa))],MR s a (orF E (decide (a<s.size)) 1 a)⟩) ?_ ?_
 ·simp only [readBody,Tryz.f110,Option.getD_some,dropC_succ,dropC_zero,takeC_succ,takeC_zero]
  cases E with
  | some cp =>
   obtain ⟨c,p⟩:=cp
   by_cases hlt:a<s.size
   ·simp [MR,rdr,hlt,orF]
    refine CodeJ.draw (.qs [0,1,2,3,4,5]<|.l 6 [0,1,2]<|.nil) (by kernel_rfl) (by kernel_rfl) (by simp) ?_
    simp [flt,z4]
    refine fail_err s a _ _ (k2:=2) (by simp [tget,rdr]) (by simpa using tab3) ?_
    simp [leS,hC]
   ·simp [MR,rdr,hlt,orF,leS,hC]
  | none =>
   by_cases hlt:a<s.size
   ·simp [MR,rdr,hlt,orF]
    refine CodeJ.draw (.qs [0,1,2,3,4,5]<|.l 6 [0,1]<|.nil) (by kernel_rfl) (by kernel_rfl) (by simp) ?_
    simp [z4]
    refine fail_here s a _ _ (by simp [tget,rdr]) (by simpa using tab2) ?_
    simp [leS,hC,rdr,flt,gErr]
   ·simp [MR,rdr,hlt,orF,leS,hC]
 ·rintro st rfl
  exact read_b (C:=C) hC s T P Lw Pw a la pa (orF E (decide (a<s.size)) 1 a) neg up t d (orF_ok hE (by omega)) (fun h=>hT (orF_none h)) hTs hPs hP hd ht hL hW hWs
end Go.Proofs


/- A text of the prover's own. -/
import Derived.Test.YtmghjkkjaolpgaaGreatDoorUIh
open Nat renaming mul_le_mul_left→ann,mul_add→ank,sub_succ_lt_self→aph
set_option maxRecDepth 10000
set_option maxHeartbeats 1000000
namespace Go.Ps
open Go Go.Sv Go.Pl Go.Proofs Go.Tb Go.Ut Go.Li
theorem re{a s x:Bo}{q:Rat}(h:kG a s):kG ⟨a.has&&x.has,a.at'+x.at'*q⟩ (bV s x q):=by
 unfold kG bV;by_cases h1:a.has=true
 ·by_cases h2:x.has=true
  ·simp[←h.1,h1,h2,h.2 h1]
  ·simp[←h.1,h1,h2]
 ·simp[←h.1,h1]
structure RcS(cs:List df)(ts:List Term)(k W:Nat)(lo hi:Bo):Prop where
 sl:kG lo (bK cs ts k).lo
 sh:kG hi (bK cs ts k).hi
 wl:qw (1+W*k) lo.at'
 wh:qw (1+W*k) hi.at'
structure LRc where
 k:Nat
 lo:Bo
 hi:Bo
theorem Lr:SV.agg [.val (.bool true),.val (.bool false),.ro [],.val (.bool false),.ro []]=cL ⟨true,0⟩:=by simp[cL,aY,bf]
end Go.Ps
namespace Go.Ps
open Go Go.Sv Go.Pl Go.Proofs Go.Tb Go.Ut Go.Li
theorem kK{b:Bo}{h:Bool}{q:Rat}:SV.agg (.val (.bool h)::((aY q).cells++List.drop 5 (cL b).cells))=cL ⟨h,q⟩:=rfl
end Go.Ps
namespace Go.Proofs
open Go.Sv Go Go.Tb Go.Pl Go.Ut Go.Li Go.Ps
theorem Gh{n m u:Nat}{w:Wk}{mx:Bool}{s0:Rat}(G:aW n m u w)(h7:n≤7){r:Row}(hn:r.ab.length≤7)(hb:∀k,k<r.ab.length→0≤(gt r.ab k).aq∧(gt r.ab k).aq.toNat<n)(least:Bool) :
  mw Tryz.prog 99 [.ptr 0 0 0,bE r,cU least] (aC mx s0 w) [6] (fun T y=>T=aC mx s0 (jR w (bN least r.ab w.aa r.ab.length))∧y=.bG []):=by
 refine dK Tryz.func99 rfl (by simp) (fun C hC=>?_);have hC:C.fx=[0,1,2,3,4,5]:=hC;refine ae.go ?_;simp only[aC,aQ,aR];simp(disch:=omega)[];repeat refine alR ?_
 refine ae.cq (ι:=Nat) (fun k=>⟨47,[(0,.ptr 0 0 0),(2,cU least),(10,.ro (r.ab.map aT)),(11,iv r.ab.length),(12,iv k)],aC mx s0 (jR w (bN least r.ab w.aa k))⟩)
  (fun k=>k≤r.ab.length) (fun k=>r.ab.length - k) 0 (by omega) ?_ ?_
 ·simp[ar,hC,aC,aQ,aR,jR,bN];done
 rintro k hk;have fl:=ji least r.ab w.aa k;simp only[aC,aQ,aR,jR];by_cases aF:k<r.ab.length
 ·have lt:=eu aF;obtain⟨b1,b2⟩:=hb k aF;have fs:bN least r.ab w.aa (k+1)=(bN least r.ab w.aa k).set (gt r.ab k).aq.toNat (if decide (0<(gt r.ab k).num)=least then⟨(gt (bN least r.ab w.aa k) (gt r.ab k).aq.toNat).name,(gt (bN least r.ab w.aa k) (gt r.ab k).aq.toNat).whole,(gt (bN least r.ab w.aa k) (gt r.ab k).aq.toNat).low,(gt (bN least r.ab w.aa k) (gt r.ab k).aq.toNat).low,(gt (bN least r.ab w.aa k) (gt r.ab k).aq.toNat).cost⟩ else⟨(gt (bN least r.ab w.aa k) (gt r.ab k).aq.toNat).name,(gt (bN least r.ab w.aa k) (gt r.ab k).aq.toNat).whole,(gt (bN least r.ab w.aa k) (gt r.ab k).aq.toNat).high,(gt (bN least r.ab w.aa k) (gt r.ab k).aq.toNat).high,(gt (bN least r.ab w.aa k) (gt r.ab k).aq.toNat).cost⟩):=rfl;generalize gt r.ab k=t at *;obtain⟨j,ej⟩:∃j:Nat,t.aq=j:=⟨t.aq.toNat,by omega⟩;have ej':t.aq.toNat=j:=by omega
  rw[ej']at fs b2;have hj:j<(bN least r.ab w.aa k).length:=by rw[fl,G.S.nc];exact b2
  have lc:=cX hj;generalize bN least r.ab w.aa k=l at *;generalize gt l j=c at *;simp(disch:=omega)[aF,lt];repeat refine alR ?_
  refine ae.alS (.qs [0,1,2,3,4,5,6,7,8,9,10]<|.nil) ?_;simp(disch:=omega)[aF,lt,ej,hj,lc];repeat refine alR ?_
  refine alT (o7 t.num) ?_;simp(disch:=omega)[hj,lc];repeat refine alR ?_
  refine⟨fun q=>?_,fun q=>?_⟩
  ·rw[if_pos q]at fs;exact⟨k+1,by omega,by omega,Le.ct (by simp(disch:=omega)[ar,hC,aP,aC,aQ,aR,jR,fs,sr,kC, -List.map_set])⟩
  ·rw[if_neg q]at fs;exact⟨k+1,by omega,by omega,Le.ct (by simp(disch:=omega)[ar,hC,aP,aC,aQ,aR,jR,fs,vI,kC, -List.map_set])⟩
 ·obtain rfl:k=r.ab.length:=by omega
  simp(disch:=omega)[];repeat refine alR ?_
  exact⟨_,_,⟨rfl,rfl⟩,by simp,by simp[aC,aQ,aR,iS,jR],by simp[aC],.inl (by simp[aC])⟩
theorem Ga{n m u:Nat}{w:Wk}{mx:Bool}{s0:Rat}(G:aW n m u w){r:Row}(hn:r.ab.length≤7)(hb:∀k,k<r.ab.length→0≤(gt r.ab k).aq∧(gt r.ab k).aq.toNat<n)
  {A B:Nat} (hB:1≤B) (hAB:1+(B+A+1)*7≤10000000000) (hc:∀j,j<w.aa.length→qw B (gt w.aa j).low.at'∧qw B (gt w.aa j).high.at') (ht:∀k,k<r.ab.length→qw A (gt r.ab k).num) (hz:∀k,k<r.ab.length→(gt r.ab k).num≠0) :
  mw Tryz.prog 97 [.ptr 0 0 0,bE r] (aC mx s0 w) [6] (fun T y=>T=aC mx s0 w∧∃lo hi,y=.bG [cL lo,cL hi]∧kG lo (bK w.aa r.ab r.ab.length).lo∧kG hi (bK w.aa r.ab r.ab.length).hi):=by
 refine dK Tryz.func97 rfl (by simp) (fun C hC=>?_);have hC:C.fx=[0,1,2,3,4,5]:=hC;refine ae.cutAt 2 (fun st=>st=⟨84,[(0,.ptr 0 0 0),(3,.ptr 7 0 0),(4,.ptr 8 0 0),(5,.ptr 9 0 0)],aC mx s0 w++[some ⟨12,[bE r],false⟩,some ⟨5,[.agg [.val (.bool true),.val (.bool false),.val (.slice none 0 0),.val (.bool false),.val (.slice none 0 0)]],false⟩,some ⟨5,[.agg [.val (.bool true),.val (.bool false),.val (.slice none 0 0),.val (.bool false),.val (.slice none 0 0)]],false⟩]⟩) ?_ ?_
 ·simp only[aG,aE,aC,aQ,aR];simp(disch:=omega)[];repeat refine alR ?_
  simp[ar,hC]
 rintro st rfl;simp only[ax,au];refine ae.le (Ct (fr':=[(0,.ptr 0 0 0),(3,.ptr 7 0 0),(4,.ptr 8 0 0),(5,.ptr 9 0 0)]) (tl':=[some ⟨12,[bE r],false⟩,some ⟨5,[cL ⟨true,0⟩],false⟩,some ⟨5,[cL ⟨true,0⟩],false⟩]) (by simp[EO]) (by
  have e:iR (bE r)=bE r:=rfl;simp[xd,aC,aQ,aR,iS,e,Lr]) rfl) ?_
 refine ae.jk (fun st=>∃lo hi,RcS w.aa r.ab r.ab.length (B+A+1) lo hi∧st=⟨84,[(4,.ptr 8 0 0),(5,.ptr 9 0 0)],aC mx s0 w++[some ⟨12,[bE r],false⟩,some ⟨5,[cL lo],false⟩,some ⟨5,[cL hi],false⟩]⟩) ?_ ?_
 ·refine ae.go ?_;simp only[aC,aQ,aR];simp(disch:=omega)[];repeat refine alR ?_
  refine ae.cq (ι:=LRc) (fun⟨k,lo,hi⟩=>⟨84,[(0,.ptr 0 0 0),(4,.ptr 8 0 0),(5,.ptr 9 0 0),(13,.ro (r.ab.map aT)),(14,iv r.ab.length),(15,iv k)],aC mx s0 w++[some ⟨12,[bE r],false⟩,some ⟨5,[cL lo],false⟩,some ⟨5,[cL hi],false⟩]⟩)
   (fun⟨k,lo,hi⟩=>k≤r.ab.length∧RcS w.aa r.ab k (B+A+1) lo hi) (fun⟨k,lo,hi⟩=>r.ab.length - k) ⟨0,⟨true,0⟩,⟨true,0⟩⟩ ?_ ?_ ?_
  ·exact⟨Nat.zero_le _,⟨⟨rfl,fun _=>rfl⟩,⟨rfl,fun _=>rfl⟩,Ut.bt _ (by omega),Ut.bt _ (by omega)⟩⟩
  ·simp[ar,hC,aC,aQ,aR];done
  rintro⟨k,lo,hi⟩ ⟨hk,hR⟩;simp only[aC,aQ,aR,List.cons_append,List.nil_append];by_cases aF:k<r.ab.length
  ·have lt:=eu aF;obtain⟨b1,b2⟩:=hb k aF;have tz:=hz k aF;have hk7:(B+A+1)*k≤(B+A+1)*7:=ann _ (by omega);have wt:=ht k aF;have rs:bK w.aa r.ab (k+1)=ck (bK w.aa r.ab k) (gt w.aa (gt r.ab k).aq.toNat).low (gt w.aa (gt r.ab k).aq.toNat).high (gt r.ab k).num:=rfl;generalize gt r.ab k=t at *;obtain⟨j,ej⟩:∃j:Nat,t.aq=j:=⟨t.aq.toNat,by omega⟩;have ej':t.aq.toNat=j:=by omega
   rw[ej']at rs b2;have hj:j<w.aa.length:=by rw[G.S.nc];exact b2
   have lc:=cX hj;obtain⟨w1,w2⟩:=hc j hj;generalize gt w.aa j=c at *;simp(disch:=omega)[aF,lt];repeat refine alR ?_
   refine ae.Bf (.d 24<|.d 25<|.qs [0,1,2,3,4,5,6,7,8,9,10,11,12,13,14]<|.q 15 [11]<|.qs [16,17]<|.q 18 [11]<|.qs [19]<|.q 20 [11]<|.qs [21,22]<|.q 23 [11]<|.b (.l 26 [11]<|.l 27 [12]<|.nil)) (by kernel_rfl) (by kernel_rfl) (by simp) ?_;simp(disch:=omega)[aF,lt,ej,hj,lc];repeat refine alR ?_
   refine alT (o7 t.num) ?_;by_cases hs:t.num<0
   ·have hR':RcS w.aa r.ab (k+1) (B+A+1) ⟨lo.has&&c.high.has,lo.at'+c.high.at'*t.num⟩ ⟨hi.has&&c.low.has,hi.at'+c.low.at'*t.num⟩:=by
     have e:ck (bK w.aa r.ab k) c.low c.high t.num=⟨bV (bK w.aa r.ab k).lo c.high t.num,bV (bK w.aa r.ab k).hi c.low t.num⟩:=by unfold ck;rw[if_neg tz,if_pos hs]
     rw[e]at rs;refine⟨by rw[rs];exact re hR.sl,by rw[rs];exact re hR.sh,?_,?_⟩
     ·exact ah (jP hR.wl (bW w2 wt (by omega))) (by rw[ank];omega)
     ·exact ah (jP hR.wh (bW w1 wt (by omega))) (by rw[ank];omega)
    simp(disch:=omega)[hs];repeat refine alR ?_
    by_cases h1:lo.has=true
    ·by_cases h2:hi.has=true
     ·refine ae.draw (.qs [0,1,2,3,4,5,6,7,8,9]<|.q 10 [8]<|.qs [11,12]<|.l 13 [8]<|.qs [14]<|.l 15 [9]<|.nil) (by kernel_rfl) (by kernel_rfl) (by simp) ?_;simp(disch:=omega)[h1,h2];repeat refine alR ?_
      refine ae.alS (.qs [0,1,2,3,4,5,8,9,10,11,12,13]<|.l 6 []<|.l 7 []<|.qs [16]<|.l 14 []<|.l 15 []<|.l 17 [8]<|.qs [18]<|.l 19 [9]<|.nil) ?_;simp;refine alT (dB c.high.at' t.num (ah w2 (by omega)) (ah wt (by omega))) ?_;simp;refine alT (dh lo.at' (c.high.at'*t.num) (ah hR.wl (by omega)) (ah (bW w2 wt (by omega)) (by omega))) ?_;simp;refine alT (dB c.low.at' t.num (ah w1 (by omega)) (ah wt (by omega))) ?_;simp;refine alT (dh hi.at' (c.low.at'*t.num) (ah hR.wh (by omega)) (ah (bW w1 wt (by omega)) (by omega))) ?_;simp;exact⟨⟨k+1,⟨lo.has&&c.high.has,lo.at'+c.high.at'*t.num⟩,⟨hi.has&&c.low.has,hi.at'+c.low.at'*t.num⟩⟩,⟨aF,hR'⟩,aph _ _ aF,Le.ct (by simp(disch:=omega)[ar,hC,aP,h1,h2,kK])⟩
     ·refine ae.draw (.qs [0,1,2,3,4,5,6,7,8,9]<|.q 10 [8]<|.qs [11,12]<|.l 13 [8]<|.qs [14]<|.l 15 [9]<|.nil) (by kernel_rfl) (by kernel_rfl) (by simp) ?_;simp(disch:=omega)[h1,h2];repeat refine alR ?_
      refine ae.alS (.qs [0,1,2,3,4,5,8,9,10,11,12,13]<|.l 6 []<|.l 7 []<|.qs [16]<|.l 14 []<|.l 15 []<|.l 17 [8]<|.qs [18]<|.l 19 [9]<|.nil) ?_;simp;refine alT (dB c.high.at' t.num (ah w2 (by omega)) (ah wt (by omega))) ?_;simp;refine alT (dh lo.at' (c.high.at'*t.num) (ah hR.wl (by omega)) (ah (bW w2 wt (by omega)) (by omega))) ?_;simp;refine alT (dB c.low.at' t.num (ah w1 (by omega)) (ah wt (by omega))) ?_;simp;refine alT (dh hi.at' (c.low.at'*t.num) (ah hR.wh (by omega)) (ah (bW w1 wt (by omega)) (by omega))) ?_;simp;exact⟨⟨k+1,⟨lo.has&&c.high.has,lo.at'+c.high.at'*t.num⟩,⟨hi.has&&c.low.has,hi.at'+c.low.at'*t.num⟩⟩,⟨aF,hR'⟩,aph _ _ aF,Le.ct (by simp(disch:=omega)[ar,hC,aP,h1,h2,kK])⟩
    ·by_cases h2:hi.has=true
     ·refine ae.draw (.qs [0,1,2,3,4,5,6,7,8,9]<|.q 10 [8]<|.qs [11,12]<|.l 13 [8]<|.qs [14]<|.l 15 [9]<|.nil) (by kernel_rfl) (by kernel_rfl) (by simp) ?_;simp(disch:=omega)[h1,h2];repeat refine alR ?_
      refine ae.alS (.qs [0,1,2,3,4,5,8,9,10,11,12,13]<|.l 6 []<|.l 7 []<|.qs [16]<|.l 14 []<|.l 15 []<|.l 17 [8]<|.qs [18]<|.l 19 [9]<|.nil) ?_;simp;refine alT (dB c.high.at' t.num (ah w2 (by omega)) (ah wt (by omega))) ?_;simp;refine alT (dh lo.at' (c.high.at'*t.num) (ah hR.wl (by omega)) (ah (bW w2 wt (by omega)) (by omega))) ?_;simp;refine alT (dB c.low.at' t.num (ah w1 (by omega)) (ah wt (by omega))) ?_;simp;refine alT (dh hi.at' (c.low.at'*t.num) (ah hR.wh (by omega)) (ah (bW w1 wt (by omega)) (by omega))) ?_;simp;exact⟨⟨k+1,⟨lo.has&&c.high.has,lo.at'+c.high.at'*t.num⟩,⟨hi.has&&c.low.has,hi.at'+c.low.at'*t.num⟩⟩,⟨aF,hR'⟩,aph _ _ aF,Le.ct (by simp(disch:=omega)[ar,hC,aP,h1,h2,kK])⟩
     ·refine ae.draw (.qs [0,1,2,3,4,5,6,7,8,9]<|.q 10 [8]<|.qs [11,12]<|.l 13 [8]<|.qs [14]<|.l 15 [9]<|.nil) (by kernel_rfl) (by kernel_rfl) (by simp) ?_;simp(disch:=omega)[h1,h2];repeat refine alR ?_
      refine ae.alS (.qs [0,1,2,3,4,5,8,9,10,11,12,13]<|.l 6 []<|.l 7 []<|.qs [16]<|.l 14 []<|.l 15 []<|.l 17 [8]<|.qs [18]<|.l 19 [9]<|.nil) ?_;simp;refine alT (dB c.high.at' t.num (ah w2 (by omega)) (ah wt (by omega))) ?_;simp;refine alT (dh lo.at' (c.high.at'*t.num) (ah hR.wl (by omega)) (ah (bW w2 wt (by omega)) (by omega))) ?_;simp;refine alT (dB c.low.at' t.num (ah w1 (by omega)) (ah wt (by omega))) ?_;simp;refine alT (dh hi.at' (c.low.at'*t.num) (ah hR.wh (by omega)) (ah (bW w1 wt (by omega)) (by omega))) ?_;simp;exact⟨⟨k+1,⟨lo.has&&c.high.has,lo.at'+c.high.at'*t.num⟩,⟨hi.has&&c.low.has,hi.at'+c.low.at'*t.num⟩⟩,⟨aF,hR'⟩,aph _ _ aF,Le.ct (by simp(disch:=omega)[ar,hC,aP,h1,h2,kK])⟩
   ·have hR':RcS w.aa r.ab (k+1) (B+A+1) ⟨lo.has&&c.low.has,lo.at'+c.low.at'*t.num⟩ ⟨hi.has&&c.high.has,hi.at'+c.high.at'*t.num⟩:=by
     have e:ck (bK w.aa r.ab k) c.low c.high t.num=⟨bV (bK w.aa r.ab k).lo c.low t.num,bV (bK w.aa r.ab k).hi c.high t.num⟩:=by unfold ck;rw[if_neg tz,if_neg hs]
     rw[e]at rs;refine⟨by rw[rs];exact re hR.sl,by rw[rs];exact re hR.sh,?_,?_⟩
     ·exact ah (jP hR.wl (bW w1 wt (by omega))) (by rw[ank];omega)
     ·exact ah (jP hR.wh (bW w2 wt (by omega))) (by rw[ank];omega)
    simp(disch:=omega)[hs];repeat refine alR ?_
    by_cases h1:lo.has=true
    ·by_cases h2:hi.has=true
     ·refine ae.draw (.qs [0,1,2,3,4,5,6,7,8,9]<|.q 10 [8]<|.qs [11,12]<|.l 13 [8]<|.qs [14]<|.l 15 [9]<|.nil) (by kernel_rfl) (by kernel_rfl) (by simp) ?_;simp(disch:=omega)[h1,h2];repeat refine alR ?_
      refine ae.alS (.qs [0,1,2,3,4,5,8,9,10,11,12,13]<|.l 6 []<|.l 7 []<|.qs [16]<|.l 14 []<|.l 15 []<|.l 17 [8]<|.qs [18]<|.l 19 [9]<|.nil) ?_;simp;refine alT (dB c.low.at' t.num (ah w1 (by omega)) (ah wt (by omega))) ?_;simp;refine alT (dh lo.at' (c.low.at'*t.num) (ah hR.wl (by omega)) (ah (bW w1 wt (by omega)) (by omega))) ?_;simp;refine alT (dB c.high.at' t.num (ah w2 (by omega)) (ah wt (by omega))) ?_;simp;refine alT (dh hi.at' (c.high.at'*t.num) (ah hR.wh (by omega)) (ah (bW w2 wt (by omega)) (by omega))) ?_;simp;exact⟨⟨k+1,⟨lo.has&&c.low.has,lo.at'+c.low.at'*t.num⟩,⟨hi.has&&c.high.has,hi.at'+c.high.at'*t.num⟩⟩,⟨aF,hR'⟩,aph _ _ aF,Le.ct (by simp(disch:=omega)[ar,hC,aP,h1,h2,kK])⟩
     ·refine ae.draw (.qs [0,1,2,3,4,5,6,7,8,9]<|.q 10 [8]<|.qs [11,12]<|.l 13 [8]<|.qs [14]<|.l 15 [9]<|.nil) (by kernel_rfl) (by kernel_rfl) (by simp) ?_;simp(disch:=omega)[h1,h2];repeat refine alR ?_
      refine ae.alS (.qs [0,1,2,3,4,5,8,9,10,11,12,13]<|.l 6 []<|.l 7 []<|.qs [16]<|.l 14 []<|.l 15 []<|.l 17 [8]<|.qs [18]<|.l 19 [9]<|.nil) ?_;simp;refine alT (dB c.low.at' t.num (ah w1 (by omega)) (ah wt (by omega))) ?_;simp;refine alT (dh lo.at' (c.low.at'*t.num) (ah hR.wl (by omega)) (ah (bW w1 wt (by omega)) (by omega))) ?_;simp;refine alT (dB c.high.at' t.num (ah w2 (by omega)) (ah wt (by omega))) ?_;simp;refine alT (dh hi.at' (c.high.at'*t.num) (ah hR.wh (by omega)) (ah (bW w2 wt (by omega)) (by omega))) ?_;simp;exact⟨⟨k+1,⟨lo.has&&c.low.has,lo.at'+c.low.at'*t.num⟩,⟨hi.has&&c.high.has,hi.at'+c.high.at'*t.num⟩⟩,⟨aF,hR'⟩,aph _ _ aF,Le.ct (by simp(disch:=omega)[ar,hC,aP,h1,h2,kK])⟩
    ·by_cases h2:hi.has=true
     ·refine ae.draw (.qs [0,1,2,3,4,5,6,7,8,9]<|.q 10 [8]<|.qs [11,12]<|.l 13 [8]<|.qs [14]<|.l 15 [9]<|.nil) (by kernel_rfl) (by kernel_rfl) (by simp) ?_;simp(disch:=omega)[h1,h2];repeat refine alR ?_
      refine ae.alS (.qs [0,1,2,3,4,5,8,9,10,11,12,13]<|.l 6 []<|.l 7 []<|.qs [16]<|.l 14 []<|.l 15 []<|.l 17 [8]<|.qs [18]<|.l 19 [9]<|.nil) ?_;simp;refine alT (dB c.low.at' t.num (ah w1 (by omega)) (ah wt (by omega))) ?_;simp;refine alT (dh lo.at' (c.low.at'*t.num) (ah hR.wl (by omega)) (ah (bW w1 wt (by omega)) (by omega))) ?_;simp;refine alT (dB c.high.at' t.num (ah w2 (by omega)) (ah wt (by omega))) ?_;simp;refine alT (dh hi.at' (c.high.at'*t.num) (ah hR.wh (by omega)) (ah (bW w2 wt (by omega)) (by omega))) ?_;simp;exact⟨⟨k+1,⟨lo.has&&c.low.has,lo.at'+c.low.at'*t.num⟩,⟨hi.has&&c.high.has,hi.at'+c.high.at'*t.num⟩⟩,⟨aF,hR'⟩,aph _ _ aF,Le.ct (by simp(disch:=omega)[ar,hC,aP,h1,h2,kK])⟩
     ·refine ae.draw (.qs [0,1,2,3,4,5,6,7,8,9]<|.q 10 [8]<|.qs [11,12]<|.l 13 [8]<|.qs [14]<|.l 15 [9]<|.nil) (by kernel_rfl) (by kernel_rfl) (by simp) ?_;simp(disch:=omega)[h1,h2];repeat refine alR ?_
      refine ae.alS (.qs [0,1,2,3,4,5,8,9,10,11,12,13]<|.l 6 []<|.l 7 []<|.qs [16]<|.l 14 []<|.l 15 []<|.l 17 [8]<|.qs [18]<|.l 19 [9]<|.nil) ?_;simp;refine alT (dB c.low.at' t.num (ah w1 (by omega)) (ah wt (by omega))) ?_;simp;refine alT (dh lo.at' (c.low.at'*t.num) (ah hR.wl (by omega)) (ah (bW w1 wt (by omega)) (by omega))) ?_;simp;refine alT (dB c.high.at' t.num (ah w2 (by omega)) (ah wt (by omega))) ?_;simp;refine alT (dh hi.at' (c.high.at'*t.num) (ah hR.wh (by omega)) (ah (bW w2 wt (by omega)) (by omega))) ?_;simp;exact⟨⟨k+1,⟨lo.has&&c.low.has,lo.at'+c.low.at'*t.num⟩,⟨hi.has&&c.high.has,hi.at'+c.high.at'*t.num⟩⟩,⟨aF,hR'⟩,aph _ _ aF,Le.ct (by simp(disch:=omega)[ar,hC,aP,h1,h2,kK])⟩
  ·obtain rfl:k=r.ab.length:=by omega
   simp(disch:=omega)[];repeat refine alR ?_
   exact⟨_,⟨lo,hi,hR,rfl⟩,Le.ct (by simp[ar,hC])⟩
 rintro st ⟨lo,hi,hR,rfl⟩;refine ae.go ?_;simp only[aC,aQ,aR];refine ae.alS (.qs [0]<|.q 1 [8]<|.l 2 [8]<|.l 3 [9]<|.nil) ?_;simp;exact⟨_,_,⟨rfl,lo,hi,rfl,hR.sl,hR.sh⟩,by simp,by simp[aC,aQ,aR,iS],by simp[aC],.inr ⟨by simp,by simp[aC,j6,aQ,aR]⟩⟩
end Go.Proofs
set_option maxRecDepth 10000
set_option maxHeartbeats 1000000
namespace Go.Ps
open Go Go.Sv Go.Pl Go.Proofs Go.Tb Go.Ut Go.Li
theorem AZ{a a' b:Bo}(h:kG a a'):aH a' b=aH a b:=by
 unfold aH;rw[←h.1];by_cases e:a.has=true
 ·rw[←h.2 e]
 ·simp[e]
theorem zy{a b b':Bo}(h:kG b b'):aH a b'=aH a b:=by
 unfold aH;rw[←h.1];by_cases e:b.has=true
 ·rw[←h.2 e]
 ·simp[e]
theorem xI{a a' b:Bo}(h:kG a a'):alike a' b=alike a b:=by
 unfold alike;rw[←h.1];by_cases e:a.has=true
 ·rw[←h.2 e]
 ·simp[e]
theorem Kt{a a' b:Bo}(h:kG a a'):Ce a' b=Ce a b:=by
 unfold Ce;rw[←h.1];by_cases e:a.has=true
 ·rw[←h.2 e]
 ·simp[e]
theorem Lh{a a' b:Bo}(h:kG a a'):BX a' b=BX a b:=by
 unfold BX;rw[←h.1];by_cases e:a.has=true
 ·rw[←h.2 e]
 ·simp[e]
@[simp] theorem aap{k:IntKind}{n:Int}:L6 (.val (.int k n))=.val (.int k n):=rfl
end Go.Ps
namespace Go.Proofs
open Go.Sv Go Go.Tb Go.Pl Go.Ut Go.Li Go.Ps
theorem eU(a b:Bo)(ha:dE a.at')(hb:dE b.at'):aI Tryz.prog 98 [cL a,cL b] (.val (.int .i64 (tI a.at' b.at'))):=by
 refine aj Tryz.func98 rfl (by simp) (fun C hC=>?_);simp;refine alT (tJ a.at' b.at' ha hb) ?_;simp
theorem Gg{n m u:Nat}{w:Wk}{mx:Bool}{s0:Rat}(G:aW n m u w)(hu8:8≤u)(hu:u≤2400)(h7:n≤7)(h7':m≤7){i:Nat}(hi:i<m) :
  mw Tryz.prog 65 [.ptr 0 0 0,iv i] (aC mx s0 w) [6] (Mq mx s0 (gC w i)):=by
 have hr:i<w.rows.length:=by rw[G.S.nr];exact hi
 have hr':i<w.gr.length:=by rw[G.S.gr];exact hi
 have l1:=dX hr;obtain⟨gc7,gr7⟩:=fm G;have pA:=pO hu8 (aD w.gc);have pB:=l4 hu8 (aD w.gc) (aD w.gr);have tA:=vg hu (c:=aD w.gc) (by omega);have tB:=na hu (c:=aD w.gc) (r:=aD w.gr) (by omega) (by omega);have wr:=G.W.ro i hr;have tl:(gt w.rows i).ab.length≤7:=by have:=ko (G.S.te i hi);omega
 have gR:=Ga (mx:=mx) (s0:=s0) G (r:=gt w.rows i) tl (fun k hk=>⟨(fE G hi hk).1,(fE G hi hk).2.1⟩) (A:=qA u (aD w.gc)) (B:=qB u (aD w.gc) (aD w.gr)) (by omega) (by omega) (fun j hj=>⟨(G.W.co j hj).1,(G.W.co j hj).2.1⟩) (G.W.te i hr) (fun k hk=>(fE G hi hk).2.2);have gF:=fun b=>Gh (mx:=mx) (s0:=s0) G h7 (r:=gt w.rows i) tl (fun k hk=>⟨(fE G hi hk).1,(fE G hi hk).2.1⟩) b;have es:gC w i=(if aH (bK w.aa (gt w.rows i).ab (gt w.rows i).ab.length).lo (gt w.rows i).high=true∨aH (gt w.rows i).low (bK w.aa (gt w.rows i).ab (gt w.rows i).ab.length).hi=true then(true,fh (eD w true) i) else
  if alike (bK w.aa (gt w.rows i).ab (gt w.rows i).ab.length).lo (gt w.rows i).high=true∨alike (bK w.aa (gt w.rows i).ab (gt w.rows i).ab.length).hi (gt w.rows i).low=true then(true,fh (jR w (bN (alike (bK w.aa (gt w.rows i).ab (gt w.rows i).ab.length).lo (gt w.rows i).high) (gt w.rows i).ab w.aa (gt w.rows i).ab.length)) i) else
  if Ce (bK w.aa (gt w.rows i).ab (gt w.rows i).ab.length).lo (gt w.rows i).low=true∧BX (bK w.aa (gt w.rows i).ab (gt w.rows i).ab.length).hi (gt w.rows i).high=true then(true,fh w i) else(false,w)):=rfl
 have sw:dE (bK w.aa (gt w.rows i).ab (gt w.rows i).ab.length).lo.at'∧dE (bK w.aa (gt w.rows i).ab (gt w.rows i).ab.length).hi.at':=by
  have:=DB (A:=qA u (aD w.gc)) (B:=qB u (aD w.gc) (aD w.gr)) (cs:=w.aa) (ts:=(gt w.rows i).ab) (by omega) (fun j hj=>⟨(G.W.co j hj).1,(G.W.co j hj).2.1⟩) (fun k hk=>⟨G.W.te i hr k hk,by rw[G.S.nc];exact(fE G hi hk).2.1⟩) _ (Nat.le_refl _);have h2:=ann (qB u (aD w.gc) (aD w.gr)+qA u (aD w.gc)+1) tl;exact⟨ah this.1 (by omega),ah this.2 (by omega)⟩
 generalize bK w.aa (gt w.rows i).ab (gt w.rows i).ab.length=s at *;generalize gt w.rows i=r at *;refine dK Tryz.func65 rfl (by simp) (fun C hC=>?_);have hC:C.fx=[0,1,2,3,4,5]:=hC;refine ae.cutAt 4 (fun st=>∃lo hi,kG lo s.lo∧kG hi s.hi∧st=⟨138,[(0,.ptr 0 0 0),(1,iv i),(5,.ptr 7 0 0),(6,.ptr 8 0 0),(7,.ptr 9 0 0),(8,.val (.func (.func 98) #[] #[]))],aC mx s0 w++[some ⟨12,[bE r],false⟩,some ⟨5,[cL lo],false⟩,some ⟨5,[cL hi],false⟩]⟩) ?_ ?_
 ·simp only[aG,aE,aC,aQ,aR];simp(disch:=omega)[hr,l1];repeat refine alR ?_
  refine fy gR [0,1,2,3,4,5,6] (by simp) (by simp[aC,aQ,aR]) (by simp) (by simp[aC,hC]) (by simp) ?_;rintro T y ⟨rfl,lo,hi,rfl,sl,sh⟩;simp only[aC,aQ,aR];simp;exact⟨_,⟨lo,sl,hi,sh,rfl⟩,by simp[ar,hC]⟩
 rintro st ⟨lo,hi,sl,sh,rfl⟩;rw[AZ sl,zy sh,xI sl,xI sh,Kt sl,Lh sh]at es;simp only[ax,au];refine ae.le (Le.fn _) ?_;simp[fnS];have q1:lo.has=true→dE lo.at':=fun h=>by rw[sl.2 h];exact sw.1
 have q2:hi.has=true→dE hi.at':=fun h=>by rw[sh.2 h];exact sw.2
 have q3:dE r.low.at':=ah wr.1 (by omega);have q4:dE r.high.at':=ah wr.2 (by omega);refine ae.jk (fun st=>∃w',gC w i=(true,fh w' i)∧w'.gr=w.gr∧st=⟨138,[(0,.ptr 0 0 0),(1,iv i)],aC mx s0 w'⟩) ?_ ?_
 ·refine ae.zU ?_;refine ae.jk (fun st=>st=⟨138,[(25,cU (aH lo r.high||aH r.low hi)),(0,.ptr 0 0 0),(1,iv i),(5,.ptr 7 0 0),(6,.ptr 8 0 0),(7,.ptr 9 0 0),(8,.gA 98 [] [])],aC mx s0 w++[some ⟨12,[bE r],false⟩,some ⟨5,[cL lo],false⟩,some ⟨5,[cL hi],false⟩]⟩) ?_ ?_
  ·refine ae.jk (fun st=>st=⟨138,[(25,cU (aH lo r.high)),(0,.ptr 0 0 0),(1,iv i),(5,.ptr 7 0 0),(6,.ptr 8 0 0),(7,.ptr 9 0 0),(8,.gA 98 [] [])],aC mx s0 w++[some ⟨12,[bE r],false⟩,some ⟨5,[cL lo],false⟩,some ⟨5,[cL hi],false⟩]⟩) ?_ ?_
   ·refine ae.go ?_;simp only[aC,aQ,aR];by_cases h1:lo.has=true
    ·by_cases h2:r.high.has=true
     ·simp(disch:=omega)[h1,h2];repeat refine alR ?_
      refine alT (eU lo r.high (q1 h1) q4) ?_;simp;exact Le.ct (by simp[ar,hC,aH,h1,h2])
     ·simp(disch:=omega)[h1,h2];repeat refine alR ?_
      exact Le.ct (by simp[ar,hC,aH,h1,h2])
    ·simp(disch:=omega)[h1];repeat refine alR ?_
     exact Le.ct (by simp[ar,hC,aH,h1])
   rintro st rfl;by_cases c1:aH lo r.high=true
   ·refine ae.jz true (by simp[c1]) (fun _=>?_) (fun q=>by cases q);refine ae.go ?_;exact⟨_,rfl,Le.ct (by simp[ar,hC,c1,aC,aQ,aR])⟩
   ·have c1':aH lo r.high=false:=by simpa using c1
    refine ae.jz false (by simp[c1']) (fun q=>by cases q) (fun _=>?_);rw[c1'];refine ae.go ?_;simp only[aC,aQ,aR];by_cases h1:hi.has=true
    ·by_cases h2:r.low.has=true
     ·simp(disch:=omega)[h1,h2];repeat refine alR ?_
      refine alT (eU hi r.low (q2 h1) q3) ?_;simp;exact Le.ct (by simp[ar,hC,aH,h1,h2])
     ·simp(disch:=omega)[h1,h2];repeat refine alR ?_
      exact Le.ct (by simp[ar,hC,aH,h1,h2])
    ·simp(disch:=omega)[h1];repeat refine alR ?_
     exact Le.ct (by simp[ar,hC,aH,h1])
  rintro st rfl;by_cases c1:aH lo r.high=true∨aH r.low hi=true
  ·have c1':(aH lo r.high||aH r.low hi)=true:=by simpa using c1
   rw[if_pos c1]at es;refine ae.jz true (by simp[c1']) (fun _=>?_) (fun q=>by cases q);refine ae.go ?_;simp only[aC,aQ,aR];simp(disch:=omega)[];repeat refine alR ?_
   exact⟨_,⟨eD w true,es,rfl,rfl⟩,Le.ct (by simp[ar,hC,aC,aQ,aR,eD])⟩
  have c1':(aH lo r.high||aH r.low hi)=false:=by simpa using c1
  rw[if_neg c1]at es;refine ae.jz false (by simp[c1']) (fun q=>by cases q) (fun _=>?_);refine ae.jk (fun st=>st=⟨138,[(59,cU (alike lo r.high)),(0,.ptr 0 0 0),(1,iv i),(5,.ptr 7 0 0),(6,.ptr 8 0 0),(7,.ptr 9 0 0),(8,.gA 98 [] [])],aC mx s0 w++[some ⟨12,[bE r],false⟩,some ⟨5,[cL lo],false⟩,some ⟨5,[cL hi],false⟩]⟩) ?_ ?_
  ·refine ae.go ?_;simp only[aC,aQ,aR];by_cases h1:lo.has=true
   ·by_cases h2:r.high.has=true
    ·simp(disch:=omega)[h1,h2];repeat refine alR ?_
     refine alT (eU lo r.high (q1 h1) q4) ?_;simp;exact Le.ct (by simp[ar,hC,alike,h1,h2])
    ·simp(disch:=omega)[h1,h2];repeat refine alR ?_
     exact Le.ct (by simp[ar,hC,alike,h1,h2])
   ·simp(disch:=omega)[h1];repeat refine alR ?_
    exact Le.ct (by simp[ar,hC,alike,h1])
  rintro st rfl;by_cases c2:alike lo r.high=true
  ·rw[if_pos (.inl c2),c2]at es;refine ae.jz true (by simp[c2]) (fun _=>?_) (fun q=>by cases q);refine ae.go ?_;simp only[aC,aQ,aR];simp(disch:=omega)[];repeat refine alR ?_
   refine fy (gF true) [0,1,2,3,4,5,6] (by simp) (by simp[aC,aQ,aR]) (by simp) (by simp[aC,hC]) (by simp) ?_;rintro T y ⟨rfl,rfl⟩;simp;exact⟨_,⟨jR w (bN true r.ab w.aa r.ab.length),es,rfl,rfl⟩,Le.ct (by simp[ar,hC,aC,aQ,aR,jR])⟩
  have c2':alike lo r.high=false:=by simpa using c2
  refine ae.jz false (by simp[c2']) (fun q=>by cases q) (fun _=>?_);refine ae.jk (fun st=>st=⟨138,[(78,cU (alike hi r.low)),(0,.ptr 0 0 0),(1,iv i),(5,.ptr 7 0 0),(6,.ptr 8 0 0),(7,.ptr 9 0 0),(8,.gA 98 [] [])],aC mx s0 w++[some ⟨12,[bE r],false⟩,some ⟨5,[cL lo],false⟩,some ⟨5,[cL hi],false⟩]⟩) ?_ ?_
  ·refine ae.go ?_;simp only[aC,aQ,aR];by_cases h1:hi.has=true
   ·by_cases h2:r.low.has=true
    ·simp(disch:=omega)[h1,h2];repeat refine alR ?_
     refine alT (eU hi r.low (q2 h1) q3) ?_;simp;exact Le.ct (by simp[ar,hC,alike,h1,h2])
    ·simp(disch:=omega)[h1,h2];repeat refine alR ?_
     exact Le.ct (by simp[ar,hC,alike,h1,h2])
   ·simp(disch:=omega)[h1];repeat refine alR ?_
    exact Le.ct (by simp[ar,hC,alike,h1])
  rintro st rfl;by_cases c3:alike hi r.low=true
  ·rw[if_pos (.inr c3),c2']at es;refine ae.jz true (by simp[c3]) (fun _=>?_) (fun q=>by cases q);refine ae.go ?_;simp only[aC,aQ,aR];simp(disch:=omega)[];repeat refine alR ?_
   refine fy (gF false) [0,1,2,3,4,5,6] (by simp) (by simp[aC,aQ,aR]) (by simp) (by simp[aC,hC]) (by simp) ?_;rintro T y ⟨rfl,rfl⟩;simp;exact⟨_,⟨jR w (bN false r.ab w.aa r.ab.length),es,rfl,rfl⟩,Le.ct (by simp[ar,hC,aC,aQ,aR,jR])⟩
  have c3':alike hi r.low=false:=by simpa using c3
  rw[if_neg (fun q=>q.elim c2 c3)]at es;refine ae.jz false (by simp[c3']) (fun q=>by cases q) (fun _=>?_);refine ae.jk (fun st=>st=⟨138,[(97,cU (Ce lo r.low&&BX hi r.high)),(0,.ptr 0 0 0),(1,iv i),(5,.ptr 7 0 0),(6,.ptr 8 0 0),(7,.ptr 9 0 0),(8,.gA 98 [] [])],aC mx s0 w++[some ⟨12,[bE r],false⟩,some ⟨5,[cL lo],false⟩,some ⟨5,[cL hi],false⟩]⟩) ?_ ?_
  ·refine ae.go ?_;simp only[aC,aQ,aR];by_cases b1:r.low.has=true
   ·by_cases b2:lo.has=true
    ·by_cases b3:r.low.at'≤lo.at'
     ·by_cases d1:r.high.has=true
      ·by_cases d2:hi.has=true
       ·simp(disch:=omega)[b1,b2,b3,d1,d2];repeat refine alR ?_
        refine alT (eU lo r.low (q1 b2) q3) ?_;simp(disch:=omega)[b3,d1,d2];repeat refine alR ?_
        refine alT (eU hi r.high (q2 d2) q4) ?_;simp;exact Le.ct (by simp[ar,hC,Ce,BX,d1,d2,b1,b2,b3])
       ·simp(disch:=omega)[b1,b2,b3,d1,d2];repeat refine alR ?_
        refine alT (eU lo r.low (q1 b2) q3) ?_;simp(disch:=omega)[b3,d1,d2];repeat refine alR ?_
        exact Le.ct (by simp[ar,hC,Ce,BX,d1,d2,b1,b2,b3])
      ·simp(disch:=omega)[b1,b2,b3,d1];repeat refine alR ?_
       refine alT (eU lo r.low (q1 b2) q3) ?_;simp(disch:=omega)[b3,d1];repeat refine alR ?_
       exact Le.ct (by simp[ar,hC,Ce,BX,d1,b1,b2,b3])
     ·simp(disch:=omega)[b1,b2,b3];repeat refine alR ?_
      refine alT (eU lo r.low (q1 b2) q3) ?_;simp(disch:=omega)[b3];repeat refine alR ?_
      exact Le.ct (by simp[ar,hC,Ce,BX,b1,b2,b3])
    ·simp(disch:=omega)[b1,b2];repeat refine alR ?_
     exact Le.ct (by simp[ar,hC,Ce,BX,b1,b2])
   ·by_cases d1:r.high.has=true
    ·by_cases d2:hi.has=true
     ·simp(disch:=omega)[b1,d1,d2];repeat refine alR ?_
      refine alT (eU hi r.high (q2 d2) q4) ?_;simp;exact Le.ct (by simp[ar,hC,Ce,BX,d1,d2,b1])
     ·simp(disch:=omega)[b1,d1,d2];repeat refine alR ?_
      exact Le.ct (by simp[ar,hC,Ce,BX,d1,d2,b1])
    ·simp(disch:=omega)[b1,d1];repeat refine alR ?_
     exact Le.ct (by simp[ar,hC,Ce,BX,d1,b1])
  rintro st rfl;by_cases c4:Ce lo r.low=true∧BX hi r.high=true
  ·rw[if_pos c4]at es;refine ae.jz true (by simp[c4]) (fun _=>?_) (fun q=>by cases q);refine ae.go ?_;exact⟨_,⟨w,es,rfl,rfl⟩,Le.ct (by simp[ar,hC,aC,aQ,aR])⟩
  ·rw[if_neg c4]at es;refine ae.jz false (by simp;simpa using c4) (fun q=>by cases q) (fun _=>?_);rw[es];refine ae.go ?_;simp only[aC,aQ,aR];simp(disch:=omega)[];repeat refine alR ?_
   exact⟨_,_,⟨rfl,rfl⟩,by simp,by simp[aC,aQ,aR,iS],by simp[aC],.inr ⟨by simp,by simp[aC,j6,aQ,aR]⟩⟩
 rintro st ⟨w',e1,e2,rfl⟩;rw[e1];have hr':i<w'.gr.length:=by rw[e2];exact hr'
 have l2:=dO hr';refine ae.go ?_;simp only[aC,aQ,aR];simp(disch:=omega)[hr',l2,mB];repeat refine alR ?_
 exact⟨_,_,⟨rfl,rfl⟩,by simp,by simp[aC,aQ,aR,iS,fh],by simp[aC],.inl (by simp[aC])⟩
end Go.Proofs


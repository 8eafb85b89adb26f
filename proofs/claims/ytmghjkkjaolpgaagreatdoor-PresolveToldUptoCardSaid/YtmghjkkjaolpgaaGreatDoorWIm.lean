/- A text of the prover's own. -/
import Derived.Test.YtmghjkkjaolpgaaGreatDoorWIh
open Nat renaming mul_le_mul_left→amf,mul_add→amc,sub_succ_lt_self→an2
set_option maxRecDepth 10000
set_option maxHeartbeats 1000000
namespace Go.Ps
open Go Go.Sv Go.Pl Go.Proofs Go.Tb Go.Ut Go.Li
theorem re{a s x:Bo}{q:Rat}(h:kU a s):kU ⟨a.has&&x.has,a.at'+x.at'*q⟩ (cD s x q):=by
 unfold kU cD;by_cases h1:a.has=true
 ·by_cases h2:x.has=true
  ·simp[←h.1,h1,h2,h.2 h1]
  ·simp[←h.1,h1,h2]
 ·simp[←h.1,h1]
structure ZK(cs:List dL)(ts:List Term)(k W:Nat)(lo hi:Bo):Prop where
 sl:kU lo (bS cs ts k).lo
 sh:kU hi (bS cs ts k).hi
 wl:qw (1+W*k) lo.at'
 wh:qw (1+W*k) hi.at'
structure LRc where
 k:Nat
 lo:Bo
 hi:Bo
theorem Jr:SV.agg [.val (.bool true),.val (.bool false),.ro [],.val (.bool false),.ro []]=cL ⟨true,0⟩:=by simp[cL,bs,aZ]
end Go.Ps
namespace Go.Ps
open Go Go.Sv Go.Pl Go.Proofs Go.Tb Go.Ut Go.Li
theorem lk{b:Bo}{h:Bool}{q:Rat}:SV.agg (.val (.bool h)::((bs q).cells++List.drop 5 (cL b).cells))=cL ⟨h,q⟩:=rfl
end Go.Ps
namespace Go.Proofs
open Go.Sv Go Go.Tb Go.Pl Go.Ut Go.Li Go.Ps
theorem EO{n m u:Nat}{w:Wk}{mx:Bool}{s0:Rat}(G:bh n m u w)(h7:n≤7){r:Row}(hn:r.ab.length≤7)(hb:∀k,k<r.ab.length→0≤(gt r.ab k).aI∧(gt r.ab k).aI.toNat<n)(least:Bool) :
  ji Tryz.prog 99 [.ptr 0 0 0,bE r,bZ least] (aG mx s0 w) [6] (fun T y=>T=aG mx s0 (ey w (aT least r.ab w.ae r.ab.length))∧y=.bO []):=by
 refine bP Tryz.func99 rfl (by simp) (fun C hC=>?_);have hC:C.fx=[0,1,2,3,4,5]:=hC;refine aa.go ?_;simp only[aG,aS,aR];simp(disch:=omega)[];repeat refine akI ?_
 refine aa.bG (ι:=Nat) (fun k=>⟨47,[(0,.ptr 0 0 0),(2,bZ least),(10,.ro (r.ab.map aW)),(11,iv r.ab.length),(12,iv k)],aG mx s0 (ey w (aT least r.ab w.ae k))⟩)
  (fun k=>k≤r.ab.length) (fun k=>r.ab.length - k) 0 (by omega) ?_ ?_
 ·simp[aw,hC,aG,aS,aR,ey,aT];done
 rintro k hk;have fl:=jr least r.ab w.ae k;simp only[aG,aS,aR,ey];by_cases az:k<r.ab.length
 ·have lt:=dZ az;obtain⟨b1,b2⟩:=hb k az;have fs:aT least r.ab w.ae (k+1)=(aT least r.ab w.ae k).set (gt r.ab k).aI.toNat (if decide (0<(gt r.ab k).num)=least then⟨(gt (aT least r.ab w.ae k) (gt r.ab k).aI.toNat).name,(gt (aT least r.ab w.ae k) (gt r.ab k).aI.toNat).whole,(gt (aT least r.ab w.ae k) (gt r.ab k).aI.toNat).low,(gt (aT least r.ab w.ae k) (gt r.ab k).aI.toNat).low,(gt (aT least r.ab w.ae k) (gt r.ab k).aI.toNat).cost⟩ else⟨(gt (aT least r.ab w.ae k) (gt r.ab k).aI.toNat).name,(gt (aT least r.ab w.ae k) (gt r.ab k).aI.toNat).whole,(gt (aT least r.ab w.ae k) (gt r.ab k).aI.toNat).high,(gt (aT least r.ab w.ae k) (gt r.ab k).aI.toNat).high,(gt (aT least r.ab w.ae k) (gt r.ab k).aI.toNat).cost⟩):=rfl;generalize gt r.ab k=t at *;obtain⟨j,ej⟩:∃j:Nat,t.aI=j:=⟨t.aI.toNat,by omega⟩;have ej':t.aI.toNat=j:=by omega
  rw[ej']at fs b2;have hj:j<(aT least r.ab w.ae k).length:=by rw[fl,G.S.nc];exact b2
  have lc:=cZ hj;generalize aT least r.ab w.ae k=l at *;generalize gt l j=c at *;simp(disch:=omega)[az,lt];repeat refine akI ?_
  refine aa.akJ (.qs [0,1,2,3,4,5,6,7,8,9,10]<|.nil) ?_;simp(disch:=omega)[az,lt,ej,hj,lc];repeat refine akI ?_
  refine akK (pd t.num) ?_;simp(disch:=omega)[hj,lc];repeat refine akI ?_
  refine⟨fun q=>?_,fun q=>?_⟩
  ·rw[if_pos q]at fs;exact⟨k+1,by omega,by omega,Le.bA (by simp(disch:=omega)[aw,hC,aN,aG,aS,aR,ey,fs,sc,kr, -List.map_set])⟩
  ·rw[if_neg q]at fs;exact⟨k+1,by omega,by omega,Le.bA (by simp(disch:=omega)[aw,hC,aN,aG,aS,aR,ey,fs,vp,kr, -List.map_set])⟩
 ·obtain rfl:k=r.ab.length:=by omega
  simp(disch:=omega)[];repeat refine akI ?_
  exact⟨_,_,⟨rfl,rfl⟩,by simp,by simp[aG,aS,aR,dX,ey],by simp[aG],.inl (by simp[aG])⟩
theorem ES{n m u:Nat}{w:Wk}{mx:Bool}{s0:Rat}(G:bh n m u w){r:Row}(hn:r.ab.length≤7)(hb:∀k,k<r.ab.length→0≤(gt r.ab k).aI∧(gt r.ab k).aI.toNat<n)
  {A B:Nat} (hB:1≤B) (hAB:1+(B+A+1)*7≤10000000000) (hc:∀j,j<w.ae.length→qw B (gt w.ae j).low.at'∧qw B (gt w.ae j).high.at') (ht:∀k,k<r.ab.length→qw A (gt r.ab k).num) (hz:∀k,k<r.ab.length→(gt r.ab k).num≠0) :
  ji Tryz.prog 97 [.ptr 0 0 0,bE r] (aG mx s0 w) [6] (fun T y=>T=aG mx s0 w∧∃lo hi,y=.bO [cL lo,cL hi]∧kU lo (bS w.ae r.ab r.ab.length).lo∧kU hi (bS w.ae r.ab r.ab.length).hi):=by
 refine bP Tryz.func97 rfl (by simp) (fun C hC=>?_);have hC:C.fx=[0,1,2,3,4,5]:=hC;refine aa.cutAt 2 (fun st=>st=⟨84,[(0,.ptr 0 0 0),(3,.ptr 7 0 0),(4,.ptr 8 0 0),(5,.ptr 9 0 0)],aG mx s0 w++[some ⟨12,[bE r],false⟩,some ⟨5,[.agg [.val (.bool true),.val (.bool false),.val (.slice none 0 0),.val (.bool false),.val (.slice none 0 0)]],false⟩,some ⟨5,[.agg [.val (.bool true),.val (.bool false),.val (.slice none 0 0),.val (.bool false),.val (.slice none 0 0)]],false⟩]⟩) ?_ ?_
 ·simp only[ar,aq,aG,aS,aR];simp(disch:=omega)[];repeat refine akI ?_
  simp[aw,hC]
 rintro st rfl;simp only[ao,al];refine aa.le (BU (fr':=[(0,.ptr 0 0 0),(3,.ptr 7 0 0),(4,.ptr 8 0 0),(5,.ptr 9 0 0)]) (tl':=[some ⟨12,[bE r],false⟩,some ⟨5,[cL ⟨true,0⟩],false⟩,some ⟨5,[cL ⟨true,0⟩],false⟩]) (by simp[E7]) (by
  have e:jj (bE r)=bE r:=rfl;simp[wW,aG,aS,aR,dX,e,Jr]) rfl) ?_
 refine aa.gp (fun st=>∃lo hi,ZK w.ae r.ab r.ab.length (B+A+1) lo hi∧st=⟨84,[(4,.ptr 8 0 0),(5,.ptr 9 0 0)],aG mx s0 w++[some ⟨12,[bE r],false⟩,some ⟨5,[cL lo],false⟩,some ⟨5,[cL hi],false⟩]⟩) ?_ ?_
 ·refine aa.go ?_;simp only[aG,aS,aR];simp(disch:=omega)[];repeat refine akI ?_
  refine aa.bG (ι:=LRc) (fun⟨k,lo,hi⟩=>⟨84,[(0,.ptr 0 0 0),(4,.ptr 8 0 0),(5,.ptr 9 0 0),(13,.ro (r.ab.map aW)),(14,iv r.ab.length),(15,iv k)],aG mx s0 w++[some ⟨12,[bE r],false⟩,some ⟨5,[cL lo],false⟩,some ⟨5,[cL hi],false⟩]⟩)
   (fun⟨k,lo,hi⟩=>k≤r.ab.length∧ZK w.ae r.ab k (B+A+1) lo hi) (fun⟨k,lo,hi⟩=>r.ab.length - k) ⟨0,⟨true,0⟩,⟨true,0⟩⟩ ?_ ?_ ?_
  ·exact⟨Nat.zero_le _,⟨⟨rfl,fun _=>rfl⟩,⟨rfl,fun _=>rfl⟩,Ut.cP _ (by omega),Ut.cP _ (by omega)⟩⟩
  ·simp[aw,hC,aG,aS,aR];done
  rintro⟨k,lo,hi⟩ ⟨hk,hR⟩;simp only[aG,aS,aR,List.cons_append,List.nil_append];by_cases az:k<r.ab.length
  ·have lt:=dZ az;obtain⟨b1,b2⟩:=hb k az;have tz:=hz k az;have hk7:(B+A+1)*k≤(B+A+1)*7:=amf _ (by omega);have wt:=ht k az;have rs:bS w.ae r.ab (k+1)=dA (bS w.ae r.ab k) (gt w.ae (gt r.ab k).aI.toNat).low (gt w.ae (gt r.ab k).aI.toNat).high (gt r.ab k).num:=rfl;generalize gt r.ab k=t at *;obtain⟨j,ej⟩:∃j:Nat,t.aI=j:=⟨t.aI.toNat,by omega⟩;have ej':t.aI.toNat=j:=by omega
   rw[ej']at rs b2;have hj:j<w.ae.length:=by rw[G.S.nc];exact b2
   have lc:=cZ hj;obtain⟨w1,w2⟩:=hc j hj;generalize gt w.ae j=c at *;simp(disch:=omega)[az,lt];repeat refine akI ?_
   refine aa.zX (.d 24<|.d 25<|.qs [0,1,2,3,4,5,6,7,8,9,10,11,12,13,14]<|.q 15 [11]<|.qs [16,17]<|.q 18 [11]<|.qs [19]<|.q 20 [11]<|.qs [21,22]<|.q 23 [11]<|.b (.l 26 [11]<|.l 27 [12]<|.nil)) (by kernel_rfl) (by kernel_rfl) (by simp) ?_;simp(disch:=omega)[az,lt,ej,hj,lc];repeat refine akI ?_
   refine akK (pd t.num) ?_;by_cases hs:t.num<0
   ·have hR':ZK w.ae r.ab (k+1) (B+A+1) ⟨lo.has&&c.high.has,lo.at'+c.high.at'*t.num⟩ ⟨hi.has&&c.low.has,hi.at'+c.low.at'*t.num⟩:=by
     have e:dA (bS w.ae r.ab k) c.low c.high t.num=⟨cD (bS w.ae r.ab k).lo c.high t.num,cD (bS w.ae r.ab k).hi c.low t.num⟩:=by unfold dA;rw[if_neg tz,if_pos hs]
     rw[e]at rs;refine⟨by rw[rs];exact re hR.sl,by rw[rs];exact re hR.sh,?_,?_⟩
     ·exact ah (mO hR.wl (bM w2 wt (by omega))) (by rw[amc];omega)
     ·exact ah (mO hR.wh (bM w1 wt (by omega))) (by rw[amc];omega)
    simp(disch:=omega)[hs];repeat refine akI ?_
    by_cases h1:lo.has=true
    ·by_cases h2:hi.has=true
     ·refine aa.draw (.qs [0,1,2,3,4,5,6,7,8,9]<|.q 10 [8]<|.qs [11,12]<|.l 13 [8]<|.qs [14]<|.l 15 [9]<|.nil) (by kernel_rfl) (by kernel_rfl) (by simp) ?_;simp(disch:=omega)[h1,h2];repeat refine akI ?_
      refine aa.akJ (.qs [0,1,2,3,4,5,8,9,10,11,12,13]<|.l 6 []<|.l 7 []<|.qs [16]<|.l 14 []<|.l 15 []<|.l 17 [8]<|.qs [18]<|.l 19 [9]<|.nil) ?_;simp;refine akK (dJ c.high.at' t.num (ah w2 (by omega)) (ah wt (by omega))) ?_;simp;refine akK (dK lo.at' (c.high.at'*t.num) (ah hR.wl (by omega)) (ah (bM w2 wt (by omega)) (by omega))) ?_;simp;refine akK (dJ c.low.at' t.num (ah w1 (by omega)) (ah wt (by omega))) ?_;simp;refine akK (dK hi.at' (c.low.at'*t.num) (ah hR.wh (by omega)) (ah (bM w1 wt (by omega)) (by omega))) ?_;simp;exact⟨⟨k+1,⟨lo.has&&c.high.has,lo.at'+c.high.at'*t.num⟩,⟨hi.has&&c.low.has,hi.at'+c.low.at'*t.num⟩⟩,⟨az,hR'⟩,an2 _ _ az,Le.bA (by simp(disch:=omega)[aw,hC,aN,h1,h2,lk])⟩
     ·refine aa.draw (.qs [0,1,2,3,4,5,6,7,8,9]<|.q 10 [8]<|.qs [11,12]<|.l 13 [8]<|.qs [14]<|.l 15 [9]<|.nil) (by kernel_rfl) (by kernel_rfl) (by simp) ?_;simp(disch:=omega)[h1,h2];repeat refine akI ?_
      refine aa.akJ (.qs [0,1,2,3,4,5,8,9,10,11,12,13]<|.l 6 []<|.l 7 []<|.qs [16]<|.l 14 []<|.l 15 []<|.l 17 [8]<|.qs [18]<|.l 19 [9]<|.nil) ?_;simp;refine akK (dJ c.high.at' t.num (ah w2 (by omega)) (ah wt (by omega))) ?_;simp;refine akK (dK lo.at' (c.high.at'*t.num) (ah hR.wl (by omega)) (ah (bM w2 wt (by omega)) (by omega))) ?_;simp;refine akK (dJ c.low.at' t.num (ah w1 (by omega)) (ah wt (by omega))) ?_;simp;refine akK (dK hi.at' (c.low.at'*t.num) (ah hR.wh (by omega)) (ah (bM w1 wt (by omega)) (by omega))) ?_;simp;exact⟨⟨k+1,⟨lo.has&&c.high.has,lo.at'+c.high.at'*t.num⟩,⟨hi.has&&c.low.has,hi.at'+c.low.at'*t.num⟩⟩,⟨az,hR'⟩,an2 _ _ az,Le.bA (by simp(disch:=omega)[aw,hC,aN,h1,h2,lk])⟩
    ·by_cases h2:hi.has=true
     ·refine aa.draw (.qs [0,1,2,3,4,5,6,7,8,9]<|.q 10 [8]<|.qs [11,12]<|.l 13 [8]<|.qs [14]<|.l 15 [9]<|.nil) (by kernel_rfl) (by kernel_rfl) (by simp) ?_;simp(disch:=omega)[h1,h2];repeat refine akI ?_
      refine aa.akJ (.qs [0,1,2,3,4,5,8,9,10,11,12,13]<|.l 6 []<|.l 7 []<|.qs [16]<|.l 14 []<|.l 15 []<|.l 17 [8]<|.qs [18]<|.l 19 [9]<|.nil) ?_;simp;refine akK (dJ c.high.at' t.num (ah w2 (by omega)) (ah wt (by omega))) ?_;simp;refine akK (dK lo.at' (c.high.at'*t.num) (ah hR.wl (by omega)) (ah (bM w2 wt (by omega)) (by omega))) ?_;simp;refine akK (dJ c.low.at' t.num (ah w1 (by omega)) (ah wt (by omega))) ?_;simp;refine akK (dK hi.at' (c.low.at'*t.num) (ah hR.wh (by omega)) (ah (bM w1 wt (by omega)) (by omega))) ?_;simp;exact⟨⟨k+1,⟨lo.has&&c.high.has,lo.at'+c.high.at'*t.num⟩,⟨hi.has&&c.low.has,hi.at'+c.low.at'*t.num⟩⟩,⟨az,hR'⟩,an2 _ _ az,Le.bA (by simp(disch:=omega)[aw,hC,aN,h1,h2,lk])⟩
     ·refine aa.draw (.qs [0,1,2,3,4,5,6,7,8,9]<|.q 10 [8]<|.qs [11,12]<|.l 13 [8]<|.qs [14]<|.l 15 [9]<|.nil) (by kernel_rfl) (by kernel_rfl) (by simp) ?_;simp(disch:=omega)[h1,h2];repeat refine akI ?_
      refine aa.akJ (.qs [0,1,2,3,4,5,8,9,10,11,12,13]<|.l 6 []<|.l 7 []<|.qs [16]<|.l 14 []<|.l 15 []<|.l 17 [8]<|.qs [18]<|.l 19 [9]<|.nil) ?_;simp;refine akK (dJ c.high.at' t.num (ah w2 (by omega)) (ah wt (by omega))) ?_;simp;refine akK (dK lo.at' (c.high.at'*t.num) (ah hR.wl (by omega)) (ah (bM w2 wt (by omega)) (by omega))) ?_;simp;refine akK (dJ c.low.at' t.num (ah w1 (by omega)) (ah wt (by omega))) ?_;simp;refine akK (dK hi.at' (c.low.at'*t.num) (ah hR.wh (by omega)) (ah (bM w1 wt (by omega)) (by omega))) ?_;simp;exact⟨⟨k+1,⟨lo.has&&c.high.has,lo.at'+c.high.at'*t.num⟩,⟨hi.has&&c.low.has,hi.at'+c.low.at'*t.num⟩⟩,⟨az,hR'⟩,an2 _ _ az,Le.bA (by simp(disch:=omega)[aw,hC,aN,h1,h2,lk])⟩
   ·have hR':ZK w.ae r.ab (k+1) (B+A+1) ⟨lo.has&&c.low.has,lo.at'+c.low.at'*t.num⟩ ⟨hi.has&&c.high.has,hi.at'+c.high.at'*t.num⟩:=by
     have e:dA (bS w.ae r.ab k) c.low c.high t.num=⟨cD (bS w.ae r.ab k).lo c.low t.num,cD (bS w.ae r.ab k).hi c.high t.num⟩:=by unfold dA;rw[if_neg tz,if_neg hs]
     rw[e]at rs;refine⟨by rw[rs];exact re hR.sl,by rw[rs];exact re hR.sh,?_,?_⟩
     ·exact ah (mO hR.wl (bM w1 wt (by omega))) (by rw[amc];omega)
     ·exact ah (mO hR.wh (bM w2 wt (by omega))) (by rw[amc];omega)
    simp(disch:=omega)[hs];repeat refine akI ?_
    by_cases h1:lo.has=true
    ·by_cases h2:hi.has=true
     ·refine aa.draw (.qs [0,1,2,3,4,5,6,7,8,9]<|.q 10 [8]<|.qs [11,12]<|.l 13 [8]<|.qs [14]<|.l 15 [9]<|.nil) (by kernel_rfl) (by kernel_rfl) (by simp) ?_;simp(disch:=omega)[h1,h2];repeat refine akI ?_
      refine aa.akJ (.qs [0,1,2,3,4,5,8,9,10,11,12,13]<|.l 6 []<|.l 7 []<|.qs [16]<|.l 14 []<|.l 15 []<|.l 17 [8]<|.qs [18]<|.l 19 [9]<|.nil) ?_;simp;refine akK (dJ c.low.at' t.num (ah w1 (by omega)) (ah wt (by omega))) ?_;simp;refine akK (dK lo.at' (c.low.at'*t.num) (ah hR.wl (by omega)) (ah (bM w1 wt (by omega)) (by omega))) ?_;simp;refine akK (dJ c.high.at' t.num (ah w2 (by omega)) (ah wt (by omega))) ?_;simp;refine akK (dK hi.at' (c.high.at'*t.num) (ah hR.wh (by omega)) (ah (bM w2 wt (by omega)) (by omega))) ?_;simp;exact⟨⟨k+1,⟨lo.has&&c.low.has,lo.at'+c.low.at'*t.num⟩,⟨hi.has&&c.high.has,hi.at'+c.high.at'*t.num⟩⟩,⟨az,hR'⟩,an2 _ _ az,Le.bA (by simp(disch:=omega)[aw,hC,aN,h1,h2,lk])⟩
     ·refine aa.draw (.qs [0,1,2,3,4,5,6,7,8,9]<|.q 10 [8]<|.qs [11,12]<|.l 13 [8]<|.qs [14]<|.l 15 [9]<|.nil) (by kernel_rfl) (by kernel_rfl) (by simp) ?_;simp(disch:=omega)[h1,h2];repeat refine akI ?_
      refine aa.akJ (.qs [0,1,2,3,4,5,8,9,10,11,12,13]<|.l 6 []<|.l 7 []<|.qs [16]<|.l 14 []<|.l 15 []<|.l 17 [8]<|.qs [18]<|.l 19 [9]<|.nil) ?_;simp;refine akK (dJ c.low.at' t.num (ah w1 (by omega)) (ah wt (by omega))) ?_;simp;refine akK (dK lo.at' (c.low.at'*t.num) (ah hR.wl (by omega)) (ah (bM w1 wt (by omega)) (by omega))) ?_;simp;refine akK (dJ c.high.at' t.num (ah w2 (by omega)) (ah wt (by omega))) ?_;simp;refine akK (dK hi.at' (c.high.at'*t.num) (ah hR.wh (by omega)) (ah (bM w2 wt (by omega)) (by omega))) ?_;simp;exact⟨⟨k+1,⟨lo.has&&c.low.has,lo.at'+c.low.at'*t.num⟩,⟨hi.has&&c.high.has,hi.at'+c.high.at'*t.num⟩⟩,⟨az,hR'⟩,an2 _ _ az,Le.bA (by simp(disch:=omega)[aw,hC,aN,h1,h2,lk])⟩
    ·by_cases h2:hi.has=true
     ·refine aa.draw (.qs [0,1,2,3,4,5,6,7,8,9]<|.q 10 [8]<|.qs [11,12]<|.l 13 [8]<|.qs [14]<|.l 15 [9]<|.nil) (by kernel_rfl) (by kernel_rfl) (by simp) ?_;simp(disch:=omega)[h1,h2];repeat refine akI ?_
      refine aa.akJ (.qs [0,1,2,3,4,5,8,9,10,11,12,13]<|.l 6 []<|.l 7 []<|.qs [16]<|.l 14 []<|.l 15 []<|.l 17 [8]<|.qs [18]<|.l 19 [9]<|.nil) ?_;simp;refine akK (dJ c.low.at' t.num (ah w1 (by omega)) (ah wt (by omega))) ?_;simp;refine akK (dK lo.at' (c.low.at'*t.num) (ah hR.wl (by omega)) (ah (bM w1 wt (by omega)) (by omega))) ?_;simp;refine akK (dJ c.high.at' t.num (ah w2 (by omega)) (ah wt (by omega))) ?_;simp;refine akK (dK hi.at' (c.high.at'*t.num) (ah hR.wh (by omega)) (ah (bM w2 wt (by omega)) (by omega))) ?_;simp;exact⟨⟨k+1,⟨lo.has&&c.low.has,lo.at'+c.low.at'*t.num⟩,⟨hi.has&&c.high.has,hi.at'+c.high.at'*t.num⟩⟩,⟨az,hR'⟩,an2 _ _ az,Le.bA (by simp(disch:=omega)[aw,hC,aN,h1,h2,lk])⟩
     ·refine aa.draw (.qs [0,1,2,3,4,5,6,7,8,9]<|.q 10 [8]<|.qs [11,12]<|.l 13 [8]<|.qs [14]<|.l 15 [9]<|.nil) (by kernel_rfl) (by kernel_rfl) (by simp) ?_;simp(disch:=omega)[h1,h2];repeat refine akI ?_
      refine aa.akJ (.qs [0,1,2,3,4,5,8,9,10,11,12,13]<|.l 6 []<|.l 7 []<|.qs [16]<|.l 14 []<|.l 15 []<|.l 17 [8]<|.qs [18]<|.l 19 [9]<|.nil) ?_;simp;refine akK (dJ c.low.at' t.num (ah w1 (by omega)) (ah wt (by omega))) ?_;simp;refine akK (dK lo.at' (c.low.at'*t.num) (ah hR.wl (by omega)) (ah (bM w1 wt (by omega)) (by omega))) ?_;simp;refine akK (dJ c.high.at' t.num (ah w2 (by omega)) (ah wt (by omega))) ?_;simp;refine akK (dK hi.at' (c.high.at'*t.num) (ah hR.wh (by omega)) (ah (bM w2 wt (by omega)) (by omega))) ?_;simp;exact⟨⟨k+1,⟨lo.has&&c.low.has,lo.at'+c.low.at'*t.num⟩,⟨hi.has&&c.high.has,hi.at'+c.high.at'*t.num⟩⟩,⟨az,hR'⟩,an2 _ _ az,Le.bA (by simp(disch:=omega)[aw,hC,aN,h1,h2,lk])⟩
  ·obtain rfl:k=r.ab.length:=by omega
   simp(disch:=omega)[];repeat refine akI ?_
   exact⟨_,⟨lo,hi,hR,rfl⟩,Le.bA (by simp[aw,hC])⟩
 rintro st ⟨lo,hi,hR,rfl⟩;refine aa.go ?_;simp only[aG,aS,aR];refine aa.akJ (.qs [0]<|.q 1 [8]<|.l 2 [8]<|.l 3 [9]<|.nil) ?_;simp;exact⟨_,_,⟨rfl,lo,hi,rfl,hR.sl,hR.sh⟩,by simp,by simp[aG,aS,aR,dX],by simp[aG],.inr ⟨by simp,by simp[aG,eP,aS,aR]⟩⟩
end Go.Proofs
set_option maxRecDepth 10000
set_option maxHeartbeats 1000000
namespace Go.Ps
open Go Go.Sv Go.Pl Go.Proofs Go.Tb Go.Ut Go.Li
theorem Bj{a a' b:Bo}(h:kU a a'):aD a' b=aD a b:=by
 unfold aD;rw[←h.1];by_cases e:a.has=true
 ·rw[←h.2 e]
 ·simp[e]
theorem zg{a b b':Bo}(h:kU b b'):aD a b'=aD a b:=by
 unfold aD;rw[←h.1];by_cases e:b.has=true
 ·rw[←h.2 e]
 ·simp[e]
theorem xi{a a' b:Bo}(h:kU a a'):alike a' b=alike a b:=by
 unfold alike;rw[←h.1];by_cases e:a.has=true
 ·rw[←h.2 e]
 ·simp[e]
theorem Jj{a a' b:Bo}(h:kU a a'):vV a' b=vV a b:=by
 unfold vV;rw[←h.1];by_cases e:a.has=true
 ·rw[←h.2 e]
 ·simp[e]
theorem Jc{a a' b:Bo}(h:kU a a'):wM a' b=wM a b:=by
 unfold wM;rw[←h.1];by_cases e:a.has=true
 ·rw[←h.2 e]
 ·simp[e]
@[simp] theorem aaU{k:IntKind}{n:Int}:Lp (.val (.int k n))=.val (.int k n):=rfl
end Go.Ps
namespace Go.Proofs
open Go.Sv Go Go.Tb Go.Pl Go.Ut Go.Li Go.Ps
theorem eM(a b:Bo)(ha:bQ a.at')(hb:bQ b.at'):aF Tryz.prog 98 [cL a,cL b] (.val (.int .i64 (tJ a.at' b.at'))):=by
 refine aj Tryz.func98 rfl (by simp) (fun C hC=>?_);simp;refine akK (tx a.at' b.at' ha hb) ?_;simp
theorem Fj{n m u:Nat}{w:Wk}{mx:Bool}{s0:Rat}(G:bh n m u w)(hu8:8≤u)(hu:u≤2400)(h7:n≤7)(h7':m≤7){i:Nat}(hi:i<m) :
  ji Tryz.prog 65 [.ptr 0 0 0,iv i] (aG mx s0 w) [6] (LD mx s0 (gj w i)):=by
 have hr:i<w.rows.length:=by rw[G.S.nr];exact hi
 have hr':i<w.gr.length:=by rw[G.S.gr];exact hi
 have l1:=dU hr;obtain⟨gc7,gr7⟩:=dr G;have pA:=lD hu8 (ay w.gc);have pB:=iY hu8 (ay w.gc) (ay w.gr);have tA:=mh hu (c:=ay w.gc) (by omega);have tB:=iL hu (c:=ay w.gc) (r:=ay w.gr) (by omega) (by omega);have wr:=G.W.ro i hr;have tl:(gt w.rows i).ab.length≤7:=by have:=ic (G.S.te i hi);omega
 have gR:=ES (mx:=mx) (s0:=s0) G (r:=gt w.rows i) tl (fun k hk=>⟨(eF G hi hk).1,(eF G hi hk).2.1⟩) (A:=qA u (ay w.gc)) (B:=qB u (ay w.gc) (ay w.gr)) (by omega) (by omega) (fun j hj=>⟨(G.W.co j hj).1,(G.W.co j hj).2.1⟩) (G.W.te i hr) (fun k hk=>(eF G hi hk).2.2);have gF:=fun b=>EO (mx:=mx) (s0:=s0) G h7 (r:=gt w.rows i) tl (fun k hk=>⟨(eF G hi hk).1,(eF G hi hk).2.1⟩) b;have es:gj w i=(if aD (bS w.ae (gt w.rows i).ab (gt w.rows i).ab.length).lo (gt w.rows i).high=true∨aD (gt w.rows i).low (bS w.ae (gt w.rows i).ab (gt w.rows i).ab.length).hi=true then(true,dw (da w true) i) else
  if alike (bS w.ae (gt w.rows i).ab (gt w.rows i).ab.length).lo (gt w.rows i).high=true∨alike (bS w.ae (gt w.rows i).ab (gt w.rows i).ab.length).hi (gt w.rows i).low=true then(true,dw (ey w (aT (alike (bS w.ae (gt w.rows i).ab (gt w.rows i).ab.length).lo (gt w.rows i).high) (gt w.rows i).ab w.ae (gt w.rows i).ab.length)) i) else
  if vV (bS w.ae (gt w.rows i).ab (gt w.rows i).ab.length).lo (gt w.rows i).low=true∧wM (bS w.ae (gt w.rows i).ab (gt w.rows i).ab.length).hi (gt w.rows i).high=true then(true,dw w i) else(false,w)):=rfl
 have sw:bQ (bS w.ae (gt w.rows i).ab (gt w.rows i).ab.length).lo.at'∧bQ (bS w.ae (gt w.rows i).ab (gt w.rows i).ab.length).hi.at':=by
  have:=x7 (A:=qA u (ay w.gc)) (B:=qB u (ay w.gc) (ay w.gr)) (cs:=w.ae) (ts:=(gt w.rows i).ab) (by omega) (fun j hj=>⟨(G.W.co j hj).1,(G.W.co j hj).2.1⟩) (fun k hk=>⟨G.W.te i hr k hk,by rw[G.S.nc];exact(eF G hi hk).2.1⟩) _ (Nat.le_refl _);have h2:=amf (qB u (ay w.gc) (ay w.gr)+qA u (ay w.gc)+1) tl;exact⟨ah this.1 (by omega),ah this.2 (by omega)⟩
 generalize bS w.ae (gt w.rows i).ab (gt w.rows i).ab.length=s at *;generalize gt w.rows i=r at *;refine bP Tryz.func65 rfl (by simp) (fun C hC=>?_);have hC:C.fx=[0,1,2,3,4,5]:=hC;refine aa.cutAt 4 (fun st=>∃lo hi,kU lo s.lo∧kU hi s.hi∧st=⟨138,[(0,.ptr 0 0 0),(1,iv i),(5,.ptr 7 0 0),(6,.ptr 8 0 0),(7,.ptr 9 0 0),(8,.val (.func (.func 98) #[] #[]))],aG mx s0 w++[some ⟨12,[bE r],false⟩,some ⟨5,[cL lo],false⟩,some ⟨5,[cL hi],false⟩]⟩) ?_ ?_
 ·simp only[ar,aq,aG,aS,aR];simp(disch:=omega)[hr,l1];repeat refine akI ?_
  refine cN gR [0,1,2,3,4,5,6] (by simp) (by simp[aG,aS,aR]) (by simp) (by simp[aG,hC]) (by simp) ?_;rintro T y ⟨rfl,lo,hi,rfl,sl,sh⟩;simp only[aG,aS,aR];simp;exact⟨_,⟨lo,sl,hi,sh,rfl⟩,by simp[aw,hC]⟩
 rintro st ⟨lo,hi,sl,sh,rfl⟩;rw[Bj sl,zg sh,xi sl,xi sh,Jj sl,Jc sh]at es;simp only[ao,al];refine aa.le (Le.fn _) ?_;simp[fnS];have q1:lo.has=true→bQ lo.at':=fun h=>by rw[sl.2 h];exact sw.1
 have q2:hi.has=true→bQ hi.at':=fun h=>by rw[sh.2 h];exact sw.2
 have q3:bQ r.low.at':=ah wr.1 (by omega);have q4:bQ r.high.at':=ah wr.2 (by omega);refine aa.gp (fun st=>∃w',gj w i=(true,dw w' i)∧w'.gr=w.gr∧st=⟨138,[(0,.ptr 0 0 0),(1,iv i)],aG mx s0 w'⟩) ?_ ?_
 ·refine aa.sn ?_;refine aa.gp (fun st=>st=⟨138,[(25,bZ (aD lo r.high||aD r.low hi)),(0,.ptr 0 0 0),(1,iv i),(5,.ptr 7 0 0),(6,.ptr 8 0 0),(7,.ptr 9 0 0),(8,.gG 98 [] [])],aG mx s0 w++[some ⟨12,[bE r],false⟩,some ⟨5,[cL lo],false⟩,some ⟨5,[cL hi],false⟩]⟩) ?_ ?_
  ·refine aa.gp (fun st=>st=⟨138,[(25,bZ (aD lo r.high)),(0,.ptr 0 0 0),(1,iv i),(5,.ptr 7 0 0),(6,.ptr 8 0 0),(7,.ptr 9 0 0),(8,.gG 98 [] [])],aG mx s0 w++[some ⟨12,[bE r],false⟩,some ⟨5,[cL lo],false⟩,some ⟨5,[cL hi],false⟩]⟩) ?_ ?_
   ·refine aa.go ?_;simp only[aG,aS,aR];by_cases h1:lo.has=true
    ·by_cases h2:r.high.has=true
     ·simp(disch:=omega)[h1,h2];repeat refine akI ?_
      refine akK (eM lo r.high (q1 h1) q4) ?_;simp;exact Le.bA (by simp[aw,hC,aD,h1,h2])
     ·simp(disch:=omega)[h1,h2];repeat refine akI ?_
      exact Le.bA (by simp[aw,hC,aD,h1,h2])
    ·simp(disch:=omega)[h1];repeat refine akI ?_
     exact Le.bA (by simp[aw,hC,aD,h1])
   rintro st rfl;by_cases c1:aD lo r.high=true
   ·refine aa.gD true (by simp[c1]) (fun _=>?_) (fun q=>by cases q);refine aa.go ?_;exact⟨_,rfl,Le.bA (by simp[aw,hC,c1,aG,aS,aR])⟩
   ·have c1':aD lo r.high=false:=by simpa using c1
    refine aa.gD false (by simp[c1']) (fun q=>by cases q) (fun _=>?_);rw[c1'];refine aa.go ?_;simp only[aG,aS,aR];by_cases h1:hi.has=true
    ·by_cases h2:r.low.has=true
     ·simp(disch:=omega)[h1,h2];repeat refine akI ?_
      refine akK (eM hi r.low (q2 h1) q3) ?_;simp;exact Le.bA (by simp[aw,hC,aD,h1,h2])
     ·simp(disch:=omega)[h1,h2];repeat refine akI ?_
      exact Le.bA (by simp[aw,hC,aD,h1,h2])
    ·simp(disch:=omega)[h1];repeat refine akI ?_
     exact Le.bA (by simp[aw,hC,aD,h1])
  rintro st rfl;by_cases c1:aD lo r.high=true∨aD r.low hi=true
  ·have c1':(aD lo r.high||aD r.low hi)=true:=by simpa using c1
   rw[if_pos c1]at es;refine aa.gD true (by simp[c1']) (fun _=>?_) (fun q=>by cases q);refine aa.go ?_;simp only[aG,aS,aR];simp(disch:=omega)[];repeat refine akI ?_
   exact⟨_,⟨da w true,es,rfl,rfl⟩,Le.bA (by simp[aw,hC,aG,aS,aR,da])⟩
  have c1':(aD lo r.high||aD r.low hi)=false:=by simpa using c1
  rw[if_neg c1]at es;refine aa.gD false (by simp[c1']) (fun q=>by cases q) (fun _=>?_);refine aa.gp (fun st=>st=⟨138,[(59,bZ (alike lo r.high)),(0,.ptr 0 0 0),(1,iv i),(5,.ptr 7 0 0),(6,.ptr 8 0 0),(7,.ptr 9 0 0),(8,.gG 98 [] [])],aG mx s0 w++[some ⟨12,[bE r],false⟩,some ⟨5,[cL lo],false⟩,some ⟨5,[cL hi],false⟩]⟩) ?_ ?_
  ·refine aa.go ?_;simp only[aG,aS,aR];by_cases h1:lo.has=true
   ·by_cases h2:r.high.has=true
    ·simp(disch:=omega)[h1,h2];repeat refine akI ?_
     refine akK (eM lo r.high (q1 h1) q4) ?_;simp;exact Le.bA (by simp[aw,hC,alike,h1,h2])
    ·simp(disch:=omega)[h1,h2];repeat refine akI ?_
     exact Le.bA (by simp[aw,hC,alike,h1,h2])
   ·simp(disch:=omega)[h1];repeat refine akI ?_
    exact Le.bA (by simp[aw,hC,alike,h1])
  rintro st rfl;by_cases c2:alike lo r.high=true
  ·rw[if_pos (.inl c2),c2]at es;refine aa.gD true (by simp[c2]) (fun _=>?_) (fun q=>by cases q);refine aa.go ?_;simp only[aG,aS,aR];simp(disch:=omega)[];repeat refine akI ?_
   refine cN (gF true) [0,1,2,3,4,5,6] (by simp) (by simp[aG,aS,aR]) (by simp) (by simp[aG,hC]) (by simp) ?_;rintro T y ⟨rfl,rfl⟩;simp;exact⟨_,⟨ey w (aT true r.ab w.ae r.ab.length),es,rfl,rfl⟩,Le.bA (by simp[aw,hC,aG,aS,aR,ey])⟩
  have c2':alike lo r.high=false:=by simpa using c2
  refine aa.gD false (by simp[c2']) (fun q=>by cases q) (fun _=>?_);refine aa.gp (fun st=>st=⟨138,[(78,bZ (alike hi r.low)),(0,.ptr 0 0 0),(1,iv i),(5,.ptr 7 0 0),(6,.ptr 8 0 0),(7,.ptr 9 0 0),(8,.gG 98 [] [])],aG mx s0 w++[some ⟨12,[bE r],false⟩,some ⟨5,[cL lo],false⟩,some ⟨5,[cL hi],false⟩]⟩) ?_ ?_
  ·refine aa.go ?_;simp only[aG,aS,aR];by_cases h1:hi.has=true
   ·by_cases h2:r.low.has=true
    ·simp(disch:=omega)[h1,h2];repeat refine akI ?_
     refine akK (eM hi r.low (q2 h1) q3) ?_;simp;exact Le.bA (by simp[aw,hC,alike,h1,h2])
    ·simp(disch:=omega)[h1,h2];repeat refine akI ?_
     exact Le.bA (by simp[aw,hC,alike,h1,h2])
   ·simp(disch:=omega)[h1];repeat refine akI ?_
    exact Le.bA (by simp[aw,hC,alike,h1])
  rintro st rfl;by_cases c3:alike hi r.low=true
  ·rw[if_pos (.inr c3),c2']at es;refine aa.gD true (by simp[c3]) (fun _=>?_) (fun q=>by cases q);refine aa.go ?_;simp only[aG,aS,aR];simp(disch:=omega)[];repeat refine akI ?_
   refine cN (gF false) [0,1,2,3,4,5,6] (by simp) (by simp[aG,aS,aR]) (by simp) (by simp[aG,hC]) (by simp) ?_;rintro T y ⟨rfl,rfl⟩;simp;exact⟨_,⟨ey w (aT false r.ab w.ae r.ab.length),es,rfl,rfl⟩,Le.bA (by simp[aw,hC,aG,aS,aR,ey])⟩
  have c3':alike hi r.low=false:=by simpa using c3
  rw[if_neg (fun q=>q.elim c2 c3)]at es;refine aa.gD false (by simp[c3']) (fun q=>by cases q) (fun _=>?_);refine aa.gp (fun st=>st=⟨138,[(97,bZ (vV lo r.low&&wM hi r.high)),(0,.ptr 0 0 0),(1,iv i),(5,.ptr 7 0 0),(6,.ptr 8 0 0),(7,.ptr 9 0 0),(8,.gG 98 [] [])],aG mx s0 w++[some ⟨12,[bE r],false⟩,some ⟨5,[cL lo],false⟩,some ⟨5,[cL hi],false⟩]⟩) ?_ ?_
  ·refine aa.go ?_;simp only[aG,aS,aR];by_cases b1:r.low.has=true
   ·by_cases b2:lo.has=true
    ·by_cases b3:r.low.at'≤lo.at'
     ·by_cases d1:r.high.has=true
      ·by_cases d2:hi.has=true
       ·simp(disch:=omega)[b1,b2,b3,d1,d2];repeat refine akI ?_
        refine akK (eM lo r.low (q1 b2) q3) ?_;simp(disch:=omega)[b3,d1,d2];repeat refine akI ?_
        refine akK (eM hi r.high (q2 d2) q4) ?_;simp;exact Le.bA (by simp[aw,hC,vV,wM,d1,d2,b1,b2,b3])
       ·simp(disch:=omega)[b1,b2,b3,d1,d2];repeat refine akI ?_
        refine akK (eM lo r.low (q1 b2) q3) ?_;simp(disch:=omega)[b3,d1,d2];repeat refine akI ?_
        exact Le.bA (by simp[aw,hC,vV,wM,d1,d2,b1,b2,b3])
      ·simp(disch:=omega)[b1,b2,b3,d1];repeat refine akI ?_
       refine akK (eM lo r.low (q1 b2) q3) ?_;simp(disch:=omega)[b3,d1];repeat refine akI ?_
       exact Le.bA (by simp[aw,hC,vV,wM,d1,b1,b2,b3])
     ·simp(disch:=omega)[b1,b2,b3];repeat refine akI ?_
      refine akK (eM lo r.low (q1 b2) q3) ?_;simp(disch:=omega)[b3];repeat refine akI ?_
      exact Le.bA (by simp[aw,hC,vV,wM,b1,b2,b3])
    ·simp(disch:=omega)[b1,b2];repeat refine akI ?_
     exact Le.bA (by simp[aw,hC,vV,wM,b1,b2])
   ·by_cases d1:r.high.has=true
    ·by_cases d2:hi.has=true
     ·simp(disch:=omega)[b1,d1,d2];repeat refine akI ?_
      refine akK (eM hi r.high (q2 d2) q4) ?_;simp;exact Le.bA (by simp[aw,hC,vV,wM,d1,d2,b1])
     ·simp(disch:=omega)[b1,d1,d2];repeat refine akI ?_
      exact Le.bA (by simp[aw,hC,vV,wM,d1,d2,b1])
    ·simp(disch:=omega)[b1,d1];repeat refine akI ?_
     exact Le.bA (by simp[aw,hC,vV,wM,d1,b1])
  rintro st rfl;by_cases c4:vV lo r.low=true∧wM hi r.high=true
  ·rw[if_pos c4]at es;refine aa.gD true (by simp[c4]) (fun _=>?_) (fun q=>by cases q);refine aa.go ?_;exact⟨_,⟨w,es,rfl,rfl⟩,Le.bA (by simp[aw,hC,aG,aS,aR])⟩
  ·rw[if_neg c4]at es;refine aa.gD false (by simp;simpa using c4) (fun q=>by cases q) (fun _=>?_);rw[es];refine aa.go ?_;simp only[aG,aS,aR];simp(disch:=omega)[];repeat refine akI ?_
   exact⟨_,_,⟨rfl,rfl⟩,by simp,by simp[aG,aS,aR,dX],by simp[aG],.inr ⟨by simp,by simp[aG,eP,aS,aR]⟩⟩
 rintro st ⟨w',e1,e2,rfl⟩;rw[e1];have hr':i<w'.gr.length:=by rw[e2];exact hr'
 have l2:=bI hr';refine aa.go ?_;simp only[aG,aS,aR];simp(disch:=omega)[hr',l2,eQ];repeat refine akI ?_
 exact⟨_,_,⟨rfl,rfl⟩,by simp,by simp[aG,aS,aR,dX,dw],by simp[aG],.inl (by simp[aG])⟩
end Go.Proofs


/- A text of the prover's own. -/
import Derived.Test.YtnimjdcaajmfcaaGreatDoorBXm
import Derived.Test.YtnimjdcaajmfcaaGreatDoorBKu
open Nat renaming mul_add->atM,le_refl->asN,mul_le_mul_left->atQ
open List renaming length_take->auf,range->ati,take_of_length_le->aud
open Go.Proofs.Tryz renaming prog->awW
namespace Go.Sx
open Go Go.Sv Go.Pl Go.Proofs Go.Tb Go.Ut Go.Mx Go.Li Go.Dt
theorem Cw{x:List Rat}{V:Nat}(hx:Wd V x){ts:List Term}(ht:∀k,k<ts.length->Proofs.qw 2200 (gt ts k).num∧0<=(gt ts k).g9∧(gt ts k).g9<x.length):∀k,k<=ts.length->Proofs.qw (1+(2200+V+1)*k) (rK x ts k)
 | 0,_=>ay (fg (n:=0) (by omega) (by omega)) (by omega)
 | k+1,hk=>by obtain⟨h1,h2,h3⟩:=ht k (by omega);exact ay (kg (Cw hx ht k (by omega)) (cx h1 (hx _ (by omega)) (by omega))) (by rw[atM];omega)
theorem GL{p:aB}(hw:cT p){y:List Rat}{V:Nat}(hV:1<=V)(hy:Wd V y)(hl:p.rows.length<=y.length){j:Nat}(hj:j<p.ab.length):∀i,i<=p.rows.length->Proofs.qw (2200+(V+2200+1)*i) (dP p y j i)
 | 0,_=>ay (hw.co j hj).1 (by omega)
 | i+1,hi=>by have h1:=GL hw hV hy hl hj i (by omega);have h2:=cx (hy i (by omega)) (qK (by omega) (hw.te i (by omega)):Proofs.qw 2200 (cW (gt p.rows i).aC j)) (by omega);exact ay (nL h1 h2) (by rw[atM];omega)
theorem TC{p:aB}(hw:cT p){y:List Rat}{V:Nat}(hV:1<=V)(hy:Wd V y)(hl:p.rows.length<=y.length){j:Nat}(hj:j<p.ab.length)(i:Nat)(hi:i<=p.rows.length):Proofs.qw (2200+(V+2200+1)*i) (gS p y j i):=by rw[Is hj];exact fh (GL (GI hw) hV hy (show(free p).rows.length<=y.length from hl) (show j<(free p).ab.length by rw[qT];exact hj) i hi)
theorem E8{p:aB}(hw:cT p){x:List Rat}{V:Nat}(hx:Wd V x)(hl:p.ab.length<=x.length):∀j,j<=p.ab.length->Proofs.qw (1+(2200+V+1)*j) (iE p x j)
 | 0,_=>ay (fg (n:=0) (by omega) (by omega)) (by omega)
 | j+1,hj=>ay (kg (E8 hw hx hl j (by omega)) (cx (hw.co j (by omega)).1 (hx j (by omega)) (by omega))) (by rw[atM];omega)
theorem Dj{p:aB}(hw:cT p){y:List Rat}{V:Nat}(hy:Wd V y)(hl:p.rows.length<=y.length):∀i,i<=p.rows.length->NY (1+(2200+V+1)*i) (FW p y i)
 | 0,_=>⟨ay (fg (n:=0) (by omega) (by omega)) (by omega),ay (fg (n:=0) (by omega) (by omega)) (by omega)⟩
 | i+1,hi=>by have h:=tF (Dj hw hy hl i (by omega)) (hw.ro i (by omega)).1 (hw.ro i (by omega)).2 (hy i (by omega)) (by omega);exact⟨ay h.1 (by rw[atM];omega),ay h.2 (by rw[atM];omega)⟩
theorem Fs{p:aB}(hw:cT p){y:List Rat}{G:Nat}(hg:∀j,j<p.ab.length->Proofs.qw G (gS p y j p.rows.length)):∀j,j<=p.ab.length->NY (1+(2200+G+1)*j) (IB p y j)
 | 0,_=>⟨ay (fg (n:=0) (by omega) (by omega)) (by omega),ay (fg (n:=0) (by omega) (by omega)) (by omega)⟩
 | j+1,hj=>by have e:=Is (y:=y) (show j<p.ab.length by omega) p.rows.length;have h:=tF (Fs hw hg j (by omega)) (hw.co j (by omega)).2.1 (hw.co j (by omega)).2.2 (hg j (by omega)) (by omega);rw[e]at h;exact⟨ay h.1 (by rw[atM];omega),ay h.2 (by rw[atM];omega)⟩
structure OI(p:aB)(y:List Rat):Prop where
 w:Wd 1300000000 y
 d:∀j,j<p.ab.length->∀i,i<=p.rows.length->Proofs.qw 10000000000 (dP p y j i)
 e:∀j,j<p.ab.length->Proofs.qw 1300000000 (dP p y j p.rows.length)
 r:∀i,i<=p.rows.length->NY 10000000000 (zK p y i)
 c:∀j,j<=p.ab.length->NY 10000000000 (zJ p y j)
structure ZX(p:aB)(c:j0):Prop where
 x:Wd 1300000000 c.x
 r:Wd 1300000000 c.jP
 v:Proofs.qw 10000000000 c.value
 nx:c.x.length<=1048576
 ny:c.y.length<=1048576
 nr:c.jP.length<=1048576
 lim:c.kind=1->OI p c.y
 no:c.kind=2->Wd 172000000 c.y
theorem Lr{P Q:Nat->Bool}:∀k,(∀i,i<k->P i=true->Q i=true)->nz P k<=nz Q k
 | 0,_=>asN _
 | k+1,h=>by
  have:=Lr k λi hi=>h i (by omega);have:=h k (by omega);simp only[nz];cases e:P k with
  | false=>simp;omega
  | true=>rw[this e];omega
theorem sM(P:Nat->Bool)(n:Nat):∀m,nz P (n+m)=nz P n+nz (λi=>P (n+i)) m
 | 0=>rfl
 | m+1=>by have e:nz P (n+(m+1))=nz P (n+m)+if P (n+m)=true then 1 else 0:=rfl;rw[e,sM P n m];simp only[nz];omega
theorem Gb{p:aB}(hw:cT p){y:List Rat}{V:Nat}(hy:Wd V y)(hl:p.rows.length<=y.length):∀i,i<=p.rows.length->NY (2200+(2200+V+1)*nz (λq=>decide (gt y q≠0)) i) (zK p y i)
 | 0,_=>⟨hw.sh,hw.sh⟩
 | i+1,hi=>by
  have ih:=Gb hw hy hl i (by omega);simp only[nz];by_cases z:gt y i=0
  ·have e:zK p y (i+1)=zK p y i:=by show eB _ _ _ _=_;unfold eB;rw[if_pos z]
   rw[e];simpa[z]using ih
  ·have h:=tF ih (hw.ro i (by omega)).1 (hw.ro i (by omega)).2 (hy i (by omega)) (by omega);rw[if_pos (by simpa using z),atM];exact⟨ay h.1 (by omega),ay h.2 (by omega)⟩
theorem MT{p:aB}(hw:cT p){y:List Rat}{V:Nat}(hy:Wd V y)(hl:p.rows.length<=y.length)(hd:∀j,j<p.ab.length->Proofs.qw V (dP p y j p.rows.length)):∀j,j<=p.ab.length->NY (2200+(2200+V+1)*(nz (λq=>decide (gt y q≠0)) p.rows.length+nz (λq=>decide (dP p y q p.rows.length≠0)) j)) (zJ p y j)
 | 0,_=>Gb hw hy hl p.rows.length (asN _)
 | j+1,hj=>by
  have ih:=MT hw hy hl hd j (by omega);simp only[nz];by_cases z:dP p y j p.rows.length=0
  ·have e:zJ p y (j+1)=zJ p y j:=by show eB _ _ _ _=_;unfold eB;rw[if_pos z]
   rw[e];simpa[z]using ih
  ·have h:=tF ih (hw.co j (by omega)).2.1 (hw.co j (by omega)).2.2 (hd j (by omega)) (by omega);rw[if_pos (by simpa using z),<-Nat.add_assoc,atM _ _ 1];exact⟨ay h.1 (by omega),ay h.2 (by omega)⟩
section
variable {p:aB} {n m N:Nat}
theorem SZ{c:Tc}{K:(Nat->Rat)->Prop}{s:Tb}(hc:oR c)(hW:HW c K)(hV:Wd 2200 c.cost)(h:fo c K s){k:Nat}(hk:k<c.N):Proofs.qw 1203142608 (iA c s k):=by
 have h7:=hc.m7;unfold iA;split
 ·exact Proofs.cL (by omega)
 ·refine ay (CK (V:=2200) (W:=171875000) (hV k (by rw[hc.co];exact hk)) c.m (λi hi=>⟨hV _ (by rw[hc.co];exact h.d.bl i hi),?_⟩) (by omega)) (by have:=Nat.mul_le_mul_right (171875000+2200+1) h7;omega);exact hW _ _ h.d h.t.Rr i hi k (by rw[h.t.Rr i hi];exact hk)
theorem YD(hn:p.ab.length=n)(hm:p.rows.length=m)(hN:n+m=N)(n7:n<=7)(m7:m<=7)(hw:cT p)(hv:bh p=0){s:Tb}(h:fo (bV p n m N) (Kp p n m) s){y:List Rat}(hl:y.length=m)(hy:∀i,i<m->gt y i=sg p*iA (bV p n m N) s (n+i)):OI p y:=by
 have am:=CN hn hm hN (by omega) m7;have ai:Wd 2200 (bV p n m N).cost:=λk hk=>by
  have hk:k<N:=by rw[am.co]at hk;exact hk
  rw[pW hk];have:Proofs.qw 2200 (uw p n k):=by
   unfold uw;split
   ·exact(hw.co k (by omega)).1
   ·exact Proofs.cL (by omega)
  split
  ·exact fh this
  ·exact this
 have an:=λk (hk:k<N)=>SZ am (M6 hm hw m7 hN) ai h (k:=k) hk;have ap:∀q:Rat,Proofs.qw 1203142608 q->Proofs.qw 1203142608 (sg p*q):=λq hq=>by
  unfold sg;split
  ·have:(-1:Rat)*q = -q:=by grind
   rw[this];exact fh hq
  ·have:(1:Rat)*q=q:=by grind
   rw[this];exact hq
 have dp:=λj (hj:j<n)=>Hc hN h hy hj;have yw:Wd 1203142608 y:=λi hi=>by rw[hy i (by omega)];exact ap _ (an _ (by omega))
 have dw:∀j,j<p.ab.length->Proofs.qw 1203142608 (dP p y j p.rows.length):=λj hj=>by rw[hm,dp j (by omega)];exact ap _ (an _ (by omega))
 have kQ:nz (λq=>decide (gt y q≠0)) m+nz (λq=>decide (dP p y q p.rows.length≠0)) n<=7:=by
  have e:=Mp h;replace e:nz (λk=>!decide (gt s.wh k=1)) N+m=N:=e;rw[<-hN,sM]at e;have z:∀k,k<N->gt s.wh k=1->iA (bV p n m N) s k=0:=λk hk g=>if_pos ((h.w k hk).1 g);have a1:nz (λq=>decide (gt y q≠0)) m<=nz (λi=>!decide (gt s.wh (n+i)=1)) m:=Lr m λi hi g=>by
   have g:gt y i≠0:=by simpa using g
   have:gt s.wh (n+i)≠1:=λw=>g (by rw[hy i hi,z _ (by omega) w,Rat.mul_zero]);simpa using this
  have a2:nz (λq=>decide (dP p y q p.rows.length≠0)) n<=nz (λk=>!decide (gt s.wh k=1)) n:=Lr n λk hk g=>by
   have g:dP p y k p.rows.length≠0:=by simpa using g
   have:gt s.wh k≠1:=λw=>g (by rw[hm,dp k hk,z _ (by omega) w,Rat.mul_zero]);simpa using this
  omega
 have ak:∀i,i<=m->nz (λq=>decide (gt y q≠0)) i<=7:=λi hi=>by obtain⟨d,rfl⟩:∃d,m=i+d:=⟨m - i,by omega⟩;rw[sM]at kQ;omega
 have al:∀j,j<=n->nz (λq=>decide (gt y q≠0)) m+nz (λq=>decide (dP p y q p.rows.length≠0)) j<=7:=λj hj=>by obtain⟨d,rfl⟩:∃d,n=j+d:=⟨n - j,by omega⟩;rw[sM]at kQ;omega
 refine⟨λi hi=>ay (yw i hi) (by omega),λj hj i hi=>ay (GL hw (by omega) yw (by omega) hj i hi) ?_,λj hj=>ay (dw j hj) (by omega),λi hi=>?_,λj hj=>?_⟩
 ·have:=atQ (1203142608+2200+1) (show i<=7 by omega);omega
 ·have:=Gb hw yw (by omega) i hi;have b:=atQ (2200+1203142608+1) (ak i (by omega));exact⟨ay this.1 (by omega),ay this.2 (by omega)⟩
 ·have:=MT hw yw (by omega) dw j hj;have b:=atQ (2200+1203142608+1) (al j (by omega));rw[<-hm]at b;exact⟨ay this.1 (by omega),ay this.2 (by omega)⟩
theorem yn(hn:p.ab.length=n)(hm:p.rows.length=m)(hN:n+m=N)(n7:n<=7)(m7:m<=7)(hw:cT p)(hv:bh p=0){s:Tb}{cl:j0}(h:rH (bV p n m N) (Kp p n m) s cl):ZX p cl∧(Wd 1300000000 cl.y∧Proofs.qw 8430000000 cl.value)∧cl.x.length<=7∧cl.y.length<=7∧cl.jP.length<=7:=by
 obtain⟨_,ag,h⟩:=h;have hW:=M6 hm hw m7 hN;have aw:=Q6 hn hm hN hw;have ac:∀V,Wd V ([]:List Rat):=λV i hi=>by simp at hi
 have xl:s.x.length=N:=ag.t.x;have xw:Wd 1203140408 (s.x.take n):=λj hj=>by
  have hj:j<n:=by rw[auf]at hj;omega
  have:=Kv (c:=bV p n m N) aw hW ag hN n7 (k:=j) (show j<N by omega);have e:gt (s.x.take n) j=gt s.x j:=by simp[gt,hj]
  rw[e];exact this
 have aq:(s.x.take n).length<=7:=by rw[auf];omega
 have z0:∀V,1<=V->Proofs.qw V 0:=λV hV=>Proofs.cL hV;have ar:∀i,i<m->∀k,k<N->Proofs.qw 171875000 (gt (gt s.R i) k):=λi hi k hk=>hW _ _ ag.d ag.t.Rr i hi k (by rw[ag.t.Rr i hi];exact hk);rcases h with⟨cr,rfl⟩ | ⟨_,i,ad,st,rfl⟩ | ⟨_,hf,hb,rfl⟩ | ⟨_,hf,j,up,he,rfl⟩
 ·exact⟨⟨ac _,ac _,z0 _ (by omega),by simp,by simp,by simp,λe=>by simp at e,λ_=>ac _⟩,⟨ac _,z0 _ (by omega)⟩,by simp,by simp,by simp⟩
 ·have yw:Wd 172000000 ((ati (bV p n m N).m).map (zZ (bV p n m N) s i ad)):=λq hq=>by
   have hq:q<m:=by rw[List.length_map,List.length_range]at hq;exact hq
   have hi:i<m:=st.1;have g:gt ((ati (bV p n m N).m).map (zZ (bV p n m N) s i ad)) q=zZ (bV p n m N) s i ad q:=bF _ hq;rw[g];have w1:Proofs.qw 172000000 (-(gt (gt s.R i) (n+q))):=ay (fh (ar i hi (n+q) (by omega))) (by omega);have w2:Proofs.qw 172000000 (1:Rat):=ay (fg (n:=1) (by omega) (by omega)) (by omega);unfold zZ Fx;show Proofs.qw 172000000 (if ad=true then(if gt s.basic i=n+q then(1:Rat) else -(gt (gt s.R i) (n+q))) else -(if gt s.basic i=n+q then(1:Rat) else -(gt (gt s.R i) (n+q))));split
   ·split
    ·exact w2
    ·exact w1
   ·split
    ·exact fh w2
    ·exact fh w1
  have yl:((ati (bV p n m N).m).map (zZ (bV p n m N) s i ad)).length=m:=by simp;rfl
  exact⟨⟨ac _,ac _,z0 _ (by omega),by simp,by show((ati (bV p n m N).m).map _).length<=_;omega,by simp,λe=>by simp at e,λ_=>yw⟩,⟨λq hq=>ay (yw q hq) (by omega),z0 _ (by omega)⟩,by simp,by show((ati (bV p n m N).m).map _).length<=_;omega,by simp⟩
 ·have yl:((ati (bV p n m N).m).map (va (bV p n m N) s)).length=m:=by simp;rfl
  have lw:=YD hn hm hN n7 m7 hw hv ag yl (λi hi=>by have g:gt ((ati (bV p n m N).m).map (va (bV p n m N) s)) i=va (bV p n m N) s i:=bF _ hi;rw[g];exact LF hN ag hi)
  have vw:Proofs.qw 8430000000 (dX p (s.x.take n) n):=by have:=tB hw xw (show p.ab.length<=(s.x.take n).length by rw[auf];omega) (by omega) n (by omega);have b:=atQ (2200+1203140408+1) n7;exact ay this (by omega)
  exact⟨⟨λq hq=>ay (xw q hq) (by omega),ac _,ay vw (by omega),by show(s.x.take n).length<=_;omega,by show((ati (bV p n m N).m).map _).length<=_;omega,by simp,λ_=>lw,λe=>by simp at e⟩,⟨lw.w,vw⟩,aq,by show((ati (bV p n m N).m).map _).length<=_;omega,by simp⟩
 ·have hj:j<N:=he.1;have rl:(gA (bV p n m N) s j (yD up 1) (bV p n m N).m).length=N:=j6 ..;have y1:Proofs.qw 1 (yD up 1):=by
   unfold yD;split
   ·exact fg (n:=1) (by omega) (by omega)
   ·exact fh (fg (n:=1) (by omega) (by omega))
  have ax:∀k,k<N->Proofs.qw 1300000000 (gt (gA (bV p n m N) s j (yD up 1) (bV p n m N).m) k):=λk hk=>by
   have hb:=ag.nb he.1 he.2.1;by_cases e:k=j
   ·subst e;rw[tD ag he.1 hb _ (asN _)];exact ay y1 (by omega)
   ·by_cases au:∃q,q<(bV p n m N).m∧gt s.basic q=k
    ·obtain⟨q,hq,rfl⟩:=au;rw[pX ag he.1 hb hq _ (asN _),if_pos hq];exact ay (cx (ar q hq j hj) y1 (by omega)) (by omega)
    ·rw[mI ag hk e (λq hq e=>au ⟨q,hq,e⟩) _ (asN _)];exact z0 _ (by omega)
  have az:Wd 1300000000 ((gA (bV p n m N) s j (yD up 1) (bV p n m N).m).take n):=λk hk=>by
   have hk:k<n:=by rw[auf]at hk;omega
   have e:gt ((gA (bV p n m N) s j (yD up 1) (bV p n m N).m).take n) k=gt (gA (bV p n m N) s j (yD up 1) (bV p n m N).m) k:=by simp[gt,hk]
   rw[e];exact ax k (by omega)
  have aA:((gA (bV p n m N) s j (yD up 1) (bV p n m N).m).take n).length<=7:=by rw[auf];omega
  exact⟨⟨λq hq=>ay (xw q hq) (by omega),az,z0 _ (by omega),by show(s.x.take n).length<=_;omega,by simp,by show((gA (bV p n m N) s j (yD up 1) (bV p n m N).m).take n).length<=_;omega,λe=>by simp at e,λe=>by simp at e⟩,⟨ac _,z0 _ (by omega)⟩,aq,by simp,aA⟩
end
end Go.Sx
set_option maxRecDepth 10000
namespace Go.Proofs
open Go.Sv Go Go.Tb Go.Pl Go.Ut Go.Li Go.Mx Go.Dt Go.Sx
theorem E7(r:Row)(hn:r.aC.length<=7)(x:List Rat)(hx:Wd 1300000000 x)(ht:∀k,k<r.aC.length->qw 2200 (gt r.aC k).num∧0<=(gt r.aC k).g9∧(gt r.aC k).g9<x.length):aG awW 80 [lT r,.ro (x.map cI)] (cI (rK x r.aC r.aC.length)):=by
 refine aj Tryz.func80 rfl (by simp) (λC hC=>?_);simp;refine asl (s7) ?_;simp;refine aa.bM (ι:=Nat) (λk=>⟨34,[(1,.ro (x.map cI)),(2,.ptr 0 0 0),(4,.ptr 1 0 0),(5,.ptr 2 0 0),(6,iv k)],[some ⟨13,[lT r],false⟩,some ⟨4,[.agg [.val (.bool false),.val (.slice none 0 0),.val (.bool false),.val (.slice none 0 0)]],false⟩,some ⟨4,[cI (rK x r.aC k)],false⟩]⟩)
  (λk=>k<=r.aC.length) (λk=>r.aC.length - k) 0 (by simp) ?_ ?_
 ·simp[aR,hC,rK]
 ·rintro k hk;by_cases aP:k<r.aC.length
  ·obtain⟨h1,h2,h3⟩:=ht k aP;have w1:=Cw hx ht k (by omega);have w2:=hx (gt r.aC k).g9.toNat (by omega);have l3:aL (x.map cI) (gt r.aC k).g9.toNat=cI (gt x (gt r.aC k).g9.toNat):=iR (by omega);simp(disch:=omega)[aP];repeat refine asi ?_
   refine aa.jZ (.d 14<|.qs [0,1,2,3,4,5,6,7,8,9,10,11,12]<|.p 13<|.b (.l 15 [3]<|.nil)) (by kernel_rfl) (by kernel_rfl) (by simp) ?_;simp(disch:=omega)[aP,qY,qd,l3];repeat refine asi ?_
   refine fG (mv _ _ (ao h1 (by omega)) (ao w2 (by omega))) (by simp) ?_;simp;refine asl (mi _ _ (ao w1 (by omega)) (ao (cx h1 w2 (by omega)) (by omega))) ?_;simp(disch:=omega)[aK];repeat refine asi ?_
   exact⟨k+1,by omega,by omega,Le.fm (by simp(disch:=omega)[aR,hC,rK])⟩
  ·obtain rfl:k=r.aC.length:=by omega
   simp
theorem F9(p:aB)(h7:p.ab.length<=7)(hw:cT p)(x:List Rat)(hx:Wd 1300000000 x)(hl:x.length=p.ab.length):aG awW 82 [bZ p,.ro (x.map cI)] (cI (dX p x p.ab.length)):=by
 refine aj Tryz.func82 rfl (by simp) (λC hC=>?_);simp;refine aa.bM (ι:=Nat) (λj=>⟨32,[(1,.ro (x.map cI)),(2,.ptr 0 0 0),(4,.ptr 1 0 0),(5,.ptr 2 0 0),(6,iv j)],[some ⟨7,[bZ p],false⟩,some ⟨4,[.agg [.val (.bool false),.val (.slice none 0 0),.val (.bool false),.val (.slice none 0 0)]],false⟩,some ⟨4,[cI (dX p x j)],false⟩]⟩)
  (λj=>j<=p.ab.length) (λj=>p.ab.length - j) 0 (by simp) ?_ ?_
 ·simp[aR,hC,dX]
 ·rintro j hj;by_cases aP:j<p.ab.length
  ·have w1:=tB hw hx (by omega) (by omega) j (by omega);have w2:=hx j (by omega);have w3:=(hw.co j aP).1;simp(disch:=omega)[aP];repeat refine asi ?_
   refine aa.jZ (.d 11<|.qs [0,1,2,3,4,5,6,7,8,9]<|.p 10<|.b (.l 12 [3]<|.nil)) (by kernel_rfl) (by kernel_rfl) (by simp) ?_;simp(disch:=omega)[aP,dG,iR];repeat refine asi ?_
   refine fG (mv _ _ (ao w3 (by omega)) (ao w2 (by omega))) (by simp) ?_;simp;refine asl (mi _ _ (ao w1 (by omega)) (ao (cx w3 w2 (by omega)) (by omega))) ?_;simp(disch:=omega)[aK];repeat refine asi ?_
   exact⟨j+1,by omega,by omega,Le.fm (by simp(disch:=omega)[aR,hC,dX])⟩
  ·obtain rfl:j=p.ab.length:=by omega
   simp
theorem Gq(p:aB)(h7:p.ab.length<=7)(r7:p.rows.length<=7)(hw:cT p)(hv:bh p=0)(x:List Rat)(hx:Wd 1300000000 x)(hl:x.length=p.ab.length)(whole:Bool):aG awW 30 [bZ p,.ro (x.map cI),cX whole] (cX (dK p x whole)):=by
 refine aj Tryz.func30 rfl (by simp) (λC hC=>?_);simp[hl];refine aa.bM (ι:=Nat) (λj=>⟨89,[(1,.ro (x.map cI)),(2,cX whole),(3,.ptr 0 0 0),(7,iv j)],[some ⟨7,[bZ p],false⟩]⟩)
  (λj=>j<=p.ab.length∧∀k,k<j->yW p x whole k=true) (λj=>p.ab.length - j) 0 (by simp) ?_ ?_
 ·simp[aR,hC]
 ·rintro j ⟨hj,hb⟩;by_cases aP:j<p.ab.length
  ·have w1:=hx j (by omega);have w2:=hw.co j aP;have no:=Bg (x:=x) (w:=whole) aP;simp(disch:=omega)[aP,dG];repeat refine asi ?_
   refine aa.asj (.qs [0,1,2,3,4,5,6,7]<|.l 8 []<|.qs [9]<|.nil) ?_;simp(disch:=omega)[iR];repeat refine asi ?_
   refine asl (oB (gt x j) (gt p.ab j).low (gt p.ab j).high (ao w1 (by omega)) (ao w2.2.1 (by omega)) (ao w2.2.2 (by omega))) ?_;simp(disch:=omega)[iR];repeat refine asi ?_
   refine asl (vZ (gt x j)) ?_;simp(disch:=omega)[aK];repeat refine asi ?_
   repeat' (apply And.intro<;>intro _)
   all_goals first | exact no (by simp[yW, *]) | exact⟨j+1,⟨by omega,Ro hb (by simp[yW, *])⟩,by omega,Le.fm (by simp(disch:=omega)[aR,hC])⟩
  ·obtain rfl:j=p.ab.length:=by omega
   simp;refine aa.bM (ι:=Nat) (λi=>⟨89,[(1,.ro (x.map cI)),(3,.ptr 0 0 0),(11,iv i)],[some ⟨7,[bZ p],false⟩]⟩)
    (λi=>i<=p.rows.length∧∀k,k<i->L9 p x k=true) (λi=>p.rows.length - i) 0 (by simp) ?_ ?_
   ·simp[aR,hC]
   ·rintro i ⟨hi,hr⟩;by_cases aP:i<p.rows.length
    ·have to:=yG hw hv hl aP;have nt:(gt p.rows i).aC.length<=7:=by
      rcases Sx.sR (mX hv aP) (by omega)with q | q
      ·omega
      ·rw[q];simp
     have ws:=Cw hx to (gt p.rows i).aC.length (by omega);have w2:=hw.ro i aP;have no:=A3 (x:=x) (w:=whole) aP;simp(disch:=omega)[aP,cS];repeat refine asi ?_
     refine asl (E7 (gt p.rows i) nt x hx to) ?_;simp;refine aa.asj (.qs [0,1,2,3,4,5,6,7,8,9,10,11,12]<|.l 13 []<|.qs [14]<|.nil) ?_;simp(disch:=omega)[aP,cS];repeat refine asi ?_
     refine asl (oB _ (gt p.rows i).low (gt p.rows i).high (ao ws (by omega)) (ao w2.1 (by omega)) (ao w2.2 (by omega))) ?_;simp(disch:=omega)[aK];repeat refine asi ?_
     exact⟨λq=>no q,λq=>⟨i+1,⟨by omega,Ro hr q⟩,by omega,Le.fm (by simp(disch:=omega)[aR,hC])⟩⟩
    ·obtain rfl:i=p.rows.length:=by omega
     simp[uY hb hr]
theorem vQ(p:aB)(h7:p.ab.length<=7)(r7:p.rows.length<=7)(hw:cT p)(hv:bh p=0)(x:List Rat)(hx:Wd 1300000000 x):aG awW 30 [bZ p,.ro (x.map cI),cX false] (cX (ka p x)):=by
 by_cases hl:x.length=p.ab.length
 ·have:=Gq p h7 r7 hw hv x hx hl false;simpa[ka,hl]using this
 ·have:=vU p x hl false;simpa[ka,hl]using this
theorem Ev(p:aB)(h:As p)(hw:cT p)(hr:p.rows.length<=120)(hc:p.ab.length<=120)(y:List Rat)(g:OI p y)(hl:y.length=p.rows.length):aG awW 183 [bZ p,.ro (y.map cI)] (.ro ((kH p y).map cI)):=by
 have nr:=h.nr;refine aj Tryz.func183 rfl (by simp) (λC hC=>?_);simp;refine aa.nil 5 4 rfl ?_;refine aa.bM (ι:=Nat) (λj=>⟨50,[(1,.ro (y.map cI)),(2,.ptr 0 0 0),(5,.view 1 0 j),(6,iv j)],[some ⟨7,[bZ p],false⟩,some ⟨4,((kH p y).take j).map cI,false⟩]⟩)
  (λj=>j<=p.ab.length) (λj=>p.ab.length - j) 0 (by simp) ?_ ?_
 ·simp[aR,hC]
 ·rintro j hj;have pl:=vE p y;by_cases aP:j<p.ab.length
  ·simp(disch:=omega)[aP,dG];repeat refine asi ?_
   refine aa.bM (ι:=Nat) (λi=>⟨50,[(1,.ro (y.map cI)),(2,.ptr 0 0 0),(5,.view 1 0 j),(6,iv j),(7,.ptr 2 0 0),(8,iv i)],[some ⟨7,[bZ p],false⟩,some ⟨4,((kH p y).take j).map cI,false⟩,some ⟨4,[cI (dP p y j i)],false⟩]⟩)
    (λi=>i<=p.rows.length) (λi=>p.rows.length - i) 0 (by simp) ?_ ?_
   ·simp[aR,hC,dP];done
   ·rintro i hi;by_cases ah:i<p.rows.length
    ·have w1:=g.d j aP i (by omega);have w2:qw 2200 (cW (gt p.rows i).aC j):=qK (by omega) (hw.te i ah);have w3:=g.w i (by omega);simp(disch:=omega)[ah];repeat refine asi ?_
     refine aa.jZ (.d 12<|.qs [0,1,2,3,4,5,6,7,8,9]<|.p 10<|.p 11<|.b (.l 13 [3]<|.nil)) (by kernel_rfl) (by kernel_rfl) (by simp) ?_;simp(disch:=omega)[ah,cS,iR];repeat refine asi ?_
     refine fG (AR (gt p.rows i) (h.nt i ah) j (by omega)) (by simp) ?_;simp;refine fG (mv (gt y i) (cW (gt p.rows i).aC j) (ao w3 (by omega)) (ao w2 (by omega))) (by simp) ?_;simp;refine asl (PH (dP p y j i) (gt y i*cW (gt p.rows i).aC j) (ao w1 (by omega)) (ao (cx w3 w2 (by omega)) (by omega))) ?_;simp(disch:=omega)[aK];repeat refine asi ?_
     exact⟨i+1,by omega,by omega,Le.fm (by simp(disch:=omega)[aR,hC,dP])⟩
    ·obtain rfl:i=p.rows.length:=by omega
     simp(disch:=omega)[aK];repeat refine asi ?_
     exact⟨⟨by simp[hC],by omega⟩,j+1,by omega,by omega,Le.fm (by simp(disch:=omega)[aR,hC,Li.vH cI (show j<(kH p y).length by omega),AZ aP])⟩
  ·obtain rfl:j=p.ab.length:=by omega
   simp;exact⟨by omega,by rw[aud (by simp;omega),aud (by simp;omega)]⟩
theorem GQ(p:aB)(h:As p)(hw:cT p)(hr:p.rows.length<=120)(hc:p.ab.length<=120)(y:List Rat)(g:OI p y)(hl:y.length=p.rows.length):aG awW 162 [bZ p,.ro (y.map cI)] (.bP [cI (l6 p y).at',.val (.bool (l6 p y).has)]):=by
 have nr:=h.nr;have pl:=vE p y;refine aj Tryz.func162 rfl (by simp) (λC hC=>?_);simp;refine asl (uy p.shift) ?_;simp;refine aa.bM (ι:=Nat) (λi=>⟨79,[(1,.ro (y.map cI)),(2,.ptr 0 0 0),(4,.ptr 1 0 0),(6,.ptr 2 0 0),(7,iv i)],[some ⟨7,[bZ p],false⟩,some ⟨4,[.agg [.val (.bool false),.val (.slice none 0 0),.val (.bool false),.val (.slice none 0 0)]],false⟩,some ⟨10,[zL (zK p y i)],false⟩]⟩)
  (λi=>i<=p.rows.length) (λi=>p.rows.length - i) 0 (by simp) ?_ ?_
 ·simp[aR,hC,zK];done
 ·rintro i hi;by_cases aP:i<p.rows.length
  ·have w1:=g.r i (by omega);have w2:=hw.ro i aP;have w3:=g.w i (by omega);simp(disch:=omega)[aP];repeat refine asi ?_
   refine aa.asj (.qs [0,1,2,3,4,5,6,7,8,9,10,11,12,13,14,15,16]<|.l 17 []<|.l 18 [2]<|.nil) ?_;simp(disch:=omega)[aP,cS,iR];repeat refine asi ?_
   refine asl (tu (zK p y i) (gt p.rows i).low (gt p.rows i).high (gt y i) ⟨ao w1.1 (by omega),ao w1.2 (by omega)⟩ (ao w2.1 (by omega)) (ao w2.2 (by omega)) (ao w3 (by omega)) ⟨ao (cx w2.1 w3 (by omega)) (by omega),ao (cx w2.2 w3 (by omega)) (by omega)⟩) ?_;simp(disch:=omega)[aK];repeat refine asi ?_
   exact⟨i+1,by omega,by omega,Le.fm (by simp(disch:=omega)[aR,hC,zK])⟩
  ·obtain rfl:i=p.rows.length:=by omega
   simp;refine asl (Ev p h hw hr hc y g hl) ?_;simp;refine aa.bM (ι:=Nat) (λj=>⟨79,[(1,.ro (y.map cI)),(2,.ptr 0 0 0),(4,.ptr 1 0 0),(6,.ptr 2 0 0),(8,.ro ((kH p y).map cI)),(9,iv j)],[some ⟨7,[bZ p],false⟩,some ⟨4,[.agg [.val (.bool false),.val (.slice none 0 0),.val (.bool false),.val (.slice none 0 0)]],false⟩,some ⟨10,[zL (zJ p y j)],false⟩]⟩)
    (λj=>j<=p.ab.length) (λj=>p.ab.length - j) 0 (by simp) ?_ ?_
   ·simp[aR,hC,zJ]
   ·rintro j hj;by_cases af:j<p.ab.length
    ·have w1:=g.c j (by omega);have w2:=hw.co j af;have w3:=g.e j af;simp(disch:=omega)[af];repeat refine asi ?_
     refine aa.asj (.qs [0,1,2,3,4,5,6,7,8,9,10,11,12,13,14,15,16]<|.l 17 []<|.l 18 [2]<|.nil) ?_;simp(disch:=omega)[af,dG,iR,AZ af];repeat refine asi ?_
     refine asl (tu (zJ p y j) (gt p.ab j).low (gt p.ab j).high (dP p y j p.rows.length) ⟨ao w1.1 (by omega),ao w1.2 (by omega)⟩ (ao w2.2.1 (by omega)) (ao w2.2.2 (by omega)) (ao w3 (by omega)) ⟨ao (cx w2.2.1 w3 (by omega)) (by omega),ao (cx w2.2.2 w3 (by omega)) (by omega)⟩) ?_;simp(disch:=omega)[aK];repeat refine asi ?_
     exact⟨j+1,by omega,by omega,Le.fm (by simp(disch:=omega)[aR,hC,zJ])⟩
    ·obtain rfl:j=p.ab.length:=by omega
     simp;have hk:=OA p y;refine⟨λhm=>?_,λhm=>?_⟩
     ·rw[show(zJ p y p.ab.length).hi=l6 p y by unfold l6;rw[if_pos hm]];generalize l6 p y=b at *;refine⟨λh1=>?_,λh1=>?_⟩
      ·refine ae (s7) (by simp) ?_;simp[h1,hk h1]
      ·simp[h1,kS h1]
     ·rw[show(zJ p y p.ab.length).lo=l6 p y by unfold l6;rw[if_neg (by simp[hm])]];generalize l6 p y=b at *;refine⟨λh1=>?_,λh1=>?_⟩
      ·refine ae (s7) (by simp) ?_;simp[h1,hk h1]
      ·simp[h1,kS h1]
end Go.Proofs
set_option maxRecDepth 10000
namespace Go.Proofs
open Go.Sv Go Go.Tb Go.Pl Go.Ut Go.Li Go.Mx Go.Dt Go.Sx
theorem JJ(p:aB)(h:As p)(h7:p.ab.length<=7)(r7:p.rows.length<=7)(hw:cT p)(hv:bh p=0)(c:j0)(hc:ZX p c)(hk:c.kind=1):aG awW 112 [bZ p,zM c] (cX (pP p c)):=by
 have nr:=h.nr;have ny:=hc.ny;have av:=hc.nr;obtain⟨v1,v2,v3⟩:=jF hv;refine aj Tryz.func112 rfl (by simp) (λC hC=>?_);simp;refine asl (vQ p h7 r7 hw hv c.x hc.x) ?_;simp;refine⟨λh1=>⟨λh2=>?_,λh2=>?_⟩,λh1=>by simp[pP,h1]⟩
 ·have hy:c.y.length=p.rows.length:=by omega
  refine⟨λh3=>?_,λh3=>?_⟩
  ·have:c.jP≠[]:=λe=>by rw[e]at h3;simp at h3
   simp[pP,this]
  have hx:c.x.length=p.ab.length:=by unfold ka at h1;simp only[Bool.and_eq_true,decide_eq_true_eq]at h1;exact h1.1
  have lw:=hc.lim hk;have wv:=tB hw hc.x (by omega) (by omega) p.ab.length (by omega);have wl:kc (l6 p c.y).at':=by
   have:=lw.c p.ab.length (by omega);unfold l6;split
   ·exact ao (by assumption:NY _ _).2 (by omega)
   ·exact ao (by assumption:NY _ _).1 (by omega)
  refine asl (F9 p h7 hw c.x hc.x hx) ?_;simp;refine asl (GQ p h hw v1 v2 c.y lw hy) ?_;simp;refine⟨λh4=>by simp[pP,h4],λh4=>?_⟩;refine asl (Fm _ c.value (ao wv (by omega)) (ao hc.v (by omega))) ?_;simp;refine asl (Fm (l6 p c.y).at' c.value wl (ao hc.v (by omega))) ?_;simp;have hb:∀a b:Bool,a=b↔(a=true↔b=true):=λa b=>by cases a<;>cases b<;>simp
  rw[hb];simp[pP,h1,hy,h3,h4];grind
 ·have:¬c.y.length=p.rows.length:=by omega
  simp[pP,this]
theorem KK(p:aB)(h:As p)(h7:p.ab.length<=7)(r7:p.rows.length<=7)(hw:cT p)(hv:bh p=0)(c:j0)(hc:ZX p c):aG awW 114 [bZ p,zM c] (cX (rh p c)):=by
 have nc:=h.nc;have nr:=h.nr;have ny:=hc.ny;have av:=hc.nr;refine aj Tryz.func114 rfl (by simp) (λC hC=>?_);simp;refine asl (vQ p h7 r7 hw hv c.x hc.x) ?_;simp;refine asl (JY c.value) ?_;simp;have IB:=λj (hj:j<p.ab.length) (e:xv p c.jP j=false)=>show rh p c=false by unfold rh;rw[BC hj e];simp
 have FW:=λj (hj:j<p.rows.length) (e:DZ p c.jP j=false)=>show rh p c=false by unfold rh;rw[BC hj e];simp
 refine⟨λh1=>⟨λh2=>⟨λh3=>⟨λh4=>by simp[rh,h4],λh4=>?_⟩,λh3=>?_⟩,λh2=>?_⟩,λh1=>by simp[rh,h1]⟩
 ·have hl:c.jP.length=p.ab.length:=by omega
  refine asl (s7) ?_;simp;refine aa.bM (ι:=Nat) (λj=>⟨133,[(2,.ptr 0 0 0),(3,.ptr 1 0 0),(7,.ptr 2 0 0),(8,iv j)],[some ⟨7,[bZ p],false⟩,some ⟨8,[zM c],false⟩,some ⟨4,[cI (iE p c.jP j)],false⟩]⟩)
   (λj=>j<=p.ab.length∧∀k,k<j->xv p c.jP k=true) (λj=>p.ab.length - j) 0 (by simp) ?_ ?_
  ·simp[aR,hC,iE];done
  ·rintro j ⟨hj,hb⟩;by_cases aP:j<p.ab.length
   ·have w1:=E8 hw hc.r (by omega) j (by omega);have w2:=hc.r j (by omega);have w3:=(hw.co j aP).1;have w4:=(hw.co j aP).2;simp(disch:=omega)[aP];repeat refine asi ?_
    refine aa.jZ (.d 12<|.qs [0,1,2,3,4,5,6,7,8,9,10]<|.p 11<|.b (.l 13 [3]<|.nil)) (by kernel_rfl) (by kernel_rfl) (by simp) ?_;simp(disch:=omega)[aP,dG,iR];repeat refine asi ?_
    refine fG (mv _ _ (ao w3 (by omega)) (ao w2 (by omega))) (by simp) ?_;simp;refine asl (mi _ _ (ao w1 (by omega)) (ao (cx w3 w2 (by omega)) (by omega))) ?_;simp;refine aa.asj (.qs [0,1,2,3,4,5,6,7,8,9,10,11,12,13,14,15,16]<|.l 17 []<|.qs [18]<|.nil) ?_;simp(disch:=omega)[aP,dG,iR];repeat refine asi ?_
    refine asl (Hm (gt p.ab j).low (gt p.ab j).high (gt c.jP j)) ?_;simp(disch:=omega)[aK];repeat refine asi ?_
    exact⟨λq=>IB j aP q,λq=>⟨j+1,⟨by omega,Ro hb q⟩,by omega,Le.fm (by simp(disch:=omega)[aR,hC,iE])⟩⟩
   ·obtain rfl:j=p.ab.length:=by omega
    simp;refine aa.bM (ι:=Nat) (λi=>⟨133,[(2,.ptr 0 0 0),(3,.ptr 1 0 0),(7,.ptr 2 0 0),(11,iv i)],[some ⟨7,[bZ p],false⟩,some ⟨8,[zM c],false⟩,some ⟨4,[cI (iE p c.jP p.ab.length)],false⟩]⟩)
     (λi=>i<=p.rows.length∧∀k,k<i->DZ p c.jP k=true) (λi=>p.rows.length - i) 0 (by simp) ?_ ?_
    ·simp[aR,hC]
    ·rintro i ⟨hi,hr⟩;by_cases aP:i<p.rows.length
     ·have to:=yG hw hv hl aP;have nt:(gt p.rows i).aC.length<=7:=by
       rcases Sx.sR (mX hv aP) (by omega)with q | q
       ·omega
       ·rw[q];simp
      simp(disch:=omega)[aP];repeat refine asi ?_
      refine aa.jZ (.d 8<|.qs [0,1,2,3,4,5,6]<|.p 7<|.b (.l 9 [3]<|.nil)) (by kernel_rfl) (by kernel_rfl) (by simp) ?_;simp(disch:=omega)[aP,cS];repeat refine asi ?_
      refine fG (E7 (gt p.rows i) nt c.jP hc.r to) (by simp) ?_;simp;refine aa.asj (.qs [0,1,2,3,4,5,6,7,8,9,10,11,12]<|.l 13 []<|.qs [14]<|.nil) ?_;simp(disch:=omega)[aP,cS];repeat refine asi ?_
      refine asl (Hm (gt p.rows i).low (gt p.rows i).high (fY p c.jP i)) ?_;simp(disch:=omega)[aK];repeat refine asi ?_
      exact⟨λq=>FW i aP q,λq=>⟨i+1,⟨by omega,Ro hr q⟩,by omega,Le.fm (by simp(disch:=omega)[aR,hC])⟩⟩
     ·obtain rfl:i=p.rows.length:=by omega
      simp;refine asl (JY (iE p c.jP p.ab.length)) ?_;simp;have eC:=qE hb;have eR:=qE hr;have e0:rh p c=(decide (iE p c.jP p.ab.length≠0)&&(decide (0<iE p c.jP p.ab.length)==p.max)):=by unfold rh;rw[eC,eR];simp[h1,hl,h3,h4]
      rw[e0,<-Ok];generalize iE p c.jP p.ab.length=g
      repeat' (apply And.intro<;>intro _)
      all_goals first | (simp[*];done) | (exfalso;grind)
 ·have:c.y≠[]:=λe=>by rw[e]at h3;simp at h3
  simp[rh,this]
 ·have:¬c.jP.length=p.ab.length:=by omega
  simp[rh,this]
theorem JF(p:aB)(h:As p)(h7:p.ab.length<=7)(r7:p.rows.length<=7)(hw:cT p)(hv:bh p=0)(c:j0)(hc:ZX p c)(hk:c.kind=2):aG awW 113 [bZ p,zM c] (cX (Li.lQ p c)):=by
 have nc:=h.nc;have nr:=h.nr;have ny:=hc.ny;have nx:=hc.nx;have av:=hc.nr;have yw:=hc.no hk;refine aj Tryz.func113 rfl (by simp) (λC hC=>?_);simp;refine asl (JY c.value) ?_;simp;refine⟨λh1=>⟨λh2=>⟨λh3=>by simp[Li.lQ,h3],λh3=>⟨λh4=>?_,λh4=>?_⟩⟩,λh2=>?_⟩,λh1=>?_⟩
 ·refine ae (DO p h hw) (by simp) ?_;simp[Li.lQ,h1,h2,h3,h4]
 ·refine⟨λh5=>?_,λh5=>?_⟩
  ·have:¬c.y.length=p.rows.length:=by omega
   simp[Li.lQ,h4,this]
  ·have hl:c.y.length=p.rows.length:=by omega
   obtain⟨v1,v2,v3⟩:=jF hv;have gw:∀j,j<p.ab.length->∀i,i<=p.rows.length->qw 1205000000 (gS p c.y j i):=λj hj i hi=>ay (TC hw (by omega) yw (by omega) hj i hi) (by omega);have cw:=λj (hj:j<=p.ab.length)=>Fs hw (y:=c.y) (λj hj=>gw j hj _ (asN _)) j hj;have nw:=λi (hi:i<=p.rows.length)=>Dj hw yw (by omega) i hi;refine asl (s7) ?_;simp;refine asl (uy 0) ?_;simp;refine aa.bM (ι:=Nat) (λi=>⟨139,[(2,.ptr 0 0 0),(3,.ptr 1 0 0),(6,.ptr 2 0 0),(7,iv i)],[some ⟨7,[bZ p],false⟩,some ⟨8,[zM c],false⟩,some ⟨10,[zL (FW p c.y i)],false⟩]⟩)
    (λi=>i<=p.rows.length) (λi=>p.rows.length - i) 0 (by simp) ?_ ?_
   ·simp[aR,hC,FW];done
   ·rintro i hi;by_cases aP:i<p.rows.length
    ·have w1:=nw i (by omega);have w2:=hw.ro i aP;have w3:=yw i (by omega);simp(disch:=omega)[aP];repeat refine asi ?_
     refine aa.asj (.qs [0,1,2,3,4,5,6,7,8,9,10,11,12,13,14,15,16,17]<|.l 18 []<|.l 19 [2]<|.nil) ?_;simp(disch:=omega)[aP,cS,iR];repeat refine asi ?_
     refine asl (tu (FW p c.y i) (gt p.rows i).low (gt p.rows i).high (gt c.y i) ⟨ao w1.1 (by omega),ao w1.2 (by omega)⟩ (ao w2.1 (by omega)) (ao w2.2 (by omega)) (ao w3 (by omega)) ⟨ao (cx w2.1 w3 (by omega)) (by omega),ao (cx w2.2 w3 (by omega)) (by omega)⟩) ?_;simp(disch:=omega)[aK];repeat refine asi ?_
     exact⟨i+1,by omega,by omega,Le.fm (by simp(disch:=omega)[aR,hC,FW])⟩
    ·obtain rfl:i=p.rows.length:=by omega
     simp;refine asl (s7) ?_;simp;refine asl (uy 0) ?_;simp;refine aa.bM (ι:=Nat) (λj=>⟨139,[(2,.ptr 0 0 0),(3,.ptr 1 0 0),(6,.ptr 2 0 0),(8,.ptr 3 0 0),(9,iv j)],[some ⟨7,[bZ p],false⟩,some ⟨8,[zM c],false⟩,some ⟨10,[zL (FW p c.y p.rows.length)],false⟩,some ⟨10,[zL (IB p c.y j)],false⟩]⟩)
      (λj=>j<=p.ab.length) (λj=>p.ab.length - j) 0 (by simp) ?_ ?_
     ·simp[aR,hC,IB];done
     ·rintro j hj;by_cases af:j<p.ab.length
      ·simp(disch:=omega)[af];repeat refine asi ?_
       refine asl (s7) ?_;simp;refine aa.bM (ι:=Nat) (λi=>⟨139,[(2,.ptr 0 0 0),(3,.ptr 1 0 0),(6,.ptr 2 0 0),(8,.ptr 3 0 0),(9,iv j),(10,.ptr 4 0 0),(11,iv i)],[some ⟨7,[bZ p],false⟩,some ⟨8,[zM c],false⟩,some ⟨10,[zL (FW p c.y p.rows.length)],false⟩,some ⟨10,[zL (IB p c.y j)],false⟩,some ⟨4,[cI (gS p c.y j i)],false⟩]⟩)
        (λi=>i<=p.rows.length) (λi=>p.rows.length - i) 0 (by simp) ?_ ?_
       ·simp[aR,hC,gS];done
       ·rintro i hi;by_cases ah:i<p.rows.length
        ·have w1:=gw j af i (by omega);have w2:qw 2200 (cW (gt p.rows i).aC j):=qK (by omega) (hw.te i ah);have w3:=yw i (by omega);simp(disch:=omega)[ah];repeat refine asi ?_
         refine aa.jZ (.d 13<|.qs [0,1,2,3,4,5,6,7,8,9,10]<|.p 11<|.p 12<|.b (.l 14 [5]<|.nil)) (by kernel_rfl) (by kernel_rfl) (by simp) ?_;simp(disch:=omega)[ah,cS,iR];repeat refine asi ?_
         refine fG (AR (gt p.rows i) (h.nt i ah) j (by omega)) (by simp) ?_;simp;refine fG (mv (gt c.y i) (cW (gt p.rows i).aC j) (ao w3 (by omega)) (ao w2 (by omega))) (by simp) ?_;simp;refine asl (mi (gS p c.y j i) (gt c.y i*cW (gt p.rows i).aC j) (ao w1 (by omega)) (ao (cx w3 w2 (by omega)) (by omega))) ?_;simp(disch:=omega)[aK];repeat refine asi ?_
         exact⟨i+1,by omega,by omega,Le.fm (by simp(disch:=omega)[aR,hC,gS])⟩
        ·obtain rfl:i=p.rows.length:=by omega
         have w1:=cw j (by omega);have w2:=hw.co j af;have w3:=gw j af p.rows.length (asN _);have ge:=Is (y:=c.y) af p.rows.length;simp(disch:=omega)[];repeat refine asi ?_
         refine aa.asj (.qs [0,1,2,3,4,5,6,7,8,9,10,11,12,13]<|.l 14 []<|.l 15 [3]<|.nil) ?_;simp(disch:=omega)[af,dG];repeat refine asi ?_
         refine asl (tu (IB p c.y j) (gt p.ab j).low (gt p.ab j).high (gS p c.y j p.rows.length) ⟨ao w1.1 (by omega),ao w1.2 (by omega)⟩ (ao w2.2.1 (by omega)) (ao w2.2.2 (by omega)) (ao w3 (by omega)) ⟨ao (cx w2.2.1 w3 (by omega)) (by omega),ao (cx w2.2.2 w3 (by omega)) (by omega)⟩) ?_;simp(disch:=omega)[aK];repeat refine asi ?_
         exact⟨j+1,by omega,by omega,Le.fm (by simp(disch:=omega)[aR,hC,IB,ge])⟩
      ·obtain rfl:j=p.ab.length:=by omega
       have wr:=nw p.rows.length (by omega);have wc:=cw p.ab.length (by omega);simp;have e0:Li.lQ p c=pJ p c.y:=by unfold Li.lQ;rw[if_neg (by simpa using h4)];simp[h1,h2,h3,hl]
       rw[e0];refine⟨λq1=>⟨λq2=>by simp[pJ,An,q1,q2],λq2=>?_⟩,λq1=>by simp[pJ,An,q1]⟩;rw[kS q1,kS q2];refine asl (Fm _ _ (ao wr.1 (by omega)) (ao wc.2 (by omega))) ?_;simp[pJ,An,q1,q2]
 ·have:c.jP≠[]:=λe=>by rw[e]at h2;simp at h2
  simp[Li.lQ,this]
 ·have:c.x≠[]:=λe=>by rw[e]at h1;simp at h1
  simp[Li.lQ,this]
theorem F7(p:aB)(h:As p)(h7:p.ab.length<=7)(r7:p.rows.length<=7)(hw:cT p)(hv:bh p=0)(c:j0)(hc:ZX p c):aG awW 72 [bZ p,zM c] (cX (ri p c)):=by
 refine aj Tryz.func72 rfl (by simp) (λC hC=>?_);simp;refine⟨λh1=>?_,λh1=>⟨λh2=>?_,λh2=>⟨λh3=>?_,λh3=>?_⟩⟩⟩
 ·refine ae (JJ p h h7 r7 hw hv c hc h1) (by simp) ?_;simp[ri,h1]
 ·refine ae (JF p h h7 r7 hw hv c hc h2) (by simp) ?_;simp[ri,h2]
 ·refine ae (KK p h h7 r7 hw hv c hc) (by simp) ?_;simp[ri,h3]
 ·simp[ri,h1,h2,h3]
end Go.Proofs
set_option maxRecDepth 10000
namespace Go.Sx
open Go Go.Sv Go.Pl Go.Proofs Go.Tb Go.Ut Go.Mx Go.Li Go.Dt
section
variable {c:Tc} {K:(Nat->Rat)->Prop} {s:Tb}
end
def Qh(c:j0):tW:=⟨c.kind,pc c.x,pc c.y,pc c.jP,m8 c.value⟩
theorem KR{q:Rat}(h:Proofs.qw 8430000000 q):(m8 q).size<=168600000010:=by
 have h1:=L5 h.1;have h2:=L5 h.2;unfold m8;split
 ·omega
 ·rw[eO,eO];have:(⟨#[47]⟩:ByteArray).size=1:=rfl;omega
end Go.Sx
namespace Go.Proofs
open Go.Sv Go Go.Tb Go.Pl Go.Ut Go.Li Go.Mx Go.Dt Go.Sx
theorem uZ(q:Rat)(h:qw 8430000000 q):aG awW 81 [.val (.string (m8 q))] (.bP [cI q,fC 0 (-1)]):=by
 have hz:=KR h;have g:=Ba (m8 q) ((m8 q).size+1) (by omega) (by omega) (by omega);rw[Oc q (by omega)]at g;rw[show iW (q,0,0)=.bP [cI q,fC 0 (-1)] by simp[iW,fC]]at g;refine aj Tryz.func81 rfl (by simp) (λC hC=>?_);simp(disch:=omega)[aK];repeat refine asi ?_
 refine asl (g) ?_;simp[fC]
theorem rT(l:List Rat)(hl:l.length<=1048576)(h:Wd 8430000000 l):aG awW 60 [.ro ((pc l).map eF)] (.bP [.ro (l.map cI),.val (.bool true)]):=by
 have hz:(pc l).length=l.length:=by simp
 refine aj Tryz.func60 rfl (by simp) (λC hC=>?_);simp;refine aa.nil 4 4 rfl ?_;refine aa.bM (ι:=Nat × List Rat) (λ⟨i,xs⟩=>⟨30,[(0,.ro ((pc l).map eF)),(4,.view 0 0 xs.length),(5,iv i)],[some ⟨4,xs.map cI,false⟩]⟩)
  (λ⟨i,xs⟩=>i<=l.length∧xs=l.take i) (λ⟨i,xs⟩=>l.length - i) (0,[]) (by simp) ?_ ?_
 ·simp[aR,hC]
 ·rintro⟨i,xs⟩ ⟨hi,hx⟩;have aD:xs.length=i:=by rw[hx];simp;omega
  by_cases aP:i<l.length
  ·have e:gt (pc l) i=m8 (gt l i):=by unfold pc;rw[jj _ aP]
   have e2:aL ((pc l).map eF) i=.val (.string (m8 (gt l i))):=by rw[mQ (by omega),e];rfl
   have e3:=fO aP;rw[<-hx]at e3;simp(disch:=omega)[aP,e2];repeat refine asi ?_
   refine asl (uZ (gt l i) (h i aP)) ?_;simp(disch:=omega)[fC,aK];repeat refine asi ?_
   exact⟨⟨by simp[hC],by omega⟩,i+1,xs++[gt l i],⟨by omega,e3.symm⟩,by omega,Le.fm (by simp(disch:=omega)[aR,hC])⟩
  ·obtain rfl:i=l.length:=by omega
   rw[aud (by simp)]at hx;simp[hx,aud]
theorem z8(c:j0)(hx:UO c.x)(hy:UO c.y)(hr:UO c.jP)(hv:kc c.value):aG awW 71 [mn c] (JW (Qh c)):=by have g1:=uQ c.x hx;have g2:=uQ c.y hy;have g3:=uQ c.jP hr;have g4:=sF c.value hv;refine aj Tryz.func71 rfl (by simp) (λC hC=>?_);simp;refine aa.asj (.qs [0,1,2,3,5,6,8,9,11,12]<|.l 4 []<|.l 7 []<|.l 10 []<|.l 13 []<|.qs [14]<|.l 15 [1]<|.nil) ?_;simp;refine asl (g1) ?_;simp;refine asl (g2) ?_;simp;refine asl (g3) ?_;simp;refine asl (g4) ?_;simp;exact j8 _ _ rfl
theorem zY(c:j0)(hx:Wd 8430000000 c.x)(hy:Wd 8430000000 c.y)(hr:Wd 8430000000 c.jP)(hv:qw 8430000000 c.value)(nx:c.x.length<=1048576)(ny:c.y.length<=1048576)(nr:c.jP.length<=1048576):aG awW 70 [JW (Qh c)] (.bP [zM c,.val (.bool true)]):=by have g1:=rT c.x nx hx;have g2:=rT c.y ny hy;have g3:=rT c.jP nr hr;have g4:=uZ c.value hv;refine aj Tryz.func70 rfl (by simp) (λC hC=>?_);simp;refine asl (g1) ?_;simp;refine asl (g2) ?_;simp;refine asl (g3) ?_;simp;refine asl (g4) ?_;simp[fC];refine aa.asj (.qs [0,1,2,3,4,5,6,7,8,9,10,11,12,13,14,15]<|.q 16 [1]<|.qs [17,18]<|.l 19 [1]<|.qs [20]<|.nil) ?_;simp;exact j8 _ _ rfl
end Go.Proofs


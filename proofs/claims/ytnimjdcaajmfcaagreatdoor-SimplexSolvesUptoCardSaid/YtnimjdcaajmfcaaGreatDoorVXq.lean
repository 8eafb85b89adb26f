/- A text of the prover's own. -/
import Derived.Test.YtnimjdcaajmfcaaGreatDoorVXm
import Derived.Test.YtnimjdcaajmfcaaGreatDoorVKu
open Nat renaming mul_add->ayY,le_refl->axq,mul_le_mul_left->ay1
open List renaming length_take->aAc,range->ayq,length_map->ay3,take_of_length_le->aAp
open Go.Proofs.Tryz renaming prog->ay9
namespace Go.Sx
open Go Go.Sv Go.Pl Go.Proofs Go.Tb Go.Ut Go.Mx Go.Li Go.Dt
theorem EX{x:List Rat}{V:Nat}(hx:Wd V x){ts:List Term}(ht:∀k,k<ts.length->Proofs.qw 2200 (gt ts k).num∧0<=(gt ts k).iP∧(gt ts k).iP<x.length):∀k,k<=ts.length->Proofs.qw (1+(2200+V+1)*k) (AM x ts k)
 | 0,_=>ax (fG (n:=0) (by omega) (by omega)) (by omega)
 | k+1,hk=>by obtain⟨h1,h2,h3⟩:=ht k (by omega);exact ax (kX (EX hx ht k (by omega)) (cy h1 (hx _ (by omega)) (by omega))) (by rw[ayY];omega)
theorem Ix{p:aB}(hw:cW p){y:List Rat}{V:Nat}(hV:1<=V)(hy:Wd V y)(hl:p.rows.length<=y.length){j:Nat}(hj:j<p.ai.length):∀i,i<=p.rows.length->Proofs.qw (2200+(V+2200+1)*i) (dP p y j i)
 | 0,_=>ax (hw.co j hj).1 (by omega)
 | i+1,hi=>by have h1:=Ix hw hV hy hl hj i (by omega);have h2:=cy (hy i (by omega)) (rO (by omega) (hw.te i (by omega)):Proofs.qw 2200 (cY (gt p.rows i).aI j)) (by omega);exact ax (qd h1 h2) (by rw[ayY];omega)
theorem WD{p:aB}(hw:cW p){y:List Rat}{V:Nat}(hV:1<=V)(hy:Wd V y)(hl:p.rows.length<=y.length){j:Nat}(hj:j<p.ai.length)(i:Nat)(hi:i<=p.rows.length):Proofs.qw (2200+(V+2200+1)*i) (gS p y j i):=by rw[J8 hj];exact fh (Ix (Jg hw) hV hy (show(free p).rows.length<=y.length from hl) (show j<(free p).ai.length by rw[Da];exact hj) i hi)
theorem Hs{p:aB}(hw:cW p){x:List Rat}{V:Nat}(hx:Wd V x)(hl:p.ai.length<=x.length):∀j,j<=p.ai.length->Proofs.qw (1+(2200+V+1)*j) (jc p x j)
 | 0,_=>ax (fG (n:=0) (by omega) (by omega)) (by omega)
 | j+1,hj=>ax (kX (Hs hw hx hl j (by omega)) (cy (hw.co j (by omega)).1 (hx j (by omega)) (by omega))) (by rw[ayY];omega)
theorem GR{p:aB}(hw:cW p){y:List Rat}{V:Nat}(hy:Wd V y)(hl:p.rows.length<=y.length):∀i,i<=p.rows.length->QS (1+(2200+V+1)*i) (JS p y i)
 | 0,_=>⟨ax (fG (n:=0) (by omega) (by omega)) (by omega),ax (fG (n:=0) (by omega) (by omega)) (by omega)⟩
 | i+1,hi=>by have h:=vN (GR hw hy hl i (by omega)) (hw.ro i (by omega)).1 (hw.ro i (by omega)).2 (hy i (by omega)) (by omega);exact⟨ax h.1 (by rw[ayY];omega),ax h.2 (by rw[ayY];omega)⟩
theorem Gb{p:aB}(hw:cW p){y:List Rat}{G:Nat}(hg:∀j,j<p.ai.length->Proofs.qw G (gS p y j p.rows.length)):∀j,j<=p.ai.length->QS (1+(2200+G+1)*j) (Me p y j)
 | 0,_=>⟨ax (fG (n:=0) (by omega) (by omega)) (by omega),ax (fG (n:=0) (by omega) (by omega)) (by omega)⟩
 | j+1,hj=>by have e:=J8 (y:=y) (show j<p.ai.length by omega) p.rows.length;have h:=vN (Gb hw hg j (by omega)) (hw.co j (by omega)).2.1 (hw.co j (by omega)).2.2 (hg j (by omega)) (by omega);rw[e]at h;exact⟨ax h.1 (by rw[ayY];omega),ax h.2 (by rw[ayY];omega)⟩
structure Sd(p:aB)(y:List Rat):Prop where
 w:Wd 1300000000 y
 d:∀j,j<p.ai.length->∀i,i<=p.rows.length->Proofs.qw 10000000000 (dP p y j i)
 e:∀j,j<p.ai.length->Proofs.qw 1300000000 (dP p y j p.rows.length)
 r:∀i,i<=p.rows.length->QS 10000000000 (BG p y i)
 c:∀j,j<=p.ai.length->QS 10000000000 (BJ p y j)
structure ClG(p:aB)(c:kB):Prop where
 x:Wd 1300000000 c.x
 r:Wd 1300000000 c.kj
 v:Proofs.qw 10000000000 c.value
 nx:c.x.length<=1048576
 ny:c.y.length<=1048576
 nr:c.kj.length<=1048576
 lim:c.kind=1->Sd p c.y
 no:c.kind=2->Wd 172000000 c.y
theorem Nx{P Q:Nat->Bool}:∀k,(∀i,i<k->P i=true->Q i=true)->nz P k<=nz Q k
 | 0,_=>axq _
 | k+1,h=>by
  have:=Nx k λi hi=>h i (by omega);have:=h k (by omega);simp only[nz];cases e:P k with
  | false=>simp;omega
  | true=>rw[this e];omega
theorem vH(P:Nat->Bool)(n:Nat):∀m,nz P (n+m)=nz P n+nz (λi=>P (n+i)) m
 | 0=>rfl
 | m+1=>by have e:nz P (n+(m+1))=nz P (n+m)+if P (n+m)=true then 1 else 0:=rfl;rw[e,vH P n m];simp only[nz];omega
theorem H9{p:aB}(hw:cW p){y:List Rat}{V:Nat}(hy:Wd V y)(hl:p.rows.length<=y.length):∀i,i<=p.rows.length->QS (2200+(2200+V+1)*nz (λq=>decide (gt y q≠0)) i) (BG p y i)
 | 0,_=>⟨hw.sh,hw.sh⟩
 | i+1,hi=>by
  have ih:=H9 hw hy hl i (by omega);simp only[nz];by_cases z:gt y i=0
  ·have e:BG p y (i+1)=BG p y i:=by show eY _ _ _ _=_;unfold eY;rw[if_pos z]
   rw[e];simpa[z]using ih
  ·have h:=vN ih (hw.ro i (by omega)).1 (hw.ro i (by omega)).2 (hy i (by omega)) (by omega);rw[if_pos (by simpa using z),ayY];exact⟨ax h.1 (by omega),ax h.2 (by omega)⟩
theorem Oe{p:aB}(hw:cW p){y:List Rat}{V:Nat}(hy:Wd V y)(hl:p.rows.length<=y.length)(hd:∀j,j<p.ai.length->Proofs.qw V (dP p y j p.rows.length)):∀j,j<=p.ai.length->QS (2200+(2200+V+1)*(nz (λq=>decide (gt y q≠0)) p.rows.length+nz (λq=>decide (dP p y q p.rows.length≠0)) j)) (BJ p y j)
 | 0,_=>H9 hw hy hl p.rows.length (axq _)
 | j+1,hj=>by
  have ih:=Oe hw hy hl hd j (by omega);simp only[nz];by_cases z:dP p y j p.rows.length=0
  ·have e:BJ p y (j+1)=BJ p y j:=by show eY _ _ _ _=_;unfold eY;rw[if_pos z]
   rw[e];simpa[z]using ih
  ·have h:=vN ih (hw.co j (by omega)).2.1 (hw.co j (by omega)).2.2 (hd j (by omega)) (by omega);rw[if_pos (by simpa using z),<-Nat.add_assoc,ayY _ _ 1];exact⟨ax h.1 (by omega),ax h.2 (by omega)⟩
section
variable {p:aB} {n m N:Nat}
theorem Vj{c:Tc}{K:(Nat->Rat)->Prop}{s:Tb}(hc:qe c)(hW:HW c K)(hV:Wd 2200 c.cost)(h:fm c K s){k:Nat}(hk:k<c.N):Proofs.qw 1203142608 (jg c s k):=by
 have h7:=hc.m7;unfold jg;split
 ·exact Proofs.cC (by omega)
 ·refine ax (ED (V:=2200) (W:=171875000) (hV k (by rw[hc.co];exact hk)) c.m (λi hi=>⟨hV _ (by rw[hc.co];exact h.d.bl i hi),?_⟩) (by omega)) (by have:=Nat.mul_le_mul_right (171875000+2200+1) h7;omega);exact hW _ _ h.d h.t.Rr i hi k (by rw[h.t.Rr i hi];exact hk)
theorem aco(hn:p.ai.length=n)(hm:p.rows.length=m)(hN:n+m=N)(n7:n<=7)(m7:m<=7)(hw:cW p)(hv:bA p=0){s:Tb}(h:fm (bC p n m N) (Kp p n m) s){y:List Rat}(hl:y.length=m)(hy:∀i,i<m->gt y i=sg p*jg (bC p n m N) s (n+i)):Sd p y:=by
 have an:=EJ hn hm hN (by omega) m7;have ak:Wd 2200 (bC p n m N).cost:=λk hk=>by
  have hk:k<N:=by rw[an.co]at hk;exact hk
  rw[o6 hk];have:Proofs.qw 2200 (db p n k):=by
   unfold db;split
   ·exact(hw.co k (by omega)).1
   ·exact Proofs.cC (by omega)
  split
  ·exact fh this
  ·exact this
 have ao:=λk (hk:k<N)=>Vj an (NR hm hw m7 hN) ak h (k:=k) hk;have ap:∀q:Rat,Proofs.qw 1203142608 q->Proofs.qw 1203142608 (sg p*q):=λq hq=>by
  unfold sg;split
  ·have:(-1:Rat)*q = -q:=by grind
   rw[this];exact fh hq
  ·have:(1:Rat)*q=q:=by grind
   rw[this];exact hq
 have dp:=λj (hj:j<n)=>Iv hN h hy hj;have yw:Wd 1203142608 y:=λi hi=>by rw[hy i (by omega)];exact ap _ (ao _ (by omega))
 have dw:∀j,j<p.ai.length->Proofs.qw 1203142608 (dP p y j p.rows.length):=λj hj=>by rw[hm,dp j (by omega)];exact ap _ (ao _ (by omega))
 have eG:nz (λq=>decide (gt y q≠0)) m+nz (λq=>decide (dP p y q p.rows.length≠0)) n<=7:=by
  have e:=Jh h;replace e:nz (λk=>!decide (gt s.wh k=1)) N+m=N:=e;rw[<-hN,vH]at e;have z:∀k,k<N->gt s.wh k=1->jg (bC p n m N) s k=0:=λk hk g=>if_pos ((h.w k hk).1 g);have a1:nz (λq=>decide (gt y q≠0)) m<=nz (λi=>!decide (gt s.wh (n+i)=1)) m:=Nx m λi hi g=>by
   have g:gt y i≠0:=by simpa using g
   have:gt s.wh (n+i)≠1:=λw=>g (by rw[hy i hi,z _ (by omega) w,Rat.mul_zero]);simpa using this
  have a2:nz (λq=>decide (dP p y q p.rows.length≠0)) n<=nz (λk=>!decide (gt s.wh k=1)) n:=Nx n λk hk g=>by
   have g:dP p y k p.rows.length≠0:=by simpa using g
   have:gt s.wh k≠1:=λw=>g (by rw[hm,dp k hk,z _ (by omega) w,Rat.mul_zero]);simpa using this
  omega
 have al:∀i,i<=m->nz (λq=>decide (gt y q≠0)) i<=7:=λi hi=>by obtain⟨d,rfl⟩:∃d,m=i+d:=⟨m - i,by omega⟩;rw[vH]at eG;omega
 have am:∀j,j<=n->nz (λq=>decide (gt y q≠0)) m+nz (λq=>decide (dP p y q p.rows.length≠0)) j<=7:=λj hj=>by obtain⟨d,rfl⟩:∃d,n=j+d:=⟨n - j,by omega⟩;rw[vH]at eG;omega
 refine⟨λi hi=>ax (yw i hi) (by omega),λj hj i hi=>ax (Ix hw (by omega) yw (by omega) hj i hi) ?_,λj hj=>ax (dw j hj) (by omega),λi hi=>?_,λj hj=>?_⟩
 ·have:=ay1 (1203142608+2200+1) (show i<=7 by omega);omega
 ·have:=H9 hw yw (by omega) i hi;have b:=ay1 (2200+1203142608+1) (al i (by omega));exact⟨ax this.1 (by omega),ax this.2 (by omega)⟩
 ·have:=Oe hw yw (by omega) dw j hj;have b:=ay1 (2200+1203142608+1) (am j (by omega));rw[<-hm]at b;exact⟨ax this.1 (by omega),ax this.2 (by omega)⟩
theorem A5(hn:p.ai.length=n)(hm:p.rows.length=m)(hN:n+m=N)(n7:n<=7)(m7:m<=7)(hw:cW p)(hv:bA p=0){s:Tb}{cl:kB}(h:qy (bC p n m N) (Kp p n m) s cl):ClG p cl∧(Wd 1300000000 cl.y∧Proofs.qw 8430000000 cl.value)∧cl.x.length<=7∧cl.y.length<=7∧cl.kj.length<=7:=by
 obtain⟨_,af,h⟩:=h;have hW:=NR hm hw m7 hN;have az:=Kt hn hm hN hw;have ab:∀V,Wd V ([]:List Rat):=λV i hi=>by simp at hi
 have xl:s.x.length=N:=af.t.x;have xw:Wd 1203140408 (s.x.take n):=λj hj=>by
  have hj:j<n:=by rw[aAc]at hj;omega
  have:=Qf (c:=bC p n m N) az hW af hN n7 (k:=j) (show j<N by omega);have e:gt (s.x.take n) j=gt s.x j:=by simp[gt,hj]
  rw[e];exact this
 have ar:(s.x.take n).length<=7:=by rw[aAc];omega
 have z0:∀V,1<=V->Proofs.qw V 0:=λV hV=>Proofs.cC hV;have au:∀i,i<m->∀k,k<N->Proofs.qw 171875000 (gt (gt s.R i) k):=λi hi k hk=>hW _ _ af.d af.t.Rr i hi k (by rw[af.t.Rr i hi];exact hk);rcases h with⟨cr,rfl⟩ | ⟨_,i,ac,st,rfl⟩ | ⟨_,hf,hb,rfl⟩ | ⟨_,hf,j,up,he,rfl⟩
 ·exact⟨⟨ab _,ab _,z0 _ (by omega),by simp,by simp,by simp,λe=>by simp at e,λ_=>ab _⟩,⟨ab _,z0 _ (by omega)⟩,by simp,by simp,by simp⟩
 ·have yw:Wd 172000000 ((ayq (bC p n m N).m).map (BP (bC p n m N) s i ac)):=λq hq=>by
   have hq:q<m:=by rw[ay3,List.length_range]at hq;exact hq
   have hi:i<m:=st.1;have g:gt ((ayq (bC p n m N).m).map (BP (bC p n m N) s i ac)) q=BP (bC p n m N) s i ac q:=aV _ hq;rw[g];have w1:Proofs.qw 172000000 (-(gt (gt s.R i) (n+q))):=ax (fh (au i hi (n+q) (by omega))) (by omega);have w2:Proofs.qw 172000000 (1:Rat):=ax (fG (n:=1) (by omega) (by omega)) (by omega);unfold BP HI;show Proofs.qw 172000000 (if ac=true then(if gt s.basic i=n+q then(1:Rat) else -(gt (gt s.R i) (n+q))) else -(if gt s.basic i=n+q then(1:Rat) else -(gt (gt s.R i) (n+q))));split
   ·split
    ·exact w2
    ·exact w1
   ·split
    ·exact fh w2
    ·exact fh w1
  have yl:((ayq (bC p n m N).m).map (BP (bC p n m N) s i ac)).length=m:=by simp;rfl
  exact⟨⟨ab _,ab _,z0 _ (by omega),by simp,by show((ayq (bC p n m N).m).map _).length<=_;omega,by simp,λe=>by simp at e,λ_=>yw⟩,⟨λq hq=>ax (yw q hq) (by omega),z0 _ (by omega)⟩,by simp,by show((ayq (bC p n m N).m).map _).length<=_;omega,by simp⟩
 ·have yl:((ayq (bC p n m N).m).map (vP (bC p n m N) s)).length=m:=by simp;rfl
  have lw:=aco hn hm hN n7 m7 hw hv af yl (λi hi=>by have g:gt ((ayq (bC p n m N).m).map (vP (bC p n m N) s)) i=vP (bC p n m N) s i:=aV _ hi;rw[g];exact Nq hN af hi)
  have vw:Proofs.qw 8430000000 (gO p (s.x.take n) n):=by have:=uz hw xw (show p.ai.length<=(s.x.take n).length by rw[aAc];omega) (by omega) n (by omega);have b:=ay1 (2200+1203140408+1) n7;exact ax this (by omega)
  exact⟨⟨λq hq=>ax (xw q hq) (by omega),ab _,ax vw (by omega),by show(s.x.take n).length<=_;omega,by show((ayq (bC p n m N).m).map _).length<=_;omega,by simp,λ_=>lw,λe=>by simp at e⟩,⟨lw.w,vw⟩,ar,by show((ayq (bC p n m N).m).map _).length<=_;omega,by simp⟩
 ·have hj:j<N:=he.1;have rl:(gW (bC p n m N) s j (yD up 1) (bC p n m N).m).length=N:=kP ..;have y1:Proofs.qw 1 (yD up 1):=by
   unfold yD;split
   ·exact fG (n:=1) (by omega) (by omega)
   ·exact fh (fG (n:=1) (by omega) (by omega))
  have aA:∀k,k<N->Proofs.qw 1300000000 (gt (gW (bC p n m N) s j (yD up 1) (bC p n m N).m) k):=λk hk=>by
   have hb:=af.nb he.1 he.2.1;by_cases e:k=j
   ·subst e;rw[vj af he.1 hb _ (axq _)];exact ax y1 (by omega)
   ·by_cases av:∃q,q<(bC p n m N).m∧gt s.basic q=k
    ·obtain⟨q,hq,rfl⟩:=av;rw[rV af he.1 hb hq _ (axq _),if_pos hq];exact ax (cy (au q hq j hj) y1 (by omega)) (by omega)
    ·rw[oC af hk e (λq hq e=>av ⟨q,hq,e⟩) _ (axq _)];exact z0 _ (by omega)
  have aC:Wd 1300000000 ((gW (bC p n m N) s j (yD up 1) (bC p n m N).m).take n):=λk hk=>by
   have hk:k<n:=by rw[aAc]at hk;omega
   have e:gt ((gW (bC p n m N) s j (yD up 1) (bC p n m N).m).take n) k=gt (gW (bC p n m N) s j (yD up 1) (bC p n m N).m) k:=by simp[gt,hk]
   rw[e];exact aA k (by omega)
  have aF:((gW (bC p n m N) s j (yD up 1) (bC p n m N).m).take n).length<=7:=by rw[aAc];omega
  exact⟨⟨λq hq=>ax (xw q hq) (by omega),aC,z0 _ (by omega),by show(s.x.take n).length<=_;omega,by simp,by show((gW (bC p n m N) s j (yD up 1) (bC p n m N).m).take n).length<=_;omega,λe=>by simp at e,λe=>by simp at e⟩,⟨ab _,z0 _ (by omega)⟩,ar,by simp,aF⟩
end
end Go.Sx
set_option maxRecDepth 10000
namespace Go.Proofs
open Go.Sv Go Go.Tb Go.Pl Go.Ut Go.Li Go.Mx Go.Dt Go.Sx
theorem E7(r:Row)(hn:r.aI.length<=7)(x:List Rat)(hx:Wd 1300000000 x)(ht:∀k,k<r.aI.length->qw 2200 (gt r.aI k).num∧0<=(gt r.aI k).iP∧(gt r.aI k).iP<x.length):aE ay9 80 [nV r,.ro (x.map aZ)] (aZ (AM x r.aI r.aI.length)):=by
 refine aj Tryz.func80 rfl (by simp) (λC hC=>?_);simp;refine awI (oh) ?_;simp;refine aa.bB (ι:=Nat) (λk=>⟨34,[(1,.ro (x.map aZ)),(2,.ptr 0 0 0),(4,.ptr 1 0 0),(5,.ptr 2 0 0),(6,iv k)],[some ⟨13,[nV r],false⟩,some ⟨4,[.agg [.val (.bool false),.val (.slice none 0 0),.val (.bool false),.val (.slice none 0 0)]],false⟩,some ⟨4,[aZ (AM x r.aI k)],false⟩]⟩)
  (λk=>k<=r.aI.length) (λk=>r.aI.length - k) 0 (by simp) ?_ ?_
 ·simp[aP,hC,AM]
 ·rintro k hk;by_cases aR:k<r.aI.length
  ·obtain⟨h1,h2,h3⟩:=ht k aR;have w1:=EX hx ht k (by omega);have w2:=hx (gt r.aI k).iP.toNat (by omega);have l3:aM (x.map aZ) (gt r.aI k).iP.toNat=aZ (gt x (gt r.aI k).iP.toNat):=eh (by omega);simp(disch:=omega)[aR];repeat refine awG ?_
   refine aa.jB (.d 14<|.qs [0,1,2,3,4,5,6,7,8,9,10,11,12]<|.p 13<|.b (.l 15 [3]<|.nil)) (by kernel_rfl) (by kernel_rfl) (by simp) ?_;simp(disch:=omega)[aR,wL,xv,l3];repeat refine awG ?_
   refine ff (lF _ _ (aq h1 (by omega)) (aq w2 (by omega))) (by simp) ?_;simp;refine awI (m4 _ _ (aq w1 (by omega)) (aq (cy h1 w2 (by omega)) (by omega))) ?_;simp(disch:=omega)[aD];repeat refine awG ?_
   exact⟨k+1,by omega,by omega,Le.dE (by simp(disch:=omega)[aP,hC,AM])⟩
  ·obtain rfl:k=r.aI.length:=by omega
   simp
theorem Iu(p:aB)(h7:p.ai.length<=7)(hw:cW p)(x:List Rat)(hx:Wd 1300000000 x)(hl:x.length=p.ai.length):aE ay9 82 [bX p,.ro (x.map aZ)] (aZ (gO p x p.ai.length)):=by
 refine aj Tryz.func82 rfl (by simp) (λC hC=>?_);simp;refine aa.bB (ι:=Nat) (λj=>⟨32,[(1,.ro (x.map aZ)),(2,.ptr 0 0 0),(4,.ptr 1 0 0),(5,.ptr 2 0 0),(6,iv j)],[some ⟨7,[bX p],false⟩,some ⟨4,[.agg [.val (.bool false),.val (.slice none 0 0),.val (.bool false),.val (.slice none 0 0)]],false⟩,some ⟨4,[aZ (gO p x j)],false⟩]⟩)
  (λj=>j<=p.ai.length) (λj=>p.ai.length - j) 0 (by simp) ?_ ?_
 ·simp[aP,hC,gO]
 ·rintro j hj;by_cases aR:j<p.ai.length
  ·have w1:=uz hw hx (by omega) (by omega) j (by omega);have w2:=hx j (by omega);have w3:=(hw.co j aR).1;simp(disch:=omega)[aR];repeat refine awG ?_
   refine aa.jB (.d 11<|.qs [0,1,2,3,4,5,6,7,8,9]<|.p 10<|.b (.l 12 [3]<|.nil)) (by kernel_rfl) (by kernel_rfl) (by simp) ?_;simp(disch:=omega)[aR,dc,eh];repeat refine awG ?_
   refine ff (lF _ _ (aq w3 (by omega)) (aq w2 (by omega))) (by simp) ?_;simp;refine awI (m4 _ _ (aq w1 (by omega)) (aq (cy w3 w2 (by omega)) (by omega))) ?_;simp(disch:=omega)[aD];repeat refine awG ?_
   exact⟨j+1,by omega,by omega,Le.dE (by simp(disch:=omega)[aP,hC,gO])⟩
  ·obtain rfl:j=p.ai.length:=by omega
   simp
theorem HT(p:aB)(h7:p.ai.length<=7)(r7:p.rows.length<=7)(hw:cW p)(hv:bA p=0)(x:List Rat)(hx:Wd 1300000000 x)(hl:x.length=p.ai.length)(whole:Bool):aE ay9 30 [bX p,.ro (x.map aZ),dr whole] (dr (gE p x whole)):=by
 refine aj Tryz.func30 rfl (by simp) (λC hC=>?_);simp[hl];refine aa.bB (ι:=Nat) (λj=>⟨89,[(1,.ro (x.map aZ)),(2,dr whole),(3,.ptr 0 0 0),(7,iv j)],[some ⟨7,[bX p],false⟩]⟩)
  (λj=>j<=p.ai.length∧∀k,k<j->Gd p x whole k=true) (λj=>p.ai.length - j) 0 (by simp) ?_ ?_
 ·simp[aP,hC]
 ·rintro j ⟨hj,hb⟩;by_cases aR:j<p.ai.length
  ·have w1:=hx j (by omega);have w2:=hw.co j aR;have no:=Ma (x:=x) (w:=whole) aR;simp(disch:=omega)[aR,dc];repeat refine awG ?_
   refine aa.awH (.qs [0,1,2,3,4,5,6,7]<|.l 8 []<|.qs [9]<|.nil) ?_;simp(disch:=omega)[eh];repeat refine awG ?_
   refine awI (AB (gt x j) (gt p.ai j).low (gt p.ai j).high (aq w1 (by omega)) (aq w2.2.1 (by omega)) (aq w2.2.2 (by omega))) ?_;simp(disch:=omega)[eh];repeat refine awG ?_
   refine awI (xJ (gt x j)) ?_;simp(disch:=omega)[aD];repeat refine awG ?_
   repeat' (apply And.intro<;>intro _)
   all_goals first | exact no (by simp[Gd, *]) | exact⟨j+1,⟨by omega,Zs hb (by simp[Gd, *])⟩,by omega,Le.dE (by simp(disch:=omega)[aP,hC])⟩
  ·obtain rfl:j=p.ai.length:=by omega
   simp;refine aa.bB (ι:=Nat) (λi=>⟨89,[(1,.ro (x.map aZ)),(3,.ptr 0 0 0),(11,iv i)],[some ⟨7,[bX p],false⟩]⟩)
    (λi=>i<=p.rows.length∧∀k,k<i->Tk p x k=true) (λi=>p.rows.length - i) 0 (by simp) ?_ ?_
   ·simp[aP,hC]
   ·rintro i ⟨hi,hr⟩;by_cases aR:i<p.rows.length
    ·have to:=FB hw hv hl aR;have nt:(gt p.rows i).aI.length<=7:=by
      rcases Sx.vR (ob hv aR) (by omega)with q | q
      ·omega
      ·rw[q];simp
     have ws:=EX hx to (gt p.rows i).aI.length (by omega);have w2:=hw.ro i aR;have no:=L7 (x:=x) (w:=whole) aR;simp(disch:=omega)[aR,di];repeat refine awG ?_
     refine awI (E7 (gt p.rows i) nt x hx to) ?_;simp;refine aa.awH (.qs [0,1,2,3,4,5,6,7,8,9,10,11,12]<|.l 13 []<|.qs [14]<|.nil) ?_;simp(disch:=omega)[aR,di];repeat refine awG ?_
     refine awI (AB _ (gt p.rows i).low (gt p.rows i).high (aq ws (by omega)) (aq w2.1 (by omega)) (aq w2.2 (by omega))) ?_;simp(disch:=omega)[aD];repeat refine awG ?_
     exact⟨λq=>no q,λq=>⟨i+1,⟨by omega,Zs hr q⟩,by omega,Le.dE (by simp(disch:=omega)[aP,hC])⟩⟩
    ·obtain rfl:i=p.rows.length:=by omega
     simp[Cf hb hr]
theorem x9(p:aB)(h7:p.ai.length<=7)(r7:p.rows.length<=7)(hw:cW p)(hv:bA p=0)(x:List Rat)(hx:Wd 1300000000 x):aE ay9 30 [bX p,.ro (x.map aZ),dr false] (dr (kY p x)):=by
 by_cases hl:x.length=p.ai.length
 ·have:=HT p h7 r7 hw hv x hx hl false;simpa[kY,hl]using this
 ·have:=FE p x hl false;simpa[kY,hl]using this
theorem F8(p:aB)(h:BF p)(hw:cW p)(hr:p.rows.length<=120)(hc:p.ai.length<=120)(y:List Rat)(g:Sd p y)(hl:y.length=p.rows.length):aE ay9 183 [bX p,.ro (y.map aZ)] (.ro ((lG p y).map aZ)):=by
 have nr:=h.nr;refine aj Tryz.func183 rfl (by simp) (λC hC=>?_);simp;refine aa.nil 5 4 rfl ?_;refine aa.bB (ι:=Nat) (λj=>⟨50,[(1,.ro (y.map aZ)),(2,.ptr 0 0 0),(5,.view 1 0 j),(6,iv j)],[some ⟨7,[bX p],false⟩,some ⟨4,((lG p y).take j).map aZ,false⟩]⟩)
  (λj=>j<=p.ai.length) (λj=>p.ai.length - j) 0 (by simp) ?_ ?_
 ·simp[aP,hC]
 ·rintro j hj;have pl:=xU p y;by_cases aR:j<p.ai.length
  ·simp(disch:=omega)[aR,dc];repeat refine awG ?_
   refine aa.bB (ι:=Nat) (λi=>⟨50,[(1,.ro (y.map aZ)),(2,.ptr 0 0 0),(5,.view 1 0 j),(6,iv j),(7,.ptr 2 0 0),(8,iv i)],[some ⟨7,[bX p],false⟩,some ⟨4,((lG p y).take j).map aZ,false⟩,some ⟨4,[aZ (dP p y j i)],false⟩]⟩)
    (λi=>i<=p.rows.length) (λi=>p.rows.length - i) 0 (by simp) ?_ ?_
   ·simp[aP,hC,dP];done
   ·rintro i hi;by_cases ag:i<p.rows.length
    ·have w1:=g.d j aR i (by omega);have w2:qw 2200 (cY (gt p.rows i).aI j):=rO (by omega) (hw.te i ag);have w3:=g.w i (by omega);simp(disch:=omega)[ag];repeat refine awG ?_
     refine aa.jB (.d 12<|.qs [0,1,2,3,4,5,6,7,8,9]<|.p 10<|.p 11<|.b (.l 13 [3]<|.nil)) (by kernel_rfl) (by kernel_rfl) (by simp) ?_;simp(disch:=omega)[ag,di,eh];repeat refine awG ?_
     refine ff (wU (gt p.rows i) (h.nt i ag) j (by omega)) (by simp) ?_;simp;refine ff (lF (gt y i) (cY (gt p.rows i).aI j) (aq w3 (by omega)) (aq w2 (by omega))) (by simp) ?_;simp;refine awI (KX (dP p y j i) (gt y i*cY (gt p.rows i).aI j) (aq w1 (by omega)) (aq (cy w3 w2 (by omega)) (by omega))) ?_;simp(disch:=omega)[aD];repeat refine awG ?_
     exact⟨i+1,by omega,by omega,Le.dE (by simp(disch:=omega)[aP,hC,dP])⟩
    ·obtain rfl:i=p.rows.length:=by omega
     simp(disch:=omega)[aD];repeat refine awG ?_
     exact⟨⟨by simp[hC],by omega⟩,j+1,by omega,by omega,Le.dE (by simp(disch:=omega)[aP,hC,Li.oY aZ (show j<(lG p y).length by omega),CD aR])⟩
  ·obtain rfl:j=p.ai.length:=by omega
   simp;exact⟨by omega,by rw[aAp (by simp;omega),aAp (by simp;omega)]⟩
theorem HS(p:aB)(h:BF p)(hw:cW p)(hr:p.rows.length<=120)(hc:p.ai.length<=120)(y:List Rat)(g:Sd p y)(hl:y.length=p.rows.length):aE ay9 162 [bX p,.ro (y.map aZ)] (.bM [aZ (nO p y).at',.val (.bool (nO p y).has)]):=by
 have nr:=h.nr;have pl:=xU p y;refine aj Tryz.func162 rfl (by simp) (λC hC=>?_);simp;refine awI (xG p.shift) ?_;simp;refine aa.bB (ι:=Nat) (λi=>⟨79,[(1,.ro (y.map aZ)),(2,.ptr 0 0 0),(4,.ptr 1 0 0),(6,.ptr 2 0 0),(7,iv i)],[some ⟨7,[bX p],false⟩,some ⟨4,[.agg [.val (.bool false),.val (.slice none 0 0),.val (.bool false),.val (.slice none 0 0)]],false⟩,some ⟨10,[BD (BG p y i)],false⟩]⟩)
  (λi=>i<=p.rows.length) (λi=>p.rows.length - i) 0 (by simp) ?_ ?_
 ·simp[aP,hC,BG];done
 ·rintro i hi;by_cases aR:i<p.rows.length
  ·have w1:=g.r i (by omega);have w2:=hw.ro i aR;have w3:=g.w i (by omega);simp(disch:=omega)[aR];repeat refine awG ?_
   refine aa.awH (.qs [0,1,2,3,4,5,6,7,8,9,10,11,12,13,14,15,16]<|.l 17 []<|.l 18 [2]<|.nil) ?_;simp(disch:=omega)[aR,di,eh];repeat refine awG ?_
   refine awI (vh (BG p y i) (gt p.rows i).low (gt p.rows i).high (gt y i) ⟨aq w1.1 (by omega),aq w1.2 (by omega)⟩ (aq w2.1 (by omega)) (aq w2.2 (by omega)) (aq w3 (by omega)) ⟨aq (cy w2.1 w3 (by omega)) (by omega),aq (cy w2.2 w3 (by omega)) (by omega)⟩) ?_;simp(disch:=omega)[aD];repeat refine awG ?_
   exact⟨i+1,by omega,by omega,Le.dE (by simp(disch:=omega)[aP,hC,BG])⟩
  ·obtain rfl:i=p.rows.length:=by omega
   simp;refine awI (F8 p h hw hr hc y g hl) ?_;simp;refine aa.bB (ι:=Nat) (λj=>⟨79,[(1,.ro (y.map aZ)),(2,.ptr 0 0 0),(4,.ptr 1 0 0),(6,.ptr 2 0 0),(8,.ro ((lG p y).map aZ)),(9,iv j)],[some ⟨7,[bX p],false⟩,some ⟨4,[.agg [.val (.bool false),.val (.slice none 0 0),.val (.bool false),.val (.slice none 0 0)]],false⟩,some ⟨10,[BD (BJ p y j)],false⟩]⟩)
    (λj=>j<=p.ai.length) (λj=>p.ai.length - j) 0 (by simp) ?_ ?_
   ·simp[aP,hC,BJ]
   ·rintro j hj;by_cases ad:j<p.ai.length
    ·have w1:=g.c j (by omega);have w2:=hw.co j ad;have w3:=g.e j ad;simp(disch:=omega)[ad];repeat refine awG ?_
     refine aa.awH (.qs [0,1,2,3,4,5,6,7,8,9,10,11,12,13,14,15,16]<|.l 17 []<|.l 18 [2]<|.nil) ?_;simp(disch:=omega)[ad,dc,eh,CD ad];repeat refine awG ?_
     refine awI (vh (BJ p y j) (gt p.ai j).low (gt p.ai j).high (dP p y j p.rows.length) ⟨aq w1.1 (by omega),aq w1.2 (by omega)⟩ (aq w2.2.1 (by omega)) (aq w2.2.2 (by omega)) (aq w3 (by omega)) ⟨aq (cy w2.2.1 w3 (by omega)) (by omega),aq (cy w2.2.2 w3 (by omega)) (by omega)⟩) ?_;simp(disch:=omega)[aD];repeat refine awG ?_
     exact⟨j+1,by omega,by omega,Le.dE (by simp(disch:=omega)[aP,hC,BJ])⟩
    ·obtain rfl:j=p.ai.length:=by omega
     simp;have hk:=SS p y;refine⟨λhm=>?_,λhm=>?_⟩
     ·rw[show(BJ p y p.ai.length).hi=nO p y by unfold nO;rw[if_pos hm]];generalize nO p y=b at *;refine⟨λh1=>?_,λh1=>?_⟩
      ·refine ae (oh) (by simp) ?_;simp[h1,hk h1]
      ·simp[h1,ka h1]
     ·rw[show(BJ p y p.ai.length).lo=nO p y by unfold nO;rw[if_neg (by simp[hm])]];generalize nO p y=b at *;refine⟨λh1=>?_,λh1=>?_⟩
      ·refine ae (oh) (by simp) ?_;simp[h1,hk h1]
      ·simp[h1,ka h1]
end Go.Proofs
set_option maxRecDepth 10000
namespace Go.Proofs
open Go.Sv Go Go.Tb Go.Pl Go.Ut Go.Li Go.Mx Go.Dt Go.Sx
theorem Mq(p:aB)(h:BF p)(h7:p.ai.length<=7)(r7:p.rows.length<=7)(hw:cW p)(hv:bA p=0)(c:kB)(hc:ClG p c)(hk:c.kind=1):aE ay9 112 [bX p,zZ c] (dr (tu p c)):=by
 have nr:=h.nr;have ny:=hc.ny;have aw:=hc.nr;obtain⟨v1,v2,v3⟩:=oR hv;refine aj Tryz.func112 rfl (by simp) (λC hC=>?_);simp;refine awI (x9 p h7 r7 hw hv c.x hc.x) ?_;simp;refine⟨λh1=>⟨λh2=>?_,λh2=>?_⟩,λh1=>by simp[tu,h1]⟩
 ·have hy:c.y.length=p.rows.length:=by omega
  refine⟨λh3=>?_,λh3=>?_⟩
  ·have:c.kj≠[]:=λe=>by rw[e]at h3;simp at h3
   simp[tu,this]
  have hx:c.x.length=p.ai.length:=by unfold kY at h1;simp only[Bool.and_eq_true,decide_eq_true_eq]at h1;exact h1.1
  have lw:=hc.lim hk;have wv:=uz hw hc.x (by omega) (by omega) p.ai.length (by omega);have wl:j4 (nO p c.y).at':=by
   have:=lw.c p.ai.length (by omega);unfold nO;split
   ·exact aq (by assumption:QS _ _).2 (by omega)
   ·exact aq (by assumption:QS _ _).1 (by omega)
  refine awI (Iu p h7 hw c.x hc.x hx) ?_;simp;refine awI (HS p h hw v1 v2 c.y lw hy) ?_;simp;refine⟨λh4=>by simp[tu,h4],λh4=>?_⟩;refine awI (FO _ c.value (aq wv (by omega)) (aq hc.v (by omega))) ?_;simp;refine awI (FO (nO p c.y).at' c.value wl (aq hc.v (by omega))) ?_;simp;have hb:∀a b:Bool,a=b↔(a=true↔b=true):=λa b=>by cases a<;>cases b<;>simp
  rw[hb];simp[tu,h1,hy,h3,h4];grind
 ·have:¬c.y.length=p.rows.length:=by omega
  simp[tu,this]
theorem Ph(p:aB)(h:BF p)(h7:p.ai.length<=7)(r7:p.rows.length<=7)(hw:cW p)(hv:bA p=0)(c:kB)(hc:ClG p c):aE ay9 114 [bX p,zZ c] (dr (sV p c)):=by
 have nc:=h.nc;have nr:=h.nr;have ny:=hc.ny;have aw:=hc.nr;refine aj Tryz.func114 rfl (by simp) (λC hC=>?_);simp;refine awI (x9 p h7 r7 hw hv c.x hc.x) ?_;simp;refine awI (Lg c.value) ?_;simp;have Me:=λj (hj:j<p.ai.length) (e:Bw p c.kj j=false)=>show sV p c=false by unfold sV;rw[Ea hj e];simp
 have JS:=λj (hj:j<p.rows.length) (e:Hn p c.kj j=false)=>show sV p c=false by unfold sV;rw[Ea hj e];simp
 refine⟨λh1=>⟨λh2=>⟨λh3=>⟨λh4=>by simp[sV,h4],λh4=>?_⟩,λh3=>?_⟩,λh2=>?_⟩,λh1=>by simp[sV,h1]⟩
 ·have hl:c.kj.length=p.ai.length:=by omega
  refine awI (oh) ?_;simp;refine aa.bB (ι:=Nat) (λj=>⟨133,[(2,.ptr 0 0 0),(3,.ptr 1 0 0),(7,.ptr 2 0 0),(8,iv j)],[some ⟨7,[bX p],false⟩,some ⟨8,[zZ c],false⟩,some ⟨4,[aZ (jc p c.kj j)],false⟩]⟩)
   (λj=>j<=p.ai.length∧∀k,k<j->Bw p c.kj k=true) (λj=>p.ai.length - j) 0 (by simp) ?_ ?_
  ·simp[aP,hC,jc];done
  ·rintro j ⟨hj,hb⟩;by_cases aR:j<p.ai.length
   ·have w1:=Hs hw hc.r (by omega) j (by omega);have w2:=hc.r j (by omega);have w3:=(hw.co j aR).1;have w4:=(hw.co j aR).2;simp(disch:=omega)[aR];repeat refine awG ?_
    refine aa.jB (.d 12<|.qs [0,1,2,3,4,5,6,7,8,9,10]<|.p 11<|.b (.l 13 [3]<|.nil)) (by kernel_rfl) (by kernel_rfl) (by simp) ?_;simp(disch:=omega)[aR,dc,eh];repeat refine awG ?_
    refine ff (lF _ _ (aq w3 (by omega)) (aq w2 (by omega))) (by simp) ?_;simp;refine awI (m4 _ _ (aq w1 (by omega)) (aq (cy w3 w2 (by omega)) (by omega))) ?_;simp;refine aa.awH (.qs [0,1,2,3,4,5,6,7,8,9,10,11,12,13,14,15,16]<|.l 17 []<|.qs [18]<|.nil) ?_;simp(disch:=omega)[aR,dc,eh];repeat refine awG ?_
    refine awI (JB (gt p.ai j).low (gt p.ai j).high (gt c.kj j)) ?_;simp(disch:=omega)[aD];repeat refine awG ?_
    exact⟨λq=>Me j aR q,λq=>⟨j+1,⟨by omega,Zs hb q⟩,by omega,Le.dE (by simp(disch:=omega)[aP,hC,jc])⟩⟩
   ·obtain rfl:j=p.ai.length:=by omega
    simp;refine aa.bB (ι:=Nat) (λi=>⟨133,[(2,.ptr 0 0 0),(3,.ptr 1 0 0),(7,.ptr 2 0 0),(11,iv i)],[some ⟨7,[bX p],false⟩,some ⟨8,[zZ c],false⟩,some ⟨4,[aZ (jc p c.kj p.ai.length)],false⟩]⟩)
     (λi=>i<=p.rows.length∧∀k,k<i->Hn p c.kj k=true) (λi=>p.rows.length - i) 0 (by simp) ?_ ?_
    ·simp[aP,hC]
    ·rintro i ⟨hi,hr⟩;by_cases aR:i<p.rows.length
     ·have to:=FB hw hv hl aR;have nt:(gt p.rows i).aI.length<=7:=by
       rcases Sx.vR (ob hv aR) (by omega)with q | q
       ·omega
       ·rw[q];simp
      simp(disch:=omega)[aR];repeat refine awG ?_
      refine aa.jB (.d 8<|.qs [0,1,2,3,4,5,6]<|.p 7<|.b (.l 9 [3]<|.nil)) (by kernel_rfl) (by kernel_rfl) (by simp) ?_;simp(disch:=omega)[aR,di];repeat refine awG ?_
      refine ff (E7 (gt p.rows i) nt c.kj hc.r to) (by simp) ?_;simp;refine aa.awH (.qs [0,1,2,3,4,5,6,7,8,9,10,11,12]<|.l 13 []<|.qs [14]<|.nil) ?_;simp(disch:=omega)[aR,di];repeat refine awG ?_
      refine awI (JB (gt p.rows i).low (gt p.rows i).high (jw p c.kj i)) ?_;simp(disch:=omega)[aD];repeat refine awG ?_
      exact⟨λq=>JS i aR q,λq=>⟨i+1,⟨by omega,Zs hr q⟩,by omega,Le.dE (by simp(disch:=omega)[aP,hC])⟩⟩
     ·obtain rfl:i=p.rows.length:=by omega
      simp;refine awI (Lg (jc p c.kj p.ai.length)) ?_;simp;have eC:=rZ hb;have eR:=rZ hr;have e0:sV p c=(decide (jc p c.kj p.ai.length≠0)&&(decide (0<jc p c.kj p.ai.length)==p.max)):=by unfold sV;rw[eC,eR];simp[h1,hl,h3,h4]
      rw[e0,<-RI];generalize jc p c.kj p.ai.length=g
      repeat' (apply And.intro<;>intro _)
      all_goals first | (simp[*];done) | (exfalso;grind)
 ·have:c.y≠[]:=λe=>by rw[e]at h3;simp at h3
  simp[sV,this]
 ·have:¬c.kj.length=p.ai.length:=by omega
  simp[sV,this]
theorem LC(p:aB)(h:BF p)(h7:p.ai.length<=7)(r7:p.rows.length<=7)(hw:cW p)(hv:bA p=0)(c:kB)(hc:ClG p c)(hk:c.kind=2):aE ay9 113 [bX p,zZ c] (dr (Li.nH p c)):=by
 have nc:=h.nc;have nr:=h.nr;have ny:=hc.ny;have nx:=hc.nx;have aw:=hc.nr;have yw:=hc.no hk;refine aj Tryz.func113 rfl (by simp) (λC hC=>?_);simp;refine awI (Lg c.value) ?_;simp;refine⟨λh1=>⟨λh2=>⟨λh3=>by simp[Li.nH,h3],λh3=>⟨λh4=>?_,λh4=>?_⟩⟩,λh2=>?_⟩,λh1=>?_⟩
 ·refine ae (GZ p h hw) (by simp) ?_;simp[Li.nH,h1,h2,h3,h4]
 ·refine⟨λh5=>?_,λh5=>?_⟩
  ·have:¬c.y.length=p.rows.length:=by omega
   simp[Li.nH,h4,this]
  ·have hl:c.y.length=p.rows.length:=by omega
   obtain⟨v1,v2,v3⟩:=oR hv;have gw:∀j,j<p.ai.length->∀i,i<=p.rows.length->qw 1205000000 (gS p c.y j i):=λj hj i hi=>ax (WD hw (by omega) yw (by omega) hj i hi) (by omega);have cw:=λj (hj:j<=p.ai.length)=>Gb hw (y:=c.y) (λj hj=>gw j hj _ (axq _)) j hj;have nw:=λi (hi:i<=p.rows.length)=>GR hw yw (by omega) i hi;refine awI (oh) ?_;simp;refine awI (xG 0) ?_;simp;refine aa.bB (ι:=Nat) (λi=>⟨139,[(2,.ptr 0 0 0),(3,.ptr 1 0 0),(6,.ptr 2 0 0),(7,iv i)],[some ⟨7,[bX p],false⟩,some ⟨8,[zZ c],false⟩,some ⟨10,[BD (JS p c.y i)],false⟩]⟩)
    (λi=>i<=p.rows.length) (λi=>p.rows.length - i) 0 (by simp) ?_ ?_
   ·simp[aP,hC,JS];done
   ·rintro i hi;by_cases aR:i<p.rows.length
    ·have w1:=nw i (by omega);have w2:=hw.ro i aR;have w3:=yw i (by omega);simp(disch:=omega)[aR];repeat refine awG ?_
     refine aa.awH (.qs [0,1,2,3,4,5,6,7,8,9,10,11,12,13,14,15,16,17]<|.l 18 []<|.l 19 [2]<|.nil) ?_;simp(disch:=omega)[aR,di,eh];repeat refine awG ?_
     refine awI (vh (JS p c.y i) (gt p.rows i).low (gt p.rows i).high (gt c.y i) ⟨aq w1.1 (by omega),aq w1.2 (by omega)⟩ (aq w2.1 (by omega)) (aq w2.2 (by omega)) (aq w3 (by omega)) ⟨aq (cy w2.1 w3 (by omega)) (by omega),aq (cy w2.2 w3 (by omega)) (by omega)⟩) ?_;simp(disch:=omega)[aD];repeat refine awG ?_
     exact⟨i+1,by omega,by omega,Le.dE (by simp(disch:=omega)[aP,hC,JS])⟩
    ·obtain rfl:i=p.rows.length:=by omega
     simp;refine awI (oh) ?_;simp;refine awI (xG 0) ?_;simp;refine aa.bB (ι:=Nat) (λj=>⟨139,[(2,.ptr 0 0 0),(3,.ptr 1 0 0),(6,.ptr 2 0 0),(8,.ptr 3 0 0),(9,iv j)],[some ⟨7,[bX p],false⟩,some ⟨8,[zZ c],false⟩,some ⟨10,[BD (JS p c.y p.rows.length)],false⟩,some ⟨10,[BD (Me p c.y j)],false⟩]⟩)
      (λj=>j<=p.ai.length) (λj=>p.ai.length - j) 0 (by simp) ?_ ?_
     ·simp[aP,hC,Me];done
     ·rintro j hj;by_cases ad:j<p.ai.length
      ·simp(disch:=omega)[ad];repeat refine awG ?_
       refine awI (oh) ?_;simp;refine aa.bB (ι:=Nat) (λi=>⟨139,[(2,.ptr 0 0 0),(3,.ptr 1 0 0),(6,.ptr 2 0 0),(8,.ptr 3 0 0),(9,iv j),(10,.ptr 4 0 0),(11,iv i)],[some ⟨7,[bX p],false⟩,some ⟨8,[zZ c],false⟩,some ⟨10,[BD (JS p c.y p.rows.length)],false⟩,some ⟨10,[BD (Me p c.y j)],false⟩,some ⟨4,[aZ (gS p c.y j i)],false⟩]⟩)
        (λi=>i<=p.rows.length) (λi=>p.rows.length - i) 0 (by simp) ?_ ?_
       ·simp[aP,hC,gS];done
       ·rintro i hi;by_cases ag:i<p.rows.length
        ·have w1:=gw j ad i (by omega);have w2:qw 2200 (cY (gt p.rows i).aI j):=rO (by omega) (hw.te i ag);have w3:=yw i (by omega);simp(disch:=omega)[ag];repeat refine awG ?_
         refine aa.jB (.d 13<|.qs [0,1,2,3,4,5,6,7,8,9,10]<|.p 11<|.p 12<|.b (.l 14 [5]<|.nil)) (by kernel_rfl) (by kernel_rfl) (by simp) ?_;simp(disch:=omega)[ag,di,eh];repeat refine awG ?_
         refine ff (wU (gt p.rows i) (h.nt i ag) j (by omega)) (by simp) ?_;simp;refine ff (lF (gt c.y i) (cY (gt p.rows i).aI j) (aq w3 (by omega)) (aq w2 (by omega))) (by simp) ?_;simp;refine awI (m4 (gS p c.y j i) (gt c.y i*cY (gt p.rows i).aI j) (aq w1 (by omega)) (aq (cy w3 w2 (by omega)) (by omega))) ?_;simp(disch:=omega)[aD];repeat refine awG ?_
         exact⟨i+1,by omega,by omega,Le.dE (by simp(disch:=omega)[aP,hC,gS])⟩
        ·obtain rfl:i=p.rows.length:=by omega
         have w1:=cw j (by omega);have w2:=hw.co j ad;have w3:=gw j ad p.rows.length (axq _);have ge:=J8 (y:=c.y) ad p.rows.length;simp(disch:=omega)[];repeat refine awG ?_
         refine aa.awH (.qs [0,1,2,3,4,5,6,7,8,9,10,11,12,13]<|.l 14 []<|.l 15 [3]<|.nil) ?_;simp(disch:=omega)[ad,dc];repeat refine awG ?_
         refine awI (vh (Me p c.y j) (gt p.ai j).low (gt p.ai j).high (gS p c.y j p.rows.length) ⟨aq w1.1 (by omega),aq w1.2 (by omega)⟩ (aq w2.2.1 (by omega)) (aq w2.2.2 (by omega)) (aq w3 (by omega)) ⟨aq (cy w2.2.1 w3 (by omega)) (by omega),aq (cy w2.2.2 w3 (by omega)) (by omega)⟩) ?_;simp(disch:=omega)[aD];repeat refine awG ?_
         exact⟨j+1,by omega,by omega,Le.dE (by simp(disch:=omega)[aP,hC,Me,ge])⟩
      ·obtain rfl:j=p.ai.length:=by omega
       have wr:=nw p.rows.length (by omega);have wc:=cw p.ai.length (by omega);simp;have e0:Li.nH p c=ym p c.y:=by unfold Li.nH;rw[if_neg (by simpa using h4)];simp[h1,h2,h3,hl]
       rw[e0];refine⟨λq1=>⟨λq2=>by simp[ym,GA,q1,q2],λq2=>?_⟩,λq1=>by simp[ym,GA,q1]⟩;rw[ka q1,ka q2];refine awI (FO _ _ (aq wr.1 (by omega)) (aq wc.2 (by omega))) ?_;simp[ym,GA,q1,q2]
 ·have:c.kj≠[]:=λe=>by rw[e]at h2;simp at h2
  simp[Li.nH,this]
 ·have:c.x≠[]:=λe=>by rw[e]at h1;simp at h1
  simp[Li.nH,this]
theorem H4(p:aB)(h:BF p)(h7:p.ai.length<=7)(r7:p.rows.length<=7)(hw:cW p)(hv:bA p=0)(c:kB)(hc:ClG p c):aE ay9 72 [bX p,zZ c] (dr (uw p c)):=by
 refine aj Tryz.func72 rfl (by simp) (λC hC=>?_);simp;refine⟨λh1=>?_,λh1=>⟨λh2=>?_,λh2=>⟨λh3=>?_,λh3=>?_⟩⟩⟩
 ·refine ae (Mq p h h7 r7 hw hv c hc h1) (by simp) ?_;simp[uw,h1]
 ·refine ae (LC p h h7 r7 hw hv c hc h2) (by simp) ?_;simp[uw,h2]
 ·refine ae (Ph p h h7 r7 hw hv c hc) (by simp) ?_;simp[uw,h3]
 ·simp[uw,h1,h2,h3]
end Go.Proofs
set_option maxRecDepth 10000
namespace Go.Sx
open Go Go.Sv Go.Pl Go.Proofs Go.Tb Go.Ut Go.Mx Go.Li Go.Dt
section
variable {c:Tc} {K:(Nat->Rat)->Prop} {s:Tb}
theorem DF(h:fm c K s):eG s.wh c.N=c.m:=by have e:=Jh h;have e2:=IF (λk=>decide (gt s.wh k=1)) c.N;rw[HX];omega
theorem S3(h:fm c K s){k:Nat}(hk:k<c.N)(hw:gt s.wh k=1):∃i,i<c.m∧gt s.basic i=k∧gt s.row k=(i:Int):=by
 rcases h.r k hk with g | ⟨_,g⟩
 ·exact g
 ·obtain⟨i,hi,e⟩:=(h.w k hk).1 hw;exact absurd e (g i hi)
theorem Rv(h:fm c K s):HQ c K s.wh where
 l:=h.t.w
 f:=h.f
 n:=DF h
 k z hz ay k hk:=by
  by_cases q:gt s.wh k=1
  ·obtain⟨i,hi,rfl⟩:=(h.w k hk).1 q;rw[(h.d.sat z).1 hz i hi];refine fi c.N λx hx=>?_;by_cases q2:gt s.wh x=1
   ·obtain⟨a,ha,rfl⟩:=(h.w x hx).1 q2;rw[h.d.z0 i a hi ha,Rat.zero_mul]
   ·rw[ay x hx q2,Rat.mul_zero]
  ·exact ay k hk q
theorem SI(h:fm c K s)(mx:Bool)(ah:Nat->Rat)(hc:∀k,k<c.N->gt c.cost k=if mx=true then -ah k else ah k):VK c K s.wh ah (Zn s s.wh c.N) s.x (MX c s s.wh mx):=by
 have hn:=DF h;have ex:∀r,r<c.m->(gt s.row (gt (bL s.wh c.N) r)).toNat<c.m∧gt s.basic (gt s.row (gt (bL s.wh c.N) r)).toNat=gt (bL s.wh c.N) r:=λr hr=>by obtain⟨h1,h2⟩:=mf (w:=s.wh) (N:=c.N) (k:=r) (by omega);obtain⟨i,hi,e1,e2⟩:=S3 h h1 h2;rw[e2];exact⟨by simpa using hi,by simpa using e1⟩
 have inj:∀a b,a<c.m->b<c.m->(gt s.row (gt (bL s.wh c.N) a)).toNat=(gt s.row (gt (bL s.wh c.N) b)).toNat->a=b:=λa b ha hb e=>by have e1:=(ex a ha).2;have e2:=(ex b hb).2;rw[e]at e1;exact zJ (w:=s.wh) (N:=c.N) (by omega) (by omega) (e1.symm.trans e2)
 have gR:∀r,r<c.m->gt (Zn s s.wh c.N) r=gt s.R (gt s.row (gt (bL s.wh c.N) r)).toNat:=λr hr=>UW (by omega);refine⟨by unfold Zn;rw[ay3,ja,hn],λi hi=>by rw[gR i hi];exact h.t.Rr _ (ex i hi).1,⟨λi hi=>(mf (by omega)).1,λi k hi hk e=>zJ (by omega) (by omega) e,λr i hr hi=>?_,λz=>?_⟩,h.t.x,h.xn,λr hr=>?_,by simp[MX],λk hk=>?_⟩
 ·rw[gR r hr,<-(ex i hi).2];exact h.d.z0 _ _ (ex r hr).1 (ex i hi).1
 ·rw[h.d.sat z];constructor
  ·intro hz r hr;rw[gR r hr,<-hz _ (ex r hr).1,(ex r hr).2]
  ·intro hz i hi;obtain⟨r,hr,e⟩:=xf (h.d.bl i hi) ((h.w _ (h.d.bl i hi)).2 ⟨i,hi,rfl⟩);have hr:r<c.m:=by omega
   have e2:(gt s.row (gt (bL s.wh c.N) r)).toNat=i:=h.d.inj _ _ (ex r hr).1 hi (by rw[(ex r hr).2,e]);have:=hz r hr;rw[gR r hr,e2,e]at this;exact this
 ·rw[gR r hr,<-h.xb _ (ex r hr).1,(ex r hr).2]
 ·unfold MX;rw[aV _ hk];split
  ·rfl
  ·have e1:aG (λr=>ah (gt (bL s.wh c.N) r)*gt (gt (Zn s s.wh c.N) r) k) c.m=aG (λi=>ah (gt s.basic i)*gt (gt s.R i) k) c.m:=by
    rw[<-sM (f:=λi=>ah (gt s.basic i)*gt (gt s.R i) k) (ord:=λr=>(gt s.row (gt (bL s.wh c.N) r)).toNat) (λr hr=>(ex r hr).1) inj];exact aO _ λr hr=>by rw[gR r hr,(ex r hr).2]
   rw[e1];unfold dN;by_cases hm:mx=true
   ·rw[if_pos hm,hc k hk,if_pos hm];have:aG (λi=>gt c.cost (gt s.basic i)*gt (gt s.R i) k) c.m = -aG (λi=>ah (gt s.basic i)*gt (gt s.R i) k) c.m:=by
     rw[<-v5];exact aO _ λi hi=>by rw[hc _ (h.d.bl i hi),if_pos hm];grind
    rw[this];grind
   ·rw[if_neg hm,hc k hk,if_neg hm];congr 1;exact aO _ λi hi=>by rw[hc _ (h.d.bl i hi),if_neg hm]
end
theorem abV{p:aB}{n m N:Nat}(hN:n+m=N)(s:Tb):(MX (bC p n m N) s s.wh p.max).drop n=(ayq m).map (vP (bC p n m N) s):=by
 refine bV (by simp[MX,bC];omega) λi hi=>?_;have hi:i<m:=by simp[MX,bC]at hi;omega
 rw[QX (by simp[MX,bC];omega),aV _ hi];unfold MX;rw[aV _ (show n+i<(bC p n m N).N by show n+i<N;omega)];rfl
def SD(c:kB):tI:=⟨c.kind,p4 c.x,p4 c.y,p4 c.kj,mT c.value⟩
theorem Qj{q:Rat}(h:Proofs.qw 8430000000 q):(mT q).size<=168600000010:=by
 have h1:=NO h.1;have h2:=NO h.2;unfold mT;split
 ·omega
 ·rw[fp,fp];have:(⟨#[47]⟩:ByteArray).size=1:=rfl;omega
end Go.Sx
namespace Go.Proofs
open Go.Sv Go Go.Tb Go.Pl Go.Ut Go.Li Go.Mx Go.Dt Go.Sx
theorem CP(q:Rat)(h:qw 8430000000 q):aE ay9 81 [.val (.string (mT q))] (.bM [aZ q,fZ 0 (-1)]):=by
 have hz:=Qj h;have g:=C1 (mT q) ((mT q).size+1) (by omega) (by omega) (by omega);rw[Rg q (by omega)]at g;rw[show j0 (q,0,0)=.bM [aZ q,fZ 0 (-1)] by simp[j0,fZ]]at g;refine aj Tryz.func81 rfl (by simp) (λC hC=>?_);simp(disch:=omega)[aD];repeat refine awG ?_
 refine awI (g) ?_;simp[fZ]
theorem ue(l:List Rat)(hl:l.length<=1048576)(h:Wd 8430000000 l):aE ay9 60 [.ro ((p4 l).map fN)] (.bM [.ro (l.map aZ),.val (.bool true)]):=by
 have hz:(p4 l).length=l.length:=by simp
 refine aj Tryz.func60 rfl (by simp) (λC hC=>?_);simp;refine aa.nil 4 4 rfl ?_;refine aa.bB (ι:=Nat × List Rat) (λ⟨i,xs⟩=>⟨30,[(0,.ro ((p4 l).map fN)),(4,.view 0 0 xs.length),(5,iv i)],[some ⟨4,xs.map aZ,false⟩]⟩)
  (λ⟨i,xs⟩=>i<=l.length∧xs=l.take i) (λ⟨i,xs⟩=>l.length - i) (0,[]) (by simp) ?_ ?_
 ·simp[aP,hC]
 ·rintro⟨i,xs⟩ ⟨hi,hx⟩;have aH:xs.length=i:=by rw[hx];simp;omega
  by_cases aR:i<l.length
  ·have e:gt (p4 l) i=mT (gt l i):=by unfold p4;rw[jr _ aR]
   have e2:aM ((p4 l).map fN) i=.val (.string (mT (gt l i))):=by rw[ri (by omega),e];rfl
   have e3:=hO aR;rw[<-hx]at e3;simp(disch:=omega)[aR,e2];repeat refine awG ?_
   refine awI (CP (gt l i) (h i aR)) ?_;simp(disch:=omega)[fZ,aD];repeat refine awG ?_
   exact⟨⟨by simp[hC],by omega⟩,i+1,xs++[gt l i],⟨by omega,e3.symm⟩,by omega,Le.dE (by simp(disch:=omega)[aP,hC])⟩
  ·obtain rfl:i=l.length:=by omega
   rw[aAp (by simp)]at hx;simp[hx,aAp]
theorem BZ(c:kB)(hx:PW c.x)(hy:PW c.y)(hr:PW c.kj)(hv:j4 c.value):aE ay9 71 [lS c] (LY (SD c)):=by have g1:=xu c.x hx;have g2:=xu c.y hy;have g3:=xu c.kj hr;have g4:=AU c.value hv;refine aj Tryz.func71 rfl (by simp) (λC hC=>?_);simp;refine aa.awH (.qs [0,1,2,3,5,6,8,9,11,12]<|.l 4 []<|.l 7 []<|.l 10 []<|.l 13 []<|.qs [14]<|.l 15 [1]<|.nil) ?_;simp;refine awI (g1) ?_;simp;refine awI (g2) ?_;simp;refine awI (g3) ?_;simp;refine awI (g4) ?_;simp;exact fV _ _ rfl
theorem BX(c:kB)(hx:Wd 8430000000 c.x)(hy:Wd 8430000000 c.y)(hr:Wd 8430000000 c.kj)(hv:qw 8430000000 c.value)(nx:c.x.length<=1048576)(ny:c.y.length<=1048576)(nr:c.kj.length<=1048576):aE ay9 70 [LY (SD c)] (.bM [zZ c,.val (.bool true)]):=by have g1:=ue c.x nx hx;have g2:=ue c.y ny hy;have g3:=ue c.kj nr hr;have g4:=CP c.value hv;refine aj Tryz.func70 rfl (by simp) (λC hC=>?_);simp;refine awI (g1) ?_;simp;refine awI (g2) ?_;simp;refine awI (g3) ?_;simp;refine awI (g4) ?_;simp[fZ];refine aa.awH (.qs [0,1,2,3,4,5,6,7,8,9,10,11,12,13,14,15]<|.q 16 [1]<|.qs [17,18]<|.l 19 [1]<|.qs [20]<|.nil) ?_;simp;exact fV _ _ rfl
end Go.Proofs


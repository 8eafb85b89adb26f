/- A text of the prover's own. -/
import Derived.Test.YtmghjkkjaolpgaaGreatDoorWId
import Derived.Test.YtmghjkkjaolpgaaGreatDoorWIi
import Derived.Test.YtmghjkkjaolpgaaGreatDoorWVu
open List renaming map_set→amw,map_cons→ak3,take→anI,drop→anJ,map→anV
open Rat renaming div_def→anr,one_mul→anZ,mul_inv_cancel→an0,mul_zero→an1
set_option maxRecDepth 10000
namespace Go.Sv
open Go
theorem aa.gp{P:Program}{C:Ctx}{x y:Code}{st:St}{Q:aX}(I:St→Prop)(h1:aa P C x st (rk (fun st'=>∃st'',I st''∧Le C st' st'') Q))(h2:∀st'',I st''→aa P C y st'' Q):aa P C (.seq x y) st Q:=by
 refine aa.nP (aa.mono h1 fun e st' h=>?_);cases e<;>simp only[rk]at h ⊢
 case normal =>
  obtain⟨st'',h3,h4⟩:=h;exact aa.le h4 (h2 st'' h3)
 all_goals exact h
end Go.Sv
namespace Go.Ps
open Go Go.Sv Go.Pl Go.Proofs Go.Tb Go.Ut Go.Li
def fZ(s:nY):SV:=.agg ([iv (if s.ab.length=0 then 1 else 2),iv s.aI]++(bs s.at').cells++[.ro (s.ab.map aW)])
@[simp] theorem TO(s:nY):(fZ s).eW=7:=rfl
@[simp] theorem NA(s:nY):(fZ s).aO=false:=rfl
@[simp] theorem MZ(s:nY):(fZ s).isAgg=true:=rfl
@[simp] theorem QT(s:nY):(fZ s).pure=true:=rfl
@[simp] theorem Z1(n:Nat)(s:nY):(fZ s).lt n=true:=rfl
@[simp] theorem QS(n:Nat)(s:nY):(fZ s).bD n=false:=rfl
@[simp] theorem aaV(s:nY):aB (fZ s).cells 0=iv (if s.ab.length=0 then 1 else 2):=rfl
@[simp] theorem XQ(s:nY):aB (fZ s).cells 1=iv s.aI:=rfl
@[simp] theorem Yx(s:nY):SV.agg (((fZ s).cells.drop 2).take 4)=bs s.at':=rfl
@[simp] theorem aaT(s:nY):aB (fZ s).cells 6=.ro (s.ab.map aW):=rfl
theorem EB{l:List _}{i:Nat}(h:i<l.length):aB (l.map fZ) i=fZ (gt l i):=dM _ h
def aS(n m k:Nat)(no:Bool)(sh:Rat):SV:=.agg (.ptr 1 0 0::.view 4 0 n::.view 5 0 m::.view 6 0 k::bZ no::(bs sh).cells)
def aR(mx:Bool)(s0:Rat)(n m:Nat):SV:=.agg (bZ mx::((bs s0).cells++[.view 2 0 n,.view 3 0 m]))
def aG(mx:Bool)(s0:Rat)(w:Wk):aJ:=[some ⟨9,[aS w.gc.length w.gr.length w.steps.length w.no w.sh],false⟩,some ⟨7,[aR mx s0 w.ae.length w.rows.length],false⟩,
 some ⟨16,w.ae.map bW,false⟩,some ⟨12,w.rows.map bE,false⟩,some ⟨1,w.gc.map bZ,false⟩,some ⟨1,w.gr.map bZ,false⟩,some ⟨7,w.steps.map fZ,false⟩]
def LD(mx:Bool)(s0:Rat)(q:Bool × Wk)(T:aJ)(y:SV):Prop:=T=aG mx s0 q.2∧y=bZ q.1
theorem u5{α:Type}(f:α→SV)(l:List α)(i:Nat)(x:α):bl (l.map f) i (f x)=(l.set i x).map f:=by rw[ct,amw]
@[simp] theorem ad9(σ:Nat→Nat)(l:List Bool):dj σ (l.map bZ)=l.map bZ:=cG σ _ (by simp)
@[simp] theorem aeP(σ:Nat→Nat)(l:List dL):dj σ (l.map bW)=l.map bW:=cG σ _ (by simp)
@[simp] theorem L5(σ:Nat→Nat)(l:List Row):dj σ (l.map bE)=l.map bE:=cG σ _ (by simp)
@[simp] theorem adS(σ:Nat→Nat)(l:List nY):dj σ (l.map fZ)=l.map fZ:=cG σ _ (by simp)
theorem sU{α:Type}{f:α→SV}(h:∀x,jj (f x)=f x):∀l:List α,kQ (l.map f)=l.map f
 | []=>rfl
 | x::l=>by simp only[ak3,kQ,h x,sU h l]
@[simp] theorem Uq(l:List Bool):kQ (l.map bZ)=l.map bZ:=sU (fun _=>rfl) l
@[simp] theorem Vp(l:List dL):kQ (l.map bW)=l.map bW:=sU (fun _=>rfl) l
@[simp] theorem S2(l:List Row):kQ (l.map bE)=l.map bE:=sU (fun _=>rfl) l
@[simp] theorem Sm(l:List nY):kQ (l.map fZ)=l.map fZ:=sU (fun _=>rfl) l
theorem Og(mx:Bool)(s0:Rat)(w:Wk)(tl:aJ):wW (aG mx s0 w++tl)=aG mx s0 w++wW tl:=by
 have h1:kQ [aS w.gc.length w.gr.length w.steps.length w.no w.sh]=[aS w.gc.length w.gr.length w.steps.length w.no w.sh]:=rfl;have h2:kQ [aR mx s0 w.ae.length w.rows.length]=[aR mx s0 w.ae.length w.rows.length]:=rfl;simp only[wW,List.map_append,aG,ak3,List.map_nil,Option.map,h1,h2,Uq,Vp,S2,Sm]
theorem BU{C:Ctx}{N:Nat}{mx:Bool}{s0:Rat}{w:Wk}{fr fr':List (Nat × SV)}{tl tl':aJ}(hf:zF (E7 fr) fr')(ht:dX (aG mx s0 w++wW tl) (aG mx s0 w++tl'))(hl:tl.length=tl'.length) :
  Le C ⟨N,fr,aG mx s0 w++tl⟩ ⟨N,fr',aG mx s0 w++tl'⟩:=by
 refine(Le.nl _).trans ?_;unfold nlS;rw[Og];exact Le.bA ⟨rfl,hf,ht,.inl (by simp[wW,hl])⟩
theorem eQ(l:List Bool)(i:Nat)(x:Bool):bl (l.map bZ) i (.val (.bool x))=(l.set i x).map bZ:=u5 bZ l i x
@[simp] theorem aeY(c:dL):aB (bW c).cells 2=.val (.bool c.low.has):=rfl
@[simp] theorem afv(c:dL):aB (bW c).cells 7=.val (.bool c.high.has):=rfl
@[simp] theorem abX(c:dL):SV.agg (anI 4 (anJ 3 (bW c).cells))=bs c.low.at':=rfl
@[simp] theorem aeL(c:dL):SV.agg (anI 4 (anJ 8 (bW c).cells))=bs c.high.at':=rfl
@[simp] theorem ae9(r:Row):aB (bE r).cells 2=.val (.bool r.low.has):=rfl
@[simp] theorem ac6(r:Row):SV.agg (anI 4 (anJ 3 (bE r).cells))=bs r.low.at':=rfl
end Go.Ps
namespace Go.Proofs
open Go.Sv Go Go.Tb Go.Pl Go.Ut Go.Li Go.Ps
def CM(b:Bo)(r:Rat):Bo:=⟨b.has,if b.has=true then b.at' / r else b.at'⟩
theorem DQ(b:Bo)(r:Rat)(hb:bQ b.at')(hr:bQ r):aF Tryz.prog 94 [cL b,bs r] (cL (CM b r)):=by
 refine aj Tryz.func94 rfl (by simp) (fun C hC=>?_);simp;refine⟨fun h=>?_,fun h=>?_⟩
 ·refine ai (tR b.at' r hb hr) (by simp) ?_;simp;rw[show SV.agg (anI 1 (cL b).cells++((bs (b.at' / r)).cells++anJ 5 (cL b).cells))=cL (CM b r) by unfold CM;rw[if_pos h];rfl];exact cW _ _ rfl
 ·rw[show CM b r=b by unfold CM;rw[if_neg (by simp[h])]];exact cW _ _ rfl
theorem FY{n m u:Nat}{w:Wk}{mx:Bool}{s0:Rat}(G:Ps.bh n m u w)(hn:w.no=false){i:Nat}(hi:i<m) :
  ji Tryz.prog 61 [.ptr 0 0 0,iv i] (aG mx s0 w) [6] (LD mx s0 (jU w i)):=by
 have hr:i<w.rows.length:=by rw[G.S.nr];exact hi
 have hr':i<w.gr.length:=by rw[G.S.gr];exact hi
 have l1:=dU hr;have l2:=bI hr';refine bP Tryz.func61 rfl (by simp) (fun C hC=>?_);have hC:C.fx=[0,1,2,3,4,5]:=hC;by_cases hl:(gt w.rows i).ab.length=0
 ·have e:jU w i=(true,dw (da w (!qd 0 (gt w.rows i).low (gt w.rows i).high)) i):=by unfold jU;rw[if_pos hl]
  rw[e];generalize gt w.rows i=r at *;refine aa.cutAt 4 (fun st=>st=⟨51,[(0,.ptr 0 0 0),(1,iv i)],aG mx s0 (da w (!qd 0 r.low r.high))++[some ⟨12,[bE r],false⟩]⟩) ?_ ?_
  ·simp only[ar,aq,aG,aS,aR,da];by_cases h1:r.low.has=true
   ·by_cases h2:0<r.low.at'
    ·simp(disch:=omega)[hr,l1,hl,h1];repeat refine akI ?_
     refine akK (pd r.low.at') ?_;simp(disch:=omega)[h2];repeat refine akI ?_
     simp[aw,hC,qd,h1,h2]
    ·by_cases h3:r.high.has=true
     ·by_cases h4:r.high.at'<0
      ·simp(disch:=omega)[hr,l1,hl,h1,h3];repeat refine akI ?_
       refine akK (pd r.low.at') ?_;simp(disch:=omega)[h2,h3];repeat refine akI ?_
       refine akK (pd r.high.at') ?_;simp(disch:=omega)[h4];repeat refine akI ?_
       simp[aw,hC,qd,h1,h3,h4,h2]
      ·simp(disch:=omega)[hr,l1,hl,h1,h3];repeat refine akI ?_
       refine akK (pd r.low.at') ?_;simp(disch:=omega)[h2,h3];repeat refine akI ?_
       refine akK (pd r.high.at') ?_;simp(disch:=omega)[h4,hn];repeat refine akI ?_
       simp[aw,hC,qd,h1,h3,h4,h2,hn]
     ·simp(disch:=omega)[hr,l1,hl,h1,h3];repeat refine akI ?_
      refine akK (pd r.low.at') ?_;simp(disch:=omega)[h2,h3];repeat refine akI ?_
      simp(disch:=omega)[hn];repeat refine akI ?_
      simp[aw,hC,qd,h1,h3,h2,hn]
   ·by_cases h3:r.high.has=true
    ·by_cases h4:r.high.at'<0
     ·simp(disch:=omega)[hr,l1,hl,h1,h3];repeat refine akI ?_
      refine akK (pd r.high.at') ?_;simp(disch:=omega)[h4];repeat refine akI ?_
      simp[aw,hC,qd,h1,h3,h4]
     ·simp(disch:=omega)[hr,l1,hl,h1,h3];repeat refine akI ?_
      refine akK (pd r.high.at') ?_;simp(disch:=omega)[h4,hn];repeat refine akI ?_
      simp[aw,hC,qd,h1,h3,h4,hn]
    ·simp(disch:=omega)[hr,l1,hl,h1,h3];repeat refine akI ?_
     simp(disch:=omega)[hn];repeat refine akI ?_
     simp[aw,hC,qd,h1,h3,hn]
  ·rintro st rfl;simp only[ao,al,aG,aS,aR,da];refine aa.go ?_;simp(disch:=omega)[hr',l2,eQ];repeat refine akI ?_
   exact⟨_,_,⟨rfl,rfl⟩,by simp,by simp[aG,aS,aR,dX,da,dw],by simp[aG],.inr ⟨by simp,by simp[aG,eP,aS,aR]⟩⟩
 ·have e:jU w i=(false,w):=by unfold jU;rw[if_neg hl]
  rw[e];have hp:0<(gt w.rows i).ab.length:=by omega
  have hz:¬(gt w.rows i).ab=[]:=fun h=>hl (by rw[h];rfl);refine aa.go ?_;simp only[aG,aS,aR];simp(disch:=omega)[hr,l1,hp,hz];repeat refine akI ?_
  exact⟨_,_,⟨rfl,rfl⟩,by simp,by simp[aG,aS,aR,dX],by simp[aG],.inr ⟨by simp,by simp[aG,eP,aS,aR]⟩⟩
end Go.Proofs
set_option maxRecDepth 10000
set_option maxHeartbeats 1000000
namespace Go.Ps
open Go Go.Sv Go.Pl Go.Proofs Go.Tb Go.Ut Go.Li
theorem yt{α:Type}[Inhabited α]{l:List α}{j:Nat}(h:j<l.length):l.set j (gt l j)=l:=Jk (by simp) fun i hi=>by
 have hi':i<l.length:=by simpa using hi
 rw[gN hi'];split
 ·rename_i e;rw[e]
 ·rfl
theorem Dp{c:dL}{b:Bo}(h:b.has=false):ph c b=c.low:=by unfold ph;rw[if_neg (by simp[h])]
theorem CV{c:dL}{b:Bo}(h:b.has=false):pj c b=c.high:=by unfold pj;rw[if_neg (by simp[h])]
theorem rC{c:dL}{b:Bo}(h:b.has=true)(h':c.low.has=false∨c.low.at'<xm c.whole b.at'):ph c b=⟨true,xm c.whole b.at'⟩:=by
 unfold ph;rw[if_pos ⟨h,fun e=>h'.resolve_left (by simp[e])⟩]
theorem qe{c:dL}{b:Bo}(h:b.has=true)(h':c.high.has=false∨AD c.whole b.at'<c.high.at'):pj c b=⟨true,AD c.whole b.at'⟩:=by
 unfold pj;rw[if_pos ⟨h,fun e=>h'.resolve_left (by simp[e])⟩]
theorem AS{c:dL}{b:Bo}(h:c.low.has=true)(h':¬c.low.at'<xm c.whole b.at'):ph c b=c.low:=by unfold ph;rw[if_neg fun q=>h' (q.2 h)]
theorem Ab{c:dL}{b:Bo}(h:c.high.has=true)(h':¬AD c.whole b.at'<c.high.at'):pj c b=c.high:=by unfold pj;rw[if_neg fun q=>h' (q.2 h)]
theorem vp{c:dL}{b:Bo}:SV.agg (anI 2 (bW c).cells++((cL b).cells++anJ 7 (bW c).cells))=bW ⟨c.name,c.whole,b,c.high,c.cost⟩:=rfl
theorem sc{c:dL}{b:Bo}:SV.agg (anI 7 (bW c).cells++((cL b).cells++anJ 12 (bW c).cells))=bW ⟨c.name,c.whole,c.low,b,c.cost⟩:=rfl
theorem tW{b:Bo}{q:Rat}:SV.agg (anI 1 (cL b).cells++((bs q).cells++anJ 5 (cL b).cells))=cL ⟨b.has,q⟩:=rfl
theorem kr(l:List dL)(i:Nat)(c:dL):bl (l.map bW) i (bW c)=(l.set i c).map bW:=u5 bW l i c
end Go.Ps
namespace Go.Proofs
open Go.Sv Go Go.Tb Go.Pl Go.Ut Go.Li Go.Ps
theorem kY{n m u:Nat}{w:Wk}{mx:Bool}{s0:Rat}(G:I9 n m w){j:Nat}(hj:j<n){lo hi:Bo}(ql:bQ lo.at')(qh:bQ hi.at')(qcl:bQ (gt w.ae j).low.at')(qch:bQ (gt w.ae j).high.at') :
  ji Tryz.prog 95 [.ptr 0 0 0,iv j,cL lo,cL hi] (aG mx s0 w) [6] (fun T y=>T=aG mx s0 (bN w j (Ps.cA (gt w.ae j) lo hi))∧y=.bO []):=by
 have hr:j<w.ae.length:=by rw[G.nc];exact hj
 have l1:=cZ hr;have gs:=yt hr;have gce:=yq lo.at'.ceil 1 (by have:=J5 ql;unfold fit;unfold fw at this;omega) (by unfold fit;decide);have gfl:=yq hi.at'.floor 1 (by have:=uy qh;unfold fit;unfold fw at this;omega) (by unfold fit;decide);rw[Je]at gce gfl;refine bP Tryz.func95 rfl (by simp) (fun C hC=>?_);have hC:C.fx=[0,1,2,3,4,5]:=hC;obtain⟨c,ec⟩:∃c,gt w.ae j=c:=⟨_,rfl⟩;rw[ec]at l1 gs qcl qch ⊢;have gq:(anV bW w.ae).set j (bW ⟨c.name,c.whole,c.low,c.high,c.cost⟩)=anV bW w.ae:=by rw[←amw];exact congrArg _ gs
 refine aa.cutAt 2 (fun st=>st=⟨92,[(6,.ptr 7 0 0),(7,.ptr 8 0 0),(8,.ptr 2 j 0)],aG mx s0 w++[some ⟨5,[cL lo],false⟩,some ⟨5,[cL hi],false⟩]⟩) ?_ ?_
 ·simp only[ar,aq,aG,aS,aR];simp(disch:=omega)[hr];repeat refine akI ?_
  simp[aw,hC];done
 rintro st rfl;simp only[ao,al];refine aa.gp (fun st=>∃lo',st=⟨92,[(6,.ptr 7 0 0),(7,.ptr 8 0 0),(8,.ptr 2 j 0)],aG mx s0 (bN w j ⟨c.name,c.whole,ph c lo,c.high,c.cost⟩)++[some ⟨5,[cL lo'],false⟩,some ⟨5,[cL hi],false⟩]⟩) ?_ ?_
 ·simp only[aG,aS,aR,bN];refine aa.nP (aa.im (nq.go ?_));simp(disch:=omega)[hr,l1];repeat refine akI ?_
  by_cases h1:lo.has=true
  ·refine aa.gD true (by simp[h1]) (fun _=>?_) (fun q=>by cases q);refine aa.gp (fun st=>st=⟨92,[(6,.ptr 7 0 0),(7,.ptr 8 0 0),(8,.ptr 2 j 0)],aG mx s0 w++[some ⟨5,[cL ⟨lo.has,xm c.whole lo.at'⟩],false⟩,some ⟨5,[cL hi],false⟩]⟩) ?_ ?_
   ·simp only[aG,aS,aR];refine aa.go ?_;by_cases hw:c.whole=true
    ·simp(disch:=omega)[hr,l1,hw];repeat refine akI ?_
     refine akK (HD lo.at' ql) ?_;simp;refine akK (Dm 1 (by omega) (by omega)) ?_;simp;refine akK (C9 1) ?_;simp;refine akK (gce) ?_;simp[tW];exact Le.bA (by simp[aw,hC,xm,hw,tW])
    ·simp(disch:=omega)[hr,l1,hw];repeat refine akI ?_
     exact Le.bA (by simp[aw,hC,xm,hw])
   rintro st rfl;simp only[aG,aS,aR];refine aa.go ?_;have qu:bQ (xm c.whole lo.at'):=H6 ql (by omega);by_cases h2:c.low.has=true
   ·by_cases h3:c.low.at'<xm c.whole lo.at'
    ·rw[rC h1 (.inr h3)];simp;refine aa.akJ (.qs [0,1,2,3,4,5,6,7,8,9,10,11,12,13]<|.l 14 []<|.qs [15,16]<|.nil) ?_;simp(disch:=omega)[hr,l1,h2];repeat refine akI ?_
     refine akK (tx _ _ qu qcl) ?_;simp(disch:=omega)[hr,l1,h2,h3, -amw];repeat refine akI ?_
     exact⟨_,⟨⟨true,xm c.whole lo.at'⟩,rfl⟩,Le.bA (by simp[aw,hC,h1,vp,kr])⟩
    ·rw[AS h2 h3];simp;refine aa.akJ (.qs [0,1,2,3,4,5,6,7,8,9,10,11,12,13]<|.l 14 []<|.qs [15,16]<|.nil) ?_;simp(disch:=omega)[hr,l1,h2];repeat refine akI ?_
     refine akK (tx _ _ qu qcl) ?_;simp(disch:=omega)[hr,l1,h2,h3, -amw];repeat refine akI ?_
     exact⟨_,⟨⟨true,xm c.whole lo.at'⟩,rfl⟩,Le.bA (by simp[aw,hC,h1,gq])⟩
   ·rw[rC h1 (.inl (by simpa using h2))];simp;refine aa.akJ (.qs [0,1,2,3,4,5,6,7,8,9,10,11,12,13]<|.l 14 []<|.qs [15,16]<|.nil) ?_;simp(disch:=omega)[hr,l1,h2, -amw];repeat refine akI ?_
    exact⟨_,⟨⟨true,xm c.whole lo.at'⟩,rfl⟩,Le.bA (by simp[aw,hC,h1,vp,kr])⟩
  ·refine aa.gD false (by simp[h1]) (fun q=>by cases q) (fun _=>?_);rw[Dp (by simpa using h1)];refine aa.go ?_;simp[-amw];exact⟨_,⟨lo,rfl⟩,Le.bA (by simp[aw,hC,gq])⟩
 rintro st ⟨lo',rfl⟩;obtain⟨c1,e1⟩:∃c1:dL,⟨c.name,c.whole,ph c lo,c.high,c.cost⟩=c1:=⟨_,rfl⟩;have eT:Ps.cA c lo hi=⟨c1.name,c1.whole,c1.low,pj c1 hi,c1.cost⟩:=by subst e1;rfl
 have qch1:bQ c1.high.at':=by subst e1;exact qch
 rw[eT,e1];obtain⟨w1,ew⟩:∃w1,bN w j c1=w1:=⟨_,rfl⟩;have es:∀x,bN w j x=bN w1 j x:=fun x=>by rw[←ew];simp[bN]
 rw[ew,es];have hr:j<w1.ae.length:=by rw[←ew];simpa[bN]using hr
 have g1:gt w1.ae j=c1:=by rw[←ew];show gt (w.ae.set j c1) j=c1;rw[gN (by simpa[←ew,bN]using hr),if_pos rfl]
 have l1:aB (anV bW w1.ae) j=bW c1:=by rw[cZ hr,g1]
 have gq:(anV bW w1.ae).set j (bW ⟨c1.name,c1.whole,c1.low,c1.high,c1.cost⟩)=anV bW w1.ae:=by rw[←amw];have:=yt hr;rw[g1]at this;exact congrArg _ this
 clear e1 ew es eT;simp only[aG,aS,aR];refine aa.nP (aa.im (nq.go ?_));simp(disch:=omega)[hr,l1];repeat refine akI ?_
 have qu:bQ (AD c1.whole hi.at'):=HY qh (by omega);by_cases h1:hi.has=true
 ·refine aa.gD true (by simp[h1]) (fun _=>?_) (fun q=>by cases q);refine aa.gp (fun st=>st=⟨92,[(6,.ptr 7 0 0),(7,.ptr 8 0 0),(8,.ptr 2 j 0)],aG mx s0 w1++[some ⟨5,[cL lo'],false⟩,some ⟨5,[cL ⟨hi.has,AD c1.whole hi.at'⟩],false⟩]⟩) ?_ ?_
  ·simp only[aG,aS,aR];refine aa.go ?_;by_cases hw:c1.whole=true
   ·simp(disch:=omega)[hr,l1,hw];repeat refine akI ?_
    refine akK (xD hi.at' qh) ?_;simp;refine akK (Dm 1 (by omega) (by omega)) ?_;simp;refine akK (C9 1) ?_;simp;refine akK (gfl) ?_;simp[tW];exact Le.bA (by simp[aw,hC,AD,hw,tW])
   ·simp(disch:=omega)[hr,l1,hw];repeat refine akI ?_
    exact Le.bA (by simp[aw,hC,AD,hw])
  rintro st rfl;simp only[aG,aS,aR];refine aa.go ?_;by_cases h2:c1.high.has=true
  ·by_cases h3:AD c1.whole hi.at'<c1.high.at'
   ·rw[qe h1 (.inr h3)];simp;refine aa.akJ (.qs [0,1,2,3,4,5,6,7,8,9,10,11,12,13]<|.l 14 []<|.qs [15,16]<|.nil) ?_;simp(disch:=omega)[hr,l1,h2];repeat refine akI ?_
    refine akK (tx _ _ qu qch1) ?_;simp(disch:=omega)[hr,l1,h2,h3];repeat refine akI ?_
    exact⟨_,_,⟨rfl,rfl⟩,by simp,by simp[aG,aS,aR,dX,bN,h1,sc,kr],by simp[aG],.inr ⟨by simp,by simp[aG,eP,aS,aR]⟩⟩
   ·rw[Ab h2 h3];simp;refine aa.akJ (.qs [0,1,2,3,4,5,6,7,8,9,10,11,12,13]<|.l 14 []<|.qs [15,16]<|.nil) ?_;simp(disch:=omega)[hr,l1,h2];repeat refine akI ?_
    refine akK (tx _ _ qu qch1) ?_;simp(disch:=omega)[hr,l1,h2,h3];repeat refine akI ?_
    exact⟨_,_,⟨rfl,rfl⟩,by simp,by simp[aG,aS,aR,dX,bN,gq],by simp[aG],.inr ⟨by simp,by simp[aG,eP,aS,aR]⟩⟩
  ·rw[qe h1 (.inl (by simpa using h2))];simp;refine aa.akJ (.qs [0,1,2,3,4,5,6,7,8,9,10,11,12,13]<|.l 14 []<|.qs [15,16]<|.nil) ?_;simp(disch:=omega)[hr,l1,h2];repeat refine akI ?_
   exact⟨_,_,⟨rfl,rfl⟩,by simp,by simp[aG,aS,aR,dX,bN,h1,sc,kr],by simp[aG],.inr ⟨by simp,by simp[aG,eP,aS,aR]⟩⟩
 ·refine aa.gD false (by simp[h1]) (fun q=>by cases q) (fun _=>?_);rw[CV (by simpa using h1)];refine aa.go ?_;simp;exact⟨_,_,⟨rfl,rfl⟩,by simp,by simp[aG,aS,aR,dX,bN,gq],by simp[aG],.inr ⟨by simp,by simp[aG,eP,aS,aR]⟩⟩
end Go.Proofs
set_option maxRecDepth 10000
set_option maxHeartbeats 1000000
namespace Go.Ps
open Go Go.Sv Go.Pl Go.Proofs Go.Tb Go.Ut Go.Li
theorem yg{q:Rat}(h:q≠0):1 / q<0↔q<0:=by
 have e:1 / q=q⁻¹:=by rw[anr,anZ]
 have h1:=@Rat.inv_pos q;have h2:=an0 q h;rw[e];have h3:q⁻¹≠0:=fun e=>by rw[e,an1]at h2;exact absurd h2 (by decide)
 constructor<;>intro h4<;>grind
theorem Ik{q:Rat}(h:q≠0):1 / q≠0:=by
 have e:1 / q=q⁻¹:=by rw[anr,anZ]
 have h2:=an0 q h;rw[e];exact fun e=>by rw[e,an1]at h2;exact absurd h2 (by decide)
def kU(a b:Bo):Prop:=a.has=b.has∧(a.has=true→a.at'=b.at')
theorem HV{c:dL}{a b:Bo}(h:kU a b):ph c a=ph c b:=by
 unfold ph;by_cases e:a.has=true
 ·rw[←h.1,h.2 e]
 ·rw[if_neg (by simp[e]),if_neg (by simp[←h.1,e])]
theorem FX{c:dL}{a b:Bo}(h:kU a b):pj c a=pj c b:=by
 unfold pj;by_cases e:a.has=true
 ·rw[←h.1,h.2 e]
 ·rw[if_neg (by simp[e]),if_neg (by simp[←h.1,e])]
theorem oZ{c:dL}{a a' b b':Bo}(h:kU a a')(h':kU b b'):cA c a b=cA c a' b':=by
 unfold cA;rw[HV h,FX h']
theorem zo(b:Bo)(q:Rat):kU (CM b q) (cD ⟨true,0⟩ b (1 / q)):=by
 unfold kU CM cD;by_cases h:b.has=true
 ·simp[h,Rat.zero_add,anr,anZ]
 ·simp[h]
theorem Cu{c:dL}{lo hi:Bo}{q:Rat}(hq:q≠0):cA c (if q<0 then CM hi q else CM lo q) (if q<0 then CM lo q else CM hi q)=cA c (dA zB lo hi (1 / q)).lo (dA zB lo hi (1 / q)).hi:=by
 unfold dA;rw[if_neg (Ik hq)];by_cases h:q<0
 ·rw[if_pos h,if_pos h,if_pos ((yg hq).2 h)];exact oZ (zo _ _) (zo _ _)
 ·rw[if_neg h,if_neg h,if_neg (fun e=>h ((yg hq).1 e))];exact oZ (zo _ _) (zo _ _)
end Go.Ps
namespace Go.Proofs
open Go.Sv Go Go.Tb Go.Pl Go.Ut Go.Li Go.Ps
theorem K4{k l:Nat}{b:Bo}{q:Rat}(hb:qw k b.at')(hq:qw l q)(hl:1≤l):qw (k+l) (CM b q).at':=by
 show qw (k+l) (if b.has=true then b.at' / q else b.at');split
 ·exact iI hb hq hl
 ·exact ah hb (by omega)
theorem Ha{n m u:Nat}{w:Wk}{mx:Bool}{s0:Rat}(G:bh n m u w)(hu8:8≤u)(hu:u≤2400)(h7:n≤7)(h7':m≤7){i:Nat}(hi:i<m) :
  ji Tryz.prog 62 [.ptr 0 0 0,iv i] (aG mx s0 w) [6] (LD mx s0 (j3 w i)):=by
 have hr:i<w.rows.length:=by rw[G.S.nr];exact hi
 have hr':i<w.gr.length:=by rw[G.S.gr];exact hi
 have l1:=dU hr;have l2:=bI hr';obtain⟨gc7,gr7⟩:=dr G;have pA:=lD hu8 (ay w.gc);have tA:=mh hu (c:=ay w.gc) (by omega);have tB:=iL hu (c:=ay w.gc) (r:=ay w.gr) (by omega) (by omega);refine bP Tryz.func62 rfl (by simp) (fun C hC=>?_);have hC:C.fx=[0,1,2,3,4,5]:=hC;by_cases hl:(gt w.rows i).ab.length=1
 ·obtain⟨t0,t1,t2⟩:=eF G hi (k:=0) (by omega);have wt:=G.W.te i hr 0 (by omega);have wr:=G.W.ro i hr;have lt:=dZ (l:=(gt w.rows i).ab) (i:=0) (by omega);have e:j3 w i=(true,dw (bN w (gt (gt w.rows i).ab 0).aI.toNat (cA (gt w.ae (gt (gt w.rows i).ab 0).aI.toNat) (dA zB (gt w.rows i).low (gt w.rows i).high (1 / (gt (gt w.rows i).ab 0).num)).lo (dA zB (gt w.rows i).low (gt w.rows i).high (1 / (gt (gt w.rows i).ab 0).num)).hi)) i):=by
   unfold j3;simp only[];rw[if_pos hl]
  rw[e,←Cu t2];generalize gt (gt w.rows i).ab 0=t at *;obtain⟨j,ej⟩:∃j:Nat,t.aI=j:=⟨t.aI.toNat,by omega⟩;have ej':t.aI.toNat=j:=by omega
  rw[ej']at t1 ⊢;have wc:=G.W.co j (by rw[G.S.nc];exact t1);have hl':((gt w.rows i).ab.length:Int)=1:=by omega
  generalize gt w.rows i=r at *;have q1:bQ r.low.at':=ah wr.1 (by omega);have q2:bQ r.high.at':=ah wr.2 (by omega);have q3:bQ t.num:=ah wt (by omega);have q4:bQ (CM r.low t.num).at':=ah (K4 wr.1 wt (by omega)) (by omega);have q5:bQ (CM r.high t.num).at':=ah (K4 wr.2 wt (by omega)) (by omega);refine aa.go ?_;simp only[aG,aS,aR];simp(disch:=omega)[hr,l1,hl,hl',lt];repeat refine akI ?_
  refine aa.nG (.d 10<|.d 11<|.qs [0,1,2,3,5,6,7,8]<|.p 4<|.p 9<|.b (.l 12 [9]<|.l 13 [10]<|.nil)) (by kernel_rfl) (by kernel_rfl) (by simp) ?_;simp;refine ig (DQ r.low t.num q1 q3) (by simp) ?_;simp;refine ig (DQ r.high t.num q2 q3) (by simp) ?_;simp;refine akK (pd t.num) ?_;have qc1:bQ (gt w.ae j).low.at':=ah wc.1 (by omega);have qc2:bQ (gt w.ae j).high.at':=ah wc.2.1 (by omega);by_cases hs:t.num<0
  ·rw[if_pos hs,if_pos hs];simp[hs,ej];refine cN (kY (u:=u) (mx:=mx) (s0:=s0) G.S t1 q5 q4 qc1 qc2) [0,1,2,3,4,5,6] (by simp) (by simp[aG,aS,aR]) (by simp) (by simp[aG,hC]) (by simp) ?_;rintro T y ⟨rfl,rfl⟩;have l2:=bI hr';simp only[aG,aS,aR,bN];simp(disch:=omega)[hr',l2,eQ, -amw];repeat refine akI ?_
   exact⟨_,_,⟨rfl,rfl⟩,by simp,by simp[aG,aS,aR,dX,dw, -amw],by simp[aG],.inr ⟨by simp,by simp[aG,eP,aS,aR]⟩⟩
  ·rw[if_neg hs,if_neg hs];simp[hs,ej];refine cN (kY (u:=u) (mx:=mx) (s0:=s0) G.S t1 q4 q5 qc1 qc2) [0,1,2,3,4,5,6] (by simp) (by simp[aG,aS,aR]) (by simp) (by simp[aG,hC]) (by simp) ?_;rintro T y ⟨rfl,rfl⟩;have l2:=bI hr';simp only[aG,aS,aR,bN];simp(disch:=omega)[hr',l2,eQ, -amw];repeat refine akI ?_
   exact⟨_,_,⟨rfl,rfl⟩,by simp,by simp[aG,aS,aR,dX,dw, -amw],by simp[aG],.inr ⟨by simp,by simp[aG,eP,aS,aR]⟩⟩
 ·have e:j3 w i=(false,w):=by unfold j3;simp only[];rw[if_neg hl]
  rw[e];have hl':¬((gt w.rows i).ab.length:Int)=1:=by omega
  refine aa.go ?_;simp only[aG,aS,aR];simp(disch:=omega)[hr,l1,hl,hl'];repeat refine akI ?_
  exact⟨_,_,⟨rfl,rfl⟩,by simp,by simp[aG,aS,aR,dX],by simp[aG],.inr ⟨by simp,by simp[aG,eP,aS,aR]⟩⟩
end Go.Proofs


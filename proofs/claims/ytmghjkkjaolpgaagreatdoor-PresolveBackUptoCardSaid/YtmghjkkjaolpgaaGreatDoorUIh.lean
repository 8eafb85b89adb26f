/- A text of the prover's own. -/
import Derived.Test.YtmghjkkjaolpgaaGreatDoorUId
import Derived.Test.YtmghjkkjaolpgaaGreatDoorUIi
import Derived.Test.YtmghjkkjaolpgaaGreatDoorUVu
open List renaming map_set→anF,map_cons→amc,take→aoM,drop→aoN,map→ao3
open Rat renaming div_def→aoz,one_mul→ape,mul_inv_cancel→apf,mul_zero→apg
set_option maxRecDepth 10000
namespace Go.Sv
open Go
theorem ae.jk{P:Program}{C:Ctx}{x y:Code}{st:St}{Q:aV}(I:St→Prop)(h1:ae P C x st (qE (fun st'=>∃st'',I st''∧Le C st' st'') Q))(h2:∀st'',I st''→ae P C y st'' Q):ae P C (.seq x y) st Q:=by
 refine ae.xf (ae.mono h1 fun e st' h=>?_);cases e<;>simp only[qE]at h ⊢
 case normal =>
  obtain⟨st'',h3,h4⟩:=h;exact ae.le h4 (h2 st'' h3)
 all_goals exact h
end Go.Sv
namespace Go.Ps
open Go Go.Sv Go.Pl Go.Proofs Go.Tb Go.Ut Go.Li
def gk(s:lU):SV:=.agg ([iv (if s.ab.length=0 then 1 else 2),iv s.aq]++(aY s.at').cells++[.ro (s.ab.map aT)])
@[simp] theorem SP(s:lU):(gk s).fj=7:=rfl
@[simp] theorem OT(s:lU):(gk s).aM=false:=rfl
@[simp] theorem NL(s:lU):(gk s).isAgg=true:=rfl
@[simp] theorem Re(s:lU):(gk s).pure=true:=rfl
@[simp] theorem YW(n:Nat)(s:lU):(gk s).lt n=true:=rfl
@[simp] theorem Qf(n:Nat)(s:lU):(gk s).bC n=false:=rfl
@[simp] theorem acH(s:lU):aA (gk s).cells 0=iv (if s.ab.length=0 then 1 else 2):=rfl
@[simp] theorem acU(s:lU):aA (gk s).cells 1=iv s.aq:=rfl
@[simp] theorem ZB(s:lU):SV.agg (((gk s).cells.drop 2).take 4)=aY s.at':=rfl
@[simp] theorem Yo(s:lU):aA (gk s).cells 6=.ro (s.ab.map aT):=rfl
theorem FZ{l:List _}{i:Nat}(h:i<l.length):aA (l.map gk) i=gk (gt l i):=eZ _ h
def aQ(n m k:Nat)(no:Bool)(sh:Rat):SV:=.agg (.ptr 1 0 0::.view 4 0 n::.view 5 0 m::.view 6 0 k::cU no::(aY sh).cells)
def aR(mx:Bool)(s0:Rat)(n m:Nat):SV:=.agg (cU mx::((aY s0).cells++[.view 2 0 n,.view 3 0 m]))
def aC(mx:Bool)(s0:Rat)(w:Wk):aJ:=[some ⟨9,[aQ w.gc.length w.gr.length w.steps.length w.no w.sh],false⟩,some ⟨7,[aR mx s0 w.aa.length w.rows.length],false⟩,
 some ⟨16,w.aa.map bS,false⟩,some ⟨12,w.rows.map bE,false⟩,some ⟨1,w.gc.map cU,false⟩,some ⟨1,w.gr.map cU,false⟩,some ⟨7,w.steps.map gk,false⟩]
def Mq(mx:Bool)(s0:Rat)(q:Bool × Wk)(T:aJ)(y:SV):Prop:=T=aC mx s0 q.2∧y=cU q.1
theorem wV{α:Type}(f:α→SV)(l:List α)(i:Nat)(x:α):bD (l.map f) i (f x)=(l.set i x).map f:=by rw[cj,anF]
@[simp] theorem adW(σ:Nat→Nat)(l:List Bool):dC σ (l.map cU)=l.map cU:=cY σ _ (by simp)
@[simp] theorem aeN(σ:Nat→Nat)(l:List df):dC σ (l.map bS)=l.map bS:=cY σ _ (by simp)
@[simp] theorem O3(σ:Nat→Nat)(l:List Row):dC σ (l.map bE)=l.map bE:=cY σ _ (by simp)
@[simp] theorem afG(σ:Nat→Nat)(l:List lU):dC σ (l.map gk)=l.map gk:=cY σ _ (by simp)
theorem rG{α:Type}{f:α→SV}(h:∀x,iR (f x)=f x):∀l:List α,jQ (l.map f)=l.map f
 | []=>rfl
 | x::l=>by simp only[amc,jQ,h x,rG h l]
@[simp] theorem Xi(l:List Bool):jQ (l.map cU)=l.map cU:=rG (fun _=>rfl) l
@[simp] theorem U9(l:List df):jQ (l.map bS)=l.map bS:=rG (fun _=>rfl) l
@[simp] theorem Wn(l:List Row):jQ (l.map bE)=l.map bE:=rG (fun _=>rfl) l
@[simp] theorem WY(l:List lU):jQ (l.map gk)=l.map gk:=rG (fun _=>rfl) l
theorem O0(mx:Bool)(s0:Rat)(w:Wk)(tl:aJ):xd (aC mx s0 w++tl)=aC mx s0 w++xd tl:=by
 have h1:jQ [aQ w.gc.length w.gr.length w.steps.length w.no w.sh]=[aQ w.gc.length w.gr.length w.steps.length w.no w.sh]:=rfl;have h2:jQ [aR mx s0 w.aa.length w.rows.length]=[aR mx s0 w.aa.length w.rows.length]:=rfl;simp only[xd,List.map_append,aC,amc,List.map_nil,Option.map,h1,h2,Xi,U9,Wn,WY]
theorem Ct{C:Ctx}{N:Nat}{mx:Bool}{s0:Rat}{w:Wk}{fr fr':List (Nat × SV)}{tl tl':aJ}(hf:FV (EO fr) fr')(ht:iS (aC mx s0 w++xd tl) (aC mx s0 w++tl'))(hl:tl.length=tl'.length) :
  Le C ⟨N,fr,aC mx s0 w++tl⟩ ⟨N,fr',aC mx s0 w++tl'⟩:=by
 refine(Le.nl _).trans ?_;unfold Tn;rw[O0];exact Le.ct ⟨rfl,hf,ht,.inl (by simp[xd,hl])⟩
theorem mB(l:List Bool)(i:Nat)(x:Bool):bD (l.map cU) i (.val (.bool x))=(l.set i x).map cU:=wV cU l i x
@[simp] theorem aft(c:df):aA (bS c).cells 2=.val (.bool c.low.has):=rfl
@[simp] theorem agT(c:df):aA (bS c).cells 7=.val (.bool c.high.has):=rfl
@[simp] theorem aef(c:df):SV.agg (aoM 4 (aoN 3 (bS c).cells))=aY c.low.at':=rfl
@[simp] theorem af7(c:df):SV.agg (aoM 4 (aoN 8 (bS c).cells))=aY c.high.at':=rfl
@[simp] theorem aew(r:Row):aA (bE r).cells 2=.val (.bool r.low.has):=rfl
@[simp] theorem adP(r:Row):SV.agg (aoM 4 (aoN 3 (bE r).cells))=aY r.low.at':=rfl
end Go.Ps
namespace Go.Proofs
open Go.Sv Go Go.Tb Go.Pl Go.Ut Go.Li Go.Ps
def DA(b:Bo)(r:Rat):Bo:=⟨b.has,if b.has=true then b.at' / r else b.at'⟩
theorem Eu(b:Bo)(r:Rat)(hb:dE b.at')(hr:dE r):aI Tryz.prog 94 [cL b,aY r] (cL (DA b r)):=by
 refine aj Tryz.func94 rfl (by simp) (fun C hC=>?_);simp;refine⟨fun h=>?_,fun h=>?_⟩
 ·refine ai (uG b.at' r hb hr) (by simp) ?_;simp;rw[show SV.agg (aoM 1 (cL b).cells++((aY (b.at' / r)).cells++aoN 5 (cL b).cells))=cL (DA b r) by unfold DA;rw[if_pos h];rfl];exact eh _ _ rfl
 ·rw[show DA b r=b by unfold DA;rw[if_neg (by simp[h])]];exact eh _ _ rfl
theorem Ie{n m u:Nat}{w:Wk}{mx:Bool}{s0:Rat}(G:Ps.aW n m u w)(hn:w.no=false){i:Nat}(hi:i<m) :
  mw Tryz.prog 61 [.ptr 0 0 0,iv i] (aC mx s0 w) [6] (Mq mx s0 (iF w i)):=by
 have hr:i<w.rows.length:=by rw[G.S.nr];exact hi
 have hr':i<w.gr.length:=by rw[G.S.gr];exact hi
 have l1:=dX hr;have l2:=dO hr';refine dK Tryz.func61 rfl (by simp) (fun C hC=>?_);have hC:C.fx=[0,1,2,3,4,5]:=hC;by_cases hl:(gt w.rows i).ab.length=0
 ·have e:iF w i=(true,fh (eD w (!ix 0 (gt w.rows i).low (gt w.rows i).high)) i):=by unfold iF;rw[if_pos hl]
  rw[e];generalize gt w.rows i=r at *;refine ae.cutAt 4 (fun st=>st=⟨51,[(0,.ptr 0 0 0),(1,iv i)],aC mx s0 (eD w (!ix 0 r.low r.high))++[some ⟨12,[bE r],false⟩]⟩) ?_ ?_
  ·simp only[aG,aE,aC,aQ,aR,eD];by_cases h1:r.low.has=true
   ·by_cases h2:0<r.low.at'
    ·simp(disch:=omega)[hr,l1,hl,h1];repeat refine alR ?_
     refine alT (o7 r.low.at') ?_;simp(disch:=omega)[h2];repeat refine alR ?_
     simp[ar,hC,ix,h1,h2]
    ·by_cases h3:r.high.has=true
     ·by_cases h4:r.high.at'<0
      ·simp(disch:=omega)[hr,l1,hl,h1,h3];repeat refine alR ?_
       refine alT (o7 r.low.at') ?_;simp(disch:=omega)[h2,h3];repeat refine alR ?_
       refine alT (o7 r.high.at') ?_;simp(disch:=omega)[h4];repeat refine alR ?_
       simp[ar,hC,ix,h1,h3,h4,h2]
      ·simp(disch:=omega)[hr,l1,hl,h1,h3];repeat refine alR ?_
       refine alT (o7 r.low.at') ?_;simp(disch:=omega)[h2,h3];repeat refine alR ?_
       refine alT (o7 r.high.at') ?_;simp(disch:=omega)[h4,hn];repeat refine alR ?_
       simp[ar,hC,ix,h1,h3,h4,h2,hn]
     ·simp(disch:=omega)[hr,l1,hl,h1,h3];repeat refine alR ?_
      refine alT (o7 r.low.at') ?_;simp(disch:=omega)[h2,h3];repeat refine alR ?_
      simp(disch:=omega)[hn];repeat refine alR ?_
      simp[ar,hC,ix,h1,h3,h2,hn]
   ·by_cases h3:r.high.has=true
    ·by_cases h4:r.high.at'<0
     ·simp(disch:=omega)[hr,l1,hl,h1,h3];repeat refine alR ?_
      refine alT (o7 r.high.at') ?_;simp(disch:=omega)[h4];repeat refine alR ?_
      simp[ar,hC,ix,h1,h3,h4]
     ·simp(disch:=omega)[hr,l1,hl,h1,h3];repeat refine alR ?_
      refine alT (o7 r.high.at') ?_;simp(disch:=omega)[h4,hn];repeat refine alR ?_
      simp[ar,hC,ix,h1,h3,h4,hn]
    ·simp(disch:=omega)[hr,l1,hl,h1,h3];repeat refine alR ?_
     simp(disch:=omega)[hn];repeat refine alR ?_
     simp[ar,hC,ix,h1,h3,hn]
  ·rintro st rfl;simp only[ax,au,aC,aQ,aR,eD];refine ae.go ?_;simp(disch:=omega)[hr',l2,mB];repeat refine alR ?_
   exact⟨_,_,⟨rfl,rfl⟩,by simp,by simp[aC,aQ,aR,iS,eD,fh],by simp[aC],.inr ⟨by simp,by simp[aC,j6,aQ,aR]⟩⟩
 ·have e:iF w i=(false,w):=by unfold iF;rw[if_neg hl]
  rw[e];have hp:0<(gt w.rows i).ab.length:=by omega
  have hz:¬(gt w.rows i).ab=[]:=fun h=>hl (by rw[h];rfl);refine ae.go ?_;simp only[aC,aQ,aR];simp(disch:=omega)[hr,l1,hp,hz];repeat refine alR ?_
  exact⟨_,_,⟨rfl,rfl⟩,by simp,by simp[aC,aQ,aR,iS],by simp[aC],.inr ⟨by simp,by simp[aC,j6,aQ,aR]⟩⟩
end Go.Proofs
set_option maxRecDepth 10000
set_option maxHeartbeats 1000000
namespace Go.Ps
open Go Go.Sv Go.Pl Go.Proofs Go.Tb Go.Ut Go.Li
theorem zW{α:Type}[Inhabited α]{l:List α}{j:Nat}(h:j<l.length):l.set j (gt l j)=l:=Ld (by simp) fun i hi=>by
 have hi':i<l.length:=by simpa using hi
 rw[dM hi'];split
 ·rename_i e;rw[e]
 ·rfl
theorem Lc{c:df}{b:Bo}(h:b.has=false):lA c b=c.low:=by unfold lA;rw[if_neg (by simp[h])]
theorem KB{c:df}{b:Bo}(h:b.has=false):lY c b=c.high:=by unfold lY;rw[if_neg (by simp[h])]
theorem B5{c:df}{b:Bo}(h:b.has=true)(h':c.low.has=false∨c.low.at'<yd c.whole b.at'):lA c b=⟨true,yd c.whole b.at'⟩:=by
 unfold lA;rw[if_pos ⟨h,fun e=>h'.resolve_left (by simp[e])⟩]
theorem AV{c:df}{b:Bo}(h:b.has=true)(h':c.high.has=false∨AA c.whole b.at'<c.high.at'):lY c b=⟨true,AA c.whole b.at'⟩:=by
 unfold lY;rw[if_pos ⟨h,fun e=>h'.resolve_left (by simp[e])⟩]
theorem HS{c:df}{b:Bo}(h:c.low.has=true)(h':¬c.low.at'<yd c.whole b.at'):lA c b=c.low:=by unfold lA;rw[if_neg fun q=>h' (q.2 h)]
theorem HE{c:df}{b:Bo}(h:c.high.has=true)(h':¬AA c.whole b.at'<c.high.at'):lY c b=c.high:=by unfold lY;rw[if_neg fun q=>h' (q.2 h)]
theorem vI{c:df}{b:Bo}:SV.agg (aoM 2 (bS c).cells++((cL b).cells++aoN 7 (bS c).cells))=bS ⟨c.name,c.whole,b,c.high,c.cost⟩:=rfl
theorem sr{c:df}{b:Bo}:SV.agg (aoM 7 (bS c).cells++((cL b).cells++aoN 12 (bS c).cells))=bS ⟨c.name,c.whole,c.low,b,c.cost⟩:=rfl
theorem uA{b:Bo}{q:Rat}:SV.agg (aoM 1 (cL b).cells++((aY q).cells++aoN 5 (cL b).cells))=cL ⟨b.has,q⟩:=rfl
theorem kC(l:List df)(i:Nat)(c:df):bD (l.map bS) i (bS c)=(l.set i c).map bS:=wV bS l i c
end Go.Ps
namespace Go.Proofs
open Go.Sv Go Go.Tb Go.Pl Go.Ut Go.Li Go.Ps
theorem kJ{n m u:Nat}{w:Wk}{mx:Bool}{s0:Rat}(G:Ae n m w){j:Nat}(hj:j<n){lo hi:Bo}(ql:dE lo.at')(qh:dE hi.at')(qcl:dE (gt w.aa j).low.at')(qch:dE (gt w.aa j).high.at') :
  mw Tryz.prog 95 [.ptr 0 0 0,iv j,cL lo,cL hi] (aC mx s0 w) [6] (fun T y=>T=aC mx s0 (cD w j (Ps.bg (gt w.aa j) lo hi))∧y=.bG []):=by
 have hr:j<w.aa.length:=by rw[G.nc];exact hj
 have l1:=cX hr;have gs:=zW hr;have gce:=zr lo.at'.ceil 1 (by have:=KG ql;unfold fit;unfold fw at this;omega) (by unfold fit;decide);have gfl:=zr hi.at'.floor 1 (by have:=w7 qh;unfold fit;unfold fw at this;omega) (by unfold fit;decide);rw[K8]at gce gfl;refine dK Tryz.func95 rfl (by simp) (fun C hC=>?_);have hC:C.fx=[0,1,2,3,4,5]:=hC;obtain⟨c,ec⟩:∃c,gt w.aa j=c:=⟨_,rfl⟩;rw[ec]at l1 gs qcl qch ⊢;have gq:(ao3 bS w.aa).set j (bS ⟨c.name,c.whole,c.low,c.high,c.cost⟩)=ao3 bS w.aa:=by rw[←anF];exact congrArg _ gs
 refine ae.cutAt 2 (fun st=>st=⟨92,[(6,.ptr 7 0 0),(7,.ptr 8 0 0),(8,.ptr 2 j 0)],aC mx s0 w++[some ⟨5,[cL lo],false⟩,some ⟨5,[cL hi],false⟩]⟩) ?_ ?_
 ·simp only[aG,aE,aC,aQ,aR];simp(disch:=omega)[hr];repeat refine alR ?_
  simp[ar,hC];done
 rintro st rfl;simp only[ax,au];refine ae.jk (fun st=>∃lo',st=⟨92,[(6,.ptr 7 0 0),(7,.ptr 8 0 0),(8,.ptr 2 j 0)],aC mx s0 (cD w j ⟨c.name,c.whole,lA c lo,c.high,c.cost⟩)++[some ⟨5,[cL lo'],false⟩,some ⟨5,[cL hi],false⟩]⟩) ?_ ?_
 ·simp only[aC,aQ,aR,cD];refine ae.xf (ae.mj (r5.go ?_));simp(disch:=omega)[hr,l1];repeat refine alR ?_
  by_cases h1:lo.has=true
  ·refine ae.jz true (by simp[h1]) (fun _=>?_) (fun q=>by cases q);refine ae.jk (fun st=>st=⟨92,[(6,.ptr 7 0 0),(7,.ptr 8 0 0),(8,.ptr 2 j 0)],aC mx s0 w++[some ⟨5,[cL ⟨lo.has,yd c.whole lo.at'⟩],false⟩,some ⟨5,[cL hi],false⟩]⟩) ?_ ?_
   ·simp only[aC,aQ,aR];refine ae.go ?_;by_cases hw:c.whole=true
    ·simp(disch:=omega)[hr,l1,hw];repeat refine alR ?_
     refine alT (Jg lo.at' ql) ?_;simp;refine alT (EM 1 (by omega) (by omega)) ?_;simp;refine alT (Ej 1) ?_;simp;refine alT (gce) ?_;simp[uA];exact Le.ct (by simp[ar,hC,yd,hw,uA])
    ·simp(disch:=omega)[hr,l1,hw];repeat refine alR ?_
     exact Le.ct (by simp[ar,hC,yd,hw])
   rintro st rfl;simp only[aC,aQ,aR];refine ae.go ?_;have qu:dE (yd c.whole lo.at'):=MK ql (by omega);by_cases h2:c.low.has=true
   ·by_cases h3:c.low.at'<yd c.whole lo.at'
    ·rw[B5 h1 (.inr h3)];simp;refine ae.alS (.qs [0,1,2,3,4,5,6,7,8,9,10,11,12,13]<|.l 14 []<|.qs [15,16]<|.nil) ?_;simp(disch:=omega)[hr,l1,h2];repeat refine alR ?_
     refine alT (tJ _ _ qu qcl) ?_;simp(disch:=omega)[hr,l1,h2,h3, -anF];repeat refine alR ?_
     exact⟨_,⟨⟨true,yd c.whole lo.at'⟩,rfl⟩,Le.ct (by simp[ar,hC,h1,vI,kC])⟩
    ·rw[HS h2 h3];simp;refine ae.alS (.qs [0,1,2,3,4,5,6,7,8,9,10,11,12,13]<|.l 14 []<|.qs [15,16]<|.nil) ?_;simp(disch:=omega)[hr,l1,h2];repeat refine alR ?_
     refine alT (tJ _ _ qu qcl) ?_;simp(disch:=omega)[hr,l1,h2,h3, -anF];repeat refine alR ?_
     exact⟨_,⟨⟨true,yd c.whole lo.at'⟩,rfl⟩,Le.ct (by simp[ar,hC,h1,gq])⟩
   ·rw[B5 h1 (.inl (by simpa using h2))];simp;refine ae.alS (.qs [0,1,2,3,4,5,6,7,8,9,10,11,12,13]<|.l 14 []<|.qs [15,16]<|.nil) ?_;simp(disch:=omega)[hr,l1,h2, -anF];repeat refine alR ?_
    exact⟨_,⟨⟨true,yd c.whole lo.at'⟩,rfl⟩,Le.ct (by simp[ar,hC,h1,vI,kC])⟩
  ·refine ae.jz false (by simp[h1]) (fun q=>by cases q) (fun _=>?_);rw[Lc (by simpa using h1)];refine ae.go ?_;simp[-anF];exact⟨_,⟨lo,rfl⟩,Le.ct (by simp[ar,hC,gq])⟩
 rintro st ⟨lo',rfl⟩;obtain⟨c1,e1⟩:∃c1:df,⟨c.name,c.whole,lA c lo,c.high,c.cost⟩=c1:=⟨_,rfl⟩;have eT:Ps.bg c lo hi=⟨c1.name,c1.whole,c1.low,lY c1 hi,c1.cost⟩:=by subst e1;rfl
 have qch1:dE c1.high.at':=by subst e1;exact qch
 rw[eT,e1];obtain⟨w1,ew⟩:∃w1,cD w j c1=w1:=⟨_,rfl⟩;have es:∀x,cD w j x=cD w1 j x:=fun x=>by rw[←ew];simp[cD]
 rw[ew,es];have hr:j<w1.aa.length:=by rw[←ew];simpa[cD]using hr
 have g1:gt w1.aa j=c1:=by rw[←ew];show gt (w.aa.set j c1) j=c1;rw[dM (by simpa[←ew,cD]using hr),if_pos rfl]
 have l1:aA (ao3 bS w1.aa) j=bS c1:=by rw[cX hr,g1]
 have gq:(ao3 bS w1.aa).set j (bS ⟨c1.name,c1.whole,c1.low,c1.high,c1.cost⟩)=ao3 bS w1.aa:=by rw[←anF];have:=zW hr;rw[g1]at this;exact congrArg _ this
 clear e1 ew es eT;simp only[aC,aQ,aR];refine ae.xf (ae.mj (r5.go ?_));simp(disch:=omega)[hr,l1];repeat refine alR ?_
 have qu:dE (AA c1.whole hi.at'):=MM qh (by omega);by_cases h1:hi.has=true
 ·refine ae.jz true (by simp[h1]) (fun _=>?_) (fun q=>by cases q);refine ae.jk (fun st=>st=⟨92,[(6,.ptr 7 0 0),(7,.ptr 8 0 0),(8,.ptr 2 j 0)],aC mx s0 w1++[some ⟨5,[cL lo'],false⟩,some ⟨5,[cL ⟨hi.has,AA c1.whole hi.at'⟩],false⟩]⟩) ?_ ?_
  ·simp only[aC,aQ,aR];refine ae.go ?_;by_cases hw:c1.whole=true
   ·simp(disch:=omega)[hr,l1,hw];repeat refine alR ?_
    refine alT (yc hi.at' qh) ?_;simp;refine alT (EM 1 (by omega) (by omega)) ?_;simp;refine alT (Ej 1) ?_;simp;refine alT (gfl) ?_;simp[uA];exact Le.ct (by simp[ar,hC,AA,hw,uA])
   ·simp(disch:=omega)[hr,l1,hw];repeat refine alR ?_
    exact Le.ct (by simp[ar,hC,AA,hw])
  rintro st rfl;simp only[aC,aQ,aR];refine ae.go ?_;by_cases h2:c1.high.has=true
  ·by_cases h3:AA c1.whole hi.at'<c1.high.at'
   ·rw[AV h1 (.inr h3)];simp;refine ae.alS (.qs [0,1,2,3,4,5,6,7,8,9,10,11,12,13]<|.l 14 []<|.qs [15,16]<|.nil) ?_;simp(disch:=omega)[hr,l1,h2];repeat refine alR ?_
    refine alT (tJ _ _ qu qch1) ?_;simp(disch:=omega)[hr,l1,h2,h3];repeat refine alR ?_
    exact⟨_,_,⟨rfl,rfl⟩,by simp,by simp[aC,aQ,aR,iS,cD,h1,sr,kC],by simp[aC],.inr ⟨by simp,by simp[aC,j6,aQ,aR]⟩⟩
   ·rw[HE h2 h3];simp;refine ae.alS (.qs [0,1,2,3,4,5,6,7,8,9,10,11,12,13]<|.l 14 []<|.qs [15,16]<|.nil) ?_;simp(disch:=omega)[hr,l1,h2];repeat refine alR ?_
    refine alT (tJ _ _ qu qch1) ?_;simp(disch:=omega)[hr,l1,h2,h3];repeat refine alR ?_
    exact⟨_,_,⟨rfl,rfl⟩,by simp,by simp[aC,aQ,aR,iS,cD,gq],by simp[aC],.inr ⟨by simp,by simp[aC,j6,aQ,aR]⟩⟩
  ·rw[AV h1 (.inl (by simpa using h2))];simp;refine ae.alS (.qs [0,1,2,3,4,5,6,7,8,9,10,11,12,13]<|.l 14 []<|.qs [15,16]<|.nil) ?_;simp(disch:=omega)[hr,l1,h2];repeat refine alR ?_
   exact⟨_,_,⟨rfl,rfl⟩,by simp,by simp[aC,aQ,aR,iS,cD,h1,sr,kC],by simp[aC],.inr ⟨by simp,by simp[aC,j6,aQ,aR]⟩⟩
 ·refine ae.jz false (by simp[h1]) (fun q=>by cases q) (fun _=>?_);rw[KB (by simpa using h1)];refine ae.go ?_;simp;exact⟨_,_,⟨rfl,rfl⟩,by simp,by simp[aC,aQ,aR,iS,cD,gq],by simp[aC],.inr ⟨by simp,by simp[aC,j6,aQ,aR]⟩⟩
end Go.Proofs
set_option maxRecDepth 10000
set_option maxHeartbeats 1000000
namespace Go.Ps
open Go Go.Sv Go.Pl Go.Proofs Go.Tb Go.Ut Go.Li
theorem y9{q:Rat}(h:q≠0):1 / q<0↔q<0:=by
 have e:1 / q=q⁻¹:=by rw[aoz,ape]
 have h1:=@Rat.inv_pos q;have h2:=apf q h;rw[e];have h3:q⁻¹≠0:=fun e=>by rw[e,apg]at h2;exact absurd h2 (by decide)
 constructor<;>intro h4<;>grind
theorem IU{q:Rat}(h:q≠0):1 / q≠0:=by
 have e:1 / q=q⁻¹:=by rw[aoz,ape]
 have h2:=apf q h;rw[e];exact fun e=>by rw[e,apg]at h2;exact absurd h2 (by decide)
def kG(a b:Bo):Prop:=a.has=b.has∧(a.has=true→a.at'=b.at')
theorem GA{c:df}{a b:Bo}(h:kG a b):lA c a=lA c b:=by
 unfold lA;by_cases e:a.has=true
 ·rw[←h.1,h.2 e]
 ·rw[if_neg (by simp[e]),if_neg (by simp[←h.1,e])]
theorem GX{c:df}{a b:Bo}(h:kG a b):lY c a=lY c b:=by
 unfold lY;by_cases e:a.has=true
 ·rw[←h.1,h.2 e]
 ·rw[if_neg (by simp[e]),if_neg (by simp[←h.1,e])]
theorem ot{c:df}{a a' b b':Bo}(h:kG a a')(h':kG b b'):bg c a b=bg c a' b':=by
 unfold bg;rw[GA h,GX h']
theorem z5(b:Bo)(q:Rat):kG (DA b q) (bV ⟨true,0⟩ b (1 / q)):=by
 unfold kG DA bV;by_cases h:b.has=true
 ·simp[h,Rat.zero_add,aoz,ape]
 ·simp[h]
theorem Cp{c:df}{lo hi:Bo}{q:Rat}(hq:q≠0):bg c (if q<0 then DA hi q else DA lo q) (if q<0 then DA lo q else DA hi q)=bg c (ck zB lo hi (1 / q)).lo (ck zB lo hi (1 / q)).hi:=by
 unfold ck;rw[if_neg (IU hq)];by_cases h:q<0
 ·rw[if_pos h,if_pos h,if_pos ((y9 hq).2 h)];exact ot (z5 _ _) (z5 _ _)
 ·rw[if_neg h,if_neg h,if_neg (fun e=>h ((y9 hq).1 e))];exact ot (z5 _ _) (z5 _ _)
end Go.Ps
namespace Go.Proofs
open Go.Sv Go Go.Tb Go.Pl Go.Ut Go.Li Go.Ps
theorem MY{k l:Nat}{b:Bo}{q:Rat}(hb:qw k b.at')(hq:qw l q)(hl:1≤l):qw (k+l) (DA b q).at':=by
 show qw (k+l) (if b.has=true then b.at' / q else b.at');split
 ·exact lj hb hq hl
 ·exact ah hb (by omega)
theorem Hu{n m u:Nat}{w:Wk}{mx:Bool}{s0:Rat}(G:aW n m u w)(hu8:8≤u)(hu:u≤2400)(h7:n≤7)(h7':m≤7){i:Nat}(hi:i<m) :
  mw Tryz.prog 62 [.ptr 0 0 0,iv i] (aC mx s0 w) [6] (Mq mx s0 (jA w i)):=by
 have hr:i<w.rows.length:=by rw[G.S.nr];exact hi
 have hr':i<w.gr.length:=by rw[G.S.gr];exact hi
 have l1:=dX hr;have l2:=dO hr';obtain⟨gc7,gr7⟩:=fm G;have pA:=pO hu8 (aD w.gc);have tA:=vg hu (c:=aD w.gc) (by omega);have tB:=na hu (c:=aD w.gc) (r:=aD w.gr) (by omega) (by omega);refine dK Tryz.func62 rfl (by simp) (fun C hC=>?_);have hC:C.fx=[0,1,2,3,4,5]:=hC;by_cases hl:(gt w.rows i).ab.length=1
 ·obtain⟨t0,t1,t2⟩:=fE G hi (k:=0) (by omega);have wt:=G.W.te i hr 0 (by omega);have wr:=G.W.ro i hr;have lt:=eu (l:=(gt w.rows i).ab) (i:=0) (by omega);have e:jA w i=(true,fh (cD w (gt (gt w.rows i).ab 0).aq.toNat (bg (gt w.aa (gt (gt w.rows i).ab 0).aq.toNat) (ck zB (gt w.rows i).low (gt w.rows i).high (1 / (gt (gt w.rows i).ab 0).num)).lo (ck zB (gt w.rows i).low (gt w.rows i).high (1 / (gt (gt w.rows i).ab 0).num)).hi)) i):=by
   unfold jA;simp only[];rw[if_pos hl]
  rw[e,←Cp t2];generalize gt (gt w.rows i).ab 0=t at *;obtain⟨j,ej⟩:∃j:Nat,t.aq=j:=⟨t.aq.toNat,by omega⟩;have ej':t.aq.toNat=j:=by omega
  rw[ej']at t1 ⊢;have wc:=G.W.co j (by rw[G.S.nc];exact t1);have hl':((gt w.rows i).ab.length:Int)=1:=by omega
  generalize gt w.rows i=r at *;have q1:dE r.low.at':=ah wr.1 (by omega);have q2:dE r.high.at':=ah wr.2 (by omega);have q3:dE t.num:=ah wt (by omega);have q4:dE (DA r.low t.num).at':=ah (MY wr.1 wt (by omega)) (by omega);have q5:dE (DA r.high t.num).at':=ah (MY wr.2 wt (by omega)) (by omega);refine ae.go ?_;simp only[aC,aQ,aR];simp(disch:=omega)[hr,l1,hl,hl',lt];repeat refine alR ?_
  refine ae.yj (.d 10<|.d 11<|.qs [0,1,2,3,5,6,7,8]<|.p 4<|.p 9<|.b (.l 12 [9]<|.l 13 [10]<|.nil)) (by kernel_rfl) (by kernel_rfl) (by simp) ?_;simp;refine mS (Eu r.low t.num q1 q3) (by simp) ?_;simp;refine mS (Eu r.high t.num q2 q3) (by simp) ?_;simp;refine alT (o7 t.num) ?_;have qc1:dE (gt w.aa j).low.at':=ah wc.1 (by omega);have qc2:dE (gt w.aa j).high.at':=ah wc.2.1 (by omega);by_cases hs:t.num<0
  ·rw[if_pos hs,if_pos hs];simp[hs,ej];refine fy (kJ (u:=u) (mx:=mx) (s0:=s0) G.S t1 q5 q4 qc1 qc2) [0,1,2,3,4,5,6] (by simp) (by simp[aC,aQ,aR]) (by simp) (by simp[aC,hC]) (by simp) ?_;rintro T y ⟨rfl,rfl⟩;have l2:=dO hr';simp only[aC,aQ,aR,cD];simp(disch:=omega)[hr',l2,mB, -anF];repeat refine alR ?_
   exact⟨_,_,⟨rfl,rfl⟩,by simp,by simp[aC,aQ,aR,iS,fh, -anF],by simp[aC],.inr ⟨by simp,by simp[aC,j6,aQ,aR]⟩⟩
  ·rw[if_neg hs,if_neg hs];simp[hs,ej];refine fy (kJ (u:=u) (mx:=mx) (s0:=s0) G.S t1 q4 q5 qc1 qc2) [0,1,2,3,4,5,6] (by simp) (by simp[aC,aQ,aR]) (by simp) (by simp[aC,hC]) (by simp) ?_;rintro T y ⟨rfl,rfl⟩;have l2:=dO hr';simp only[aC,aQ,aR,cD];simp(disch:=omega)[hr',l2,mB, -anF];repeat refine alR ?_
   exact⟨_,_,⟨rfl,rfl⟩,by simp,by simp[aC,aQ,aR,iS,fh, -anF],by simp[aC],.inr ⟨by simp,by simp[aC,j6,aQ,aR]⟩⟩
 ·have e:jA w i=(false,w):=by unfold jA;simp only[];rw[if_neg hl]
  rw[e];have hl':¬((gt w.rows i).ab.length:Int)=1:=by omega
  refine ae.go ?_;simp only[aC,aQ,aR];simp(disch:=omega)[hr,l1,hl,hl'];repeat refine alR ?_
  exact⟨_,_,⟨rfl,rfl⟩,by simp,by simp[aC,aQ,aR,iS],by simp[aC],.inr ⟨by simp,by simp[aC,j6,aQ,aR]⟩⟩
end Go.Proofs


/- A text of the prover's own. -/
import Derived.Test.YtmghjkkjaolpgaaGreatDoorWIh
import Derived.Test.YtmghjkkjaolpgaaGreatDoorWIn
import Derived.Test.YtmghjkkjaolpgaaGreatDoorWIq
open List renaming take→anI,drop→anJ,map_set→amw,take_of_length_le→amv,cons_append→aly,nil_append→anu
open Rat renaming zero_mul→an3,add_zero→an4
set_option maxRecDepth 10000
set_option maxHeartbeats 1000000
namespace Go.Ps
open Go Go.Sv Go.Pl Go.Proofs Go.Tb Go.Ut Go.Li
def jo(s:nY):SV:=.agg ([iv s.aI]++(bL s.at').cells++[.ro (s.ab.map fun t=>iv t.aI),.ro (s.ab.map fun t=>bL t.num)])
@[simp] theorem VU(s:nY):(jo s).eW=7:=rfl
@[simp] theorem Mc(s:nY):(jo s).aO=false:=rfl
@[simp] theorem NX(s:nY):(jo s).isAgg=true:=rfl
@[simp] theorem Qn(s:nY):(jo s).pure=true:=rfl
@[simp] theorem Zw(n:Nat)(s:nY):(jo s).lt n=true:=rfl
@[simp] theorem PB(n:Nat)(s:nY):(jo s).bD n=false:=rfl
@[simp] theorem abl(s:nY):aB (jo s).cells 0=iv s.aI:=rfl
@[simp] theorem Z2(s:nY):aB (jo s).cells 5=.ro (s.ab.map fun t=>iv t.aI):=rfl
@[simp] theorem aas(s:nY):aB (jo s).cells 6=.ro (s.ab.map fun t=>bL t.num):=rfl
theorem Ep{l:List _}{i:Nat}(h:i<l.length):aB (l.map jo) i=jo (gt l i):=dM _ h
def aQ(mx:Bool)(sh:Rat)(n m n' m' k:Nat)(no:Bool):SV:=.agg (bZ mx::((bL sh).cells++[.view 1 0 n,.view 2 0 m,.view 3 0 n',.view 4 0 m',.view 5 0 k,bZ no]))
def aE(mx:Bool)(w:Wk):aJ:=[some ⟨11,[aQ mx w.sh w.ae.length w.rows.length w.gc.length w.gr.length w.steps.length w.no],false⟩,
 some ⟨16,w.ae.map cw,false⟩,some ⟨13,w.rows.map cQ,false⟩,some ⟨1,w.gc.map bZ,false⟩,some ⟨1,w.gr.map bZ,false⟩,some ⟨7,w.steps.map jo,false⟩]
@[simp] theorem afc(c:dL):aB (cw c).cells 2=.val (.bool c.low.has):=rfl
@[simp] theorem acV(c:dL):aB (cw c).cells 7=.val (.bool c.high.has):=rfl
@[simp] theorem acq(c:dL):SV.agg (anI 4 (anJ 3 (cw c).cells))=qb c.low:=rfl
@[simp] theorem aeZ(c:dL):SV.agg (anI 4 (anJ 8 (cw c).cells))=qb c.high:=rfl
@[simp] theorem abW(r:Row):aB (cQ r).cells 3=.val (.bool r.low.has):=rfl
@[simp] theorem adB(r:Row):aB (cQ r).cells 8=.val (.bool r.high.has):=rfl
@[simp] theorem aeO(r:Row):SV.agg (anI 4 (anJ 4 (cQ r).cells))=qb r.low:=rfl
@[simp] theorem aeM(r:Row):SV.agg (anI 4 (anJ 9 (cQ r).cells))=qb r.high:=rfl
def iu(mx:Bool)(q:Bool × Wk)(T:aJ)(y:SV):Prop:=y=bZ q.1∧∃w',T=aE mx w'∧w'.no=q.2.no∧(q.2.no=false→w'=q.2)
theorem iu.same{mx:Bool}{q:Bool × Wk}:iu mx q (aE mx q.2) (bZ q.1):=⟨rfl,_,rfl,rfl,fun _=>rfl⟩
@[simp] theorem acj(σ:Nat→Nat)(l:List dL):dj σ (l.map cw)=l.map cw:=cG σ _ (by simp)
@[simp] theorem acC(σ:Nat→Nat)(l:List Row):dj σ (l.map cQ)=l.map cQ:=cG σ _ (by simp)
@[simp] theorem acs(σ:Nat→Nat)(l:List nY):dj σ (l.map jo)=l.map jo:=cG σ _ (by simp)
@[simp] theorem acW(σ:Nat→Nat)(q:Rat):dj σ (bL q).cells=(bL q).cells:=cG σ _ rfl
theorem kc(l:List dL)(i:Nat)(c:dL):bl (l.map cw) i (cw c)=(l.set i c).map cw:=u5 cw l i c
theorem Fm(l:List Row)(i:Nat)(r:Row):bl (l.map cQ) i (cQ r)=(l.set i r).map cQ:=u5 cQ l i r
theorem zK{c:dL}{q:Rat}:SV.agg (anI 2 (cw c).cells++(SV.val (.bool true)::((bL q).cells++anJ 7 (cw c).cells)))=cw ⟨c.name,c.whole,⟨true,q⟩,c.high,c.cost⟩:=rfl
theorem xe{c:dL}{q:Rat}:SV.agg (anI 7 (cw c).cells++(SV.val (.bool true)::((bL q).cells++anJ 12 (cw c).cells)))=cw ⟨c.name,c.whole,c.low,⟨true,q⟩,c.cost⟩:=rfl
end Go.Ps
namespace Go.Proofs
open Go.Sv Go Go.Tb Go.Pl Go.Ut Go.Li Go.Ps
theorem iQ(a b:Bo)(ha:bQ a.at')(hb:bQ b.at'):aF Tryz.prog 113 [fC a,fC b] (bZ (aD a b)):=by
 refine aj Tryz.func113 rfl (by simp) (fun C hC=>?_);simp;by_cases h1:a.has=true
 ·by_cases h2:b.has=true
  ·simp[h1,h2,du h1,du h2];refine akK (uI a.at' b.at' ha hb) ?_;simp[aD,h1,h2];done
  ·simp[h1,h2,aD]
 ·simp[h1,aD]
theorem oM(a b:Bo)(ha:bQ a.at')(hb:bQ b.at'):aF Tryz.prog 114 [fC a,fC b] (bZ (alike a b)):=by
 refine aj Tryz.func114 rfl (by simp) (fun C hC=>?_);simp;by_cases h1:a.has=true
 ·by_cases h2:b.has=true
  ·simp[h1,h2,du h1,du h2];refine akK (uI a.at' b.at' ha hb) ?_;simp[alike,h1,h2];done
  ·simp[h1,h2,alike]
 ·simp[h1,alike]
theorem nO{w:Wk}{mx:Bool}{j:Nat}(hr:j<w.ae.length){lo hi:Bo}(ql:bQ lo.at')(qh:bQ hi.at')(qcl:bQ (gt w.ae j).low.at')(qch:bQ (gt w.ae j).high.at') :
  ji Tryz.prog 121 [.ptr 0 0 0,iv j,fC lo,fC hi] (aE mx w) [] (fun T y=>T=aE mx (bN w j (Ps.cA (gt w.ae j) lo hi))∧y=.bO []):=by
 have l1:=dq hr;refine bP Tryz.func121 rfl (by simp) (fun C hC=>?_);have hC:C.fx=[0,1,2,3,4,5]:=hC;obtain⟨c,ec⟩:∃c,gt w.ae j=c:=⟨_,rfl⟩;rw[ec]at l1 qcl qch ⊢;refine aa.cutAt 2 (fun st=>st=⟨73,[(0,.ptr 0 0 0),(1,iv j),(6,.ptr 6 0 0),(7,.ptr 7 0 0),(8,.ptr 8 0 0)],aE mx w++[some ⟨5,[fC lo],false⟩,some ⟨5,[fC hi],false⟩,some ⟨16,[cw c],false⟩]⟩) ?_ ?_
 ·simp only[ar,aq,aE,aQ];simp(disch:=omega)[hr,l1];repeat refine akI ?_
  simp[aw,hC];done
 rintro st rfl;simp only[ao,al];refine aa.gp (fun st=>st=⟨73,[(0,.ptr 0 0 0),(1,iv j),(7,.ptr 7 0 0),(8,.ptr 8 0 0)],aE mx w++[some ⟨5,[fC lo],false⟩,some ⟨5,[fC hi],false⟩,some ⟨16,[cw ⟨c.name,c.whole,ph c lo,c.high,c.cost⟩],false⟩]⟩) ?_ ?_
 ·simp only[aE,aQ];refine aa.nP (aa.im (nq.go ?_));simp;by_cases h1:lo.has=true
  ·have qu:bQ (xm c.whole lo.at'):=H6 ql (by omega);refine aa.gD true (by simp[h1]) (fun _=>?_) (fun q=>by cases q);refine aa.cutAt 2 (fun st=>st=⟨73,[(0,.ptr 0 0 0),(1,iv j),(7,.ptr 7 0 0),(8,.ptr 8 0 0),(9,.ptr 9 0 0)],aE mx w++[some ⟨5,[fC lo],false⟩,some ⟨5,[fC hi],false⟩,some ⟨16,[cw c],false⟩,some ⟨4,[bL (xm c.whole lo.at')],false⟩]⟩) ?_ ?_
   ·simp only[ar,aq,aE,aQ];by_cases hw:c.whole=true
    ·simp(disch:=omega)[hw,du h1];repeat refine akI ?_
     refine akK (GC lo.at' ql) ?_;simp;refine akK (xo lo.at'.ceil) ?_;simp[aw,hC,xm,hw]
    ·simp(disch:=omega)[hw,du h1];repeat refine akI ?_
     simp[aw,hC,xm,hw]
   rintro st rfl;simp only[ao,al,aE,aQ];refine aa.go ?_;by_cases h2:c.low.has=true
   ·by_cases h3:c.low.at'<xm c.whole lo.at'
    ·rw[rC h1 (.inr h3)];simp(disch:=omega)[h2,du h2];repeat refine akI ?_
     refine akK (uI _ _ qu qcl) ?_;simp(disch:=omega)[h3,zK];repeat refine akI ?_
     exact Le.bA (by simp[aw,hC])
    ·rw[AS h2 h3];simp(disch:=omega)[h2,du h2];repeat refine akI ?_
     refine akK (uI _ _ qu qcl) ?_;simp(disch:=omega)[h3];repeat refine akI ?_
     exact Le.bA (by simp[aw,hC])
   ·rw[rC h1 (.inl (by simpa using h2))];simp(disch:=omega)[h2,zK];repeat refine akI ?_
    exact Le.bA (by simp[aw,hC])
  ·refine aa.gD false (by simp[h1]) (fun q=>by cases q) (fun _=>?_);rw[Dp (by simpa using h1)];refine aa.go ?_;simp;exact Le.bA (by simp[aw,hC])
 rintro st rfl;obtain⟨c1,e1⟩:∃c1:dL,⟨c.name,c.whole,ph c lo,c.high,c.cost⟩=c1:=⟨_,rfl⟩;have eT:Ps.cA c lo hi=⟨c1.name,c1.whole,c1.low,pj c1 hi,c1.cost⟩:=by subst e1;rfl
 have qch1:bQ c1.high.at':=by subst e1;exact qch
 rw[eT,e1];clear eT e1 qch qcl ec;refine aa.gp (fun st=>st=⟨73,[(0,.ptr 0 0 0),(1,iv j),(8,.ptr 8 0 0)],aE mx w++[some ⟨5,[fC lo],false⟩,some ⟨5,[fC hi],false⟩,some ⟨16,[cw ⟨c1.name,c1.whole,c1.low,pj c1 hi,c1.cost⟩],false⟩]⟩) ?_ ?_
 ·simp only[aE,aQ];refine aa.nP (aa.im (nq.go ?_));simp;by_cases h1:hi.has=true
  ·have qu:bQ (AD c1.whole hi.at'):=HY qh (by omega);refine aa.gD true (by simp[h1]) (fun _=>?_) (fun q=>by cases q);refine aa.cutAt 2 (fun st=>st=⟨73,[(0,.ptr 0 0 0),(1,iv j),(8,.ptr 8 0 0),(11,.ptr 9 0 0)],aE mx w++[some ⟨5,[fC lo],false⟩,some ⟨5,[fC hi],false⟩,some ⟨16,[cw c1],false⟩,some ⟨4,[bL (AD c1.whole hi.at')],false⟩]⟩) ?_ ?_
   ·simp only[ar,aq,aE,aQ];by_cases hw:c1.whole=true
    ·simp(disch:=omega)[hw,du h1];repeat refine akI ?_
     refine akK (xR hi.at' qh) ?_;simp;refine akK (xo hi.at'.floor) ?_;simp[aw,hC,AD,hw]
    ·simp(disch:=omega)[hw,du h1];repeat refine akI ?_
     simp[aw,hC,AD,hw]
   rintro st rfl;simp only[ao,al,aE,aQ];refine aa.go ?_;by_cases h2:c1.high.has=true
   ·by_cases h3:AD c1.whole hi.at'<c1.high.at'
    ·rw[qe h1 (.inr h3)];simp(disch:=omega)[h2,du h2];repeat refine akI ?_
     refine akK (uI _ _ qu qch1) ?_;simp(disch:=omega)[h3,xe];repeat refine akI ?_
     exact Le.bA (by simp[aw,hC])
    ·rw[Ab h2 h3];simp(disch:=omega)[h2,du h2];repeat refine akI ?_
     refine akK (uI _ _ qu qch1) ?_;simp(disch:=omega)[h3];repeat refine akI ?_
     exact Le.bA (by simp[aw,hC])
   ·rw[qe h1 (.inl (by simpa using h2))];simp(disch:=omega)[h2,xe];repeat refine akI ?_
    exact Le.bA (by simp[aw,hC])
  ·refine aa.gD false (by simp[h1]) (fun q=>by cases q) (fun _=>?_);rw[CV (by simpa using h1)];refine aa.go ?_;simp;exact Le.bA (by simp[aw,hC])
 rintro st rfl;generalize (⟨c1.name,c1.whole,c1.low,pj c1 hi,c1.cost⟩:dL)=c2;simp only[aE,aQ];refine aa.akJ (.qs [0,1,2,3,4,5,6,7]<|.l 8 [1]<|.nil) ?_;simp(disch:=omega)[hr,l1,kc, -amw];repeat refine akI ?_
 exact⟨_,_,⟨rfl,rfl⟩,by simp,by simp[aE,aQ,bN,dX, -amw],by simp[aE],.inr ⟨by simp,by simp[aE,aQ,eP]⟩⟩
end Go.Proofs
set_option maxRecDepth 10000
set_option maxHeartbeats 2000000
namespace Go.Ps
open Go Go.Sv Go.Pl Go.Proofs Go.Tb Go.Ut Go.Li
theorem E3{c:dL}{q:Rat}:SV.agg (anI 12 (cw c).cells++((bL q).cells++anJ 16 (cw c).cells))=cw ⟨c.name,c.whole,c.low,c.high,q⟩:=rfl
def kS(ts:List Term):List SV:=ts.map fun t=>iv t.aI
def kd(ts:List Term):List SV:=ts.map fun t=>bL t.num
@[simp] theorem W4(ts:List Term):(kS ts).length=ts.length:=by simp[kS]
@[simp] theorem aar(ts:List Term):(kd ts).length=ts.length:=by simp[kd]
theorem AG{ts:List Term}{k:Nat}(h:k<ts.length):aB (kS ts) k=iv (gt ts k).aI:=dM (fun t:Term=>iv t.aI) h
theorem z8{ts:List Term}{k:Nat}(h:k<ts.length):aB (kd ts) k=bL (gt ts k).num:=dM (fun t:Term=>bL t.num) h
theorem AQ(ts:List Term)(t:Term):kS (ts++[t])=kS ts++[iv t.aI]:=by simp[kS]
theorem Im(ts:List Term)(t:Term):kd (ts++[t])=kd ts++[bL t.num]:=by simp[kd]
@[simp] theorem UA(ts:List Term):SV.bf (kS ts)=true:=by unfold kS;simp
@[simp] theorem UD(ts:List Term):SV.bf (kd ts)=true:=by unfold kd;simp
@[simp] theorem Tk(ts:List Term):anI ts.length (kS ts)=kS ts:=amv (by simp)
@[simp] theorem Th(ts:List Term):anI ts.length (kd ts)=kd ts:=amv (by simp)
@[simp] theorem aen(k:Nat)(ts:List Term):SV.mb k (kS ts)=true:=by unfold kS;simp
@[simp] theorem aeX(k:Nat)(ts:List Term):SV.mb k (kd ts)=true:=by unfold kd;simp
@[simp] theorem VI(k:Nat)(ts:List Term):SV.aY k (kS ts)=false:=by unfold kS;simp
@[simp] theorem U1(k:Nat)(ts:List Term):SV.aY k (kd ts)=false:=by unfold kd;simp
def Ei(nm:ByteArray)(x y:SV)(b:Bo):SV:=.agg (.val (.string nm)::x::y::((fC b).cells++[.val (.bool false),.val (.bool false),.val (.slice none 0 0),.val (.bool false),.val (.slice none 0 0)]))
@[simp] theorem WJ(nm:ByteArray)(x y:SV)(b:Bo):(Ei nm x y b).eW=13:=rfl
@[simp] theorem Md(nm:ByteArray)(x y:SV)(b:Bo):(Ei nm x y b).aO=false:=rfl
theorem J2{nm:ByteArray}{x y:SV}{b:Bo}:SV.agg (.val (.string nm)::x::y::((fC b).cells++[.val (.bool false),.val (.bool false),.val (.slice none 0 0),.val (.bool false),.val (.slice none 0 0)]))=Ei nm x y b:=rfl
theorem KQ{nm:ByteArray}{x y:SV}{b c:Bo}:SV.agg (anI 8 (Ei nm x y b).cells++((fC c).cells++anJ 13 (Ei nm x y b).cells))=SV.agg (.val (.string nm)::x::y::((fC b).cells++(fC c).cells)):=rfl
def mH(nm:ByteArray)(x y:SV):SV:=.agg [.val (.string nm),x,y,.val (.bool false),.val (.bool false),.val (.slice none 0 0),.val (.bool false),.val (.slice none 0 0),.val (.bool false),.val (.bool false),.val (.slice none 0 0),.val (.bool false),.val (.slice none 0 0)]
theorem Lq{q:Rat}:SV.agg (.val (.bool true)::(bL q).cells)=fC ⟨true,q⟩:=rfl
theorem GZ(k:Nat)(l:List Row)(i:Nat)(r:Row):SV.mb k ((l.map cQ).set i (cQ r))=true:=by rw[←amw];simp[-amw]
theorem C4{α:Type}[Inhabited α]{l:List α}{i:Nat}(h:i<l.length):l.set i (gt l i)=l:=by rw[←ee h];simp
end Go.Ps
namespace Go.Proofs
open Go.Sv Go Go.Tb Go.Pl Go.Ut Go.Li Go.Ps
theorem yj{n m:Nat}{w:Wk}{mx:Bool}(S:I9 n m w)(h7:n≤7)(h7':m≤7){j:Nat}(hj:j<n){a:Rat}{ts:List Term}{A B:Nat}(hl:ts.length≤1)(hts:∀k,k<ts.length→0≤(gt ts k).aI∧(gt ts k).aI.toNat<n∧(gt ts k).aI.toNat≠j)(hW:w5 w a ts A B) :
  ji Tryz.prog 115 [.ptr 0 0 0,iv j,bL a,.ro (kS ts),.ro (kd ts)] (aE mx w) [5] (fun T y=>T=aE mx (jX w j a ts)∧y=.bO []):=by
 have nr:=S.nr;have nc:=S.nc;have nrg:=S.gr;have A1:=hW.A1;have B1:=hW.B1;have top:=hW.top;refine bP Tryz.func115 rfl (by simp) (fun C hC=>?_);have hC:C.fx=[0,1,2,3,4]:=hC;refine aa.nP (aa.im (nq.go ?_));simp;refine aa.je 6 rfl (by simp) ?_;simp only[aE,aQ];simp[dH,aK];refine aa.gp (fun st=>st=⟨247,[(0,.ptr 0 0 0),(1,iv j),(3,.ro (kS ts)),(4,.ro (kd ts)),(7,.bK (bL a) 0)],aE mx (fi w (cC w j a ts m))⟩) ?_ ?_
 ·refine aa.nP (aa.im (nq.go ?_));simp;refine aa.sn ?_;refine aa.D8 (ι:=Nat) (fun i=>⟨247,[(0,.ptr 0 0 0),(1,iv j),(3,.ro (kS ts)),(4,.ro (kd ts)),(7,.bK (bL a) 0),(10,iv i)],aE mx (fi w (cC w j a ts i))⟩)
   (fun i=>i≤m) (fun i=>m - i) 0 (by omega) ?_ ?_
  ·simp[aw,hC,aE,aQ,fi,cC,nr];done
  rintro i hi;have pl:=jA w j a ts i;by_cases az:i<m
  ·have hir:i<w.rows.length:=by omega
   have hir2:i<(cC w j a ts i).length:=by omega
   have hig:i<w.gr.length:=by omega
   have pa:=jQ w j a ts hir i;rw[if_neg (fun q=>by omega)]at pa;have sg:=C4 hir2;rw[pa]at sg;have lr:=eU hir2;rw[pa]at lr;have lg:=bI hig;have ps:cC w j a ts (i+1)=if gt w.gr i=true then cC w j a ts i else(cC w j a ts i).set i (mc w.ae.length j a ts (gt w.rows i)):=rfl;refine aa.nP (aa.nP (aa.im (nq.go ?_)));simp only[aE,aQ,fi];simp[pl,nr];refine aa.gD true (by simp[az]) (fun _=>?_) (fun q=>by cases q);refine aa.go ?_;simp;refine aa.nP (aa.sn ?_);by_cases hgi:gt w.gr i=true
   ·rw[if_pos hgi]at ps;refine aa.go ?_;simp(disch:=omega)[hir2,hig,lg,hgi,pl];repeat refine akI ?_
    refine aa.go ?_;simp;exact⟨i+1,by omega,by omega,Le.bA (by simp(disch:=omega)[aw,hC,aN,aE,aQ,fi,ps,pl,nr])⟩
   have hgi':gt w.gr i=false:=by simpa using hgi
   rw[if_neg hgi]at ps;have hbt:=S.te i az;have tl7:(gt w.rows i).ab.length≤7:=by have:=ic hbt;omega
   by_cases hx:aP (gt w.rows i).ab j=0
   ·have pz:mc w.ae.length j a ts (gt w.rows i)=gt w.rows i:=by unfold mc;rw[if_pos hx]
    rw[pz,sg]at ps;refine aa.go ?_;simp(disch:=omega)[hir2,hig,lg,hgi',pl,lr];repeat refine akI ?_
    refine akK (o9 (gt w.rows i) (by omega) j (by omega)) ?_;simp;refine akK (wU (aP (gt w.rows i).ab j)) ?_;simp[hx];refine aa.go ?_;simp;exact⟨i+1,by omega,by omega,Le.bA (by simp(disch:=omega)[aw,hC,aN,aE,aQ,fi,ps,pl,nr])⟩
   obtain⟨wi,ewi⟩:∃wi,fi w (cC w j a ts i)=wi:=⟨_,rfl⟩;have wc:wi.ae=w.ae:=by rw[←ewi];rfl
   have wrw:wi.rows=cC w j a ts i:=by rw[←ewi];rfl
   have r1:i<wi.rows.length:=by rw[wrw];exact hir2
   have rl:wi.rows.length=m:=by rw[wrw,pl,nr]
   have r2:aB (wi.rows.map cQ) i=cQ (gt w.rows i):=by rw[wrw];exact lr
   have ps2:cC w j a ts (i+1)=wi.rows.set i (mc n j a ts (gt w.rows i)):=by rw[ps,wrw,nc]
   obtain⟨z1,z2,z3,z4,z5,z6⟩:w.ae=wi.ae∧w.sh=wi.sh∧w.gc=wi.gc∧w.gr=wi.gr∧w.steps=wi.steps∧w.no=wi.no:=by rw[←ewi];exact⟨rfl,rfl,rfl,rfl,rfl,rfl⟩
   have nc1:wi.ae.length=n:=by rw[wc,nc]
   have nbr:=S.nb i az;have wte:=hW.te i hir;have wro:=hW.ro i hir;have eT:(⟨247,[(0,.ptr 0 0 0),(1,iv j),(3,.ro (kS ts)),(4,.ro (kd ts)),(7,.bK (bL a) 0),(10,iv i)],aE mx (fi w (cC w j a ts i))⟩:St)=⟨247,[(0,.ptr 0 0 0),(1,iv j),(3,.ro (kS ts)),(4,.ro (kd ts)),(7,.bK (bL a) 0),(10,iv i)],aE mx wi⟩:=by rw[ewi]
   refine aa.le (Le.bA (by rw[←eT];simp[aw,hC,aE,aQ,fi,Go.Sv.get,pl,nr]:aw C _ ⟨247,[(0,.ptr 0 0 0),(1,iv j),(3,.ro (kS ts)),(4,.ro (kd ts)),(7,.bK (bL a) 0),(10,iv i)],aE mx wi⟩)) ?_;have lg2:=bI (show i<wi.gr.length by rw[←ewi];exact hig);have eg:gt wi.gr i=false:=by rw[←ewi];exact hgi'
   have hig':i<wi.gr.length:=by rw[←ewi];exact hig
   clear ps lr pa hir2 pl lg sg eT;generalize gt w.rows i=r at *;have wx:qw A (aP r.ab j):=kZ A1 wte;refine aa.cutAt 5 (fun st=>st=⟨247,[(0,.ptr 0 0 0),(1,iv j),(3,.ro (kS ts)),(4,.ro (kd ts)),(7,.bK (bL a) 0),(10,iv i),(11,.ptr 6 0 0),(13,.ptr 7 0 0)],aE mx wi++[some ⟨4,[bL (aP r.ab j)],false⟩,some ⟨13,[mH r.name (.val (.slice none 0 0)) (.val (.slice none 0 0))],false⟩]⟩) ?_ ?_
   ·simp only[ar,aq,aE,aQ];simp(disch:=omega)[r1,hig',lg2,eg,r2];repeat refine akI ?_
    refine akK (o9 r (by omega) j (by omega)) ?_;simp;refine akK (wU (aP r.ab j)) ?_;simp(disch:=omega)[hx,r1,r2];repeat refine akI ?_
    simp[aw,hC,mH];done
   rintro st rfl;simp only[ao,al];refine aa.le (Le.bB 7 1 1 rfl rfl rfl rfl (by simp)) ?_;simp only[aE,aQ,mH];simp[aK,ax,bl];refine aa.le (Le.bB 7 2 4 rfl rfl rfl rfl (by simp)) ?_;simp[aK,ax,bl];refine aa.gp (fun st=>st=⟨247,[(0,.ptr 0 0 0),(1,iv j),(3,.ro (kS ts)),(4,.ro (kd ts)),(7,.bK (bL a) 0),(10,iv i),(11,.ptr 6 0 0),(13,.ptr 7 0 0)],aE mx wi++[some ⟨4,[bL (aP r.ab j)],false⟩,some ⟨13,[mH r.name (.view 8 0 (jW (eG r j ts) n).length) (.view 9 0 (jW (eG r j ts) n).length)],false⟩,some ⟨1,kS (jW (eG r j ts) n),false⟩,some ⟨4,kd (jW (eG r j ts) n),false⟩]⟩) ?_ ?_
   ·refine aa.go ?_;simp;refine aa.bG (ι:=Nat) (fun k=>⟨247,[(0,.ptr 0 0 0),(1,iv j),(3,.ro (kS ts)),(4,.ro (kd ts)),(7,.bK (bL a) 0),(10,iv i),(11,.ptr 6 0 0),(13,.ptr 7 0 0),(14,iv k)],aE mx wi++[some ⟨4,[bL (aP r.ab j)],false⟩,some ⟨13,[mH r.name (.view 8 0 (jW (eG r j ts) k).length) (.view 9 0 (jW (eG r j ts) k).length)],false⟩,some ⟨1,kS (jW (eG r j ts) k),false⟩,some ⟨4,kd (jW (eG r j ts) k),false⟩]⟩)
     (fun k=>k≤n) (fun k=>n - k) 0 (by omega) ?_ ?_
    ·simp[aw,hC,aE,aQ,jW,mH,kS,kd];done
    rintro k hk;have tl:=qt (eG r j ts) k;by_cases hkn:k<n
    ·have tf:jW (eG r j ts) (k+1)=if eG r j ts k=0 then jW (eG r j ts) k else jW (eG r j ts) k++[⟨k,eG r j ts k⟩]:=rfl;have pe:eG r j ts k=if k=j then 0 else aP r.ab k+aP ts k*aP r.ab j:=rfl;generalize jW (eG r j ts) k=ac at *;have wk:qw A (aP r.ab k):=kZ A1 wte;simp only[aE,aQ,mH,aly,anu];simp(disch:=omega)[hkn,nc1,r1,r2];repeat refine akI ?_
     refine akK (o9 r (by omega) k (by omega)) ?_;simp;refine aa.bG (ι:=Nat) (fun t=>⟨247,[(0,.ptr 0 0 0),(1,iv j),(3,.ro (kS ts)),(4,.ro (kd ts)),(7,.bK (bL a) 0),(10,iv i),(11,.ptr 6 0 0),(13,.ptr 7 0 0),(14,iv k),(15,.ptr 10 0 0),(16,iv t)],aE mx wi++[some ⟨4,[bL (aP r.ab j)],false⟩,some ⟨13,[mH r.name (.view 8 0 ac.length) (.view 9 0 ac.length)],false⟩,some ⟨1,kS ac,false⟩,some ⟨4,kd ac,false⟩,some ⟨4,[bL (aP r.ab k+aP (ts.take t) k*aP r.ab j)],false⟩]⟩)
      (fun t=>t≤ts.length) (fun t=>ts.length - t) 0 (by omega) ?_ ?_
     ·simp[aw,hC,aE,aQ,mH,aP,nc1,an3,an4];done
     rintro t ht;simp only[aE,aQ,mH,aly,anu];by_cases htl:t<ts.length
     ·obtain rfl:t=0:=by omega
      have lc:=AG htl;have ln:=z8 htl;have wt:=hW.ts 0 htl;have e1:aP (ts.take 1) k=if(gt ts 0).aI=k then(gt ts 0).num else 0:=by
       rw[show(1:Nat)=0+1 from rfl,fJ htl];simp[aP]
      have e0:aP (ts.take 0) k=0:=by simp[aP]
      generalize gt ts 0=t at *;rw[e0,an3,an4];by_cases htk:t.aI=(k:Int)
      ·rw[if_pos htk]at e1;simp(disch:=omega)[htl,lc,ln,htk];repeat refine akI ?_
       refine aa.nG (.d 6<|.qs [0,1,2,3,4]<|.p 5<|.b (.l 7 [11]<|.nil)) (by kernel_rfl) (by kernel_rfl) (by simp) ?_;simp(disch:=omega)[htl,lc,ln,htk];repeat refine akI ?_
       refine ig (oI t.num (aP r.ab j) (ah wt (by omega)) (ah wx (by omega))) (by simp) ?_;simp;refine akK (tZ (aP r.ab k) (t.num*aP r.ab j) (ah wk (by omega)) (ah (bM wt wx (by omega)) (by omega))) ?_;simp;exact⟨1,by omega,by omega,Le.bA (by simp(disch:=omega)[aw,hC,aN,aE,aQ,mH,e1,nc1])⟩
      ·rw[if_neg htk]at e1;simp(disch:=omega)[htl,lc,ln,htk];repeat refine akI ?_
       exact⟨1,by omega,by omega,Le.bA (by simp(disch:=omega)[aw,hC,aN,aE,aQ,mH,e1,nc1,an3,an4])⟩
     ·obtain rfl:t=ts.length:=by omega
      rw[List.take_length];simp;have sg:=wU (aP r.ab k+aP ts k*aP r.ab j);generalize aP r.ab k+aP ts k*aP r.ab j=E at *;refine akK (sg) ?_;simp;by_cases hkj:k=j
      ·subst hkj;rw[if_pos rfl]at pe;rw[if_pos pe]at tf;simp(disch:=omega)[];repeat refine akI ?_
       exact⟨k+1,by omega,by omega,Le.bA (by simp(disch:=omega)[aw,hC,aN,aE,aQ,mH,tf,nc1])⟩
      ·have hkj':¬(k:Int)=(j:Int):=by omega
       rw[if_neg hkj]at pe;rw[pe]at tf;by_cases hz:E=0
       ·rw[if_pos hz]at tf;simp(disch:=omega)[hkj',hz];repeat refine akI ?_
        exact⟨k+1,by omega,by omega,Le.bA (by simp(disch:=omega)[aw,hC,aN,aE,aQ,mH,tf,nc1])⟩
       ·rw[if_neg hz]at tf;simp(disch:=omega)[hkj',hz];repeat refine akI ?_
        refine⟨⟨by simp[hC],by omega⟩,⟨by simp[hC],by omega⟩,?_⟩;exact⟨k+1,by omega,by omega,Le.bA (by simp(disch:=omega)[aw,hC,aN,aE,aQ,mH,tf,nc1,AQ,Im])⟩
    ·obtain rfl:k=n:=by omega
     simp only[aE,aQ,aly,anu];simp(disch:=omega)[nc1];repeat refine akI ?_
     exact Le.bA (by simp[aw,hC,aE,aQ,nc1])
   rintro st rfl;have tln:=qt (eG r j ts) n;refine aa.je 9 rfl (by simp) ?_;simp only[aE,aQ,mH,aly,anu];simp[dH,aK];refine aa.je 8 rfl (by simp) ?_;simp[dH,aK];refine aa.le (Le.bA (by simp[aw,hC,Go.Sv.get,aE,aQ,mH]:aw C _ ⟨247,[(0,.ptr 0 0 0),(1,iv j),(3,.ro (kS ts)),(4,.ro (kd ts)),(7,.bK (bL a) 0),(10,iv i),(11,.ptr 6 0 0),(13,.ptr 7 0 0)],aE mx wi++[some ⟨4,[bL (aP r.ab j)],false⟩,some ⟨13,[mH r.name (.ro (kS (jW (eG r j ts) n))) (.ro (kd (jW (eG r j ts) n)))],false⟩]⟩)) ?_;simp only[aE,aQ,mH,aly,anu];have wax:=bM hW.a wx (by omega);have wn:=iX wax;have wn1:qw (B+A+A+1) (-(a*aP r.ab j)*1):=by rw[Rat.mul_one];exact ah wn (by omega)
   have q1:bQ 1:=dN (zy (k:=1) (by omega)) (by omega);have jl:=lT r.low ⟨true, -(a*aP r.ab j)⟩ 1 (ah wro.1 (by omega)) (ah wn (by omega)) q1 (ah wn1 (by omega));have jh:=lT r.high ⟨true, -(a*aP r.ab j)⟩ 1 (ah wro.2 (by omega)) (ah wn (by omega)) q1 (ah wn1 (by omega));have ep:mc n j a ts r=⟨r.name,jW (eG r j ts) n,cD r.low ⟨true, -(a*aP r.ab j)⟩ 1,cD r.high ⟨true, -(a*aP r.ab j)⟩ 1⟩:=by unfold mc;rw[if_neg hx]
   generalize jW (eG r j ts) n=ac at *;refine aa.cutAt 4 (fun st=>st=⟨247,[(0,.ptr 0 0 0),(1,iv j),(3,.ro (kS ts)),(4,.ro (kd ts)),(7,.bK (bL a) 0),(10,iv i),(13,.ptr 7 0 0),(19,.ptr 9 0 0)],aE mx wi++[some ⟨4,[bL (aP r.ab j)],false⟩,some ⟨13,[Ei r.name (.ro (kS ac)) (.ro (kd ac)) (cD r.low ⟨true, -(a*aP r.ab j)⟩ 1)],false⟩,some ⟨4,[bL (-(a*aP r.ab j))],false⟩,some ⟨5,[fC ⟨true, -(a*aP r.ab j)⟩],false⟩]⟩) ?_ ?_
   ·simp only[ar,aq];simp;refine akK (oI a (aP r.ab j) (ah hW.a (by omega)) (ah wx (by omega))) ?_;simp;refine akK (ub (a*aP r.ab j)) ?_;simp[Lq];refine aa.akJ (.qs [0,1,2,3,4,5,6,7,8,9]<|.l 10 []<|.l 11 []<|.qs [12]<|.l 13 [7]<|.nil) ?_;simp(disch:=omega)[r1,r2];repeat refine akI ?_
    refine akK (uk) ?_;simp;refine akK (jl) ?_;simp[J2];simp[aw,hC,aE,aQ];done
   rintro st rfl;simp only[ao,al];refine aa.go ?_;simp only[aE,aQ,aly,anu];refine aa.akJ (.qs [0,1,2,3,4,5,6,7,8,9]<|.l 10 []<|.l 11 []<|.qs [12]<|.l 13 [7]<|.nil) ?_;simp(disch:=omega)[r1,r2];repeat refine akI ?_
   refine akK (uk) ?_;simp;refine akK (jh) ?_;simp[KQ];refine aa.akJ (.qs [0,1,2,3,4,5,6,7]<|.l 8 [2]<|.nil) ?_;have eR:SV.agg (SV.val (.string r.name)::.ro (kS ac)::.ro (kd ac)::((fC (cD r.low ⟨true, -(a*aP r.ab j)⟩ 1)).cells++(fC (cD r.high ⟨true, -(a*aP r.ab j)⟩ 1)).cells))=cQ ⟨r.name,ac,cD r.low ⟨true, -(a*aP r.ab j)⟩ 1,cD r.high ⟨true, -(a*aP r.ab j)⟩ 1⟩:=rfl;simp(disch:=omega)[r1,r2,eR,Fm];repeat refine akI ?_
   refine aa.go ?_;simp;exact⟨i+1,by omega,by omega,Le.bA (by simp(disch:=omega)[aw,hC,aN,ps2,ep,z1,z2,z3,z4,z5,z6,GZ])⟩
  ·obtain rfl:i=m:=by omega
   refine aa.go ?_;simp only[aE,aQ,fi];simp[pl,nr];exact Le.bA (by simp[aw,hC,aE,aQ,fi,pl,nr])
 rintro st rfl;obtain⟨w1,ew⟩:∃w1,fi w (cC w j a ts m)=w1:=⟨_,rfl⟩;have ep:jX w j a ts=⟨iF w1.ae (gt w1.ae j).cost ts,w1.rows,w1.sh+(gt w1.ae j).cost*a,w1.gc.set j true,w1.gr,w1.steps++[⟨j,a,ts⟩],w1.no⟩:=by
  rw[←ew,←nr];rfl
 have c1:w1.ae=w.ae:=by rw[←ew];rfl
 have c2:w1.sh=w.sh:=by rw[←ew];rfl
 have c3:w1.gc=w.gc:=by rw[←ew];rfl
 have c4:w1.steps=w.steps:=by rw[←ew];rfl
 have hco:=hW.co;have hsh:=hW.sh;rw[←c1]at hco;rw[←c2]at hsh;have hjc:j<w1.ae.length:=by rw[c1,nc];exact hj
 have hjg:j<w1.gc.length:=by rw[c3,S.gc];exact hj
 have hst:w1.steps.length≤7:=by rw[c4];have:=S.st;have:=m4 w.gc;have:=S.gc;omega
 have lc:=dq hjc;have wco:=hco j hjc;rw[ew,ep];clear ew ep;refine aa.cutAt 3 (fun st=>st=⟨247,[(0,.ptr 0 0 0),(1,iv j),(3,.ro (kS ts)),(4,.ro (kd ts)),(7,.bK (bL a) 0),(20,.ptr 6 0 0),(21,.ptr 7 0 0)],aE mx ⟨w1.ae,w1.rows,w1.sh+(gt w1.ae j).cost*a,w1.gc,w1.gr,w1.steps,w1.no⟩++[some ⟨4,[bL (gt w1.ae j).cost],false⟩,some ⟨4,[bL ((gt w1.ae j).cost*a)],false⟩]⟩) ?_ ?_
 ·simp only[ar,aq,aE,aQ];simp(disch:=omega)[hjc,lc];repeat refine akI ?_
  refine akK (oI (gt w1.ae j).cost a (ah wco (by omega)) (ah hW.a (by omega))) ?_;simp;refine aa.akJ (.qs [0,1,2,3,4,5,6]<|.l 7 []<|.qs [8,9,10]<|.l 11 [0]<|.nil) ?_;simp;refine akK (tZ w1.sh ((gt w1.ae j).cost*a) (ah hsh (by omega)) (ah (bM wco hW.a (by omega)) (by omega))) ?_;simp;simp[aw,hC,aE,aQ];done
 rintro st rfl;simp only[ao,al];obtain⟨q,eq⟩:∃q,(gt w1.ae j).cost=q:=⟨_,rfl⟩;rw[eq]at wco ⊢;refine aa.gp (fun st=>st=⟨247,[(0,.ptr 0 0 0),(1,iv j),(3,.ro (kS ts)),(4,.ro (kd ts)),(7,.bK (bL a) 0)],aE mx ⟨iF w1.ae q ts,w1.rows,w1.sh+q*a,w1.gc,w1.gr,w1.steps,w1.no⟩⟩) ?_ ?_
 ·refine aa.go ?_;simp only[aE,aQ];simp;refine aa.bG (ι:=Nat) (fun k=>⟨247,[(0,.ptr 0 0 0),(1,iv j),(3,.ro (kS ts)),(4,.ro (kd ts)),(7,.bK (bL a) 0),(20,.ptr 6 0 0),(21,.ptr 7 0 0),(22,iv k)],aE mx ⟨iF w1.ae q (ts.take k),w1.rows,w1.sh+q*a,w1.gc,w1.gr,w1.steps,w1.no⟩++[some ⟨4,[bL q],false⟩,some ⟨4,[bL (if k=0 then q*a else q*(gt ts 0).num)],false⟩]⟩)
   (fun k=>k≤ts.length) (fun k=>ts.length - k) 0 (by omega) ?_ ?_
  ·simp[aw,hC,aE,aQ,iF];done
  rintro k hk;simp only[aE,aQ,aly,anu];by_cases hkl:k<ts.length
  ·obtain rfl:k=0:=by omega
   have ltc:=AG hkl;have ltn:=z8 hkl;obtain⟨t1,t2,t3⟩:=hts 0 hkl;have wt:=hW.ts 0 hkl;have tg:ts.take 1=[gt ts 0]:=by rw[show(1:Nat)=0+1 from rfl,fJ hkl];rfl
   have tg0:ts.take 0=[]:=rfl;generalize gt ts 0=t at *;obtain⟨c,ec⟩:∃c:Nat,t.aI=c:=⟨t.aI.toNat,by omega⟩;have ec':t.aI.toNat=c:=by omega
   rw[ec']at t2 t3;have hcc:c<w1.ae.length:=by rw[c1,nc];exact t2
   have lcc:=dq hcc;have wcc:=hco c hcc;simp only[tg0,iF];simp(disch:=omega)[hkl,ltc,ltn];repeat refine akI ?_
   refine aa.akJ (.qs [0,1,2,3,4]<|.l 5 []<|.l 6 [7]<|.nil) ?_;simp(disch:=omega)[hkl,ltc,ltn,ec,hcc,lcc];repeat refine akI ?_
   refine akK (oI q t.num (ah wco (by omega)) (ah wt (by omega))) ?_;simp;refine aa.akJ (.qs [0,1,2,3,4,5,6,7,8,9,10,11,12,13,14,15,16,17,18,19,20,21]<|.l 22 []<|.qs [23,24]<|.l 25 [1]<|.nil) ?_;simp(disch:=omega)[hkl,ltc,ltn,ec,hcc,lcc];repeat refine akI ?_
   refine akK (tZ (gt w1.ae c).cost (q*t.num) (ah wcc (by omega)) (ah (bM wco wt (by omega)) (by omega))) ?_;simp(disch:=omega)[hkl,ltc,ltn,ec,hcc,lcc];repeat refine akI ?_
   exact⟨1,hkl,by omega,Le.bA (by simp(disch:=omega)[aw,hC,aN,aE,aQ,tg,iF,ec',E3,kc, -amw])⟩
  ·obtain rfl:k=ts.length:=by omega
   simp;exact Le.bA (by simp[aw,hC,aE,aQ])
 rintro st rfl;have pc:=nJ q ts w1.ae;have lg:=bI hjg;obtain⟨cs,ecs⟩:∃cs,iF w1.ae q ts=cs:=⟨_,rfl⟩;rw[ecs];refine aa.cutAt 1 (fun st=>st=⟨247,[(0,.ptr 0 0 0),(1,iv j),(3,.ro (kS ts)),(4,.ro (kd ts)),(7,.bK (bL a) 0)],aE mx ⟨cs,w1.rows,w1.sh+q*a,w1.gc.set j true,w1.gr,w1.steps,w1.no⟩⟩) ?_ ?_
 ·simp only[ar,aq,aE,aQ];simp(disch:=omega)[hjg,lg,eQ];repeat refine akI ?_
  simp[aw,hC,aE,aQ];done
 rintro st rfl;simp only[ao,al];obtain⟨g,eg⟩:∃g,w1.gc.set j true=g:=⟨_,rfl⟩;rw[eg];refine aa.go ?_;simp only[aE,aQ];refine aa.akJ (.qs [0,1,2,3,4,5,6,7,8,9]<|.l 10 []<|.l 11 [1000000]<|.qs [12,13]<|.l 14 [0,1000000]<|.nil) ?_;simp(disch:=omega)[];repeat refine akI ?_
 have e1:jo ⟨j,a,ts⟩=SV.agg (iv j::((bL a).cells++[.ro (kS ts),.ro (kd ts)])):=rfl;exact⟨⟨by simp[hC],by omega⟩,_,_,⟨rfl,rfl⟩,by simp,by simp[aE,aQ,dX,e1],by simp[aE],.inr ⟨by simp,by simp[aE,eP,aQ]⟩⟩
end Go.Proofs
set_option maxRecDepth 10000
set_option maxHeartbeats 2000000
namespace Go.Ps
open Go Go.Sv Go.Pl Go.Proofs Go.Tb Go.Ut Go.Li
@[simp] theorem ahl(l:List dL):kQ (l.map cw)=l.map cw:=sU (fun _=>rfl) l
@[simp] theorem ahy(l:List Row):kQ (l.map cQ)=l.map cQ:=sU (fun _=>rfl) l
@[simp] theorem agb(l:List nY):kQ (l.map jo)=l.map jo:=sU (fun _=>rfl) l
@[simp] theorem Sj(c:dL):jj (cw c)=cw c:=rfl
@[simp] theorem YJ(b:Bo):jj (fC b)=fC b:=rfl
@[simp] theorem UU(q:Rat):jj (bL q)=bL q:=rfl
@[simp] theorem aeh(q:Rat)(a b c d e:Nat)(x:Bool):kQ ((bL q).cells++[.view 1 0 a,.view 2 0 b,.view 3 0 c,.view 4 0 d,.view 5 0 e,.val (.bool x)])=(bL q).cells++[.view 1 0 a,.view 2 0 b,.view 3 0 c,.view 4 0 d,.view 5 0 e,.val (.bool x)]:=rfl
theorem DP{c:dL}:SV.agg (anI 7 (cw c).cells++((fC c.low).cells++anJ 12 (cw c).cells))=cw ⟨c.name,c.whole,c.low,c.low,c.cost⟩:=rfl
theorem Dw{c:dL}:SV.agg (anI 2 (cw c).cells++((fC c.high).cells++anJ 7 (cw c).cells))=cw ⟨c.name,c.whole,c.high,c.high,c.cost⟩:=rfl
theorem BX{w:Wk}{b:Bool}(h:w.no=b):da w b=w:=by subst h;rfl
theorem CZ{w:Wk}{i:Nat}:gj w i=(if aD (bS w.ae (gt w.rows i).ab (gt w.rows i).ab.length).lo (gt w.rows i).high=true∨aD (gt w.rows i).low (bS w.ae (gt w.rows i).ab (gt w.rows i).ab.length).hi=true then(true,dw (da w true) i) else
 if alike (bS w.ae (gt w.rows i).ab (gt w.rows i).ab.length).lo (gt w.rows i).high=true∨alike (bS w.ae (gt w.rows i).ab (gt w.rows i).ab.length).hi (gt w.rows i).low=true then(true,dw (ey w (aT (alike (bS w.ae (gt w.rows i).ab (gt w.rows i).ab.length).lo (gt w.rows i).high) (gt w.rows i).ab w.ae (gt w.rows i).ab.length)) i) else
 if vV (bS w.ae (gt w.rows i).ab (gt w.rows i).ab.length).lo (gt w.rows i).low=true∧wM (bS w.ae (gt w.rows i).ab (gt w.rows i).ab.length).hi (gt w.rows i).high=true then(true,dw w i) else(false,w)):=rfl
end Go.Ps
namespace Go.Proofs
open Go.Sv Go Go.Tb Go.Pl Go.Ut Go.Li Go.Ps
theorem IK{n m u:Nat}{w:Wk}{mx:Bool}(G:bh n m u w)(hn:w.no=false)(hu8:8≤u)(hu:u≤2400)(h7:n≤7)(h7':m≤7){j:Nat}(hj:j<n)(hI:fU w j w.rows.length=false) :
  ji Tryz.prog 117 [.ptr 0 0 0,iv j] (aE mx w) [5] (iu mx (fT mx w j)):=by
 have hr:j<w.ae.length:=by rw[G.S.nc];exact hj
 have l1:=dq hr;obtain⟨gc7,gr7⟩:=dr G;have tB:=iL hu (c:=ay w.gc) (r:=ay w.gr) (by omega) (by omega);have bp:=iY hu8 (ay w.gc) (ay w.gr);obtain⟨c,ec⟩:∃c,(if(gt w.ae j).whole=true then cA (gt w.ae j) (gt w.ae j).low (gt w.ae j).high else gt w.ae j)=c:=⟨_,rfl⟩;have G1:bh n m u (bN w j c):=by
  rw[←ec];split
  ·exact vA G hu8 hj
  ·rw[o6 hr];exact G
 have e0:fT mx w j=(if aD c.low c.high=true then(true,da (bN w j c) true) else if(cY mx c).has=true then(true,jX (bN w j c) j (cY mx c).at' []) else(false,bN w j c)):=by
  unfold fT;rw[if_neg (by simp[hI])];simp only[];rw[ec]
 have w0:=G.W.co j hr;have p1:bQ (gt w.ae j).low.at':=ah w0.1 (by omega);have p2:bQ (gt w.ae j).high.at':=ah w0.2.1 (by omega);have c1:=G1.W.co j (by rw[G1.S.nc];exact hj);rw[uu hr]at c1;have gP:=fun a ha=>yj (mx:=mx) G1.S h7 h7' hj (a:=a) (ts:=[]) (by simp) (fun k hk=>by simp at hk) (w5.of G1 hu8 hu h7 h7' ha);have hcb:=yM (mx:=mx) (c:=c) (by have:=iY hu8 (ay (bN w j c).gc) (ay (bN w j c).gr);omega) c1.1 c1.2.1;have gP:=gP _ hcb;have q1:bQ c.low.at':=ah c1.1 (by show qB u (ay w.gc) (ay w.gr)≤_;omega);have q2:bQ c.high.at':=ah c1.2.1 (by show qB u (ay w.gc) (ay w.gr)≤_;omega);refine bP Tryz.func117 rfl (by simp) (fun C hC=>?_);have hC:C.fx=[0,1,2,3,4]:=hC;rw[e0];refine aa.cutAt 4 (fun st=>st=⟨101,[(0,.ptr 0 0 0),(1,iv j),(5,.ptr 6 0 0)],aE mx (da (bN w j c) (aD c.low c.high))++[some ⟨16,[cw c],false⟩]⟩) ?_ ?_
 ·simp only[ar,aq,aE,aQ];have gX:=iQ c.low c.high q1 q2;by_cases hw:(gt w.ae j).whole=true
  ·rw[if_pos hw]at ec;have gT:=nO (mx:=mx) hr p1 p2 p1 p2;rw[ec]at gT;have hr1:j<(bN w j c).ae.length:=by rw[G1.S.nc];exact hj
   have lc:=dq hr1;rw[uu hr]at lc;clear ec e0 gP;have nw:(bN w j c).no=w.no:=rfl;generalize bN w j c=w1 at *;generalize gt w.ae j=c0 at *;simp(disch:=omega)[hr,l1,hw];repeat refine akI ?_
   refine aa.akJ (.qs [0,1,2,3,4,5,6,7,8,9,10,11,12,13,14,15,16,17,18,19]<|.l 20 [0,1,2,3,4,5]<|.nil) ?_;simp(disch:=omega)[hr,l1,hw];repeat refine akI ?_
   refine cN gT [0,1,2,3,4,5] (by simp) (by simp[aE,aQ]) (by simp) (by simp) (by simp) ?_;rintro T y ⟨rfl,rfl⟩;simp only[aE,aQ];simp(disch:=omega)[hr1,lc];repeat refine akI ?_
   refine akK (gX) ?_;simp[aw,hC,da];done
  ·rw[if_neg hw]at ec;have es:bN w j c=w:=by rw[←ec];exact o6 hr
   rw[es];rw[ec]at l1 hw;simp(disch:=omega)[hr,l1,hw];repeat refine akI ?_
   refine akK (gX) ?_;simp[aw,hC,da];done
 rintro st rfl;simp only[ao,al];by_cases hc:aD c.low c.high=true
 ·rw[if_pos hc,hc];refine aa.go ?_;simp only[aE,aQ,da];simp;exact⟨_,_,(iu.same:iu mx (true,da (bN w j c) true) _ _),by simp,by simp[aE,aQ,dX,da],by simp[aE],.inr ⟨by simp,by simp[aE,eP,aQ]⟩⟩
 rw[if_neg hc];rw[show aD c.low c.high=false by simpa using hc,BX (by exact hn)];have hn1:(bN w j c).no=false:=hn;generalize bN w j c=w1 at *;clear ec e0 l1 hI;refine aa.cutAt 3 (fun st=>st=⟨101,[(0,.ptr 0 0 0),(1,iv j),(5,.ptr 6 0 0),(6,iv (pG mx c.cost))],aE mx w1++[some ⟨16,[cw c],false⟩]⟩) ?_ ?_
 ·simp only[ar,aq,aE,aQ];have sb:=IL c.cost;rw[HE];cases mx with
  | true =>
   simp(disch:=omega)[hn1];repeat refine akI ?_
   refine akK (wU c.cost) ?_;simp(disch:=omega)[aN];repeat refine akI ?_
   simp[aw,hC,hn1];done
  | false =>
   simp(disch:=omega)[hn1];repeat refine akI ?_
   refine akK (wU c.cost) ?_;simp;simp[aw,hC,hn1];done
 rintro st rfl;simp only[ao,al];refine aa.cutAt 3 (fun st=>st=⟨101,[(0,.ptr 0 0 0),(1,iv j),(7,.ptr 7 0 0)],aE mx w1++[some ⟨16,[cw c],false⟩,some ⟨5,[fC (cY mx c)],false⟩]⟩) ?_ ?_
 ·clear gP hcb;simp only[ar,aq,aE,aQ];by_cases s1:0<pG mx c.cost
  ·have hb:cY mx c=c.low:=by unfold Go.Ps.cY;simp[show ¬pG mx c.cost<0 by omega,show ¬pG mx c.cost=0 by omega]
   simp(disch:=omega)[show ¬pG mx c.cost<0 by omega,show ¬pG mx c.cost=0 by omega];repeat refine akI ?_
   simp[aw,hC,hb];done
  ·by_cases s2:pG mx c.cost<0
   ·have hb:cY mx c=c.high:=by unfold Go.Ps.cY;simp[s2,show ¬pG mx c.cost=0 by omega]
    simp(disch:=omega)[s2,show ¬pG mx c.cost=0 by omega];repeat refine akI ?_
    simp[aw,hC,hb];done
   ·have s3:pG mx c.cost=0:=by omega
    by_cases b1:c.low.has=true
    ·have hb:cY mx c=c.low:=by unfold Go.Ps.cY;simp[b1,s3]
     simp(disch:=omega)[s3,b1];repeat refine akI ?_
     simp[aw,hC,hb];done
    ·have b1':c.low.has=false:=by simpa using b1
     by_cases b2:c.high.has=true
     ·have hb:cY mx c=c.high:=by unfold Go.Ps.cY;simp[b1',b2,s3]
      simp(disch:=omega)[s3,b1',b2];repeat refine akI ?_
      simp[aw,hC,hb];done
     ·have b2':c.high.has=false:=by simpa using b2
      have hb:cY mx c=⟨true,0⟩:=by unfold Go.Ps.cY;simp[b1',b2',s3]
      simp(disch:=omega)[s3,b1',b2'];repeat refine akI ?_
      refine akK (C7) ?_;simp[Lq];simp[aw,hC,hb];done
 rintro st rfl;simp only[ao,al];generalize cY mx c=b at *;refine aa.go ?_;simp only[aE,aQ];by_cases hb:b.has=true
 ·rw[if_pos hb];simp(disch:=omega)[hb,du hb];repeat refine akI ?_
  refine yL ?_;simp;refine cN gP [0,1,2,3,4,5] (by simp) (by simp[aE,aQ]) (by simp[kS,kd]) (by simp[hC,aE,aQ]) (by simp) ?_;rintro T y ⟨rfl,rfl⟩;generalize jX w1 j b.at' []=w2;simp only[aE,aQ];simp;exact⟨_,_,(iu.same:iu mx (true,w2) _ _),by simp,by simp[aE,aQ,dX],by simp[aE],.inr ⟨by simp,by simp[aE,eP,aQ]⟩⟩
 ·rw[if_neg hb];simp(disch:=omega)[hb];repeat refine akI ?_
  exact⟨_,_,(iu.same:iu mx (false,w1) _ _),by simp,by simp[aE,aQ,dX],by simp[aE],.inr ⟨by simp,by simp[aE,eP,aQ]⟩⟩
end Go.Proofs


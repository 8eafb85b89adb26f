/- A text of the prover's own. -/
import Derived.Test.YtmghjkkjaolpgaaGreatDoorWKu
import Derived.Test.YtmghjkkjaolpgaaGreatDoorWKb
import Derived.Test.YtmghjkkjaolpgaaGreatDoorWKo
open List renaming take_of_length_le→amv,map_map→anK,mem_map→al1,length_map→amh,map→anV
open ByteArray renaming size→anW
set_option maxRecDepth 10000
namespace Go.Li
open Go Go.Sv Go.Pl Go.Proofs Go.Tb Go.Ut
def Bx(b:Bo):ByteArray:=if b.has=true then jY b.at' else e0
def fA(r:Row):gY:=⟨r.name,Bx r.low,Bx r.high,r.ab.map (·.aI),r.ab.map fun t=>jY t.num⟩
structure M9(r:Row):Prop where
 n:r.ab.length≤120
 t:∀k,k<r.ab.length→qw 10000000 (gt r.ab k).num
 lo:qw 10000000 r.low.at'
 hi:qw 10000000 r.high.at'
structure FW(r:Row):Prop where
 n:r.ab.length≤120
 t:∀k,k<r.ab.length→bQ (gt r.ab k).num
 lo:bQ r.low.at'
 hi:bQ r.high.at'
theorem M9.o{r:Row}(h:M9 r):FW r:=⟨h.n,fun k hk=>dN (h.t k hk) (by omega),dN h.lo (by omega),dN h.hi (by omega)⟩
theorem D4{b:Bo}(h:b.has=true):Bx b=jY b.at':=by unfold Bx;rw[if_pos h]
theorem IU{b:Bo}(h:b.has=false):Bx b=e0:=by unfold Bx;rw[if_neg (by simp[h])]
def xE(p:aV):SV:=.agg ([bZ p.max]++(kT).cells++[.ro (p.ae.map cw),.ro (p.rows.map cQ)])
@[simp] theorem OQ(p:aV):(xE p).eW=7:=rfl
@[simp] theorem Lm(p:aV):(xE p).aO=false:=rfl
@[simp] theorem Lr(p:aV):(xE p).isAgg=true:=rfl
@[simp] theorem Sk(n:Nat)(p:aV):(xE p).lt n=true:=rfl
@[simp] theorem V5(p:aV):aB (xE p).cells 5=.ro (p.ae.map cw):=rfl
@[simp] theorem VW(p:aV):aB (xE p).cells 6=.ro (p.rows.map cQ):=rfl
@[simp] theorem TT(b:Bo)(k:Nat):(fC b).cells.map (fun y=>if SV.bD k y=true then SV.any else y)=(fC b).cells:=rfl
@[simp] theorem YW(q:Rat)(r:List SV)(n:Nat)(x:SV):bl ((bL q).cells++r) (n+4) x=(bL q).cells++bl r n x:=rfl
@[simp] theorem YA(q:Rat)(r:List SV)(n:Nat):aB ((bL q).cells++r) (n+4)=aB r n:=rfl
@[simp] theorem ae5(q:Rat)(k:Nat):(bL q).cells.map (fun y=>if SV.bD k y=true then SV.any else y)=(bL q).cells:=rfl
theorem xI{n:Nat}{x:SV}(h:x.pure=true):SV.bf (List.replicate n x)=true:=by
 induction n with
 | zero=>rfl
 | succ n ih=>rw[List.replicate_succ];simp[h,ih]
end Go.Li
namespace Go.Proofs
open Go.Sv Go Go.Tb Go.Pl Go.Ut Go.Li
theorem mg(b:Bo)(h:bQ b.at'):aF Tryz.prog 34 [cL b] (dt (Bx b)):=by
 refine aj Tryz.func34 rfl (by simp) (fun C hC=>?_);simp;refine⟨fun h1=>by rw[IU h1];rfl,fun h1=>?_⟩;refine akK (lL b.at' h) ?_;simp[D4 h1]
theorem mV(b:Bo)(h:bQ b.at'):aF Tryz.prog 38 [fC b] (dt (Bx b)):=by
 refine aj Tryz.func38 rfl (by simp) (fun C hC=>?_);simp;refine⟨fun h1=>by rw[IU h1];rfl,fun h1=>?_⟩;rw[du h1];refine akK (l8 b.at' h) ?_;simp[D4 h1]
theorem yi(r:Row)(h:FW r):aF Tryz.prog 35 [bE r] (fv (fA r)):=by
 have hn:=h.n;refine gk Tryz.func35 rfl (by simp) (fun C hC=>?_);simp;refine aa.nG (.d 9<|.qs [0,1,2,3,5,6]<|.p 4<|.p 7<|.qs [8]<|.b (.l 10 [2]<|.nil)) (by kernel_rfl) (by kernel_rfl) (by simp) ?_;simp;refine ig (mg r.low h.lo) (by simp) ?_;simp;refine ig (mg r.high h.hi) (by simp) ?_;simp;refine aa.le (Le.bB 2 3 1 rfl rfl rfl rfl (by simp)) ?_;simp[aK];refine aa.le (Le.bB 2 4 1 rfl rfl rfl rfl (by simp)) ?_;refine aa.bG (ι:=Nat) (fun k=>⟨39,[(2,.ptr 1 0 0),(3,.ptr 2 0 0),(16,.ro (r.ab.map aW)),(17,iv r.ab.length),(18,iv k)],[some ⟨12,[bE r],false⟩,some ⟨5,[.agg [.val (.string .empty),.val (.string .empty),.val (.string .empty),.val (.slice none 0 0),.val (.slice none 0 0)]],false⟩,
   some ⟨5,[.agg [dt r.name,dt (Bx r.low),dt (Bx r.high),.view 3 0 k,.view 4 0 k]],false⟩,some ⟨1,((fA r).ae.take k).map iv,false⟩,some ⟨1,((fA r).eY.take k).map dt,false⟩]⟩)
  (fun k=>k≤r.ab.length) (fun k=>r.ab.length - k) 0 (by simp) ?_ ?_
 ·simp[aw,hC,aK]
 ·rintro k hk;have hl1:(fA r).ae.length=r.ab.length:=by simp[fA]
  have hl2:(fA r).eY.length=r.ab.length:=by simp[fA]
  by_cases az:k<r.ab.length
  ·have g1:gt (fA r).ae k=(gt r.ab k).aI:=by unfold fA;rw[jq _ az]
   have g2:gt (fA r).eY k=jY (gt r.ab k).num:=by unfold fA;rw[jq _ az]
   simp(disch:=omega)[az,pI,aN];repeat refine akI ?_
   refine⟨⟨by simp[hC],by omega⟩,?_⟩;refine aa.akJ (.qs [0,1,2,3]<|.l 4 []<|.l 5 []<|.l 6 [1000000]<|.qs [7]<|.l 8 [2,1000000]<|.nil) ?_;simp;refine akK (lL _ (h.t k az)) ?_;simp(disch:=omega)[aN];repeat refine akI ?_
   exact⟨⟨by simp[hC],by omega⟩,k+1,by omega,by omega,Le.bA (by simp(disch:=omega)[aw,hC,aN,m5 iv (show k<(fA r).ae.length by omega),m5 dt (show k<(fA r).eY.length by omega),g1,g2])⟩
  ·obtain rfl:k=r.ab.length:=by omega
   simp;refine⟨_,(Le.je 4 rfl (by simp)).trans (Le.je 3 rfl (by simp)),?_⟩;have t1:((fA r).ae.map iv).take r.ab.length=(fA r).ae.map iv:=amv (by simp[hl1]);have t2:((fA r).eY.map dt).take r.ab.length=(fA r).eY.map dt:=amv (by simp[hl2]);simp[dH,aK,t1,t2,hl1,hl2];exact cW _ _ rfl
theorem zD(r:Row)(h:FW r):aF Tryz.prog 39 [cQ r] (fv (fA r)):=by
 have hn:=h.n;refine gk Tryz.func39 rfl (by simp) (fun C hC=>?_);simp;refine akK (mV r.low h.lo) ?_;simp;refine akK (mV r.high h.hi) ?_;simp;refine⟨⟨by cases r.ab<;>simp[r6],by omega⟩,?_⟩;have e:(r.ab.map fun t=>bL t.num)=(r.ab.map (·.num)).map bL:=by rw[anK];rfl
 have w:OKl (r.ab.map (·.num)):=⟨by simp;omega,fun q hq=>by
  obtain⟨t,ht,rfl⟩:=al1.1 hq;obtain⟨k,hk,rfl⟩:=List.getElem_of_mem ht;rw[ee hk];exact h.t k hk⟩
 rw[e];refine akK (Hb _ w) ?_;simp;refine⟨_,Le.je 3 rfl (by simp),?_⟩;simp[dH,aK];have e1:(r.ab.map fun t=>SV.val (.int .i64 t.aI))=(fA r).ae.map iv:=by unfold fA;rw[anK];rfl
 have e2:wT (r.ab.map (·.num))=(fA r).eY:=by unfold fA wT;rw[anK];rfl
 rw[e1,e2];exact cW _ _ rfl
theorem y9(l:List Int)(h:l.length≤1048576):aF Tryz.prog 73 [.ro (l.map iv),.ro (l.map iv)] (bZ true):=by
 refine aj Tryz.func73 rfl (by simp) (fun C hC=>?_);simp;refine aa.bG (ι:=Nat) (fun i=>⟨26,[(0,.ro (l.map iv)),(1,.ro (l.map iv)),(5,iv i)],[]⟩)
  (fun i=>i≤l.length) (fun i=>l.length - i) 0 (by simp) ?_ ?_
 ·simp[aw,hC]
 ·rintro i hi;by_cases az:i<l.length
  ·simp(disch:=omega)[az,k8];repeat refine akI ?_
   refine aa.akJ (.qs [0,1,2,3,4,5,6,7,8]<|.nil) ?_;simp(disch:=omega)[az,k8,aN];repeat refine akI ?_
   exact⟨i+1,by omega,by omega,Le.bA (by simp(disch:=omega)[aw,hC,aN])⟩
  ·obtain rfl:i=l.length:=by omega
   simp
theorem wS(l:List ByteArray)(h:l.length≤1048576):aF Tryz.prog 74 [.ro (l.map dt),.ro (l.map dt)] (bZ true):=by
 refine aj Tryz.func74 rfl (by simp) (fun C hC=>?_);simp;refine aa.bG (ι:=Nat) (fun i=>⟨26,[(0,.ro (l.map dt)),(1,.ro (l.map dt)),(5,iv i)],[]⟩)
  (fun i=>i≤l.length) (fun i=>l.length - i) 0 (by simp) ?_ ?_
 ·simp[aw,hC]
 ·rintro i hi;by_cases az:i<l.length
  ·simp(disch:=omega)[az,lZ];repeat refine akI ?_
   refine aa.akJ (.qs [0,1,2,3,4,5,6,7,8]<|.nil) ?_;simp(disch:=omega)[az,lZ,aN];repeat refine akI ?_
   exact⟨i+1,by omega,by omega,Le.bA (by simp(disch:=omega)[aw,hC,aN])⟩
  ·obtain rfl:i=l.length:=by omega
   simp
theorem B5(t:gY)(h1:t.ae.length≤1048576)(h2:t.eY.length≤1048576):aF Tryz.prog 36 [fv t,fv t] (bZ true):=by
 refine aj Tryz.func36 rfl (by simp) (fun C hC=>?_);simp;refine akK (y9 t.ae h1) ?_;simp;refine akK (wS t.eY h2) ?_;simp
end Go.Proofs
namespace Go.Li
open Go Go.Sv Go.Pl Go.Proofs Go.Tb Go.Ut
def aje:cR:=⟨false,s0,[⟨sx,true,s0,s3,s1⟩,⟨sy,true,s0,s3,s1⟩],[⟨Hq,e0,s5,[0,1],[s2,s2]⟩]⟩
def P2:aV:=⟨false,0,[⟨sx,true,⟨true,0⟩,⟨true,3⟩,1⟩,⟨sy,true,⟨true,0⟩,⟨true,3⟩,1⟩],[⟨Hq,[⟨0,2⟩,⟨1,2⟩],⟨false,0⟩,⟨true,5⟩⟩]⟩
@[simp] theorem Xu(r:Row):aB (bE r).cells 7=.val (.bool r.high.has):=rfl
@[simp] theorem Xv(r:Row):SV.agg (List.take 4 (List.drop 8 (bE r).cells))=bs r.high.at':=rfl
theorem Iw{s:cR}(h:qE s=true):(cV s).ae.length≤7∧(cV s).rows.length≤7:=by
 unfold qE at h;simp only[Bool.and_eq_true,decide_eq_true_eq]at h;unfold cV;simp only[amh];exact⟨h.1.1.1.1,h.1.1.1.2⟩
end Go.Li
namespace Go.Proofs
open Go.Sv Go Go.Tb Go.Pl Go.Ut Go.Li
end Go.Proofs
namespace Go.Ut
open Go Go.Sv Go.Pl Go.Proofs Go.Tb
theorem CF{e:Pt}{x:(Pt.sl e).T}(h1:∀y,1≤e.bk y)(h:(Pt.sl e).bk x≤1048576):(show List e.T from x).length≤1048576:=by
 have h':(anV e.bk (show List e.T from x)).sum+1≤1048576:=h;exact Nat.le_trans (yk (f:=e.bk) h1 (l:=(show List e.T from x))) (by omega)
theorem FN{e:Pt}{x:(Pt.sl e).T}(h:(Pt.sl e).bk x≤1048576){y:e.T}(hy:y∈(show List e.T from x)):e.bk y≤1048576:=by
 have h':(anV e.bk (show List e.T from x)).sum+1≤1048576:=h;have:e.bk y≤_:=yH (f:=e.bk) hy;omega
end Go.Ut
namespace Go.Li
open Go Go.Sv Go.Pl Go.Proofs Go.Tb Go.Ut
def qM:Pt:=.pair .str (.pair .bool (.pair .str (.pair .str (.pair .str .unit))))
def rH:Pt:=.pair .str (.pair .str (.pair .str (.pair (.sl (.int .i64)) (.pair yr .unit))))
def qo:Pt:=.pair .bool (.pair .str (.pair (.sl qM) (.pair (.sl rH) .unit)))
def vI(y:qM.T):jv:=⟨y.1,y.2.1,y.2.2.1,y.2.2.2.1,y.2.2.2.2.1⟩
def va(y:rH.T):gY:=⟨y.1,y.2.1,y.2.2.1,y.2.2.2.1,y.2.2.2.2.1⟩
def NS(x:(Pt.sl qM).T):List jv:=anV vI x
def rowsOf(x:(Pt.sl rH).T):List gY:=anV va x
def wK(y:qo.T):cR:=⟨y.1,y.2.1,NS y.2.2.1,rowsOf y.2.2.2.1⟩
theorem JM(x:qo.T):qo.sv x=cI (wK x):=by
 have e1:∀l:List qM.T,anV fY (anV vI l)=anV (fun y=>qM.sv y) l:=fun l=>by rw[anK];rfl
 have e2:∀l:List rH.T,anV fv (anV va l)=anV (fun y=>rH.sv y) l:=fun l=>by rw[anK];rfl
 show SV.agg [.val (.bool x.1),.val (.string x.2.1),.ro (anV (fun y=>qM.sv y) x.2.2.1),.ro (anV (fun y=>rH.sv y) x.2.2.2.1)]=SV.agg [.val (.bool x.1),.val (.string x.2.1),.ro (anV fY (anV vI x.2.2.1)),.ro (anV fv (anV va x.2.2.2.1))];have g:∀a a' b b':List SV,a=a'→b=b'→SV.agg [.val (.bool x.1),.val (.string x.2.1),.ro a,.ro b]=SV.agg [.val (.bool x.1),.val (.string x.2.1),.ro a',.ro b']:=fun a a' b b' h1 h2=>by rw[h1,h2]
 exact g _ _ _ _ (e1 _).symm (e2 _).symm
theorem ID(y:qM.T):qM.bk y=(anW y.1+1)+(1+((anW y.2.2.1+1)+((anW y.2.2.2.1+1)+((anW y.2.2.2.2.1+1)+0)))):=rfl
theorem Gx(y:rH.T):rH.bk y=(anW y.1+1)+((anW y.2.1+1)+((anW y.2.2.1+1)+((Pt.sl (.int .i64)).bk y.2.2.2.1+(yr.bk y.2.2.2.2.1+0)))):=rfl
theorem Jf(y:qo.T):qo.bk y=1+((anW y.2.1+1)+((Pt.sl qM).bk y.2.2.1+((Pt.sl rH).bk y.2.2.2.1+0))):=rfl
theorem N6{y:qM.T}(h:qM.bk y≤1048576):SmC (vI y):=by
 rw[ID]at h;refine⟨?_,?_,?_,?_⟩
 ·show anW y.1≤_;omega
 ·show anW y.2.2.1≤_;omega
 ·show anW y.2.2.2.1≤_;omega
 ·show anW y.2.2.2.2.1≤_;omega
theorem No{y:rH.T}(h:rH.bk y≤1048576):SmR (va y):=by
 rw[Gx]at h;refine⟨?_,?_,?_,?_,?_⟩
 ·show anW y.1≤_;omega
 ·show anW y.2.1≤_;omega
 ·show anW y.2.2.1≤_;omega
 ·exact CF (e:=.int .i64) (x:=y.2.2.2.1) (fun _=>Nat.le_refl 1) (by omega)
 ·exact F5 (x:=y.2.2.2.2.1) (by omega)
theorem J4{x:qo.T}(h:qo.bk x≤1048576):Ja (wK x):=by
 rw[Jf]at h;have hc:(Pt.sl qM).bk x.2.2.1≤1048576:=by omega
 have hr:(Pt.sl rH).bk x.2.2.2.1≤1048576:=by omega
 refine⟨?_,?_,?_,fun i hi=>?_,fun i hi=>?_⟩
 ·show anW x.2.1≤_;omega
 ·refine Nat.le_trans (Nat.le_of_eq (amh ..)) ?_;exact CF (e:=qM) (fun y=>by rw[ID];omega) hc
 ·refine Nat.le_trans (Nat.le_of_eq (amh ..)) ?_;exact CF (e:=rH) (fun y=>by rw[Gx];omega) hr
 ·obtain⟨y,hy,e⟩:=al1.1 (jz hi);have e':gt (wK x).ae i=vI y:=e.symm;rw[e'];exact N6 (FN (e:=qM) hc hy)
 ·obtain⟨y,hy,e⟩:=al1.1 (jz hi);have e':gt (wK x).rows i=va y:=e.symm;rw[e'];exact No (FN (e:=rH) hr hy)
end Go.Li
namespace Go.Li
open Go Go.Sv Go.Pl Go.Proofs Go.Tb Go.Ut
end Go.Li
set_option maxRecDepth 10000
namespace Go.Li
open Go Go.Sv Go.Pl Go.Proofs Go.Tb Go.Ut
def D3(c:dL):jv:=⟨c.name,c.whole,Bx c.low,Bx c.high,jY c.cost⟩
def bg(p:aV):cR:=⟨p.max,jY p.shift,p.ae.map D3,p.rows.map fA⟩
theorem ic{n:Nat}{ts:List Term}(h:gH n (-1) ts=false):ts.length≤n:=by
 have key:∀k,k<ts.length→(k:Int)≤(gt ts k).aI:=fun k=>by
  induction k with
  | zero=>intro hk;have:=(gw h 0 hk).1;omega
  | succ k ih =>
   intro hk;have h1:=ih (by omega);have h2:=(gw h (k+1) hk).2.2.2 k (by omega);omega
 rcases Nat.eq_zero_or_pos ts.length with e | e
 ·omega
 ·have h1:=key (ts.length - 1) (by omega);have h2:=(gw h (ts.length - 1) (by omega)).2.1;omega
theorem Kb{p:aV}(hw:Ac p)(hv:cB p=0){i:Nat}(hi:i<p.rows.length):M9 (gt p.rows i) where
 n:=by
  have:=ic ((jx hv).2.2 i hi);have:=(jx hv).2.1;omega
 t:=fun k hk=>ah (hw.te i hi k hk) (by omega)
 lo:=ah (hw.ro i hi).1 (by omega)
 hi:=ah (hw.ro i hi).2 (by omega)
structure Ua(p:aV):Prop where
 nr:p.rows.length≤120
 nc:p.ae.length≤120
 sh:bQ p.shift
 co:∀j,j<p.ae.length→bQ (gt p.ae j).cost∧bQ (gt p.ae j).low.at'∧bQ (gt p.ae j).high.at'
 ro:∀i,i<p.rows.length→FW (gt p.rows i)
theorem Mj{p:aV}(hw:Ac p)(hv:cB p=0):Ua p where
 nr:=(jx hv).1
 nc:=(jx hv).2.1
 sh:=dN hw.sh (by omega)
 co:=fun j hj=>⟨dN (hw.co j hj).1 (by omega),dN (hw.co j hj).2.1 (by omega),dN (hw.co j hj).2.2 (by omega)⟩
 ro:=fun i hi=>(Kb hw hv hi).o
theorem Ar{p:aV}{j:Nat}(h:j<p.ae.length):gt (bg p).ae j=D3 (gt p.ae j):=by unfold bg;rw[jq _ h]
theorem v5{p:aV}{j:Nat}(h:j<p.rows.length):gt (bg p).rows j=fA (gt p.rows j):=by unfold bg;rw[jq _ h]
end Go.Li
namespace Go.Proofs
open Go.Sv Go Go.Tb Go.Pl Go.Ut Go.Li
theorem xZ(p:aV)(h:Ua p):aF Tryz.prog 10 [.bK (cJ p) 0] (cI (bg p)):=by
 have v1:=h.nr;have v2:=h.nc;have lc:(bg p).ae.length=p.ae.length:=by simp[bg]
 have lr:(bg p).rows.length=p.rows.length:=by simp[bg]
 have n1:(bg p).max=p.max:=rfl;have n2:(bg p).shift=jY p.shift:=rfl;refine gk Tryz.func10 rfl (by simp) (fun C hC=>?_);simp;refine aa.akJ (.qs [0,1,2,3,4,5,6,7,9]<|.l 8 []<|.l 10 [1]<|.qs [11]<|.l 12 [1]<|.nil) ?_;simp;refine akK (lL p.shift h.sh) ?_;simp;refine aa.le (Le.bB 1 2 5 rfl rfl rfl rfl (by simp)) ?_;simp[aK];refine aa.le (Le.bB 1 3 5 rfl rfl rfl rfl (by simp)) ?_;refine aa.bG (ι:=Nat) (fun j=>⟨70,[(0,.bK (cJ p) 0),(2,.ptr 0 0 0),(3,.ptr 1 0 0),(26,.ro (p.ae.map bW)),(27,iv p.ae.length),(28,iv j)],[some ⟨4,[.agg [.val (.bool false),.val (.string .empty),.val (.slice none 0 0),.val (.slice none 0 0)]],false⟩,
   some ⟨4,[.agg [bZ p.max,dt (jY p.shift),.view 2 0 j,.view 3 0 0]],false⟩,some ⟨5,((bg p).ae.take j).map fY,false⟩,some ⟨5,[],false⟩]⟩)
  (fun j=>j≤p.ae.length) (fun j=>p.ae.length - j) 0 (by simp) ?_ ?_
 ·simp[aw,hC,aK];done
 ·rintro j hj;by_cases az:j<p.ae.length
  ·have wc:=h.co j az;have g1:=Ar az;simp(disch:=omega)[az,cZ];repeat refine akI ?_
   refine aa.akJ (.qs [0,1,2,3,4,5,6,7,9,10,12,13]<|.l 8 []<|.l 11 []<|.l 14 []<|.qs [15]<|.l 16 []<|.l 17 [1000000]<|.qs [18]<|.l 19 [1,1000000]<|.nil) ?_;simp;refine akK (mg (gt p.ae j).low wc.2.1) ?_;simp;refine akK (mg (gt p.ae j).high wc.2.2) ?_;simp;refine akK (lL (gt p.ae j).cost wc.1) ?_;simp(disch:=omega)[aN];repeat refine akI ?_
   have em:SV.agg [SV.val (.string (gt p.ae j).name),SV.val (.bool (gt p.ae j).whole),SV.val (.string (Bx (gt p.ae j).low)),SV.val (.string (Bx (gt p.ae j).high)),SV.val (.string (jY (gt p.ae j).cost))]=fY (D3 (gt p.ae j)):=rfl;exact⟨⟨by simp[hC],by omega⟩,j+1,by omega,by omega,Le.bA (by simp(disch:=omega)[aw,hC,aN,m5 fY (show j<(bg p).ae.length by omega),g1,em])⟩
  ·obtain rfl:j=p.ae.length:=by omega
   simp;refine aa.bG (ι:=Nat) (fun i=>⟨70,[(2,.ptr 0 0 0),(3,.ptr 1 0 0),(55,.ro (p.rows.map bE)),(56,iv p.rows.length),(57,iv i)],[some ⟨4,[.agg [.val (.bool false),.val (.string .empty),.val (.slice none 0 0),.val (.slice none 0 0)]],false⟩,
     some ⟨4,[.agg [bZ p.max,dt (jY p.shift),.view 2 0 p.ae.length,.view 3 0 i]],false⟩,some ⟨5,(bg p).ae.map fY,false⟩,some ⟨5,((bg p).rows.take i).map fv,false⟩]⟩)
    (fun i=>i≤p.rows.length) (fun i=>p.rows.length - i) 0 (by simp) ?_ ?_
   ·simp[aw,hC,amv,lc];done
   ·rintro i hi;by_cases az:i<p.rows.length
    ·have g1:=v5 az;simp(disch:=omega)[az,dU];repeat refine akI ?_
     refine aa.akJ (.qs [0,1,2]<|.l 3 []<|.l 4 []<|.l 5 [1000000]<|.qs [6]<|.l 7 [1,1000000]<|.nil) ?_;simp;refine akK (yi (gt p.rows i) (h.ro i az)) ?_;simp(disch:=omega)[aN];repeat refine akI ?_
     exact⟨⟨by simp[hC],by omega⟩,i+1,by omega,by omega,Le.bA (by simp(disch:=omega)[aw,hC,aN,m5 fv (show i<(bg p).rows.length by omega),g1])⟩
    ·obtain rfl:i=p.rows.length:=by omega
     simp;refine⟨_,(Le.je 3 rfl (by simp)).trans (Le.je 2 rfl (by simp)),?_⟩;have t1:((bg p).rows.map fv).take p.rows.length=(bg p).rows.map fv:=amv (by simp[lr]);have t2:((bg p).ae.map fY).take p.ae.length=(bg p).ae.map fY:=amv (by simp[lc]);simp[dH,aK,lc,lr,t1,t2];have e:SV.agg [SV.val (.bool p.max),SV.val (.string (jY p.shift)),.ro ((bg p).ae.map fY),.ro ((bg p).rows.map fv)]=cI (bg p):=rfl;rw[e];exact cW _ _ rfl
theorem Ie{k:Nat}(c:jv):sf Tryz.prog .neq 88 (some (fY c)) (.tmp k) (some (fY c))=.q True (.val (.bool false)):=by
 have e:xS Tryz.prog 88=some [.str,.bool,.str,.str,.str]:=by kernel_rfl
 show qL .neq (xS Tryz.prog 88) [SV.val (.string c.name),SV.val (.bool c.whole),SV.val (.string c.low),SV.val (.string c.high),SV.val (.string c.cost)] [SV.val (.string c.name),SV.val (.bool c.whole),SV.val (.string c.low),SV.val (.string c.high),SV.val (.string c.cost)]=_;rw[e];simp[qL,tq,eqV]
theorem td(t:cR)(h1:t.ae.length≤1048576)(h2:t.rows.length≤1048576)(h3:∀i,i<t.rows.length→(gt t.rows i).ae.length≤1048576∧(gt t.rows i).eY.length≤1048576):aF Tryz.prog 11 [cI t,cI t] (bZ true):=by
 refine aj Tryz.func11 rfl (by simp) (fun C hC=>?_);simp;refine aa.bG (ι:=Nat) (fun i=>⟨76,[(2,.ptr 0 0 0),(3,.ptr 1 0 0),(5,iv i)],[some ⟨4,[cI t],false⟩,some ⟨4,[cI t],false⟩]⟩)
  (fun i=>i≤t.ae.length) (fun i=>t.ae.length - i) 0 (by simp) ?_ ?_
 ·simp[aw,hC]
 ·rintro i hi;by_cases az:i<t.ae.length
  ·have lc:=o4 az;simp(disch:=omega)[az,lc];repeat refine akI ?_
   refine aa.akJ (.qs [0,1,2,3,4,5,6,7,8,9,10]<|.nil) ?_;simp(disch:=omega)[az,lc,Ie,aN];repeat refine akI ?_
   exact⟨i+1,by omega,by omega,Le.bA (by simp(disch:=omega)[aw,hC,aN])⟩
  ·obtain rfl:i=t.ae.length:=by omega
   simp;refine aa.bG (ι:=Nat) (fun i=>⟨76,[(2,.ptr 0 0 0),(3,.ptr 1 0 0),(6,iv i)],[some ⟨4,[cI t],false⟩,some ⟨4,[cI t],false⟩]⟩)
    (fun i=>i≤t.rows.length) (fun i=>t.rows.length - i) 0 (by simp) ?_ ?_
   ·simp[aw,hC]
   ·rintro i hi;by_cases az:i<t.rows.length
    ·have lr:=oF az;simp(disch:=omega)[az,lr];repeat refine akI ?_
     refine aa.akJ (.qs [0,1,2,3,4,5,6,7,8,9]<|.l 10 []<|.qs [11]<|.nil) ?_;simp(disch:=omega)[az,lr];repeat refine akI ?_
     refine akK (B5 (gt t.rows i) (h3 i az).1 (h3 i az).2) ?_;simp(disch:=omega)[aN];repeat refine akI ?_
     exact⟨i+1,by omega,by omega,Le.bA (by simp(disch:=omega)[aw,hC,aN])⟩
    ·obtain rfl:i=t.rows.length:=by omega
     simp
end Go.Proofs
namespace Go.Sv
open Go Go.Tb Go.Ut
end Go.Sv
namespace Go.Li
open Go Go.Sv Go.Pl Go.Proofs Go.Tb Go.Ut
@[simp] theorem Vg(l:List Row):r6 12 (l.map bE)=True:=by cases l<;>simp[r6]
def afm(k:Nat)(r:Row):SV:=.agg (SV.val (.string r.name)::.view k 0 r.ab.length::((cL r.low).cells++(cL r.high).cells))
def tmE(ts:List Term):Option cx:=some ⟨5,ts.map aW,false⟩
theorem EX{p:aV}{i:Nat}(h:i<p.rows.length):bl (p.rows.map bE) i (bE (gt p.rows i))=p.rows.map bE:=by
 rw[ct];refine List.ext_getElem (by simp) fun j h1 h2=>?_;simp only[List.length_set,amh]at h1;rw[List.getElem_set];split
 ·rename_i e;subst e;rw[List.getElem_map,ee h]
 ·rfl
def De:List Row→Nat→List SV
 | [],_=>[]
 | r::l,o=>afm o r::De l (o+1)
@[simp] theorem EW:∀(l:List Row) (o:Nat),(De l o).length=l.length
 | [],_=>rfl
 | r::l,o=>by simp[De,EW l]
def ahs(l:List Row)(i:Nat):List SV:=De (l.take i) 4++(l.drop i).map bE
theorem Dl{k:Nat}{es l:List SV}{i:Nat}{x:SV}:j8 k es (l.set i x)=(j8 k es l).set i (j5 k es x):=by
 induction l generalizing i with
 | nil=>rfl
 | cons y l ih=>cases i<;>simp[ih]
def twE(r:Row):Option cx:=tmE r.ab
end Go.Li
namespace Go.Proofs
open Go.Sv Go Go.Tb Go.Pl Go.Ut Go.Li
end Go.Proofs
namespace Go.Proofs
open Go.Sv Go Go.Tb Go.Pl Go.Ut Go.Li
end Go.Proofs


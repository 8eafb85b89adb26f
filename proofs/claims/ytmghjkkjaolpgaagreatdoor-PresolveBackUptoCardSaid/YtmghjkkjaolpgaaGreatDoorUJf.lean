/- A text of the prover's own. -/
import Derived.Test.YtmghjkkjaolpgaaGreatDoorUKu
import Derived.Test.YtmghjkkjaolpgaaGreatDoorUKb
import Derived.Test.YtmghjkkjaolpgaaGreatDoorUKo
open ByteArray renaming empty→anq,size→ao2
open List renaming take_of_length_le→anE,length_map→anp,map→ao3,map_map→aoO,mem_map→am8
set_option maxRecDepth 10000
namespace Go.Li
open Go Go.Sv Go.Pl Go.Proofs Go.Tb Go.Ut
def Af(b:Bo):ByteArray:=if b.has=true then ff b.at' else e0
def ee(r:Row):ia:=⟨r.name,Af r.low,Af r.high,r.ab.map (·.aq),r.ab.map fun t=>ff t.num⟩
structure ajU(r:Row):Prop where
 n:r.ab.length≤120
 t:∀k,k<r.ab.length→qw 10000000 (gt r.ab k).num
 lo:qw 10000000 r.low.at'
 hi:qw 10000000 r.high.at'
structure Po(r:Row):Prop where
 n:r.ab.length≤120
 t:∀k,k<r.ab.length→dE (gt r.ab k).num
 lo:dE r.low.at'
 hi:dE r.high.at'
theorem Jy(q:Rat):(ff q).size≠0:=fun h=>by
 have e:=D4 q (m:=5) (by omega);have hq:eH 5 (ff q)=(0,1,ak (ff q)):=by
  have h1:=gY (ff q);have h2:aw (ff q) (ak (ff q))≤(ff q).size:=dI h1;have h3:=fD (ff q) (ak (ff q));unfold eH;rw[if_neg (by omega),if_pos (by omega)]
 rw[hq]at e;simp at e
theorem KX(q:Rat):ff q≠anq:=fun h=>Jy q (by rw[h];rfl)
theorem Ey{b:Bo}(h:b.has=true):Af b=ff b.at':=by unfold Af;rw[if_pos h]
theorem GJ{b:Bo}(h:b.has=false):Af b=e0:=by unfold Af;rw[if_neg (by simp[h])]
def xZ(p:aO):SV:=.agg ([cU p.max]++(kH).cells++[.ro (p.aa.map cB),.ro (p.rows.map dW)])
@[simp] theorem RJ(p:aO):(xZ p).fj=7:=rfl
@[simp] theorem Mj(p:aO):(xZ p).aM=false:=rfl
@[simp] theorem Mv(p:aO):(xZ p).isAgg=true:=rfl
@[simp] theorem V3(n:Nat)(p:aO):(xZ p).lt n=true:=rfl
@[simp] theorem VZ(p:aO):aA (xZ p).cells 5=.ro (p.aa.map cB):=rfl
@[simp] theorem Wy(p:aO):aA (xZ p).cells 6=.ro (p.rows.map dW):=rfl
@[simp] theorem Vo(b:Bo)(k:Nat):(iz b).cells.map (fun y=>if SV.bC k y=true then SV.any else y)=(iz b).cells:=rfl
@[simp] theorem aaQ(q:Rat)(r:List SV)(n:Nat)(x:SV):bD ((cC q).cells++r) (n+4) x=(cC q).cells++bD r n x:=rfl
@[simp] theorem ac7(q:Rat)(r:List SV)(n:Nat):aA ((cC q).cells++r) (n+4)=aA r n:=rfl
@[simp] theorem ado(q:Rat)(k:Nat):(cC q).cells.map (fun y=>if SV.bC k y=true then SV.any else y)=(cC q).cells:=rfl
theorem F8{n:Nat}{x:SV}(h:x.pure=true):SV.ba (List.replicate n x)=true:=by
 induction n with
 | zero=>rfl
 | succ n ih=>rw[List.replicate_succ];simp[h,ih]
end Go.Li
namespace Go.Proofs
open Go.Sv Go Go.Tb Go.Pl Go.Ut Go.Li
theorem mf(b:Bo)(h:dE b.at'):aI Tryz.prog 34 [cL b] (cZ (Af b)):=by
 refine aj Tryz.func34 rfl (by simp) (fun C hC=>?_);simp;refine⟨fun h1=>by rw[GJ h1];rfl,fun h1=>?_⟩;refine alT (nR b.at' h) ?_;simp[Ey h1]
theorem y4(r:Row)(h:Po r):aI Tryz.prog 35 [bE r] (ib (ee r)):=by
 have hn:=h.n;refine il Tryz.func35 rfl (by simp) (fun C hC=>?_);simp;refine ae.yj (.d 9<|.qs [0,1,2,3,5,6]<|.p 4<|.p 7<|.qs [8]<|.b (.l 10 [2]<|.nil)) (by kernel_rfl) (by kernel_rfl) (by simp) ?_;simp;refine mS (mf r.low h.lo) (by simp) ?_;simp;refine mS (mf r.high h.hi) (by simp) ?_;simp;refine ae.le (Le.cJ 2 3 1 rfl rfl rfl rfl (by simp)) ?_;simp[aN];refine ae.le (Le.cJ 2 4 1 rfl rfl rfl rfl (by simp)) ?_;refine ae.cq (ι:=Nat) (fun k=>⟨39,[(2,.ptr 1 0 0),(3,.ptr 2 0 0),(16,.ro (r.ab.map aT)),(17,iv r.ab.length),(18,iv k)],[some ⟨12,[bE r],false⟩,some ⟨5,[.agg [.val (.string .empty),.val (.string .empty),.val (.string .empty),.val (.slice none 0 0),.val (.slice none 0 0)]],false⟩,
   some ⟨5,[.agg [cZ r.name,cZ (Af r.low),cZ (Af r.high),.view 3 0 k,.view 4 0 k]],false⟩,some ⟨1,((ee r).aa.take k).map iv,false⟩,some ⟨1,((ee r).cN.take k).map cZ,false⟩]⟩)
  (fun k=>k≤r.ab.length) (fun k=>r.ab.length - k) 0 (by simp) ?_ ?_
 ·simp[ar,hC,aN]
 ·rintro k hk;have hl1:(ee r).aa.length=r.ab.length:=by simp[ee]
  have hl2:(ee r).cN.length=r.ab.length:=by simp[ee]
  by_cases aF:k<r.ab.length
  ·have g1:gt (ee r).aa k=(gt r.ab k).aq:=by unfold ee;rw[dL _ aF]
   have g2:gt (ee r).cN k=ff (gt r.ab k).num:=by unfold ee;rw[dL _ aF]
   simp(disch:=omega)[aF,pz,aP];repeat refine alR ?_
   refine⟨⟨by simp[hC],by omega⟩,?_⟩;refine ae.alS (.qs [0,1,2,3]<|.l 4 []<|.l 5 []<|.l 6 [1000000]<|.qs [7]<|.l 8 [2,1000000]<|.nil) ?_;simp;refine alT (nR _ (h.t k aF)) ?_;simp(disch:=omega)[aP];repeat refine alR ?_
   exact⟨⟨by simp[hC],by omega⟩,k+1,by omega,by omega,Le.ct (by simp(disch:=omega)[ar,hC,aP,mQ iv (show k<(ee r).aa.length by omega),mQ cZ (show k<(ee r).cN.length by omega),g1,g2])⟩
  ·obtain rfl:k=r.ab.length:=by omega
   simp;refine⟨_,(Le.kE 4 rfl (by simp)).trans (Le.kE 3 rfl (by simp)),?_⟩;have t1:((ee r).aa.map iv).take r.ab.length=(ee r).aa.map iv:=anE (by simp[hl1]);have t2:((ee r).cN.map cZ).take r.ab.length=(ee r).cN.map cZ:=anE (by simp[hl2]);simp[fg,aN,t1,t2,hl1,hl2];exact eh _ _ rfl
end Go.Proofs
namespace Go.Li
open Go Go.Sv Go.Pl Go.Proofs Go.Tb Go.Ut
def aj1:cR:=⟨false,s0,[⟨sx,true,s0,s3,s1⟩,⟨sy,true,s0,s3,s1⟩],[⟨HT,e0,s5,[0,1],[s2,s2]⟩]⟩
def P2:aO:=⟨false,0,[⟨sx,true,⟨true,0⟩,⟨true,3⟩,1⟩,⟨sy,true,⟨true,0⟩,⟨true,3⟩,1⟩],[⟨HT,[⟨0,2⟩,⟨1,2⟩],⟨false,0⟩,⟨true,5⟩⟩]⟩
@[simp] theorem Zc(r:Row):aA (bE r).cells 7=.val (.bool r.high.has):=rfl
@[simp] theorem ab0(r:Row):SV.agg (List.take 4 (List.drop 8 (bE r).cells))=aY r.high.at':=rfl
theorem IN{s:cR}(h:qg s=true):(ch s).aa.length≤7∧(ch s).rows.length≤7:=by
 unfold qg at h;simp only[Bool.and_eq_true,decide_eq_true_eq]at h;unfold ch;simp only[anp];exact⟨h.1.1.1.1,h.1.1.1.2⟩
end Go.Li
namespace Go.Proofs
open Go.Sv Go Go.Tb Go.Pl Go.Ut Go.Li
end Go.Proofs
namespace Go.Ut
open Go Go.Sv Go.Pl Go.Proofs Go.Tb
theorem CW{e:Pt}{x:(Pt.sl e).T}(h1:∀y,1≤e.bk y)(h:(Pt.sl e).bk x≤1048576):(show List e.T from x).length≤1048576:=by
 have h':(ao3 e.bk (show List e.T from x)).sum+1≤1048576:=h;exact Nat.le_trans (zu (f:=e.bk) h1 (l:=(show List e.T from x))) (by omega)
theorem H4{e:Pt}{x:(Pt.sl e).T}(h:(Pt.sl e).bk x≤1048576){y:e.T}(hy:y∈(show List e.T from x)):e.bk y≤1048576:=by
 have h':(ao3 e.bk (show List e.T from x)).sum+1≤1048576:=h;have:e.bk y≤_:=zL (f:=e.bk) hy;omega
end Go.Ut
namespace Go.Li
open Go Go.Sv Go.Pl Go.Proofs Go.Tb Go.Ut
def qK:Pt:=.pair .str (.pair .bool (.pair .str (.pair .str (.pair .str .unit))))
def rJ:Pt:=.pair .str (.pair .str (.pair .str (.pair (.sl (.int .i64)) (.pair nZ .unit))))
def qG:Pt:=.pair .bool (.pair .str (.pair (.sl qK) (.pair (.sl rJ) .unit)))
def vY(y:qK.T):jc:=⟨y.1,y.2.1,y.2.2.1,y.2.2.2.1,y.2.2.2.2.1⟩
def vN(y:rJ.T):ia:=⟨y.1,y.2.1,y.2.2.1,y.2.2.2.1,y.2.2.2.2.1⟩
def Py(x:(Pt.sl qK).T):List jc:=ao3 vY x
def rowsOf(x:(Pt.sl rJ).T):List ia:=ao3 vN x
def vF(y:qG.T):cR:=⟨y.1,y.2.1,Py y.2.2.1,rowsOf y.2.2.2.1⟩
theorem K6(x:qG.T):qG.sv x=dv (vF x):=by
 have e1:∀l:List qK.T,ao3 iT (ao3 vY l)=ao3 (fun y=>qK.sv y) l:=fun l=>by rw[aoO];rfl
 have e2:∀l:List rJ.T,ao3 ib (ao3 vN l)=ao3 (fun y=>rJ.sv y) l:=fun l=>by rw[aoO];rfl
 show SV.agg [.val (.bool x.1),.val (.string x.2.1),.ro (ao3 (fun y=>qK.sv y) x.2.2.1),.ro (ao3 (fun y=>rJ.sv y) x.2.2.2.1)]=SV.agg [.val (.bool x.1),.val (.string x.2.1),.ro (ao3 iT (ao3 vY x.2.2.1)),.ro (ao3 ib (ao3 vN x.2.2.2.1))];have g:∀a a' b b':List SV,a=a'→b=b'→SV.agg [.val (.bool x.1),.val (.string x.2.1),.ro a,.ro b]=SV.agg [.val (.bool x.1),.val (.string x.2.1),.ro a',.ro b']:=fun a a' b b' h1 h2=>by rw[h1,h2]
 exact g _ _ _ _ (e1 _).symm (e2 _).symm
theorem GN(y:qK.T):qK.bk y=(ao2 y.1+1)+(1+((ao2 y.2.2.1+1)+((ao2 y.2.2.2.1+1)+((ao2 y.2.2.2.2.1+1)+0)))):=rfl
theorem IJ(y:rJ.T):rJ.bk y=(ao2 y.1+1)+((ao2 y.2.1+1)+((ao2 y.2.2.1+1)+((Pt.sl (.int .i64)).bk y.2.2.2.1+(nZ.bk y.2.2.2.2.1+0)))):=rfl
theorem Kf(y:qG.T):qG.bk y=1+((ao2 y.2.1+1)+((Pt.sl qK).bk y.2.2.1+((Pt.sl rJ).bk y.2.2.2.1+0))):=rfl
theorem OZ{y:qK.T}(h:qK.bk y≤1048576):SmC (vY y):=by
 rw[GN]at h;refine⟨?_,?_,?_,?_⟩
 ·show ao2 y.1≤_;omega
 ·show ao2 y.2.2.1≤_;omega
 ·show ao2 y.2.2.2.1≤_;omega
 ·show ao2 y.2.2.2.2.1≤_;omega
theorem PG{y:rJ.T}(h:rJ.bk y≤1048576):SmR (vN y):=by
 rw[IJ]at h;refine⟨?_,?_,?_,?_,?_⟩
 ·show ao2 y.1≤_;omega
 ·show ao2 y.2.1≤_;omega
 ·show ao2 y.2.2.1≤_;omega
 ·exact CW (e:=.int .i64) (x:=y.2.2.2.1) (fun _=>Nat.le_refl 1) (by omega)
 ·exact BO (x:=y.2.2.2.2.1) (by omega)
theorem KC{x:qG.T}(h:qG.bk x≤1048576):JT (vF x):=by
 rw[Kf]at h;have hc:(Pt.sl qK).bk x.2.2.1≤1048576:=by omega
 have hr:(Pt.sl rJ).bk x.2.2.2.1≤1048576:=by omega
 refine⟨?_,?_,?_,fun i hi=>?_,fun i hi=>?_⟩
 ·show ao2 x.2.1≤_;omega
 ·refine Nat.le_trans (Nat.le_of_eq (anp ..)) ?_;exact CW (e:=qK) (fun y=>by rw[GN];omega) hc
 ·refine Nat.le_trans (Nat.le_of_eq (anp ..)) ?_;exact CW (e:=rJ) (fun y=>by rw[IJ];omega) hr
 ·obtain⟨y,hy,e⟩:=am8.1 (dr hi);have e':gt (vF x).aa i=vY y:=e.symm;rw[e'];exact OZ (H4 (e:=qK) hc hy)
 ·obtain⟨y,hy,e⟩:=am8.1 (dr hi);have e':gt (vF x).rows i=vN y:=e.symm;rw[e'];exact PG (H4 (e:=rJ) hr hy)
end Go.Li
namespace Go.Li
open Go Go.Sv Go.Pl Go.Proofs Go.Tb Go.Ut
end Go.Li
set_option maxRecDepth 10000
namespace Go.Li
open Go Go.Sv Go.Pl Go.Proofs Go.Tb Go.Ut
def tD(c:df):jc:=⟨c.name,c.whole,Af c.low,Af c.high,ff c.cost⟩
def cf(p:aO):cR:=⟨p.max,ff p.shift,p.aa.map tD,p.rows.map ee⟩
theorem ko{n:Nat}{ts:List Term}(h:fB n (-1) ts=false):ts.length≤n:=by
 have key:∀k,k<ts.length→(k:Int)≤(gt ts k).aq:=fun k=>by
  induction k with
  | zero=>intro hk;have:=(cW h 0 hk).1;omega
  | succ k ih =>
   intro hk;have h1:=ih (by omega);have h2:=(cW h (k+1) hk).2.2.2 k (by omega);omega
 rcases Nat.eq_zero_or_pos ts.length with e | e
 ·omega
 ·have h1:=key (ts.length - 1) (by omega);have h2:=(cW h (ts.length - 1) (by omega)).2.1;omega
structure SpO(p:aO):Prop where
 nr:p.rows.length≤120
 nc:p.aa.length≤120
 sh:dE p.shift
 co:∀j,j<p.aa.length→dE (gt p.aa j).cost∧dE (gt p.aa j).low.at'∧dE (gt p.aa j).high.at'
 ro:∀i,i<p.rows.length→Po (gt p.rows i)
theorem Az{p:aO}{j:Nat}(h:j<p.aa.length):gt (cf p).aa j=tD (gt p.aa j):=by unfold cf;rw[dL _ h]
theorem A4{p:aO}{j:Nat}(h:j<p.rows.length):gt (cf p).rows j=ee (gt p.rows j):=by unfold cf;rw[dL _ h]
end Go.Li
namespace Go.Proofs
open Go.Sv Go Go.Tb Go.Pl Go.Ut Go.Li
theorem FR(p:aO)(h:SpO p):aI Tryz.prog 10 [.bU (cz p) 0] (dv (cf p)):=by
 have v1:=h.nr;have v2:=h.nc;have lc:(cf p).aa.length=p.aa.length:=by simp[cf]
 have lr:(cf p).rows.length=p.rows.length:=by simp[cf]
 have n1:(cf p).max=p.max:=rfl;have n2:(cf p).shift=ff p.shift:=rfl;refine il Tryz.func10 rfl (by simp) (fun C hC=>?_);simp;refine ae.alS (.qs [0,1,2,3,4,5,6,7,9]<|.l 8 []<|.l 10 [1]<|.qs [11]<|.l 12 [1]<|.nil) ?_;simp;refine alT (nR p.shift h.sh) ?_;simp;refine ae.le (Le.cJ 1 2 5 rfl rfl rfl rfl (by simp)) ?_;simp[aN];refine ae.le (Le.cJ 1 3 5 rfl rfl rfl rfl (by simp)) ?_;refine ae.cq (ι:=Nat) (fun j=>⟨70,[(0,.bU (cz p) 0),(2,.ptr 0 0 0),(3,.ptr 1 0 0),(26,.ro (p.aa.map bS)),(27,iv p.aa.length),(28,iv j)],[some ⟨4,[.agg [.val (.bool false),.val (.string .empty),.val (.slice none 0 0),.val (.slice none 0 0)]],false⟩,
   some ⟨4,[.agg [cU p.max,cZ (ff p.shift),.view 2 0 j,.view 3 0 0]],false⟩,some ⟨5,((cf p).aa.take j).map iT,false⟩,some ⟨5,[],false⟩]⟩)
  (fun j=>j≤p.aa.length) (fun j=>p.aa.length - j) 0 (by simp) ?_ ?_
 ·simp[ar,hC,aN];done
 ·rintro j hj;by_cases aF:j<p.aa.length
  ·have wc:=h.co j aF;have g1:=Az aF;simp(disch:=omega)[aF,cX];repeat refine alR ?_
   refine ae.alS (.qs [0,1,2,3,4,5,6,7,9,10,12,13]<|.l 8 []<|.l 11 []<|.l 14 []<|.qs [15]<|.l 16 []<|.l 17 [1000000]<|.qs [18]<|.l 19 [1,1000000]<|.nil) ?_;simp;refine alT (mf (gt p.aa j).low wc.2.1) ?_;simp;refine alT (mf (gt p.aa j).high wc.2.2) ?_;simp;refine alT (nR (gt p.aa j).cost wc.1) ?_;simp(disch:=omega)[aP];repeat refine alR ?_
   have em:SV.agg [SV.val (.string (gt p.aa j).name),SV.val (.bool (gt p.aa j).whole),SV.val (.string (Af (gt p.aa j).low)),SV.val (.string (Af (gt p.aa j).high)),SV.val (.string (ff (gt p.aa j).cost))]=iT (tD (gt p.aa j)):=rfl;exact⟨⟨by simp[hC],by omega⟩,j+1,by omega,by omega,Le.ct (by simp(disch:=omega)[ar,hC,aP,mQ iT (show j<(cf p).aa.length by omega),g1,em])⟩
  ·obtain rfl:j=p.aa.length:=by omega
   simp;refine ae.cq (ι:=Nat) (fun i=>⟨70,[(2,.ptr 0 0 0),(3,.ptr 1 0 0),(55,.ro (p.rows.map bE)),(56,iv p.rows.length),(57,iv i)],[some ⟨4,[.agg [.val (.bool false),.val (.string .empty),.val (.slice none 0 0),.val (.slice none 0 0)]],false⟩,
     some ⟨4,[.agg [cU p.max,cZ (ff p.shift),.view 2 0 p.aa.length,.view 3 0 i]],false⟩,some ⟨5,(cf p).aa.map iT,false⟩,some ⟨5,((cf p).rows.take i).map ib,false⟩]⟩)
    (fun i=>i≤p.rows.length) (fun i=>p.rows.length - i) 0 (by simp) ?_ ?_
   ·simp[ar,hC,anE,lc];done
   ·rintro i hi;by_cases aF:i<p.rows.length
    ·have g1:=A4 aF;simp(disch:=omega)[aF,dX];repeat refine alR ?_
     refine ae.alS (.qs [0,1,2]<|.l 3 []<|.l 4 []<|.l 5 [1000000]<|.qs [6]<|.l 7 [1,1000000]<|.nil) ?_;simp;refine alT (y4 (gt p.rows i) (h.ro i aF)) ?_;simp(disch:=omega)[aP];repeat refine alR ?_
     exact⟨⟨by simp[hC],by omega⟩,i+1,by omega,by omega,Le.ct (by simp(disch:=omega)[ar,hC,aP,mQ ib (show i<(cf p).rows.length by omega),g1])⟩
    ·obtain rfl:i=p.rows.length:=by omega
     simp;refine⟨_,(Le.kE 3 rfl (by simp)).trans (Le.kE 2 rfl (by simp)),?_⟩;have t1:((cf p).rows.map ib).take p.rows.length=(cf p).rows.map ib:=anE (by simp[lr]);have t2:((cf p).aa.map iT).take p.aa.length=(cf p).aa.map iT:=anE (by simp[lc]);simp[fg,aN,lc,lr,t1,t2];have e:SV.agg [SV.val (.bool p.max),SV.val (.string (ff p.shift)),.ro ((cf p).aa.map iT),.ro ((cf p).rows.map ib)]=dv (cf p):=rfl;rw[e];exact eh _ _ rfl
theorem TN{k:Nat}(c:jc):rU Tryz.prog .neq 88 (some (iT c)) (.tmp k) (some (iT c))=.q True (.val (.bool false)):=by
 have e:xO Tryz.prog 88=some [.str,.bool,.str,.str,.str]:=by kernel_rfl
 show qi .neq (xO Tryz.prog 88) [SV.val (.string c.name),SV.val (.bool c.whole),SV.val (.string c.low),SV.val (.string c.high),SV.val (.string c.cost)] [SV.val (.string c.name),SV.val (.bool c.whole),SV.val (.string c.low),SV.val (.string c.high),SV.val (.string c.cost)]=_;rw[e];simp[qi,tE,Z2]
end Go.Proofs
namespace Go.Sv
open Go Go.Tb Go.Ut
end Go.Sv
namespace Go.Li
open Go Go.Sv Go.Pl Go.Proofs Go.Tb Go.Ut
@[simp] theorem TS(l:List Row):uy 12 (l.map bE)=True:=by cases l<;>simp[uy]
def adV(k:Nat)(r:Row):SV:=.agg (SV.val (.string r.name)::.view k 0 r.ab.length::((cL r.low).cells++(cL r.high).cells))
def tmE(ts:List Term):Option cx:=some ⟨5,ts.map aT,false⟩
theorem FN{p:aO}{i:Nat}(h:i<p.rows.length):bD (p.rows.map bE) i (bE (gt p.rows i))=p.rows.map bE:=by
 rw[cj];refine List.ext_getElem (by simp) fun j h1 h2=>?_;simp only[List.length_set,anp]at h1;rw[List.getElem_set];split
 ·rename_i e;subst e;rw[List.getElem_map,bR h]
 ·rfl
def D1:List Row→Nat→List SV
 | [],_=>[]
 | r::l,o=>adV o r::D1 l (o+1)
@[simp] theorem F9:∀(l:List Row) (o:Nat),(D1 l o).length=l.length
 | [],_=>rfl
 | r::l,o=>by simp[D1,F9 l]
def ag8(l:List Row)(i:Nat):List SV:=D1 (l.take i) 4++(l.drop i).map bE
theorem EG{k:Nat}{es l:List SV}{i:Nat}{x:SV}:j5 k es (l.set i x)=(j5 k es l).set i (jT k es x):=by
 induction l generalizing i with
 | nil=>rfl
 | cons y l ih=>cases i<;>simp[ih]
def twE(r:Row):Option cx:=tmE r.ab
end Go.Li
namespace Go.Proofs
open Go.Sv Go Go.Tb Go.Pl Go.Ut Go.Li
end Go.Proofs
namespace Go.Proofs
open Go.Sv Go Go.Tb Go.Pl Go.Ut Go.Li
end Go.Proofs


/- A text of the prover's own. -/
import Derived.Test.YtmghjkkjaolpgaaGreatDoorUIh
import Derived.Test.YtmghjkkjaolpgaaGreatDoorUIu
open List renaming take→aoM,drop→aoN,map→ao3,replicate→alZ,cons_append→amF,getElem?_map→amf,map_take→an3
namespace Go.Ps
open Go Go.Sv Go.Pl Go.Proofs Go.Tb Go.Ut Go.Li
def YS(p:aO):aJ:=[some ⟨7,[.agg (cU p.max::((aY p.shift).cells++[.view 1 0 p.aa.length,.view 2 0 p.rows.length]))],false⟩,some ⟨16,p.aa.map bS,false⟩,some ⟨12,p.rows.map bE,false⟩]
end Go.Ps
namespace Go.Proofs
open Go.Sv Go Go.Tb Go.Pl Go.Ut Go.Li Go.Ps
theorem Jk(p:aO)(h:OA p):mw Tryz.prog 29 [.bU (cz p) 0] [] [] (fun T y=>T=YS p∧y=.ptr 0 0 0):=by
 have nc:=h.nc;have nr:=h.nr;refine sR Tryz.func29 rfl (by simp) (fun C hC=>?_);have hC:C.fx=[]:=hC;simp;simp[cz];refine⟨by omega,by omega,?_⟩;refine ae.cq (ι:=Nat) (fun i=>⟨41,[(0,.bU (cz p) 0),(3,.ptr 0 0 0),(22,iv p.rows.length),(23,iv i)],[some ⟨7,[.agg (cU p.max::((aY p.shift).cells++[.view 1 0 p.aa.length,.view 2 0 p.rows.length]))],false⟩,some ⟨16,p.aa.map bS,false⟩,some ⟨12,p.rows.map bE,false⟩]⟩)
  (fun i=>i≤p.rows.length) (fun i=>p.rows.length - i) 0 (by simp) ?_ ?_
 ·simp[ar,hC,cz];done
 ·rintro i hi;by_cases aF:i<p.rows.length
  ·have nt:=h.nt i aF;simp(disch:=omega)[aF,aP];repeat refine alR ?_
   refine ae.alS (.qs [0,1,2,3,4,5,6,7,8,9,10]<|.l 11 []<|.qs [12,13]<|.l 14 [2]<|.nil) ?_;have e1:SV.agg (aoM 1 (bE (gt p.rows i)).cells++.ro ((gt p.rows i).ab.map aT)::aoN 2 (bE (gt p.rows i)).cells)=bE (gt p.rows i):=rfl;simp(disch:=omega)[aF,dX,aP];repeat refine alR ?_
   refine⟨⟨by cases(gt p.rows i).ab<;>simp[uy],by omega⟩,i+1,by omega,by omega,(Le.kE 3 rfl (by simp)).trans ?_⟩;refine Le.ct ?_;have e2:j5 3 (ao3 aT (gt p.rows i).ab) (bD (ao3 bE p.rows) i (SV.agg (aoM 1 (bE (gt p.rows i)).cells++SV.view 3 0 (gt p.rows i).ab.length::aoN 2 (bE (gt p.rows i)).cells)))=ao3 bE p.rows:=by
    rw[cj,EG,dR _ _ _ (by simp),←cj];have b1:∀b:Bo,j5 3 (ao3 aT (gt p.rows i).ab) (cL b).cells=(cL b).cells:=fun b=>dR _ _ _ rfl;have e3:jT 3 (ao3 aT (gt p.rows i).ab) (SV.agg (SV.val (.string (gt p.rows i).name)::SV.view 3 0 (gt p.rows i).ab.length::((cL (gt p.rows i).low).cells++(cL (gt p.rows i).high).cells)))=bE (gt p.rows i):=by
     simp[qY,b1];rfl
    have e5:SV.agg (aoM 1 (bE (gt p.rows i)).cells++SV.view 3 0 (gt p.rows i).ab.length::aoN 2 (bE (gt p.rows i)).cells)=SV.agg (SV.val (.string (gt p.rows i).name)::SV.view 3 0 (gt p.rows i).ab.length::((cL (gt p.rows i).low).cells++(cL (gt p.rows i).high).cells)):=rfl;rw[e5];rw[e3];exact FN aF
   have e4:j5 3 (ao3 aT (gt p.rows i).ab) (ao3 bS p.aa)=ao3 bS p.aa:=dR _ _ _ (by simp);simp(disch:=omega)[ar,hC,aP,fg,aN,e2,e4];rfl
  ·obtain rfl:i=p.rows.length:=by omega
   simp;exact⟨_,_,⟨rfl,rfl⟩,by simp[YS,iS],by simp[YS],.inl rfl⟩
end Go.Proofs
namespace Go.Ps
open Go Go.Sv Go.Pl Go.Proofs Go.Tb Go.Ut Go.Li
theorem rK(n i:Nat):gt (alZ n false) i=false:=by
 by_cases h:i<n
 ·unfold gt;simp[h]
 ·unfold gt;simp[h]
theorem v9(p:aO)(pw:IX p)(hv:∀i,i<p.rows.length→fB p.aa.length (-1) (gt p.rows i).ab=false)(hb:∀i,i<p.rows.length→nB (gt p.rows i).low∧nB (gt p.rows i).high):aW p.aa.length p.rows.length 2400 (bI p):=by
 have c0:aD (bI p).gc=0:=rF _;have r0:aD (bI p).gr=0:=rF _;have eA:qA 2400 0=2397:=by decide
 have eB:qB 2400 0 0=4800:=by decide
 refine⟨⟨rfl,rfl,by simp[bI],by simp[bI],hv,hb,by simp[bI],fun i hi _ k hk=>rK _ _⟩,?_⟩;show Gk 2400 (aD (bI p).gc) (aD (bI p).gr) (bI p);rw[c0,r0];refine⟨fun j hj=>?_,fun i hi=>?_,fun i hi k hk=>?_,?_,fun k hk=>by simp[bI]at hk⟩
 ·obtain⟨h1,h2,h3⟩:=pw.co j hj;rw[eB];exact⟨ah h2 (by omega),ah h3 (by omega),ah h1 (by omega)⟩
 ·obtain⟨h1,h2⟩:=pw.ro i hi;rw[eB];exact⟨ah h1 (by omega),ah h2 (by omega)⟩
 ·rw[eA];exact ah (pw.te i hi k hk) (by omega)
 ·rw[eB];exact ah pw.sh (by omega)
structure NN(n m u:Nat)(mx:Bool)(w0:Wk)(b:Bool)(w:Wk):Prop where
 G:aW n m u w
 fin:w.no=true∨b=false→BM mx w0 w
 go:w.no=false→b=true→∀z,BM mx w z→BM mx w0 z
def yk(n m:Nat)(b:Bool)(w:Wk):Nat:=if b=true∧w.no=false then EN n m w+1 else 0
theorem NN.step{n m u:Nat}{mx:Bool}{w0 w:Wk}{b:Bool}(hu:8≤u)(h:NN n m u mx w0 b w)(hb:b=true)(hn:w.no=false):NN n m u mx w0 (gy mx w).1 (gy mx w).2∧yk n m (gy mx w).1 (gy mx w).2<yk n m b w:=by
 have D:=nF (mx:=mx) hu h.G hn;refine⟨⟨D.lW,fun q=>?_,fun q1 q2 z hz=>h.go hn hb z (.step hn q2 hz)⟩,?_⟩
 ·by_cases q2:(gy mx w).1=true
  ·rcases q with q | q
   ·exact h.go hn hb _ (.step hn q2 (.no q))
   ·rw[q2]at q;cases q
  ·exact h.go hn hb _ (.last hn (by simpa using q2))
 ·unfold yk;rw[if_pos (⟨hb,hn⟩:b=true∧w.no=false)];split
  ·rename_i q;have:=Kz D q.1 q.2;omega
  ·omega
theorem NN.start{n m u:Nat}{mx:Bool}{w0:Wk}(G:aW n m u w0)(hn:w0.no=false):NN n m u mx w0 true w0:=⟨G,fun q=>(q.elim (fun q=>by rw[hn]at q;cases q) (fun q=>by cases q)),fun _ _ z hz=>hz⟩
/-! places by columns, in a map -/
def tM(x:Int × Int):SV:=.bG [.val (.int .i64 x.1),.val (.int .i64 x.2)]
@[simp] theorem Zz(k:Nat)(e:Int × Int):(tM e).lt k=true:=rfl
@[simp] theorem RH(e:Int × Int):(tM e).pure=true:=rfl
@[simp] theorem R3(k:Nat)(e:Int × Int):(tM e).bC k=false:=rfl
def iG:List (Int × Int)→Int→Option Int
 | [],_=>none
 | x::m,v=>if v=x.1 then some x.2 else iG m v
def R2(m:List (Int × Int))(v:Int):Int:=(iG m v).getD 0
theorem zf(v:Int):∀(m:List (Int × Int)) (i:Nat),(iG m v=none→fo (.int .i64 v) (m.map tM) i=some none) ∧
  (∀o,iG m v=some o→∃j,fo (.int .i64 v) (m.map tM) i=some (some (j,.val (.int .i64 o))))
 | [],i=>⟨fun _=>rfl,fun o h=>by simp[iG]at h⟩
 | x::m,i=>by
  obtain⟨h1,h2⟩:=zf v m (i+1);have k:fo (.int .i64 v) ((x::m).map tM) i=Ml (.int .i64 v) (.int .i64 x.1) (.val (.int .i64 x.2)) i (fo (.int .i64 v) (m.map tM) (i+1)):=rfl;rw[k];unfold Ml;rw[Ep];by_cases h:v=x.1
  ·simp only[iG,if_pos h];exact⟨fun q=>by simp at q,fun o q=>⟨i,by simp at q;simp[h,q]⟩⟩
  ·simp only[iG,if_neg h,h,decide_false];exact⟨fun q=>h1 q,fun o q=>h2 o q⟩
theorem Vl{m:List (Int × Int)}{v:Int}{M:aJ}{b:Nat}:Ka false M ⟨.int .i64,1,b,[.val (.int .i64 0)]⟩ (fo (.int .i64 v) (m.map tM) 0)=.m True M [] (some (.val (.int .i64 (R2 m v)))):=by
 unfold R2;cases h:iG m v with
 | none=>rw[(zf v m 0).1 h];rfl
 | some o =>
  obtain⟨j,hj⟩:=(zf v m 0).2 o h;rw[hj];rfl
theorem TL{m:List (Int × Int)}{v q:Int}{M:aJ}{k:Nat}(h:iG m v=none):ID M k (m.map tM) (.int .i64 v) (.val (.int .i64 q)) (fo (.int .i64 v) (m.map tM) 0)=.m True (aN M k (some ⟨0,(m++[(v,q)]).map tM,false⟩)) [] none:=by
 rw[(zf v m 0).1 h];simp[ID];rfl
def Ck(g:List Bool):Nat→List (Int × Int)
 | 0=>[]
 | j+1=>if gt g j=true then Ck g j else Ck g j++[((j:Int),((aB g j).length:Int))]
theorem yV(v:Int)(x:Int × Int):∀m:List (Int × Int),iG (m++[x]) v=(iG m v).or (if v=x.1 then some x.2 else none)
 | []=>by simp[iG]
 | y::m=>by
  simp only[amF,iG];split
  ·rfl
  ·exact yV v x m
theorem rE(g:List Bool)(v:Int):∀j:Nat,(j:Int)≤v→iG (Ck g j) v=none
 | 0,_=>rfl
 | j+1,h=>by
  unfold Ck;split
  ·exact rE g v j (by omega)
  ·rw[yV,rE g v j (by omega),if_neg (by show ¬v=(j:Int);omega)];rfl
theorem DZ(g:List Bool)(c:Nat):∀j:Nat,c<j→iG (Ck g j) c=if gt g c=true then none else some ((aB g c).length:Int)
 | j+1,h=>by
  by_cases e:c=j
  ·subst e;unfold Ck;by_cases q:gt g c=true
   ·rw[if_pos q,if_pos q];exact rE g c c (by omega)
   ·rw[if_neg q,if_neg q,yV,rE g c c (by omega),if_pos rfl];rfl
  ·have ih:=DZ g c j (by omega);unfold Ck;by_cases q:gt g j=true
   ·rw[if_pos q];exact ih
   ·rw[if_neg q,yV,ih];have:¬(c:Int)=(j:Int):=by omega
    simp[this]
theorem af8(g:List Bool){n:Nat}{c:Int}(h0:0≤c)(h:c.toNat<n):R2 (Ck g n) c=if gt g c.toNat=true then 0 else((aB g c.toNat).length:Int):=by
 obtain⟨k,rfl⟩:∃k:Nat,c=k:=⟨c.toNat,by omega⟩;have hk:k<n:=by simpa using h
 unfold R2;rw[DZ g k n hk,Int.toNat_natCast];split<;>rfl
theorem ru(g:List Bool):∀j,(aB g j).length≤j
 | 0=>Nat.le_refl _
 | j+1=>by
  have:=ru g j;unfold aB;split
  ·omega
  ·simp;omega
theorem gj(w:Wk)(j:Nat):(dD w j).length=(aB w.gc j).length:=by simp[dD]
theorem qC(w:Wk):∀i,(cO w i).length≤i
 | 0=>Nat.le_refl _
 | i+1=>by
  have:=qC w i;unfold cO;split
  ·omega
  ·simp;omega
def o6(n:Nat)(mx:Bool)(z:Wk):SV:=if z.no=true then .agg [cU true,.val (.pointer none),.ro [],.ro [],iv n] else .agg [cU false,.bU (cz (bM mx z)) 0,.ro ((aB z.gc n).map fun j:Nat=>iv j),.ro (z.steps.map gk),iv n]
end Go.Ps
namespace Go.Sv
theorem Le.xM{C:Ctx}(hC:C.fx=[])(l:List Nat)(hl:∀a,a<l.length→∀b,b<l.length→l.getD a 0=l.getD b 0→a=b){st st':St}(hn:st.n=st'.n)(h1:st.M.length=l.length)(h2:st'.M.length=l.length)(hM:st'.M.map (fun oe=>oe.map (jj (xp l)))=l.map fun i=>ao st.M i)
  (hf:FV st.fr (st'.fr.map fun q=>(q.1,gJ (xp l) q.2))):Le C st st':=by
 have at':∀k (hk:k<l.length),xp l k=l[k]:=fun k hk=>by unfold xp;rw[if_pos hk];simp[hk]
 refine Le.perm hC (xp l) hn (fun k k' hk hk' e=>?_) (fun k hk=>?_) (fun k e hk=>?_) (fun t x hg=>?_)
 ·unfold xp at e;rw[if_pos (by omega),if_pos (by omega)]at e;exact hl k (by omega) k' (by omega) e
 ·unfold xp;rw[if_neg (by omega)];omega
 ·have hkl:k<l.length:=by rw[←h2];exact(List.getElem?_eq_some_iff.1 hk).1
  have e1:(st'.M.map (fun oe=>oe.map (jj (xp l))))[k]?=some (some (jj (xp l) e)):=by rw[amf,hk];rfl
  rw[hM,amf,List.getElem?_eq_getElem hkl]at e1;simp only[Option.map_some,Option.some.injEq]at e1;rw[at' k hkl];exact aL e1
 ·refine zd hf t _ ?_;clear hf;revert hg
  induction st'.fr with
  | nil=>intro hg;simp[get]at hg
  | cons q r ih =>
   intro hg;simp only[get,List.map_cons]at hg ⊢;split at hg
   ·rename_i e;rw[if_pos e];cases hg;rfl
   ·rename_i e;rw[if_neg e];exact ih hg
end Go.Sv
set_option maxRecDepth 10000
set_option maxHeartbeats 2000000
namespace Go.Ps
open Go Go.Sv Go.Pl Go.Proofs Go.Tb Go.Ut Go.Li
def zM(mx:Bool)(s0:Rat)(w:Wk):SV:=.agg ([.bU (cz ⟨mx,s0,w.aa,w.rows⟩) 0,.ro (w.gc.map cU),.ro (w.gr.map cU),.ro (w.steps.map gk),cU w.no]++(aY w.sh).cells)
@[simp] theorem abW(mx:Bool)(s0:Rat)(w:Wk):(zM mx s0 w).fj=9:=rfl
@[simp] theorem Sl(mx:Bool)(s0:Rat)(w:Wk):(zM mx s0 w).aM=false:=rfl
@[simp] theorem SG(mx:Bool)(s0:Rat)(w:Wk):(zM mx s0 w).isAgg=true:=rfl
@[simp] theorem afl(mx:Bool)(s0:Rat)(w:Wk):aA (zM mx s0 w).cells 0=.bU (cz ⟨mx,s0,w.aa,w.rows⟩) 0:=rfl
@[simp] theorem aen(mx:Bool)(s0:Rat)(w:Wk):aA (zM mx s0 w).cells 1=.ro (w.gc.map cU):=rfl
@[simp] theorem agR(mx:Bool)(s0:Rat)(w:Wk):aA (zM mx s0 w).cells 2=.ro (w.gr.map cU):=rfl
@[simp] theorem agJ(mx:Bool)(s0:Rat)(w:Wk):aA (zM mx s0 w).cells 3=.ro (w.steps.map gk):=rfl
@[simp] theorem aeS(mx:Bool)(s0:Rat)(w:Wk):aA (zM mx s0 w).cells 4=cU w.no:=rfl
@[simp] theorem ad3(mx:Bool)(s0:Rat)(w:Wk):SV.agg (((zM mx s0 w).cells.drop 5).take 4)=aY w.sh:=rfl
structure OnB where
 b:Bool
 w:Wk
def xW(n:Nat)(mx:Bool)(w:Wk)(j i:Nat):aJ:=[some ⟨5,[.agg [cU false,.val (.pointer none),.view 2 0 (aB w.gc j).length,.ro (w.steps.map gk),iv n]],false⟩,
 some ⟨7,[.agg (cU mx::((aY w.sh).cells++[.view 3 0 (dD w j).length,.view 4 0 (cO w i).length]))],false⟩,
 some ⟨1,(aB w.gc j).map fun k:Nat=>iv k,false⟩,some ⟨16,(dD w j).map bS,false⟩,some ⟨12,(cO w i).map bE,false⟩,some ⟨0,(Ck w.gc j).map tM,false⟩]
theorem Gj{w:Wk}{j:Nat}(h:gt w.gc j=true):dD w (j+1)=dD w j:=by unfold dD;rw[show aB w.gc (j+1)=aB w.gc j by show(if _ then _ else _)=_;rw[if_pos h]]
theorem IC{w:Wk}{j:Nat}(h:gt w.gc j=false):dD w (j+1)=dD w j++[gt w.aa j]:=by unfold dD;rw[show aB w.gc (j+1)=aB w.gc j++[j] by show(if _ then _ else _)=_;rw[if_neg (by simp[h])]];simp
theorem rH{g:List Bool}{j:Nat}(h:gt g j=true):aB g (j+1)=aB g j:=by show(if _ then _ else _)=_;rw[if_pos h]
theorem p8{g:List Bool}{j:Nat}(h:gt g j=false):aB g (j+1)=aB g j++[j]:=by show(if _ then _ else _)=_;rw[if_neg (by simp[h])]
theorem Lt{g:List Bool}{j:Nat}(h:gt g j=true):Ck g (j+1)=Ck g j:=by show(if _ then _ else _)=_;rw[if_pos h]
theorem On{g:List Bool}{j:Nat}(h:gt g j=false):Ck g (j+1)=Ck g j++[((j:Int),((aB g j).length:Int))]:=by show(if _ then _ else _)=_;rw[if_neg (by simp[h])]
end Go.Ps
namespace Go.Proofs
open Go.Sv Go Go.Tb Go.Pl Go.Ut Go.Li Go.Ps
theorem tm(p:aO)(hf:OA p)(h0:db p=0)(G:aW p.aa.length p.rows.length 2400 (bI p))(h7:p.aa.length≤7)(h7':p.rows.length≤7) :
  nS Tryz.prog 7 [.bU (cz p) 0] (fun y=>∃z,BM p.max (bI p) z∧aW p.aa.length p.rows.length 2400 z∧y=.bG [.bU (o6 p.aa.length p.max z) 0,.val .nilIface]):=by
 have gq:=EX p hf;rw[h0]at gq;have gT:=Jk p hf;refine ir Tryz.func7 rfl (by simp) (fun C hC=>?_);refine ae.wk ?_;refine ae.cutAt 2 (fun st=>st=⟨198,[(0,.bU (cz p) 0)],[]⟩) ?_ ?_
 ·simp only[aG,aE];simp;refine alT (gq) ?_;simp[Mn,ar,hC];done
 rintro st rfl;simp only[ax,au];refine ae.jk (fun st=>st=⟨198,[(0,.bU (cz p) 0),(5,.ptr 0 0 0)],aC p.max p.shift (bI p)⟩) ?_ ?_
 ·refine ae.draw (.qs [0,2,3,4,5,6,8,9,10,11,12,14,15,16,17]<|.alt 1 [] (.alt 7 [] (.l 13 []<|.qs [18]<|.l 19 []<|.qs [20]<|.nil)<|.alt 13 [] (.l 7 []<|.qs [18]<|.l 19 []<|.qs [20]<|.nil)<|.stop)<|.alt 7 [] (.alt 1 [] (.l 13 []<|.qs [18]<|.l 19 []<|.qs [20]<|.nil)<|.alt 13 [] (.l 1 []<|.qs [18]<|.l 19 []<|.qs [20]<|.nil)<|.stop)<|.alt 13 [] (.alt 1 [] (.l 7 []<|.qs [18]<|.l 19 []<|.qs [20]<|.nil)<|.alt 7 [] (.l 1 []<|.qs [18]<|.l 19 []<|.qs [20]<|.nil)<|.stop)<|.stop) (by kernel_rfl) (by kernel_rfl) (by simp) ?_;simp;have sv:bI p=⟨p.aa,p.rows,p.shift,alZ p.aa.length false,alZ p.rows.length false,[],false⟩:=rfl;have rr:∀(σ:Nat→Nat) (k:Nat),dC σ (alZ k (SV.val (.bool false)))=alZ k (SV.val (.bool false)):=fun σ k=>cY σ _ (F8 rfl)
  repeat' apply And.intro
  all_goals first
   | omega
   | (
     refine fy gT [] (by simp) (by simp) (by simp) (by simp) (by simp) ?_;rintro T y ⟨rfl,rfl⟩;simp[YS]
     repeat' apply And.intro)
  all_goals first
   | omega
   | (
     refine(Le.cJ 5 3 7 rfl rfl rfl rfl (by simp)).trans ?_;refine Le.xM hC [5,0,1,2,3,4,6] (by decide) rfl rfl rfl ?_ ?_
     ·simp[aN,aC,aQ,aR,xp,jj,sv,ao,bD,rr];done
     ·simp[FV,Go.Sv.get,xp])
   | (
     refine(Le.cJ 5 3 7 rfl rfl rfl rfl (by simp)).trans ?_;refine Le.xM hC [5,0,1,2,4,3,6] (by decide) rfl rfl rfl ?_ ?_
     ·simp[aN,aC,aQ,aR,xp,jj,sv,ao,bD,rr];done
     ·simp[FV,Go.Sv.get,xp])
   | (
     refine(Le.cJ 5 3 7 rfl rfl rfl rfl (by simp)).trans ?_;refine Le.xM hC [5,1,2,3,0,4,6] (by decide) rfl rfl rfl ?_ ?_
     ·simp[aN,aC,aQ,aR,xp,jj,sv,ao,bD,rr];done
     ·simp[FV,Go.Sv.get,xp])
   | (
     refine(Le.cJ 5 3 7 rfl rfl rfl rfl (by simp)).trans ?_;refine Le.xM hC [5,2,3,4,0,1,6] (by decide) rfl rfl rfl ?_ ?_
     ·simp[aN,aC,aQ,aR,xp,jj,sv,ao,bD,rr];done
     ·simp[FV,Go.Sv.get,xp])
   | (
     refine(Le.cJ 5 3 7 rfl rfl rfl rfl (by simp)).trans ?_;refine Le.xM hC [5,1,2,3,4,0,6] (by decide) rfl rfl rfl ?_ ?_
     ·simp[aN,aC,aQ,aR,xp,jj,sv,ao,bD,rr];done
     ·simp[FV,Go.Sv.get,xp])
   | (
     refine(Le.cJ 5 3 7 rfl rfl rfl rfl (by simp)).trans ?_;refine Le.xM hC [5,2,3,4,1,0,6] (by decide) rfl rfl rfl ?_ ?_
     ·simp[aN,aC,aQ,aR,xp,jj,sv,ao,bD,rr];done
     ·simp[FV,Go.Sv.get,xp])
  done
 rintro st rfl;refine ae.cutAt 1 (fun st=>∃w,BM p.max (bI p) w∧aW p.aa.length p.rows.length 2400 w∧st=⟨198,[(0,.bU (cz p) 0),(5,.ptr 0 0 0)],aC p.max p.shift w⟩) ?_ ?_
 ·simp only[aG,aE];simp;refine ae.cq (ι:=OnB) (fun⟨b,w⟩=>⟨198,[(0,.bU (cz p) 0),(5,.ptr 0 0 0),(6,cU b)],aC p.max p.shift w⟩)
   (fun⟨b,w⟩=>NN p.aa.length p.rows.length 2400 p.max (bI p) b w) (fun⟨b,w⟩=>yk p.aa.length p.rows.length b w) ⟨true,bI p⟩ (NN.start G rfl) ?_ ?_
  ·simp[ar,hC,aC,aQ,aR];done
  rintro⟨b,w⟩ hO;by_cases hb:b=true
  ·by_cases hn:w.no=false
   ·have gO:=H6 (mx:=p.max) (s0:=p.shift) hO.G hn (by omega) (by omega) h7 h7';have hS:=hO.step (by omega) hb hn;subst hb;simp only[aC,aQ,aR];simp[hn];refine fy gO [0,1,2,3,4,5,6] (by simp) (by simp[aC,aQ,aR,hn]) (by simp) (by simp[aC,hC]) (by simp) ?_;rintro T y ⟨rfl,rfl⟩;generalize gy p.max w=q at *;obtain⟨b',w'⟩:=q;simp only[aC,aQ,aR];simp;exact⟨⟨b',w'⟩,hS.1,hS.2,Le.ct (by simp[ar,hC,aC,aQ,aR])⟩
   ·have hn':w.no=true:=by simpa using hn
    subst hb;simp only[aC,aQ,aR];simp[hn'];exact⟨_,⟨w,hO.fin (.inl hn'),hO.G,rfl⟩,by simp[ar,hC,aC,aQ,aR,hn']⟩
  ·have hb':b=false:=by simpa using hb
   subst hb';simp only[aC,aQ,aR];simp;exact⟨_,⟨w,hO.fin (.inr rfl),hO.G,rfl⟩,by simp[ar,hC,aC,aQ,aR]⟩
 rintro st ⟨w,hR,Gw,rfl⟩;simp only[ax,au];clear gq gT G;simp only[aC,aQ,aR];refine ae.kE 2 rfl (by simp) ?_;simp[fg,aN];refine ae.kE 3 rfl (by simp) ?_;simp[fg,aN];refine ae.kE 4 rfl (by simp) ?_;simp[fg,aN];refine ae.kE 5 rfl (by simp) ?_;simp[fg,aN];refine ae.kE 6 rfl (by simp) ?_;simp[fg,aN];refine ae.kE 1 rfl (by simp) ?_;simp[fg,aN];refine ae.kE 0 rfl (by simp) ?_;simp[fg,aN];refine ae.le (Le.ct (by simp[ar,hC,Go.Sv.get,zM,cz]:ar C _ ⟨198,[(0,.bU (cz p) 0),(5,.bU (zM p.max p.shift w) 0)],[]⟩)) ?_;refine ae.jk (fun st=>st=⟨198,[(0,.bU (cz p) 0),(5,.bU (zM p.max p.shift w) 0),(7,.ptr 0 0 0)],[some ⟨5,[.agg [cU w.no,.val (.pointer none),.val (.slice none 0 0),.val (.slice none 0 0),iv p.aa.length]],false⟩]⟩) ?_ ?_
 ·refine ae.draw (.qs [0,1,2,3,4,5,6,7,8,9]<|.l 10 []<|.qs [11]<|.nil) (by kernel_rfl) (by kernel_rfl) (by simp) ?_;simp;exact Le.ct (by simp[ar,hC])
 rintro st rfl;by_cases hn:w.no=true
 ·refine ae.le (Le.nl _) ?_;simp[Tn,xd,EO,jQ];refine ae.go ?_;simp[hn];refine⟨_,Le.kE 0 rfl (by simp),?_⟩;simp[fg,aN];refine⟨_,eh _ _ rfl,w,hR,Gw,?_⟩;simp[o6,hn]
 have hn':w.no=false:=by simpa using hn
 refine ae.jk (fun st=>st=⟨198,[(0,.bU (cz p) 0),(5,.bU (zM p.max p.shift w) 0),(7,.ptr 0 0 0)],[some ⟨5,[.agg [cU false,.val (.pointer none),.val (.slice none 0 0),.val (.slice none 0 0),iv p.aa.length]],false⟩]⟩) ?_ ?_
 ·refine ae.go ?_;simp[hn'];exact Le.ct (by simp[ar,hC,hn'])
 rintro st rfl;refine ae.jk (fun st=>st=⟨198,[(0,.bU (cz p) 0),(5,.bU (zM p.max p.shift w) 0),(7,.ptr 0 0 0)],[some ⟨5,[.agg [cU false,.val (.pointer none),.val (.slice none 0 0),.ro (w.steps.map gk),iv p.aa.length]],false⟩]⟩) ?_ ?_
 ·refine ae.go ?_;simp;exact Le.ct (by simp[ar,hC])
 rintro st rfl;refine ae.jk (fun st=>st=⟨198,[(5,.bU (zM p.max p.shift w) 0),(7,.ptr 0 0 0),(8,.ptr 1 0 0)],[some ⟨5,[.agg [cU false,.val (.pointer none),.val (.slice none 0 0),.ro (w.steps.map gk),iv p.aa.length]],false⟩,some ⟨7,[.agg (cU p.max::((aY w.sh).cells++[.val (.slice none 0 0),.val (.slice none 0 0)]))],false⟩]⟩) ?_ ?_
 ·refine ae.draw (.qs [0,1,2,3,4,5,6,7,8]<|.l 9 []<|.qs [10]<|.nil) (by kernel_rfl) (by kernel_rfl) (by simp) ?_;simp;exact Le.ct (by simp[ar,hC])
 rintro st rfl;refine ae.le (Le.cJ 0 2 1 rfl rfl rfl rfl (by simp)) ?_;refine ae.le (Le.cJ 1 5 16 rfl rfl rfl rfl (by simp)) ?_;refine ae.le (Le.cJ 1 6 12 rfl rfl rfl rfl (by simp)) ?_;simp[aN,ao,bD];have nc:=Gw.S.nc;have nr:=Gw.S.nr;have ngc:=Gw.S.gc;have ngr:=Gw.S.gr;refine ae.cutAt 2 (fun st=>st=⟨198,[(5,.bU (zM p.max p.shift w) 0),(7,.ptr 0 0 0),(8,.ptr 1 0 0),(9,.mp 5)],xW p.aa.length p.max w w.aa.length 0⟩) ?_ ?_
 ·simp only[aG,aE];simp;refine ae.cq (ι:=Nat) (fun j=>⟨198,[(5,.bU (zM p.max p.shift w) 0),(7,.ptr 0 0 0),(8,.ptr 1 0 0),(9,.mp 5),(92,.ro (w.aa.map bS)),(93,iv w.aa.length),(94,iv j)],xW p.aa.length p.max w j 0⟩)
   (fun j=>j≤w.aa.length) (fun j=>w.aa.length - j) 0 (by omega) ?_ ?_
  ·simp[ar,hC,cz,xW,aB,dD,Ck,cO];done
  rintro j hj;by_cases aF:j<w.aa.length
  ·have hjg:j<w.gc.length:=by omega
   have lc:=cX aF;have lg:=dO hjg;have kl:=ru w.gc j;have cl:=gj w j;have an:=rE w.gc j j (Int.le_refl _);simp only[xW];by_cases hg:gt w.gc j=true
   ·simp(disch:=omega)[aF,lc,hjg,lg,hg];repeat refine alR ?_
    exact⟨j+1,by omega,by omega,Le.ct (by simp(disch:=omega)[ar,hC,aP,xW,rH hg,Gj hg,Lt hg])⟩
   ·have hg':gt w.gc j=false:=by simpa using hg
    simp(disch:=omega)[aF,lc,hjg,lg,hg',TL an];repeat refine alR ?_
    refine⟨⟨by simp[hC],by omega⟩,?_⟩;refine ae.alS (.qs [0,1,2,3,4,5]<|.l 6 []<|.l 7 [1000000]<|.qs [8,9]<|.l 10 [1,1000000]<|.nil) ?_;simp(disch:=omega)[aF,lc,hjg,lg,hg'];repeat refine alR ?_
    refine⟨⟨by simp[hC],by omega⟩,?_⟩;exact⟨j+1,by omega,by omega,Le.ct (by simp(disch:=omega)[ar,hC,aP,xW,p8 hg',IC hg',On hg',cl])⟩
  ·obtain rfl:j=w.aa.length:=by omega
   simp;simp[ar,hC,xW];done
 rintro st rfl;simp only[ax,au];refine ae.cutAt 1 (fun st=>st=⟨198,[(7,.ptr 0 0 0),(8,.ptr 1 0 0)],xW p.aa.length p.max w w.aa.length w.rows.length⟩) ?_ ?_
 ·simp only[aG,aE];simp;refine ae.cq (ι:=Nat) (fun i=>⟨198,[(5,.bU (zM p.max p.shift w) 0),(7,.ptr 0 0 0),(8,.ptr 1 0 0),(9,.mp 5),(141,.ro (w.rows.map bE)),(142,iv w.rows.length),(143,iv i)],xW p.aa.length p.max w w.aa.length i⟩)
   (fun i=>i≤w.rows.length) (fun i=>w.rows.length - i) 0 (by omega) ?_ ?_
  ·simp[ar,hC,xW];done
  rintro i hi;by_cases aF:i<w.rows.length
  ·have hig:i<w.gr.length:=by omega
   have lr:=dX aF;have lg:=dO hig;have rl:=qC w i;have hbt:=Gw.S.te i (by omega);have tl7:=ko hbt;have av:=fun k hk=>cW hbt k hk;by_cases hg:gt w.gr i=true
   ·simp only[xW];simp(disch:=omega)[aF,lr,hig,lg,hg];repeat refine alR ?_
    exact⟨i+1,by omega,by omega,Le.ct (by simp(disch:=omega)[ar,hC,aP,xW,cO,hg])⟩
   have hg':gt w.gr i=false:=by simpa using hg
   have rs:cO w (i+1)=cO w i++[ic w (gt w.rows i)]:=by show(if _ then _ else _)=_;rw[if_neg hg]
   generalize gt w.rows i=r at *;have rtl:(ic w r).ab.length=r.ab.length:=by simp[ic]
   simp only[xW];simp(disch:=omega)[aF,lr,hig,lg,hg'];repeat refine alR ?_
   refine ae.le (Le.cJ 7 1 5 rfl rfl rfl rfl (by simp)) ?_;simp[aN,ao,bD];refine ae.cq (ι:=Nat) (fun k=>⟨198,[(5,.bU (zM p.max p.shift w) 0),(7,.ptr 0 0 0),(8,.ptr 1 0 0),(9,.mp 5),(14,.ptr 7 0 0),(141,.ro (w.rows.map bE)),(142,iv w.rows.length),(143,iv i),(163,.ro (r.ab.map aT)),(164,iv r.ab.length),(165,iv k)],xW p.aa.length p.max w w.aa.length i++[some ⟨12,[bE r],false⟩,some ⟨12,[.agg (.val (.string r.name)::.view 8 0 k::((cL r.low).cells++(cL r.high).cells))],false⟩,some ⟨5,((ic w r).ab.take k).map aT,false⟩]⟩)
    (fun k=>k≤r.ab.length) (fun k=>r.ab.length - k) 0 (by omega) ?_ ?_
   ·simp[ar,hC,xW];done
   rintro k hk;simp only[xW,amF,List.nil_append];by_cases hkl:k<r.ab.length
   ·have lt:=eu hkl;obtain⟨b1,b2,b3,b4⟩:=av k hkl;have av':=af8 w.gc (n:=w.aa.length) (c:=(gt r.ab k).aq) (by omega) (by omega);have tk:=fP (l:=(ic w r).ab) (i:=k) (by omega);have tg:gt (ic w r).ab k=⟨R2 (Ck w.gc w.aa.length) (gt r.ab k).aq,(gt r.ab k).num⟩:=by
     rw[av'];unfold ic;rw[dL _ hkl]
    rw[tg]at tk;have tml:min k (ic w r).ab.length=k:=by omega
    have tk':aoM (k+1) ((ic w r).ab.map aT)=aoM k ((ic w r).ab.map aT)++[SV.agg (SV.val (Value.int IntKind.i64 (R2 (Ck w.gc w.aa.length) (gt r.ab k).aq))::(aY (gt r.ab k).num).cells)]:=by
     rw[←an3,tk,List.map_append,an3];rfl
    simp(disch:=omega)[hkl,lt,Vl,tml];repeat refine alR ?_
    refine⟨⟨by simp[hC],by omega⟩,?_⟩;exact⟨k+1,by omega,by omega,Le.ct (by simp(disch:=omega)[ar,hC,aP,xW,tk'])⟩
   ·obtain rfl:k=r.ab.length:=by omega
    rw[←rtl,List.take_length];simp;refine ae.kE 8 rfl (by simp) ?_;simp[fg,aN];refine ae.alS (.qs [0,1,2,3,4,5]<|.l 6 []<|.l 7 [1000000]<|.qs [8,9]<|.l 10 [1,1000000]<|.nil) ?_;simp(disch:=omega)[];repeat refine alR ?_
    refine⟨⟨by simp[hC],by omega⟩,?_⟩;have eR:SV.agg (SV.val (Value.string r.name)::SV.ro (ao3 aT (ic w r).ab)::((cL r.low).cells++(cL r.high).cells))=bE (ic w r):=rfl;exact⟨i+1,by omega,by omega,Le.ct (by simp(disch:=omega)[ar,hC,aP,xW,rs,eR])⟩
  ·obtain rfl:i=w.rows.length:=by omega
   simp;simp[ar,hC,xW];done
 rintro st rfl;simp only[ax,au];refine ae.xf (ae.mj (r5.go ?_));simp only[xW];simp;refine ae.kE 2 rfl (by simp) ?_;simp[fg,aN];refine ae.kE 3 rfl (by simp) ?_;simp[fg,aN];refine ae.kE 4 rfl (by simp) ?_;simp[fg,aN];refine ae.kE 1 rfl (by simp) ?_;simp[fg,aN];refine ae.kE 0 rfl (by simp) ?_;simp[fg,aN];refine ae.go ?_;simp;refine⟨_,Le.refl _ _,?_⟩;simp;refine⟨_,eh _ _ (by simp),w,hR,Gw,?_⟩;simp[o6,hn',cz,bM,←nc,←nr]
end Go.Proofs


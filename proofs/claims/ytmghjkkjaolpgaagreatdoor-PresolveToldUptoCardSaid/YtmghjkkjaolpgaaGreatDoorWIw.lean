/- A text of the prover's own. -/
import Derived.Test.YtmghjkkjaolpgaaGreatDoorWIh
import Derived.Test.YtmghjkkjaolpgaaGreatDoorWIu
open List renaming take→anI,drop→anJ,map→anV,replicate→akQ,cons_append→aly,getElem?_map→ak6,map_take→amU
namespace Go.Ps
open Go Go.Sv Go.Pl Go.Proofs Go.Tb Go.Ut Go.Li
def Xf(p:aV):aJ:=[some ⟨7,[.agg (bZ p.max::((bs p.shift).cells++[.view 1 0 p.ae.length,.view 2 0 p.rows.length]))],false⟩,some ⟨16,p.ae.map bW,false⟩,some ⟨12,p.rows.map bE,false⟩]
end Go.Ps
namespace Go.Proofs
open Go.Sv Go Go.Tb Go.Pl Go.Ut Go.Li Go.Ps
theorem GF(p:aV)(h:I6 p):ji Tryz.prog 29 [.bK (cJ p) 0] [] [] (fun T y=>T=Xf p∧y=.ptr 0 0 0):=by
 have nc:=h.nc;have nr:=h.nr;refine rP Tryz.func29 rfl (by simp) (fun C hC=>?_);have hC:C.fx=[]:=hC;simp;simp[cJ];refine⟨by omega,by omega,?_⟩;refine aa.bG (ι:=Nat) (fun i=>⟨41,[(0,.bK (cJ p) 0),(3,.ptr 0 0 0),(22,iv p.rows.length),(23,iv i)],[some ⟨7,[.agg (bZ p.max::((bs p.shift).cells++[.view 1 0 p.ae.length,.view 2 0 p.rows.length]))],false⟩,some ⟨16,p.ae.map bW,false⟩,some ⟨12,p.rows.map bE,false⟩]⟩)
  (fun i=>i≤p.rows.length) (fun i=>p.rows.length - i) 0 (by simp) ?_ ?_
 ·simp[aw,hC,cJ];done
 ·rintro i hi;by_cases az:i<p.rows.length
  ·have nt:=h.nt i az;simp(disch:=omega)[az,aN];repeat refine akI ?_
   refine aa.akJ (.qs [0,1,2,3,4,5,6,7,8,9,10]<|.l 11 []<|.qs [12,13]<|.l 14 [2]<|.nil) ?_;have e1:SV.agg (anI 1 (bE (gt p.rows i)).cells++.ro ((gt p.rows i).ab.map aW)::anJ 2 (bE (gt p.rows i)).cells)=bE (gt p.rows i):=rfl;simp(disch:=omega)[az,dU,aN];repeat refine akI ?_
   refine⟨⟨by cases(gt p.rows i).ab<;>simp[r6],by omega⟩,i+1,by omega,by omega,(Le.je 3 rfl (by simp)).trans ?_⟩;refine Le.bA ?_;have e2:j8 3 (anV aW (gt p.rows i).ab) (bl (anV bE p.rows) i (SV.agg (anI 1 (bE (gt p.rows i)).cells++SV.view 3 0 (gt p.rows i).ab.length::anJ 2 (bE (gt p.rows i)).cells)))=anV bE p.rows:=by
    rw[ct,Dl,dB _ _ _ (by simp),←ct];have b1:∀b:Bo,j8 3 (anV aW (gt p.rows i).ab) (cL b).cells=(cL b).cells:=fun b=>dB _ _ _ rfl;have e3:j5 3 (anV aW (gt p.rows i).ab) (SV.agg (SV.val (.string (gt p.rows i).name)::SV.view 3 0 (gt p.rows i).ab.length::((cL (gt p.rows i).low).cells++(cL (gt p.rows i).high).cells)))=bE (gt p.rows i):=by
     simp[rh,b1];rfl
    have e5:SV.agg (anI 1 (bE (gt p.rows i)).cells++SV.view 3 0 (gt p.rows i).ab.length::anJ 2 (bE (gt p.rows i)).cells)=SV.agg (SV.val (.string (gt p.rows i).name)::SV.view 3 0 (gt p.rows i).ab.length::((cL (gt p.rows i).low).cells++(cL (gt p.rows i).high).cells)):=rfl;rw[e5];rw[e3];exact EX az
   have e4:j8 3 (anV aW (gt p.rows i).ab) (anV bW p.ae)=anV bW p.ae:=dB _ _ _ (by simp);simp(disch:=omega)[aw,hC,aN,dH,aK,e2,e4];rfl
  ·obtain rfl:i=p.rows.length:=by omega
   simp;exact⟨_,_,⟨rfl,rfl⟩,by simp[Xf,dX],by simp[Xf],.inl rfl⟩
end Go.Proofs
namespace Go.Ps
open Go Go.Sv Go.Pl Go.Proofs Go.Tb Go.Ut Go.Li
theorem Jw(n i:Nat):gt (akQ n false) i=false:=by
 by_cases h:i<n
 ·unfold gt;simp[h]
 ·unfold gt;simp[h]
theorem vZ(p:aV)(pw:Ac p)(hv:∀i,i<p.rows.length→gH p.ae.length (-1) (gt p.rows i).ab=false)(hb:∀i,i<p.rows.length→nB (gt p.rows i).low∧nB (gt p.rows i).high):bh p.ae.length p.rows.length 2400 (cq p):=by
 have c0:ay (cq p).gc=0:=zT _;have r0:ay (cq p).gr=0:=zT _;have eA:qA 2400 0=2397:=by decide
 have eB:qB 2400 0 0=4800:=by decide
 refine⟨⟨rfl,rfl,by simp[cq],by simp[cq],hv,hb,by simp[cq],fun i hi _ k hk=>Jw _ _⟩,?_⟩;show FF 2400 (ay (cq p).gc) (ay (cq p).gr) (cq p);rw[c0,r0];refine⟨fun j hj=>?_,fun i hi=>?_,fun i hi k hk=>?_,?_,fun k hk=>by simp[cq]at hk⟩
 ·obtain⟨h1,h2,h3⟩:=pw.co j hj;rw[eB];exact⟨ah h2 (by omega),ah h3 (by omega),ah h1 (by omega)⟩
 ·obtain⟨h1,h2⟩:=pw.ro i hi;rw[eB];exact⟨ah h1 (by omega),ah h2 (by omega)⟩
 ·rw[eA];exact ah (pw.te i hi k hk) (by omega)
 ·rw[eB];exact ah pw.sh (by omega)
structure JO(n m u:Nat)(mx:Bool)(w0:Wk)(b:Bool)(w:Wk):Prop where
 G:bh n m u w
 fin:w.no=true∨b=false→Bz mx w0 w
 go:w.no=false→b=true→∀z,Bz mx w z→Bz mx w0 z
def wZ(n m:Nat)(b:Bool)(w:Wk):Nat:=if b=true∧w.no=false then Ec n m w+1 else 0
theorem JO.step{n m u:Nat}{mx:Bool}{w0 w:Wk}{b:Bool}(hu:8≤u)(h:JO n m u mx w0 b w)(hb:b=true)(hn:w.no=false):JO n m u mx w0 (ix mx w).1 (ix mx w).2∧wZ n m (ix mx w).1 (ix mx w).2<wZ n m b w:=by
 have D:=IE (mx:=mx) hu h.G hn;refine⟨⟨D.sq,fun q=>?_,fun q1 q2 z hz=>h.go hn hb z (.step hn q2 hz)⟩,?_⟩
 ·by_cases q2:(ix mx w).1=true
  ·rcases q with q | q
   ·exact h.go hn hb _ (.step hn q2 (.no q))
   ·rw[q2]at q;cases q
  ·exact h.go hn hb _ (.last hn (by simpa using q2))
 ·unfold wZ;rw[if_pos (⟨hb,hn⟩:b=true∧w.no=false)];split
  ·rename_i q;have:=Jo D q.1 q.2;omega
  ·omega
theorem JO.start{n m u:Nat}{mx:Bool}{w0:Wk}(G:bh n m u w0)(hn:w0.no=false):JO n m u mx w0 true w0:=⟨G,fun q=>(q.elim (fun q=>by rw[hn]at q;cases q) (fun q=>by cases q)),fun _ _ z hz=>hz⟩
/-! places by columns, in a map -/
def tM(x:Int × Int):SV:=.bO [.val (.int .i64 x.1),.val (.int .i64 x.2)]
@[simp] theorem abj(k:Nat)(e:Int × Int):(tM e).lt k=true:=rfl
@[simp] theorem Oy(e:Int × Int):(tM e).pure=true:=rfl
@[simp] theorem PZ(k:Nat)(e:Int × Int):(tM e).bD k=false:=rfl
def iG:List (Int × Int)→Int→Option Int
 | [],_=>none
 | x::m,v=>if v=x.1 then some x.2 else iG m v
def Pn(m:List (Int × Int))(v:Int):Int:=(iG m v).getD 0
theorem yy(v:Int):∀(m:List (Int × Int)) (i:Nat),(iG m v=none→eX (.int .i64 v) (m.map tM) i=some none) ∧
  (∀o,iG m v=some o→∃j,eX (.int .i64 v) (m.map tM) i=some (some (j,.val (.int .i64 o))))
 | [],i=>⟨fun _=>rfl,fun o h=>by simp[iG]at h⟩
 | x::m,i=>by
  obtain⟨h1,h2⟩:=yy v m (i+1);have k:eX (.int .i64 v) ((x::m).map tM) i=LW (.int .i64 v) (.int .i64 x.1) (.val (.int .i64 x.2)) i (eX (.int .i64 v) (m.map tM) (i+1)):=rfl;rw[k];unfold LW;rw[Dr];by_cases h:v=x.1
  ·simp only[iG,if_pos h];exact⟨fun q=>by simp at q,fun o q=>⟨i,by simp at q;simp[h,q]⟩⟩
  ·simp only[iG,if_neg h,h,decide_false];exact⟨fun q=>h1 q,fun o q=>h2 o q⟩
theorem Si{m:List (Int × Int)}{v:Int}{M:aJ}{b:Nat}:JN false M ⟨.int .i64,1,b,[.val (.int .i64 0)]⟩ (eX (.int .i64 v) (m.map tM) 0)=.m True M [] (some (.val (.int .i64 (Pn m v)))):=by
 unfold Pn;cases h:iG m v with
 | none=>rw[(yy v m 0).1 h];rfl
 | some o =>
  obtain⟨j,hj⟩:=(yy v m 0).2 o h;rw[hj];rfl
theorem VT{m:List (Int × Int)}{v q:Int}{M:aJ}{k:Nat}(h:iG m v=none):FM M k (m.map tM) (.int .i64 v) (.val (.int .i64 q)) (eX (.int .i64 v) (m.map tM) 0)=.m True (aK M k (some ⟨0,(m++[(v,q)]).map tM,false⟩)) [] none:=by
 rw[(yy v m 0).1 h];simp[FM];rfl
def By(g:List Bool):Nat→List (Int × Int)
 | 0=>[]
 | j+1=>if gt g j=true then By g j else By g j++[((j:Int),((cE g j).length:Int))]
theorem y4(v:Int)(x:Int × Int):∀m:List (Int × Int),iG (m++[x]) v=(iG m v).or (if v=x.1 then some x.2 else none)
 | []=>by simp[iG]
 | y::m=>by
  simp only[aly,iG];split
  ·rfl
  ·exact y4 v x m
theorem rp(g:List Bool)(v:Int):∀j:Nat,(j:Int)≤v→iG (By g j) v=none
 | 0,_=>rfl
 | j+1,h=>by
  unfold By;split
  ·exact rp g v j (by omega)
  ·rw[y4,rp g v j (by omega),if_neg (by show ¬v=(j:Int);omega)];rfl
theorem Ds(g:List Bool)(c:Nat):∀j:Nat,c<j→iG (By g j) c=if gt g c=true then none else some ((cE g c).length:Int)
 | j+1,h=>by
  by_cases e:c=j
  ·subst e;unfold By;by_cases q:gt g c=true
   ·rw[if_pos q,if_pos q];exact rp g c c (by omega)
   ·rw[if_neg q,if_neg q,y4,rp g c c (by omega),if_pos rfl];rfl
  ·have ih:=Ds g c j (by omega);unfold By;by_cases q:gt g j=true
   ·rw[if_pos q];exact ih
   ·rw[if_neg q,y4,ih];have:¬(c:Int)=(j:Int):=by omega
    simp[this]
theorem adm(g:List Bool){n:Nat}{c:Int}(h0:0≤c)(h:c.toNat<n):Pn (By g n) c=if gt g c.toNat=true then 0 else((cE g c.toNat).length:Int):=by
 obtain⟨k,rfl⟩:∃k:Nat,c=k:=⟨c.toNat,by omega⟩;have hk:k<n:=by simpa using h
 unfold Pn;rw[Ds g k n hk,Int.toNat_natCast];split<;>rfl
theorem rB(g:List Bool):∀j,(cE g j).length≤j
 | 0=>Nat.le_refl _
 | j+1=>by
  have:=rB g j;unfold cE;split
  ·omega
  ·simp;omega
theorem si(w:Wk)(j:Nat):(fV w j).length=(cE w.gc j).length:=by simp[fV]
theorem rK(w:Wk):∀i,(fL w i).length≤i
 | 0=>Nat.le_refl _
 | i+1=>by
  have:=rK w i;unfold fL;split
  ·omega
  ·simp;omega
def yZ(n:Nat)(mx:Bool)(z:Wk):SV:=if z.no=true then .agg [bZ true,.val (.pointer none),.ro [],.ro [],iv n] else .agg [bZ false,.bK (cJ (kD mx z)) 0,.ro ((cE z.gc n).map fun j:Nat=>iv j),.ro (z.steps.map fZ),iv n]
end Go.Ps
namespace Go.Sv
theorem Le.m7{C:Ctx}(hC:C.fx=[])(l:List Nat)(hl:∀a,a<l.length→∀b,b<l.length→l.getD a 0=l.getD b 0→a=b){st st':St}(hn:st.n=st'.n)(h1:st.M.length=l.length)(h2:st'.M.length=l.length)(hM:st'.M.map (fun oe=>oe.map (gE (px l)))=l.map fun i=>ax st.M i)
  (hf:zF st.fr (st'.fr.map fun q=>(q.1,gV (px l) q.2))):Le C st st':=by
 have at':∀k (hk:k<l.length),px l k=l[k]:=fun k hk=>by unfold px;rw[if_pos hk];simp[hk]
 refine Le.perm hC (px l) hn (fun k k' hk hk' e=>?_) (fun k hk=>?_) (fun k e hk=>?_) (fun t x hg=>?_)
 ·unfold px at e;rw[if_pos (by omega),if_pos (by omega)]at e;exact hl k (by omega) k' (by omega) e
 ·unfold px;rw[if_neg (by omega)];omega
 ·have hkl:k<l.length:=by rw[←h2];exact(List.getElem?_eq_some_iff.1 hk).1
  have e1:(st'.M.map (fun oe=>oe.map (gE (px l))))[k]?=some (some (gE (px l) e)):=by rw[ak6,hk];rfl
  rw[hM,ak6,List.getElem?_eq_getElem hkl]at e1;simp only[Option.map_some,Option.some.injEq]at e1;rw[at' k hkl];exact aM e1
 ·refine za hf t _ ?_;clear hf;revert hg
  induction st'.fr with
  | nil=>intro hg;simp[get]at hg
  | cons q r ih =>
   intro hg;simp only[get,List.map_cons]at hg ⊢;split at hg
   ·rename_i e;rw[if_pos e];cases hg;rfl
   ·rename_i e;rw[if_neg e];exact ih hg
end Go.Sv
set_option maxRecDepth 10000
set_option maxHeartbeats 2000000
namespace Go.Ps
open Go Go.Sv Go.Pl Go.Proofs Go.Tb Go.Ut Go.Li
def zi(mx:Bool)(s0:Rat)(w:Wk):SV:=.agg ([.bK (cJ ⟨mx,s0,w.ae,w.rows⟩) 0,.ro (w.gc.map bZ),.ro (w.gr.map bZ),.ro (w.steps.map fZ),bZ w.no]++(bs w.sh).cells)
@[simp] theorem XK(mx:Bool)(s0:Rat)(w:Wk):(zi mx s0 w).eW=9:=rfl
@[simp] theorem OS(mx:Bool)(s0:Rat)(w:Wk):(zi mx s0 w).aO=false:=rfl
@[simp] theorem O9(mx:Bool)(s0:Rat)(w:Wk):(zi mx s0 w).isAgg=true:=rfl
@[simp] theorem afn(mx:Bool)(s0:Rat)(w:Wk):aB (zi mx s0 w).cells 0=.bK (cJ ⟨mx,s0,w.ae,w.rows⟩) 0:=rfl
@[simp] theorem adX(mx:Bool)(s0:Rat)(w:Wk):aB (zi mx s0 w).cells 1=.ro (w.gc.map bZ):=rfl
@[simp] theorem acm(mx:Bool)(s0:Rat)(w:Wk):aB (zi mx s0 w).cells 2=.ro (w.gr.map bZ):=rfl
@[simp] theorem adl(mx:Bool)(s0:Rat)(w:Wk):aB (zi mx s0 w).cells 3=.ro (w.steps.map fZ):=rfl
@[simp] theorem ac0(mx:Bool)(s0:Rat)(w:Wk):aB (zi mx s0 w).cells 4=bZ w.no:=rfl
@[simp] theorem aff(mx:Bool)(s0:Rat)(w:Wk):SV.agg (((zi mx s0 w).cells.drop 5).take 4)=bs w.sh:=rfl
structure OnB where
 b:Bool
 w:Wk
def xc(n:Nat)(mx:Bool)(w:Wk)(j i:Nat):aJ:=[some ⟨5,[.agg [bZ false,.val (.pointer none),.view 2 0 (cE w.gc j).length,.ro (w.steps.map fZ),iv n]],false⟩,
 some ⟨7,[.agg (bZ mx::((bs w.sh).cells++[.view 3 0 (fV w j).length,.view 4 0 (fL w i).length]))],false⟩,
 some ⟨1,(cE w.gc j).map fun k:Nat=>iv k,false⟩,some ⟨16,(fV w j).map bW,false⟩,some ⟨12,(fL w i).map bE,false⟩,some ⟨0,(By w.gc j).map tM,false⟩]
theorem xL{w:Wk}{j:Nat}(h:gt w.gc j=true):fV w (j+1)=fV w j:=by unfold fV;rw[show cE w.gc (j+1)=cE w.gc j by show(if _ then _ else _)=_;rw[if_pos h]]
theorem Bh{w:Wk}{j:Nat}(h:gt w.gc j=false):fV w (j+1)=fV w j++[gt w.ae j]:=by unfold fV;rw[show cE w.gc (j+1)=cE w.gc j++[j] by show(if _ then _ else _)=_;rw[if_neg (by simp[h])]];simp
theorem uX{g:List Bool}{j:Nat}(h:gt g j=true):cE g (j+1)=cE g j:=by show(if _ then _ else _)=_;rw[if_pos h]
theorem ye{g:List Bool}{j:Nat}(h:gt g j=false):cE g (j+1)=cE g j++[j]:=by show(if _ then _ else _)=_;rw[if_neg (by simp[h])]
theorem Ky{g:List Bool}{j:Nat}(h:gt g j=true):By g (j+1)=By g j:=by show(if _ then _ else _)=_;rw[if_pos h]
theorem MS{g:List Bool}{j:Nat}(h:gt g j=false):By g (j+1)=By g j++[((j:Int),((cE g j).length:Int))]:=by show(if _ then _ else _)=_;rw[if_neg (by simp[h])]
end Go.Ps
namespace Go.Proofs
open Go.Sv Go Go.Tb Go.Pl Go.Ut Go.Li Go.Ps
theorem yd(p:aV)(hf:I6 p)(h:cB p≠0):aF Tryz.prog 7 [.bK (cJ p) 0] (.bO [.val (.pointer none),E0 (cB p)]):=by
 have gq:=xO p hf;refine aj Tryz.func7 rfl (by simp) (fun C hC=>?_);simp;refine akK (gq) ?_;rcases sO p with e | e | e | e
 ·exact absurd e h
 ·rw[e,D7];simp[D7]
 ·rw[e,H9];simp[H9]
 ·rw[e,IM];simp[IM]
theorem sZ(p:aV)(hf:I6 p)(h0:cB p=0)(G:bh p.ae.length p.rows.length 2400 (cq p))(h7:p.ae.length≤7)(h7':p.rows.length≤7) :
  m8 Tryz.prog 7 [.bK (cJ p) 0] (fun y=>∃z,Bz p.max (cq p) z∧bh p.ae.length p.rows.length 2400 z∧y=.bO [.bK (yZ p.ae.length p.max z) 0,.val .nilIface]):=by
 have gq:=xO p hf;rw[h0]at gq;have gT:=GF p hf;refine fg Tryz.func7 rfl (by simp) (fun C hC=>?_);refine aa.wk ?_;refine aa.cutAt 2 (fun st=>st=⟨198,[(0,.bK (cJ p) 0)],[]⟩) ?_ ?_
 ·simp only[ar,aq];simp;refine akK (gq) ?_;simp[LZ,aw,hC];done
 rintro st rfl;simp only[ao,al];refine aa.gp (fun st=>st=⟨198,[(0,.bK (cJ p) 0),(5,.ptr 0 0 0)],aG p.max p.shift (cq p)⟩) ?_ ?_
 ·refine aa.draw (.qs [0,2,3,4,5,6,8,9,10,11,12,14,15,16,17]<|.alt 1 [] (.alt 7 [] (.l 13 []<|.qs [18]<|.l 19 []<|.qs [20]<|.nil)<|.alt 13 [] (.l 7 []<|.qs [18]<|.l 19 []<|.qs [20]<|.nil)<|.stop)<|.alt 7 [] (.alt 1 [] (.l 13 []<|.qs [18]<|.l 19 []<|.qs [20]<|.nil)<|.alt 13 [] (.l 1 []<|.qs [18]<|.l 19 []<|.qs [20]<|.nil)<|.stop)<|.alt 13 [] (.alt 1 [] (.l 7 []<|.qs [18]<|.l 19 []<|.qs [20]<|.nil)<|.alt 7 [] (.l 1 []<|.qs [18]<|.l 19 []<|.qs [20]<|.nil)<|.stop)<|.stop) (by kernel_rfl) (by kernel_rfl) (by simp) ?_;simp;have sv:cq p=⟨p.ae,p.rows,p.shift,akQ p.ae.length false,akQ p.rows.length false,[],false⟩:=rfl;have rr:∀(σ:Nat→Nat) (k:Nat),dj σ (akQ k (SV.val (.bool false)))=akQ k (SV.val (.bool false)):=fun σ k=>cG σ _ (xI rfl)
  repeat' apply And.intro
  all_goals first
   | omega
   | (
     refine cN gT [] (by simp) (by simp) (by simp) (by simp) (by simp) ?_;rintro T y ⟨rfl,rfl⟩;simp[Xf]
     repeat' apply And.intro)
  all_goals first
   | omega
   | (
     refine(Le.bB 5 3 7 rfl rfl rfl rfl (by simp)).trans ?_;refine Le.m7 hC [5,0,1,2,3,4,6] (by decide) rfl rfl rfl ?_ ?_
     ·simp[aK,aG,aS,aR,px,gE,sv,ax,bl,rr];done
     ·simp[zF,Go.Sv.get,px])
   | (
     refine(Le.bB 5 3 7 rfl rfl rfl rfl (by simp)).trans ?_;refine Le.m7 hC [5,0,1,2,4,3,6] (by decide) rfl rfl rfl ?_ ?_
     ·simp[aK,aG,aS,aR,px,gE,sv,ax,bl,rr];done
     ·simp[zF,Go.Sv.get,px])
   | (
     refine(Le.bB 5 3 7 rfl rfl rfl rfl (by simp)).trans ?_;refine Le.m7 hC [5,1,2,3,0,4,6] (by decide) rfl rfl rfl ?_ ?_
     ·simp[aK,aG,aS,aR,px,gE,sv,ax,bl,rr];done
     ·simp[zF,Go.Sv.get,px])
   | (
     refine(Le.bB 5 3 7 rfl rfl rfl rfl (by simp)).trans ?_;refine Le.m7 hC [5,2,3,4,0,1,6] (by decide) rfl rfl rfl ?_ ?_
     ·simp[aK,aG,aS,aR,px,gE,sv,ax,bl,rr];done
     ·simp[zF,Go.Sv.get,px])
   | (
     refine(Le.bB 5 3 7 rfl rfl rfl rfl (by simp)).trans ?_;refine Le.m7 hC [5,1,2,3,4,0,6] (by decide) rfl rfl rfl ?_ ?_
     ·simp[aK,aG,aS,aR,px,gE,sv,ax,bl,rr];done
     ·simp[zF,Go.Sv.get,px])
   | (
     refine(Le.bB 5 3 7 rfl rfl rfl rfl (by simp)).trans ?_;refine Le.m7 hC [5,2,3,4,1,0,6] (by decide) rfl rfl rfl ?_ ?_
     ·simp[aK,aG,aS,aR,px,gE,sv,ax,bl,rr];done
     ·simp[zF,Go.Sv.get,px])
  done
 rintro st rfl;refine aa.cutAt 1 (fun st=>∃w,Bz p.max (cq p) w∧bh p.ae.length p.rows.length 2400 w∧st=⟨198,[(0,.bK (cJ p) 0),(5,.ptr 0 0 0)],aG p.max p.shift w⟩) ?_ ?_
 ·simp only[ar,aq];simp;refine aa.bG (ι:=OnB) (fun⟨b,w⟩=>⟨198,[(0,.bK (cJ p) 0),(5,.ptr 0 0 0),(6,bZ b)],aG p.max p.shift w⟩)
   (fun⟨b,w⟩=>JO p.ae.length p.rows.length 2400 p.max (cq p) b w) (fun⟨b,w⟩=>wZ p.ae.length p.rows.length b w) ⟨true,cq p⟩ (JO.start G rfl) ?_ ?_
  ·simp[aw,hC,aG,aS,aR];done
  rintro⟨b,w⟩ hO;by_cases hb:b=true
  ·by_cases hn:w.no=false
   ·have gO:=FQ (mx:=p.max) (s0:=p.shift) hO.G hn (by omega) (by omega) h7 h7';have hS:=hO.step (by omega) hb hn;subst hb;simp only[aG,aS,aR];simp[hn];refine cN gO [0,1,2,3,4,5,6] (by simp) (by simp[aG,aS,aR,hn]) (by simp) (by simp[aG,hC]) (by simp) ?_;rintro T y ⟨rfl,rfl⟩;generalize ix p.max w=q at *;obtain⟨b',w'⟩:=q;simp only[aG,aS,aR];simp;exact⟨⟨b',w'⟩,hS.1,hS.2,Le.bA (by simp[aw,hC,aG,aS,aR])⟩
   ·have hn':w.no=true:=by simpa using hn
    subst hb;simp only[aG,aS,aR];simp[hn'];exact⟨_,⟨w,hO.fin (.inl hn'),hO.G,rfl⟩,by simp[aw,hC,aG,aS,aR,hn']⟩
  ·have hb':b=false:=by simpa using hb
   subst hb';simp only[aG,aS,aR];simp;exact⟨_,⟨w,hO.fin (.inr rfl),hO.G,rfl⟩,by simp[aw,hC,aG,aS,aR]⟩
 rintro st ⟨w,hR,Gw,rfl⟩;simp only[ao,al];clear gq gT G;simp only[aG,aS,aR];refine aa.je 2 rfl (by simp) ?_;simp[dH,aK];refine aa.je 3 rfl (by simp) ?_;simp[dH,aK];refine aa.je 4 rfl (by simp) ?_;simp[dH,aK];refine aa.je 5 rfl (by simp) ?_;simp[dH,aK];refine aa.je 6 rfl (by simp) ?_;simp[dH,aK];refine aa.je 1 rfl (by simp) ?_;simp[dH,aK];refine aa.je 0 rfl (by simp) ?_;simp[dH,aK];refine aa.le (Le.bA (by simp[aw,hC,Go.Sv.get,zi,cJ]:aw C _ ⟨198,[(0,.bK (cJ p) 0),(5,.bK (zi p.max p.shift w) 0)],[]⟩)) ?_;refine aa.gp (fun st=>st=⟨198,[(0,.bK (cJ p) 0),(5,.bK (zi p.max p.shift w) 0),(7,.ptr 0 0 0)],[some ⟨5,[.agg [bZ w.no,.val (.pointer none),.val (.slice none 0 0),.val (.slice none 0 0),iv p.ae.length]],false⟩]⟩) ?_ ?_
 ·refine aa.draw (.qs [0,1,2,3,4,5,6,7,8,9]<|.l 10 []<|.qs [11]<|.nil) (by kernel_rfl) (by kernel_rfl) (by simp) ?_;simp;exact Le.bA (by simp[aw,hC])
 rintro st rfl;by_cases hn:w.no=true
 ·refine aa.le (Le.nl _) ?_;simp[nlS,wW,E7,kQ];refine aa.go ?_;simp[hn];refine⟨_,Le.je 0 rfl (by simp),?_⟩;simp[dH,aK];refine⟨_,cW _ _ rfl,w,hR,Gw,?_⟩;simp[yZ,hn]
 have hn':w.no=false:=by simpa using hn
 refine aa.gp (fun st=>st=⟨198,[(0,.bK (cJ p) 0),(5,.bK (zi p.max p.shift w) 0),(7,.ptr 0 0 0)],[some ⟨5,[.agg [bZ false,.val (.pointer none),.val (.slice none 0 0),.val (.slice none 0 0),iv p.ae.length]],false⟩]⟩) ?_ ?_
 ·refine aa.go ?_;simp[hn'];exact Le.bA (by simp[aw,hC,hn'])
 rintro st rfl;refine aa.gp (fun st=>st=⟨198,[(0,.bK (cJ p) 0),(5,.bK (zi p.max p.shift w) 0),(7,.ptr 0 0 0)],[some ⟨5,[.agg [bZ false,.val (.pointer none),.val (.slice none 0 0),.ro (w.steps.map fZ),iv p.ae.length]],false⟩]⟩) ?_ ?_
 ·refine aa.go ?_;simp;exact Le.bA (by simp[aw,hC])
 rintro st rfl;refine aa.gp (fun st=>st=⟨198,[(5,.bK (zi p.max p.shift w) 0),(7,.ptr 0 0 0),(8,.ptr 1 0 0)],[some ⟨5,[.agg [bZ false,.val (.pointer none),.val (.slice none 0 0),.ro (w.steps.map fZ),iv p.ae.length]],false⟩,some ⟨7,[.agg (bZ p.max::((bs w.sh).cells++[.val (.slice none 0 0),.val (.slice none 0 0)]))],false⟩]⟩) ?_ ?_
 ·refine aa.draw (.qs [0,1,2,3,4,5,6,7,8]<|.l 9 []<|.qs [10]<|.nil) (by kernel_rfl) (by kernel_rfl) (by simp) ?_;simp;exact Le.bA (by simp[aw,hC])
 rintro st rfl;refine aa.le (Le.bB 0 2 1 rfl rfl rfl rfl (by simp)) ?_;refine aa.le (Le.bB 1 5 16 rfl rfl rfl rfl (by simp)) ?_;refine aa.le (Le.bB 1 6 12 rfl rfl rfl rfl (by simp)) ?_;simp[aK,ax,bl];have nc:=Gw.S.nc;have nr:=Gw.S.nr;have ngc:=Gw.S.gc;have ngr:=Gw.S.gr;refine aa.cutAt 2 (fun st=>st=⟨198,[(5,.bK (zi p.max p.shift w) 0),(7,.ptr 0 0 0),(8,.ptr 1 0 0),(9,.mp 5)],xc p.ae.length p.max w w.ae.length 0⟩) ?_ ?_
 ·simp only[ar,aq];simp;refine aa.bG (ι:=Nat) (fun j=>⟨198,[(5,.bK (zi p.max p.shift w) 0),(7,.ptr 0 0 0),(8,.ptr 1 0 0),(9,.mp 5),(92,.ro (w.ae.map bW)),(93,iv w.ae.length),(94,iv j)],xc p.ae.length p.max w j 0⟩)
   (fun j=>j≤w.ae.length) (fun j=>w.ae.length - j) 0 (by omega) ?_ ?_
  ·simp[aw,hC,cJ,xc,cE,fV,By,fL];done
  rintro j hj;by_cases az:j<w.ae.length
  ·have hjg:j<w.gc.length:=by omega
   have lc:=cZ az;have lg:=bI hjg;have kl:=rB w.gc j;have cl:=si w j;have an:=rp w.gc j j (Int.le_refl _);simp only[xc];by_cases hg:gt w.gc j=true
   ·simp(disch:=omega)[az,lc,hjg,lg,hg];repeat refine akI ?_
    exact⟨j+1,by omega,by omega,Le.bA (by simp(disch:=omega)[aw,hC,aN,xc,uX hg,xL hg,Ky hg])⟩
   ·have hg':gt w.gc j=false:=by simpa using hg
    simp(disch:=omega)[az,lc,hjg,lg,hg',VT an];repeat refine akI ?_
    refine⟨⟨by simp[hC],by omega⟩,?_⟩;refine aa.akJ (.qs [0,1,2,3,4,5]<|.l 6 []<|.l 7 [1000000]<|.qs [8,9]<|.l 10 [1,1000000]<|.nil) ?_;simp(disch:=omega)[az,lc,hjg,lg,hg'];repeat refine akI ?_
    refine⟨⟨by simp[hC],by omega⟩,?_⟩;exact⟨j+1,by omega,by omega,Le.bA (by simp(disch:=omega)[aw,hC,aN,xc,ye hg',Bh hg',MS hg',cl])⟩
  ·obtain rfl:j=w.ae.length:=by omega
   simp;simp[aw,hC,xc];done
 rintro st rfl;simp only[ao,al];refine aa.cutAt 1 (fun st=>st=⟨198,[(7,.ptr 0 0 0),(8,.ptr 1 0 0)],xc p.ae.length p.max w w.ae.length w.rows.length⟩) ?_ ?_
 ·simp only[ar,aq];simp;refine aa.bG (ι:=Nat) (fun i=>⟨198,[(5,.bK (zi p.max p.shift w) 0),(7,.ptr 0 0 0),(8,.ptr 1 0 0),(9,.mp 5),(141,.ro (w.rows.map bE)),(142,iv w.rows.length),(143,iv i)],xc p.ae.length p.max w w.ae.length i⟩)
   (fun i=>i≤w.rows.length) (fun i=>w.rows.length - i) 0 (by omega) ?_ ?_
  ·simp[aw,hC,xc];done
  rintro i hi;by_cases az:i<w.rows.length
  ·have hig:i<w.gr.length:=by omega
   have lr:=dU az;have lg:=bI hig;have rl:=rK w i;have hbt:=Gw.S.te i (by omega);have tl7:=ic hbt;have av:=fun k hk=>gw hbt k hk;by_cases hg:gt w.gr i=true
   ·simp only[xc];simp(disch:=omega)[az,lr,hig,lg,hg];repeat refine akI ?_
    exact⟨i+1,by omega,by omega,Le.bA (by simp(disch:=omega)[aw,hC,aN,xc,fL,hg])⟩
   have hg':gt w.gr i=false:=by simpa using hg
   have rs:fL w (i+1)=fL w i++[iW w (gt w.rows i)]:=by show(if _ then _ else _)=_;rw[if_neg hg]
   generalize gt w.rows i=r at *;have rtl:(iW w r).ab.length=r.ab.length:=by simp[iW]
   simp only[xc];simp(disch:=omega)[az,lr,hig,lg,hg'];repeat refine akI ?_
   refine aa.le (Le.bB 7 1 5 rfl rfl rfl rfl (by simp)) ?_;simp[aK,ax,bl];refine aa.bG (ι:=Nat) (fun k=>⟨198,[(5,.bK (zi p.max p.shift w) 0),(7,.ptr 0 0 0),(8,.ptr 1 0 0),(9,.mp 5),(14,.ptr 7 0 0),(141,.ro (w.rows.map bE)),(142,iv w.rows.length),(143,iv i),(163,.ro (r.ab.map aW)),(164,iv r.ab.length),(165,iv k)],xc p.ae.length p.max w w.ae.length i++[some ⟨12,[bE r],false⟩,some ⟨12,[.agg (.val (.string r.name)::.view 8 0 k::((cL r.low).cells++(cL r.high).cells))],false⟩,some ⟨5,((iW w r).ab.take k).map aW,false⟩]⟩)
    (fun k=>k≤r.ab.length) (fun k=>r.ab.length - k) 0 (by omega) ?_ ?_
   ·simp[aw,hC,xc];done
   rintro k hk;simp only[xc,aly,List.nil_append];by_cases hkl:k<r.ab.length
   ·have lt:=dZ hkl;obtain⟨b1,b2,b3,b4⟩:=av k hkl;have av':=adm w.gc (n:=w.ae.length) (c:=(gt r.ab k).aI) (by omega) (by omega);have tk:=fJ (l:=(iW w r).ab) (i:=k) (by omega);have tg:gt (iW w r).ab k=⟨Pn (By w.gc w.ae.length) (gt r.ab k).aI,(gt r.ab k).num⟩:=by
     rw[av'];unfold iW;rw[jq _ hkl]
    rw[tg]at tk;have tml:min k (iW w r).ab.length=k:=by omega
    have tk':anI (k+1) ((iW w r).ab.map aW)=anI k ((iW w r).ab.map aW)++[SV.agg (SV.val (Value.int IntKind.i64 (Pn (By w.gc w.ae.length) (gt r.ab k).aI))::(bs (gt r.ab k).num).cells)]:=by
     rw[←amU,tk,List.map_append,amU];rfl
    simp(disch:=omega)[hkl,lt,Si,tml];repeat refine akI ?_
    refine⟨⟨by simp[hC],by omega⟩,?_⟩;exact⟨k+1,by omega,by omega,Le.bA (by simp(disch:=omega)[aw,hC,aN,xc,tk'])⟩
   ·obtain rfl:k=r.ab.length:=by omega
    rw[←rtl,List.take_length];simp;refine aa.je 8 rfl (by simp) ?_;simp[dH,aK];refine aa.akJ (.qs [0,1,2,3,4,5]<|.l 6 []<|.l 7 [1000000]<|.qs [8,9]<|.l 10 [1,1000000]<|.nil) ?_;simp(disch:=omega)[];repeat refine akI ?_
    refine⟨⟨by simp[hC],by omega⟩,?_⟩;have eR:SV.agg (SV.val (Value.string r.name)::SV.ro (anV aW (iW w r).ab)::((cL r.low).cells++(cL r.high).cells))=bE (iW w r):=rfl;exact⟨i+1,by omega,by omega,Le.bA (by simp(disch:=omega)[aw,hC,aN,xc,rs,eR])⟩
  ·obtain rfl:i=w.rows.length:=by omega
   simp;simp[aw,hC,xc];done
 rintro st rfl;simp only[ao,al];refine aa.nP (aa.im (nq.go ?_));simp only[xc];simp;refine aa.je 2 rfl (by simp) ?_;simp[dH,aK];refine aa.je 3 rfl (by simp) ?_;simp[dH,aK];refine aa.je 4 rfl (by simp) ?_;simp[dH,aK];refine aa.je 1 rfl (by simp) ?_;simp[dH,aK];refine aa.je 0 rfl (by simp) ?_;simp[dH,aK];refine aa.go ?_;simp;refine⟨_,Le.refl _ _,?_⟩;simp;refine⟨_,cW _ _ (by simp),w,hR,Gw,?_⟩;simp[yZ,hn',cJ,kD,←nc,←nr]
end Go.Proofs


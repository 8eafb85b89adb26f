/- A text of the prover's own. -/
import Derived.Test.YtnimjdcaajmfcaaGreatDoorVXq
open Bool renaming and_eq_true->ayt
open List renaming map->aCt,map_map->aBC,length_map->ay3,mem_map->ayN
open Go.Proofs.Tryz renaming prog->ay9
open ByteArray renaming size->aCu
namespace Go.Sx
open Go Go.Sv Go.Pl Go.Proofs Go.Tb Go.Ut Go.Mx Go.Li Go.Dt
theorem PJ:gE P1 [4,1] false=true:=by decide +kernel
theorem Xi:gO P1 [4,1] 2=17:=by decide +kernel
theorem S2{s:Tb}{cl:kB}(h:qy (bC P1 2 1 3) (Kp P1 2 1) s cl):cl.kind=1∧cl.value=17∧s.wh.length=3:=by
 have ck:=NF (p:=P1) (n:=2) (m:=1) (N:=3) rfl rfl rfl iJ h;have bl:=O7 (p:=P1) (n:=2) (m:=1) (N:=3) rfl rfl rfl iJ h PJ;have wl:s.wh.length=3:=h.2.1.t.w;have l0:gt P1.ai 0=⟨sx,false,⟨true,0⟩,⟨true,4⟩,3⟩:=rfl;have l1:gt P1.ai 1=⟨sy,false,⟨true,0⟩,⟨true,4⟩,5⟩:=rfl;have r0:gt P1.rows 0=⟨Q2,[⟨0,1⟩,⟨1,2⟩],⟨false,0⟩,⟨true,6⟩⟩:=rfl;rcases bl with k3 | ⟨k1,hv⟩
 ·unfold uw at ck;rw[k3,if_neg (by decide),if_neg (by decide),if_pos rfl]at ck;unfold sV at ck;simp only[ayt,List.all_eq_true,List.mem_range]at ck;obtain⟨⟨_,h1,_⟩,h2,_⟩:=ck;have z:∀r:Rat,yz ⟨true,0⟩ ⟨true,4⟩ r=true->r=0:=λr hr=>by
   unfold yz at hr;simp at hr;grind
  have a0:gt cl.kj 0=0:=z _ (by have:=h1 0 (by decide);unfold Bw at this;rw[l0]at this;exact this);have a1:gt cl.kj 1=0:=z _ (by have:=h1 1 (by decide);unfold Bw at this;rw[l1]at this;exact this);have g:jc P1 cl.kj P1.ai.length=0:=by show(0+(gt P1.ai 0).cost*gt cl.kj 0)+(gt P1.ai 1).cost*gt cl.kj 1=0;rw[a0,a1];grind
  rw[g]at h2;simp at h2
 ·refine⟨k1,?_,wl⟩;unfold uw at ck;rw[k1,if_pos rfl]at ck;unfold tu at ck;simp only[ayt,decide_eq_true_eq]at ck;obtain⟨⟨⟨h1,_⟩,_⟩,⟨_,h2⟩,_⟩:=ck;unfold kY at h1;simp only[ayt,decide_eq_true_eq]at h1;have c0:=nq.1 (sG h1.2 (j:=0) (by decide));have c1:=nq.1 (sG h1.2 (j:=1) (by decide));have rr:=nq.1 (xB h1.2 (i:=0) (by decide));rw[l0]at c0;rw[l1]at c1;rw[r0]at rr;have x4:=c0.2 rfl;have row:=rr.2 rfl;replace x4:gt cl.x 0<=4:=x4;have eS:jw P1 cl.x 0=(0+1*gt cl.x 0)+2*gt cl.x 1:=rfl;replace row:jw P1 cl.x 0<=6:=row;rw[eS]at row;have eV:gO P1 cl.x P1.ai.length=(0+3*gt cl.x 0)+5*gt cl.x 1:=rfl;rw[eV]at h2;rw[Xi]at hv;have e5:(P1.max:Bool)=true:=rfl;rw[e5]at hv;rcases hv with hv | hv
  ·exact hv.symm
  ·have hv:(17:Rat)<cl.value:=by simpa using hv
   grind
end Go.Sx
namespace Go.Proofs
open Go.Sv Go Go.Tb Go.Pl Go.Ut Go.Mx Go.Li Go.Dt Go.Sx
theorem Rt{s:dS}(h:v8 s=true):(ee s).ai.length<=7∧(ee s).rows.length<=7:=by unfold v8 at h;simp only[ayt,decide_eq_true_eq]at h;simp[ee];omega
end Go.Proofs
set_option maxRecDepth 10000
namespace Go.Sx
open Go Go.Sv Go.Pl Go.Proofs Go.Tb Go.Ut Go.Mx Go.Li Go.Dt
theorem SR{p:aB}{n m N:Nat}{s:Tb}{cl:kB}(h:qy (bC p n m N) (Kp p n m) s cl)(hk:cl.kind=1):cl.x=s.x.take n∧cl.y=(List.range m).map (vP (bC p n m N) s):=by
 obtain⟨_,_,h⟩:=h;rcases h with⟨_,rfl⟩ | ⟨_,i,ag,_,rfl⟩ | ⟨_,_,_,rfl⟩ | ⟨_,_,j,up,_,rfl⟩
 ·simp at hk
 ·simp at hk
 ·exact⟨rfl,rfl⟩
 ·simp at hk
end Go.Sx
namespace Go.Proofs
open Go.Sv Go Go.Tb Go.Pl Go.Ut Go.Li Go.Mx Go.Dt Go.Sx
theorem vM(a b:List Rat){k:Nat}(hk:k<=10000000000)(ha:Wd k a)(hb:Wd k b)(na:a.length<=1048576)(nb:b.length<=1048576):aE ay9 62 [.ro (a.map aZ),.ro (b.map aZ)] (.val (.bool (decide (a=b)))):=by
 refine aj Tryz.func62 rfl (by simp) (λC hC=>?_);simp;by_cases h0:a.length=b.length
 ·refine⟨λ_=>by omega,λ_=>?_⟩;refine aa.bB (ι:=Nat) (λi=>⟨29,[(0,.ro (a.map aZ)),(1,.ro (b.map aZ)),(5,iv i)],[]⟩)
   (λi=>i<=a.length∧∀k,k<i->gt a k=gt b k) (λi=>a.length - i) 0 ?_ ?_ ?_
  ·simp
  ·simp[aP,hC]
  ·rintro i ⟨hi,hk⟩;by_cases aR:i<a.length
   ·have q1:=ha i aR;have q2:=hb i (by omega);simp(disch:=omega)[aR];repeat refine awG ?_
    refine aa.awH (.qs [0,1,2,3,4,5,6,7]<|.l 8 []<|.qs [9]<|.nil) ?_;simp(disch:=omega)[aR,eh];repeat refine awG ?_
    refine awI (FO _ _ (aq q1 (by omega)) (aq q2 (by omega))) ?_;simp(disch:=omega)[aD];repeat refine awG ?_
    refine⟨λh e=>h (by rw[e]),λh=>⟨i+1,⟨by omega,RZ hk h⟩,by omega,Le.dE (by simp(disch:=omega)[aP,hC])⟩⟩
   ·obtain rfl:i=a.length:=by omega
    have:a=b:=bV h0 hk;simp[this]
 ·have:¬a=b:=λe=>h0 (by rw[e]);simp[this];omega
theorem ML(p:aB)(n m N:Nat)(hn:p.ai.length=n)(hm:p.rows.length=m)(hN:n+m=N)(n7:n<=7)(m7:m<=7)(fw:BF p)(hw:cW p)(hv:bA p=0){s:Tb}{cl:kB}(h:qy (bC p n m N) (Kp p n m) s cl) :
  aE ay9 90 [bX p,zZ cl,.ro (s.wh.map iv)] (dr true):=by
 have ac:=h.2.1;have wl:s.wh.length=N:=ac.t.w;have xl:s.x.length=N:=ac.t.x;have r:=Fh p fw n m N hn hm hN (by omega) m7 hw s.wh (by omega);have al:=SI ac p.max (db p n) (λk hk=>o6 hk);have gg:=A5 hn hm hN n7 m7 hw hv h;refine aj Tryz.func90 rfl (by simp) (λC hC=>?_);simp;refine yk r (by simp) (λy hy=>?_);rcases hy with⟨yB,B2,x2,c2,f2,w2,rfl⟩ | ⟨no,_⟩
 rotate_left 1
 ·exact absurd (Rv ac) no
 obtain⟨rfl,rfl,rfl⟩:=al.uniq (DF ac) f2;unfold WZ;simp;by_cases hk:cl.kind=1
 rotate_left 1
 ·simp[hk]
 obtain⟨ex,ey⟩:=SR h hk;have cp:=abV (p:=p) hN s;simp[hk];refine aa.awH (.qs [0,1,2,3,4,5]<|.l 6 []<|.qs [7]<|.nil) ?_;simp;refine⟨by omega,?_⟩;have e1:List.take p.ai.length (s.x.map aZ)=cl.x.map aZ:=by rw[hn,<-List.map_take,ex]
 rw[e1];refine awI (vM cl.x cl.x (k:=1300000000) (by omega) gg.1.x gg.1.x (by omega) (by omega)) ?_;simp;refine aa.awH (.qs [0,1,2,3,4,5]<|.l 6 []<|.qs [7]<|.nil) ?_;simp;have am:(MX (bC p n m N) s s.wh p.max).length=N:=by simp[MX];rfl
 refine⟨by omega,?_⟩;have e2:List.drop p.ai.length ((MX (bC p n m N) s s.wh p.max).map aZ)=cl.y.map aZ:=by rw[hn,<-List.map_drop,cp,ey]
 rw[e2];refine awI (vM cl.y cl.y (k:=1300000000) (by omega) gg.2.1.1 gg.2.1.1 (by omega) (by omega)) ?_;simp
section
variable (p:aB) (n m N:Nat) (hn:p.ai.length=n) (hm:p.rows.length=m) (hN:n+m=N) (n7:n<=7) (m7:m<=7) (fw:BF p) (hw:cW p) (hv:bA p=0) {s:Tb} {cl:kB} (h:qy (bC p n m N) (Kp p n m) s cl)
include hn hm hN n7 m7 hw hv h
theorem vS:aE ay9 71 [lS cl] (LY (SD cl)):=by
 have gg:=A5 hn hm hN n7 m7 hw hv h;have ok:∀(l:List Rat),l.length<=7->Wd 1300000000 l->PW l:=λl hl hw=>⟨by omega,λq hq=>by obtain⟨i,hi,rfl⟩:=List.getElem_of_mem hq;rw[dY hi];exact aq (hw i hi) (by omega)⟩
 exact BZ cl (ok _ gg.2.2.1 gg.1.x) (ok _ gg.2.2.2.1 gg.2.1.1) (ok _ gg.2.2.2.2 gg.1.r) (aq gg.2.1.2 (by omega))
theorem uG:aE ay9 70 [LY (SD cl)] (.bM [zZ cl,.val (.bool true)]):=by have gg:=A5 hn hm hN n7 m7 hw hv h;have wd:∀(l:List Rat),Wd 1300000000 l->Wd 8430000000 l:=λl hw i hi=>ax (hw i hi) (by omega);exact BX cl (wd _ gg.1.x) (wd _ gg.2.1.1) (wd _ gg.1.r) gg.2.1.2 (by omega) (by omega) (by omega)
include fw
theorem Gn:aE ay9 72 [bX p,zZ cl] (dr true):=by have gg:=A5 hn hm hN n7 m7 hw hv h;have g:=H4 p fw (by omega) (by omega) hw hv cl gg.1;rw[NF hn hm hN hv h]at g;exact g
theorem MP:aE ay9 37 [bX p,lS cl,.ro (s.wh.map iv)] (dr true):=by have g1:=vS p n m N hn hm hN n7 m7 hw hv h;have g2:=uG p n m N hn hm hN n7 m7 hw hv h;have g3:=Gn p n m N hn hm hN n7 m7 fw hw hv h;have g4:=ML p n m N hn hm hN n7 m7 fw hw hv h;refine aj Tryz.func37 rfl (by simp) (λC hC=>?_);simp;refine awI (g1) ?_;simp;refine awI (g2) ?_;simp;refine awI (g3) ?_;simp;refine awI (g4) ?_;simp
end
theorem WE:mT 17=⟨#[49,55]⟩:=by decide +kernel
end Go.Proofs
set_option maxRecDepth 20000
namespace Go.Proofs
open Go.Sv Go Go.Tb Go.Pl Go.Ut Go.Li Go.Mx Go.Dt Go.Sx
theorem NW:aE ay9 25 [] (dr true):=by
 have Mh:BF P1:=⟨by decide,by decide,λi hi=>by
  match i,hi with
  | 0,_=>decide⟩
 have ad:cW P1:=by rw[<-Ak];exact Fk _
 have gF:=KT pd Oo LF;rw[Fa FV,Ak,FV]at gF;have sv:=zF P1 2 1 3 rfl rfl rfl (by omega) (by omega) Mh ad iJ;refine aj Tryz.func25 rfl (by simp) (λC hC=>?_);simp;refine awI (OX) ?_;simp;refine awI (gF) ?_;simp;refine yk sv (by simp) (λy hy=>?_);obtain⟨s,cl,rfl,ab⟩:=hy;obtain⟨k1,ah,wl⟩:=S2 ab;have g:=vS P1 2 1 3 rfl rfl rfl (by omega) (by omega) ad iJ ab;have gf:=uG P1 2 1 3 rfl rfl rfl (by omega) (by omega) ad iJ ab;have gc:=Gn P1 2 1 3 rfl rfl rfl (by omega) (by omega) Mh ad iJ ab;have ak:=AU cl.value (aq (A5 (p:=P1) (n:=2) (m:=1) (N:=3) rfl rfl rfl (by omega) (by omega) ad iJ ab).2.1.2 (by omega));rw[ah,WE]at ak;simp;refine awI (g) ?_;simp;refine awI (gf) ?_;simp[k1,wl];rw[ah];refine awI (ak) ?_;simp;refine awI (gc) ?_;simp
theorem wx(s:dS)(h:QN s):Bp ay9 6 [fJ s] (λx=>x=.val (.bool true)):=by
 refine qM Tryz.func6 rfl (by simp) (λC hC hX hE=>?_);refine aa.go ?_;simp;refine awI (NW) ?_;simp;by_cases hf:v8 s=true
 rotate_left 1
 ·refine ae (Ln s h (by simpa using hf)) (by simp) ?_;simp
 have gB:=KT s h hf;by_cases ho:QK s=true
 rotate_left 1
 ·rw[show QK s=false by simpa using ho]at gB;refine awI (gB) ?_;simp
 rw[ho,Fa ho]at gB;have fw:=VN h;have pw:=Fk s;obtain⟨l1,l2⟩:=Rt hf;generalize ee s=p at *;refine awI (gB) ?_;simp;have gv:=Mt p fw;by_cases hv:bA p=0
 ·have sv:=zF p p.ai.length p.rows.length (p.ai.length+p.rows.length) rfl rfl rfl l1 l2 fw pw hv;rw[hv]at gv;refine yk sv (by simp) (λy hy=>?_);obtain⟨s,cl,rfl,ab⟩:=hy;have g:=MP p p.ai.length p.rows.length (p.ai.length+p.rows.length) rfl rfl rfl l1 l2 fw pw hv ab;simp;refine awI (gv) ?_;simp;refine awI (g) ?_;simp
 ·have af:=Nd p hv;refine awI (E4 p fw hv) ?_;simp;refine awI (gv) ?_;simp[af.1];refine P7 (MB af.1 af.2 (bA p)) hE hX (by simp) (λx hx=>?_);subst hx;simp;rfl
end Go.Proofs
namespace Go.Ut
open Go Go.Sv Go.Pl Go.Proofs Go.Tb
theorem I4{e:Pt}{x:(Pt.sl e).T}(h1:∀y,1<=e.bk y)(h:(Pt.sl e).bk x<=1048576):(show List e.T from x).length<=1048576:=by have h':(aCt e.bk (show List e.T from x)).sum+1<=1048576:=h;exact Nat.le_trans (EK (f:=e.bk) h1 (l:=(show List e.T from x))) (by omega)
theorem OU{e:Pt}{x:(Pt.sl e).T}(h:(Pt.sl e).bk x<=1048576){y:e.T}(hy:y∈(show List e.T from x)):e.bk y<=1048576:=by have h':(aCt e.bk (show List e.T from x)).sum+1<=1048576:=h;have:e.bk y<=_:=Eo (f:=e.bk) hy;omega
end Go.Ut
namespace Go.Li
open Go Go.Sv Go.Pl Go.Proofs Go.Tb Go.Ut
def vA:Pt:=.pair .str (.pair .bool (.pair .str (.pair .str (.pair .str .unit))))
def ux:Pt:=.pair .str (.pair .str (.pair .str (.pair (.sl (.int .i64)) (.pair EE .unit))))
def uA:Pt:=.pair .bool (.pair .str (.pair (.sl vA) (.pair (.sl ux) .unit)))
def zY(y:vA.T):mL:=⟨y.1,y.2.1,y.2.2.1,y.2.2.2.1,y.2.2.2.2.1⟩
def Ad(y:ux.T):jF:=⟨y.1,y.2.1,y.2.2.1,y.2.2.2.1,y.2.2.2.2.1⟩
def UY(x:(Pt.sl vA).T):List mL:=aCt zY x
def rowsOf(x:(Pt.sl ux).T):List jF:=aCt Ad x
def AQ(y:uA.T):dS:=⟨y.1,y.2.1,UY y.2.2.1,rowsOf y.2.2.2.1⟩
theorem R8(x:uA.T):uA.sv x=fJ (AQ x):=by
 have e1:∀l:List vA.T,aCt rI (aCt zY l)=aCt (λy=>vA.sv y) l:=λl=>by rw[aBC];rfl
 have e2:∀l:List ux.T,aCt lq (aCt Ad l)=aCt (λy=>ux.sv y) l:=λl=>by rw[aBC];rfl
 show SV.agg [.val (.bool x.1),.val (.string x.2.1),.ro (aCt (λy=>vA.sv y) x.2.2.1),.ro (aCt (λy=>ux.sv y) x.2.2.2.1)]=SV.agg [.val (.bool x.1),.val (.string x.2.1),.ro (aCt rI (aCt zY x.2.2.1)),.ro (aCt lq (aCt Ad x.2.2.2.1))];have g:∀a a' b b':List SV,a=a'->b=b'->SV.agg [.val (.bool x.1),.val (.string x.2.1),.ro a,.ro b]=SV.agg [.val (.bool x.1),.val (.string x.2.1),.ro a',.ro b']:=λa a' b b' h1 h2=>by rw[h1,h2]
 exact g _ _ _ _ (e1 _).symm (e2 _).symm
theorem Na(y:vA.T):vA.bk y=(aCu y.1+1)+(1+((aCu y.2.2.1+1)+((aCu y.2.2.2.1+1)+((aCu y.2.2.2.2.1+1)+0)))):=rfl
theorem Oa(y:ux.T):ux.bk y=(aCu y.1+1)+((aCu y.2.1+1)+((aCu y.2.2.1+1)+((Pt.sl (.int .i64)).bk y.2.2.2.1+(EE.bk y.2.2.2.2.1+0)))):=rfl
theorem Tn(y:uA.T):uA.bk y=1+((aCu y.2.1+1)+((Pt.sl vA).bk y.2.2.1+((Pt.sl ux).bk y.2.2.2.1+0))):=rfl
theorem Wy{y:vA.T}(h:vA.bk y<=1048576):SmC (zY y):=by
 rw[Na]at h;refine⟨?_,?_,?_,?_⟩
 ·show aCu y.1<=_;omega
 ·show aCu y.2.2.1<=_;omega
 ·show aCu y.2.2.2.1<=_;omega
 ·show aCu y.2.2.2.2.1<=_;omega
theorem WB{y:ux.T}(h:ux.bk y<=1048576):SmR (Ad y):=by
 rw[Oa]at h;refine⟨?_,?_,?_,?_,?_⟩
 ·show aCu y.1<=_;omega
 ·show aCu y.2.1<=_;omega
 ·show aCu y.2.2.1<=_;omega
 ·exact I4 (e:=.int .i64) (x:=y.2.2.2.1) (λ_=>Nat.le_refl 1) (by omega)
 ·exact Px (x:=y.2.2.2.2.1) (by omega)
theorem SA{x:uA.T}(h:uA.bk x<=1048576):QN (AQ x):=by
 rw[Tn]at h;have hc:(Pt.sl vA).bk x.2.2.1<=1048576:=by omega
 have hr:(Pt.sl ux).bk x.2.2.2.1<=1048576:=by omega
 refine⟨?_,?_,?_,λi hi=>?_,λi hi=>?_⟩
 ·show aCu x.2.1<=_;omega
 ·refine Nat.le_trans (Nat.le_of_eq (ay3 ..)) ?_;exact I4 (e:=vA) (λy=>by rw[Na];omega) hc
 ·refine Nat.le_trans (Nat.le_of_eq (ay3 ..)) ?_;exact I4 (e:=ux) (λy=>by rw[Oa];omega) hr
 ·obtain⟨y,hy,e⟩:=ayN.1 (iW hi);have e':gt (AQ x).ai i=zY y:=e.symm;rw[e'];exact Wy (OU (e:=vA) hc hy)
 ·obtain⟨y,hy,e⟩:=ayN.1 (iW hi);have e':gt (AQ x).rows i=Ad y:=e.symm;rw[e'];exact WB (OU (e:=ux) hr hy)
end Go.Li
namespace Go.Li
open Go Go.Sv Go.Pl Go.Proofs Go.Tb Go.Ut
end Go.Li



/- A text of the prover's own. -/
import Derived.Test.YtnimjdcaajmfcaaGreatDoorBXq
open Bool renaming and_eq_true->atl
open List renaming map->av2,map_map->avm,length_map->atT,mem_map->atB
open ByteArray renaming size->av3
namespace Go.Sx
open Go Go.Sv Go.Pl Go.Proofs Go.Tb Go.Ut Go.Mx Go.Li Go.Dt
theorem Lo:dK P1 [4,1] false=true:=by decide +kernel
theorem Up:dX P1 [4,1] 2=17:=by decide +kernel
theorem P5{s:Tb}{cl:j0}(h:rH (bV P1 2 1 3) (Kp P1 2 1) s cl):cl.kind=1∧cl.value=17∧s.wh.length=3:=by
 have ck:=F3 (p:=P1) (n:=2) (m:=1) (N:=3) rfl rfl rfl gU h;have bl:=Ll (p:=P1) (n:=2) (m:=1) (N:=3) rfl rfl rfl gU h Lo;have wl:s.wh.length=3:=h.2.1.t.w;have l0:gt P1.ab 0=⟨sx,false,⟨true,0⟩,⟨true,4⟩,3⟩:=rfl;have l1:gt P1.ab 1=⟨sy,false,⟨true,0⟩,⟨true,4⟩,5⟩:=rfl;have r0:gt P1.rows 0=⟨PL,[⟨0,1⟩,⟨1,2⟩],⟨false,0⟩,⟨true,6⟩⟩:=rfl;rcases bl with k3 | ⟨k1,hv⟩
 ·unfold ri at ck;rw[k3,if_neg (by decide),if_neg (by decide),if_pos rfl]at ck;unfold rh at ck;simp only[atl,List.all_eq_true,List.mem_range]at ck;obtain⟨⟨_,h1,_⟩,h2,_⟩:=ck;have z:∀r:Rat,wj ⟨true,0⟩ ⟨true,4⟩ r=true->r=0:=λr hr=>by
   unfold wj at hr;simp at hr;grind
  have a0:gt cl.jP 0=0:=z _ (by have:=h1 0 (by decide);unfold xv at this;rw[l0]at this;exact this);have a1:gt cl.jP 1=0:=z _ (by have:=h1 1 (by decide);unfold xv at this;rw[l1]at this;exact this);have g:iE P1 cl.jP P1.ab.length=0:=by show(0+(gt P1.ab 0).cost*gt cl.jP 0)+(gt P1.ab 1).cost*gt cl.jP 1=0;rw[a0,a1];grind
  rw[g]at h2;simp at h2
 ·refine⟨k1,?_,wl⟩;unfold ri at ck;rw[k1,if_pos rfl]at ck;unfold pP at ck;simp only[atl,decide_eq_true_eq]at ck;obtain⟨⟨⟨h1,_⟩,_⟩,⟨_,h2⟩,_⟩:=ck;unfold ka at h1;simp only[atl,decide_eq_true_eq]at h1;have c0:=kK.1 (kP h1.2 (j:=0) (by decide));have c1:=kK.1 (kP h1.2 (j:=1) (by decide));have rr:=kK.1 (m5 h1.2 (i:=0) (by decide));rw[l0]at c0;rw[l1]at c1;rw[r0]at rr;have x4:=c0.2 rfl;have row:=rr.2 rfl;replace x4:gt cl.x 0<=4:=x4;have eS:fY P1 cl.x 0=(0+1*gt cl.x 0)+2*gt cl.x 1:=rfl;replace row:fY P1 cl.x 0<=6:=row;rw[eS]at row;have eV:dX P1 cl.x P1.ab.length=(0+3*gt cl.x 0)+5*gt cl.x 1:=rfl;rw[eV]at h2;rw[Up]at hv;have e5:(P1.max:Bool)=true:=rfl;rw[e5]at hv;rcases hv with hv | hv
  ·exact hv.symm
  ·have hv:(17:Rat)<cl.value:=by simpa using hv
   grind
end Go.Sx
namespace Go.Proofs
open Go.Sv Go Go.Tb Go.Pl Go.Ut Go.Mx Go.Li Go.Dt Go.Sx
theorem O8{s:dC}(h:ug s=true):(dR s).ab.length<=7∧(dR s).rows.length<=7:=by unfold ug at h;simp only[atl,decide_eq_true_eq]at h;simp[dR];omega
end Go.Proofs
namespace Go.Sx
open Go Go.Sv Go.Pl Go.Proofs Go.Tb Go.Ut Go.Mx Go.Li Go.Dt
end Go.Sx
namespace Go.Proofs
open Go.Sv Go Go.Tb Go.Pl Go.Ut Go.Li Go.Mx Go.Dt Go.Sx
section
variable (p:aB) (n m N:Nat) (hn:p.ab.length=n) (hm:p.rows.length=m) (hN:n+m=N) (n7:n<=7) (m7:m<=7) (fw:As p) (hw:cT p) (hv:bh p=0) {s:Tb} {cl:j0} (h:rH (bV p n m N) (Kp p n m) s cl)
include hn hm hN n7 m7 hw hv h
theorem BB:aG Tryz.prog 71 [mn cl] (JW (Qh cl)):=by
 have gg:=yn hn hm hN n7 m7 hw hv h;have ok:∀(l:List Rat),l.length<=7->Wd 1300000000 l->UO l:=λl hl hw=>⟨by omega,λq hq=>by obtain⟨i,hi,rfl⟩:=List.getElem_of_mem hq;rw[dY hi];exact ao (hw i hi) (by omega)⟩
 exact z8 cl (ok _ gg.2.2.1 gg.1.x) (ok _ gg.2.2.2.1 gg.2.1.1) (ok _ gg.2.2.2.2 gg.1.r) (ao gg.2.1.2 (by omega))
theorem Bt:aG Tryz.prog 70 [JW (Qh cl)] (.bP [zM cl,.val (.bool true)]):=by have gg:=yn hn hm hN n7 m7 hw hv h;have wd:∀(l:List Rat),Wd 1300000000 l->Wd 8430000000 l:=λl hw i hi=>ay (hw i hi) (by omega);exact zY cl (wd _ gg.1.x) (wd _ gg.2.1.1) (wd _ gg.1.r) gg.2.1.2 (by omega) (by omega) (by omega)
include fw
theorem Nc:aG Tryz.prog 72 [bZ p,zM cl] (cX true):=by have gg:=yn hn hm hN n7 m7 hw hv h;have g:=F7 p fw (by omega) (by omega) hw hv cl gg.1;rw[F3 hn hm hN hv h]at g;exact g
end
theorem SD:m8 17=⟨#[49,55]⟩:=by decide +kernel
end Go.Proofs
set_option maxRecDepth 20000
namespace Go.Proofs
open Go.Sv Go Go.Tb Go.Pl Go.Ut Go.Li Go.Mx Go.Dt Go.Sx
theorem Mq:aG Tryz.prog 25 [] (cX true):=by
 have JV:As P1:=⟨by decide,by decide,λi hi=>by
  match i,hi with
  | 0,_=>decide⟩
 have ad:cT P1:=by rw[<-xx];exact Dg _
 have gF:=HS oz Ml JG;rw[E0 DH,xx,DH]at gF;have sv:=xX P1 2 1 3 rfl rfl rfl (by omega) (by omega) JV ad gU;refine aj Tryz.func25 rfl (by simp) (λC hC=>?_);simp;refine asl (Mr) ?_;simp;refine asl (gF) ?_;simp;refine yR sv (by simp) (λy hy=>?_);obtain⟨s,cl,rfl,ac⟩:=hy;obtain⟨k1,af,wl⟩:=P5 ac;have g:=BB P1 2 1 3 rfl rfl rfl (by omega) (by omega) ad gU ac;have gf:=Bt P1 2 1 3 rfl rfl rfl (by omega) (by omega) ad gU ac;have gc:=Nc P1 2 1 3 rfl rfl rfl (by omega) (by omega) JV ad gU ac;have ag:=sF cl.value (ao (yn (p:=P1) (n:=2) (m:=1) (N:=3) rfl rfl rfl (by omega) (by omega) ad gU ac).2.1.2 (by omega));rw[af,SD]at ag;simp;refine asl (g) ?_;simp;refine asl (gf) ?_;simp[k1,wl];rw[af];refine asl (ag) ?_;simp;refine asl (gc) ?_;simp
end Go.Proofs
set_option maxRecDepth 20000
namespace Go.Proofs
open Go.Sv Go Go.Tb Go.Pl Go.Ut Go.Li Go.Mx Go.Dt Go.Sx
theorem beat1W_ok(p:aB)(h:As p)(hw:cT p)(hv:bh p=0)(q:Rat)(hq:qw 8430000000 q)(x:List Rat)(hx:Wd 2200 x)(hl:x.length=p.ab.length)(hb:dX p x p.ab.length=q∨(decide (dX p x p.ab.length<q)=p.max)):aG Tryz.prog 31 [bZ p,iv 1,.val (.string (m8 q)),.ro (x.map cI)] (cX true):=by have v2:=(jF hv).2.1;have wv:=BE hw hx (by omega) p.ab.length (by omega);refine aj Tryz.func31 rfl (by simp) (λC hC=>?_);simp;refine asl (uZ q hq) ?_;simp[fC];refine asl (J4 p h hw x hx hl) ?_;simp;refine asl (Fm _ q (ao wv (by omega)) (ao hq (by omega))) ?_;simp;exact λh=>hb.resolve_left h
theorem simplexBest_ok(s:dC)(y:List ByteArray)(h:NR s)(hy:QH y) :
  aG Tryz.prog 4 [eQ s,.ro (y.map eF)] (.val (.bool true)):=by
 have g2:=Ei y hy;rw[PR]at g2;have g3:=nY y hy.n (λi hi=>hy.s _ (gZ hi));have ah:=Of y;have eX:Po y=true->Ox y=(fi y).map cI:=λc=>by unfold Ox;rw[if_pos c]
 refine aj Tryz.func4 rfl (by simp) (λC hC=>?_);simp;refine asl (Mq) ?_;simp;by_cases hf:ug s=true
 rotate_left 1
 ·refine ae (Jb s h (by simpa using hf)) (by simp) ?_;simp;refine asl (g2) ?_;simp;refine asl (g3) ?_;simp
 have gB:=HS s h hf;by_cases ho:NW s=true
 rotate_left 1
 ·rw[show NW s=false by simpa using ho]at gB;refine asl (gB) ?_;simp;refine asl (g2) ?_;simp;refine asl (g3) ?_;simp
 rw[ho,E0 ho]at gB;have fw:=SP h;have pw:=Dg s;obtain⟨l1,l2⟩:=O8 hf;generalize dR s=p at *;have gv:=JN p fw;refine asl (gB) ?_;simp;refine asl (g2) ?_;simp;refine asl (g3) ?_;simp;by_cases c1:Po y=true
 rotate_left 1
 ·simp[c1]
 by_cases c2:nM y=true
 rotate_left 1
 ·simp[c1,c2]
 rw[eX c1];simp[c1,c2];refine asl (gv) ?_;simp;by_cases hv:bh p=0
 rotate_left 1
 ·have ai:=MF p hv;simp[ai.1];exact λe=>absurd e hv
 rw[hv];simp;have sv:=xX p p.ab.length p.rows.length (p.ab.length+p.rows.length) rfl rfl rfl l1 l2 fw pw hv;refine yR sv (by simp) (λz hz=>?_);obtain⟨s,cl,rfl,ac⟩:=hz;have ck:=F3 rfl rfl rfl hv ac;have cw:=(yn rfl rfl rfl l1 l2 pw hv ac).2.1.2;simp;by_cases hl:(fi y).length=p.ab.length
 ·refine ae (Kd p fw pw hv (fi y) ah hl false) (by simp) ?_;simp;refine λhh=>?_;refine aa.asj (.qs [0,1,2,3,4,6]<|.l 5 []<|.l 7 []<|.qs [8]<|.nil) ?_;simp;refine asl (sF cl.value (ao cw (by omega))) ?_;simp;rcases sound hv ck hh with e | ⟨e,hb⟩
  ·rw[e];refine asl (LD p (m8 cl.value) (fi y)) ?_;simp
  ·rw[e];refine asl (beat1W_ok p fw pw hv cl.value cw (fi y) ah hl hb) ?_;simp
 ·refine ae (vU p (fi y) hl false) (by simp) ?_;simp
end Go.Proofs
namespace Go.Ut
open Go Go.Sv Go.Pl Go.Proofs Go.Tb
theorem GK{e:Pt}{x:(Pt.sl e).T}(h1:∀y,1<=e.bk y)(h:(Pt.sl e).bk x<=1048576):(show List e.T from x).length<=1048576:=by have h':(av2 e.bk (show List e.T from x)).sum+1<=1048576:=h;exact Nat.le_trans (CA (f:=e.bk) h1 (l:=(show List e.T from x))) (by omega)
theorem KZ{e:Pt}{x:(Pt.sl e).T}(h:(Pt.sl e).bk x<=1048576){y:e.T}(hy:y∈(show List e.T from x)):e.bk y<=1048576:=by have h':(av2 e.bk (show List e.T from x)).sum+1<=1048576:=h;have:e.bk y<=_:=Bq (f:=e.bk) hy;omega
end Go.Ut
namespace Go.Li
open Go Go.Sv Go.Pl Go.Proofs Go.Tb Go.Ut
def sO:Pt:=.pair .str (.pair .bool (.pair .str (.pair .str (.pair .str .unit))))
def td:Pt:=.pair .str (.pair .str (.pair .str (.pair (.sl (.int .i64)) (.pair o9 .unit))))
def sI:Pt:=.pair .bool (.pair .str (.pair (.sl sO) (.pair (.sl td) .unit)))
def xZ(y:sO.T):lz:=⟨y.1,y.2.1,y.2.2.1,y.2.2.2.1,y.2.2.2.2.1⟩
def xJ(y:td.T):iX:=⟨y.1,y.2.1,y.2.2.1,y.2.2.2.1,y.2.2.2.2.1⟩
def Ss(x:(Pt.sl sO).T):List lz:=av2 xZ x
def rowsOf(x:(Pt.sl td).T):List iX:=av2 xJ x
def zj(y:sI.T):dC:=⟨y.1,y.2.1,Ss y.2.2.1,rowsOf y.2.2.2.1⟩
theorem Pb(x:sI.T):sI.sv x=eQ (zj x):=by
 have e1:∀l:List sO.T,av2 pB (av2 xZ l)=av2 (λy=>sO.sv y) l:=λl=>by rw[avm];rfl
 have e2:∀l:List td.T,av2 kG (av2 xJ l)=av2 (λy=>td.sv y) l:=λl=>by rw[avm];rfl
 show SV.agg [.val (.bool x.1),.val (.string x.2.1),.ro (av2 (λy=>sO.sv y) x.2.2.1),.ro (av2 (λy=>td.sv y) x.2.2.2.1)]=SV.agg [.val (.bool x.1),.val (.string x.2.1),.ro (av2 pB (av2 xZ x.2.2.1)),.ro (av2 kG (av2 xJ x.2.2.2.1))];have g:∀a a' b b':List SV,a=a'->b=b'->SV.agg [.val (.bool x.1),.val (.string x.2.1),.ro a,.ro b]=SV.agg [.val (.bool x.1),.val (.string x.2.1),.ro a',.ro b']:=λa a' b b' h1 h2=>by rw[h1,h2]
 exact g _ _ _ _ (e1 _).symm (e2 _).symm
theorem Mt(y:sO.T):sO.bk y=(av3 y.1+1)+(1+((av3 y.2.2.1+1)+((av3 y.2.2.2.1+1)+((av3 y.2.2.2.2.1+1)+0)))):=rfl
theorem Lk(y:td.T):td.bk y=(av3 y.1+1)+((av3 y.2.1+1)+((av3 y.2.2.1+1)+((Pt.sl (.int .i64)).bk y.2.2.2.1+(o9.bk y.2.2.2.2.1+0)))):=rfl
theorem P9(y:sI.T):sI.bk y=1+((av3 y.2.1+1)+((Pt.sl sO).bk y.2.2.1+((Pt.sl td).bk y.2.2.2.1+0))):=rfl
theorem RO{y:sO.T}(h:sO.bk y<=1048576):SmC (xZ y):=by
 rw[Mt]at h;refine⟨?_,?_,?_,?_⟩
 ·show av3 y.1<=_;omega
 ·show av3 y.2.2.1<=_;omega
 ·show av3 y.2.2.2.1<=_;omega
 ·show av3 y.2.2.2.2.1<=_;omega
theorem SS{y:td.T}(h:td.bk y<=1048576):SmR (xJ y):=by
 rw[Lk]at h;refine⟨?_,?_,?_,?_,?_⟩
 ·show av3 y.1<=_;omega
 ·show av3 y.2.1<=_;omega
 ·show av3 y.2.2.1<=_;omega
 ·exact GK (e:=.int .i64) (x:=y.2.2.2.1) (λ_=>Nat.le_refl 1) (by omega)
 ·exact DD (x:=y.2.2.2.2.1) (by omega)
theorem O9{x:sI.T}(h:sI.bk x<=1048576):NR (zj x):=by
 rw[P9]at h;have hc:(Pt.sl sO).bk x.2.2.1<=1048576:=by omega
 have hr:(Pt.sl td).bk x.2.2.2.1<=1048576:=by omega
 refine⟨?_,?_,?_,λi hi=>?_,λi hi=>?_⟩
 ·show av3 x.2.1<=_;omega
 ·refine Nat.le_trans (Nat.le_of_eq (atT ..)) ?_;exact GK (e:=sO) (λy=>by rw[Mt];omega) hc
 ·refine Nat.le_trans (Nat.le_of_eq (atT ..)) ?_;exact GK (e:=td) (λy=>by rw[Lk];omega) hr
 ·obtain⟨y,hy,e⟩:=atB.1 (gZ hi);have e':gt (zj x).ab i=xZ y:=e.symm;rw[e'];exact RO (KZ (e:=sO) hc hy)
 ·obtain⟨y,hy,e⟩:=atB.1 (gZ hi);have e':gt (zj x).rows i=xJ y:=e.symm;rw[e'];exact SS (KZ (e:=td) hr hy)
end Go.Li
namespace Go.Li
open Go Go.Sv Go.Pl Go.Proofs Go.Tb Go.Ut
end Go.Li



/- A text of the prover's own. -/
import Derived.Test.YtmghjkkjaolpgaaGreatDoorUIm
import Derived.Test.YtmghjkkjaolpgaaGreatDoorUVu
open Nat renaming zero_le→aoE,sub_succ_lt_self→aph
open List renaming map_set→anF,take→aoM,drop→aoN,map→ao3,cons_append→amF,nil_append→api,take_length→anH
open Rat renaming zero_mul→apb,add_zero→apj
set_option maxRecDepth 10000
set_option maxHeartbeats 1000000
namespace Go.Ps
open Go Go.Sv Go.Pl Go.Proofs Go.Tb Go.Ut Go.Li
/-! numbers by columns, in a map -/
def lz(x:Int × Rat):SV:=.bG [.val (.int .i64 x.1),aY x.2]
@[simp] theorem Zx(k:Nat)(e:Int × Rat):(lz e).lt k=true:=rfl
@[simp] theorem QA(k:Nat)(e:Int × Rat):(lz e).bC k=false:=rfl
def mG:List (Int × Rat)→Int→Option Rat
 | [],_=>none
 | x::m,v=>if v=x.1 then some x.2 else mG m v
def mU:List (Int × Rat)→Int→Rat→List (Int × Rat)
 | [],v,q=>[(v,q)]
 | x::m,v,q=>if v=x.1 then(v,q)::m else x::mU m v q
def vG(m:List (Int × Rat))(v:Int):Rat:=(mG m v).getD 0
theorem MW(v:Int)(q:Rat):∀(m:List (Int × Rat)) (u:Int),mG (mU m v q) u=if u=v then some q else mG m u
 | [],u=>rfl
 | x::m,u=>by
  have ih:=MW v q m u;by_cases h:v=x.1
  ·simp only[mU,if_pos h,mG];by_cases e:u=v
   ·simp[e]
   ·simp[e,show ¬u=x.1 from fun q=>e (q.trans h.symm)]
  ·simp only[mU,if_neg h,mG,ih];by_cases e:u=v
   ·subst e;simp[h]
   ·simp[e]
theorem M0(v:Int)(q:Rat)(m:List (Int × Rat))(u:Int):vG (mU m v q) u=if u=v then q else vG m u:=by
 unfold vG;rw[MW];split<;>rfl
theorem wo(v:Int):∀(m:List (Int × Rat)) (i:Nat),(mG m v=none→fo (.int .i64 v) (m.map lz) i=some none∧mU m v=fun o=>m++[(v,o)]) ∧
  (∀o,mG m v=some o→∃j,j<m.length∧fo (.int .i64 v) (m.map lz) i=some (some (i+j,aY o))∧∀o',mU m v o'=m.set j (v,o'))
 | [],i=>⟨fun _=>⟨rfl,rfl⟩,fun o h=>by simp[mG]at h⟩
 | x::m,i=>by
  obtain⟨h1,h2⟩:=wo v m (i+1);have k:fo (.int .i64 v) ((x::m).map lz) i=Ml (.int .i64 v) (.int .i64 x.1) (aY x.2) i (fo (.int .i64 v) (m.map lz) (i+1)):=rfl;rw[k];unfold Ml;rw[Ep];by_cases h:v=x.1
  ·simp only[mG,if_pos h];refine⟨fun q=>by simp at q,fun o q=>⟨0,by simp,?_,fun o'=>?_⟩⟩
   ·simp at q;simp[h,q]
   ·simp[mU,h]
  ·simp only[mG,if_neg h,h,decide_false];refine⟨fun q=>?_,fun o q=>?_⟩
   ·obtain⟨a,b⟩:=h1 q;refine⟨a,?_⟩;funext o;simp[mU,h,b]
   ·obtain⟨j,a,b,d⟩:=h2 o q;refine⟨j+1,by simpa using a,?_,fun o'=>?_⟩
    ·rw[b];simp;omega
    ·simp[mU,h,d]
def zR:SV:=.agg [.val (.bool false),.val (.slice none 0 0),.val (.bool false),.val (.slice none 0 0)]
def Gn(m:List (Int × Rat))(v:Int):SV:=match mG m v with
 | some q=>aY q
 | none=>zR
theorem Hy(m:List (Int × Rat))(v:Int):iR (Gn m v)=aY (vG m v):=by
 unfold Gn vG;cases mG m v with
 | some q=>rfl
 | none=>show iR zR=aY 0;rw[←EY];rfl
@[simp] theorem YX(m:List (Int × Rat))(v:Int):(Gn m v).fj=4:=by unfold Gn;split<;>rfl
@[simp] theorem PK(m:List (Int × Rat))(v:Int):(Gn m v).aM=false:=by unfold Gn;split<;>rfl
@[simp] theorem Rc(m:List (Int × Rat))(v:Int):(Gn m v).isAgg=true:=by unfold Gn;split<;>rfl
theorem EA{m:List (Int × Rat)}{v:Int}{M:aJ}{b:Nat}{fs:List (Nat × Nat × TypeId)}:Ka false M ⟨.st fs,4,b,[.val (.bool false),.val (.slice none 0 0),.val (.bool false),.val (.slice none 0 0)]⟩ (fo (.int .i64 v) (m.map lz) 0)=.m True M [] (some (Gn m v)):=by
 unfold Gn;cases h:mG m v with
 | none=>rw[((wo v m 0).1 h).1];rfl
 | some o =>
  obtain⟨j,_,hj,_⟩:=(wo v m 0).2 o h;rw[hj];rfl
theorem M6{m:List (Int × Rat)}{v:Int}{q:Rat}{M:aJ}{k:Nat}:ID M k (m.map lz) (.int .i64 v) (aY q) (fo (.int .i64 v) (m.map lz) 0)=.m True (aN M k (some ⟨0,(mU m v q).map lz,false⟩)) [] none:=by
 cases h:mG m v with
 | none =>
  obtain⟨a,b⟩:=(wo v m 0).1 h;rw[a,b];simp[ID];rfl
 | some o =>
  obtain⟨j,hj,a,b⟩:=(wo v m 0).2 o h;rw[a,b];simp only[ID,Nat.zero_add,cj,anF];rfl
@[simp] theorem aeb(k:Nat):iR (.mp k)=.mp k:=rfl
def kW(w:Wk)(rs:List Row):Wk:=⟨w.aa,rs,w.sh,w.gc,w.gr,w.steps,w.no⟩
structure Fo(w:Wk)(a:Rat)(ts:List Term)(A B:Nat):Prop where
 A1:1≤A
 B1:A≤B
 top:4*B+4*A+10≤10000000000
 te:∀i,i<w.rows.length→∀k,k<(gt w.rows i).ab.length→qw A (gt (gt w.rows i).ab k).num
 ro:∀i,i<w.rows.length→qw B (gt w.rows i).low.at'∧qw B (gt w.rows i).high.at'
 co:∀j,j<w.aa.length→qw B (gt w.aa j).cost
 sh:qw B w.sh
 a:qw (B+A) a
 ts:∀k,k<ts.length→qw (2*A) (gt ts k).num
structure VF(r:Row)(j k:Nat)(b:Rat)(m:List (Int × Rat)):Prop where
 e9:b=aS (r.ab.take k) j
 at':∀i:Nat,vG m i=if i=j then 0 else aS (r.ab.take k) i
structure LSm where
 k:Nat
 b:Rat
 m:List (Int × Rat)
def dG(x:SV)(r:Row)(lo hi:Bo):SV:=.agg (.val (.string r.name)::x::((cL lo).cells++(cL hi).cells))
def yD(mx:Bool)(s0:Rat)(w:Wk)(i:Nat)(x:SV):aJ:=[some ⟨9,[aQ w.gc.length w.gr.length w.steps.length w.no w.sh],false⟩,some ⟨7,[aR mx s0 w.aa.length w.rows.length],false⟩,
 some ⟨16,w.aa.map bS,false⟩,some ⟨12,bD (w.rows.map bE) i x,false⟩,some ⟨1,w.gc.map cU,false⟩,some ⟨1,w.gr.map cU,false⟩,some ⟨7,w.steps.map gk,false⟩]
theorem Ia{l:List SV}{i:Nat}{x:SV}(h:i<l.length):aA (bD l i x) i=x:=by
 rw[cj,zp (by simpa using h)];simp
theorem Er{l:List SV}{i:Nat}{x y:SV}:bD (bD l i x) i y=bD l i y:=by
 rw[cj,cj,cj,List.set_set]
@[simp] theorem agc{l:List SV}{i:Nat}{x:SV}:(bD l i x).length=l.length:=by rw[cj];simp
@[simp] theorem S6(x:SV)(r:Row)(lo hi:Bo):(dG x r lo hi).fj=12:=rfl
@[simp] theorem O4(x:SV)(r:Row)(lo hi:Bo):(dG x r lo hi).aM=false:=rfl
@[simp] theorem Ng(x:SV)(r:Row)(lo hi:Bo):(dG x r lo hi).isAgg=true:=rfl
@[simp] theorem ae9(x:SV)(r:Row)(lo hi:Bo):aA (dG x r lo hi).cells 1=x:=rfl
@[simp] theorem adL(x:SV)(r:Row)(lo hi:Bo):aA (dG x r lo hi).cells 2=.val (.bool lo.has):=rfl
@[simp] theorem agO(x:SV)(r:Row)(lo hi:Bo):aA (dG x r lo hi).cells 7=.val (.bool hi.has):=rfl
@[simp] theorem aej(x:SV)(r:Row)(lo hi:Bo):SV.agg (aoM 4 (aoN 3 (dG x r lo hi).cells))=aY lo.at':=rfl
@[simp] theorem aeU(x:SV)(r:Row)(lo hi:Bo):SV.agg (aoM 4 (aoN 8 (dG x r lo hi).cells))=aY hi.at':=rfl
theorem KN{x:SV}{r:Row}{lo hi:Bo}:SV.agg (.val (.string r.name)::x::((cL lo).cells++(cL hi).cells))=dG x r lo hi:=rfl
theorem LD{x y:SV}{r:Row}{lo hi:Bo}:SV.agg (aoM 1 (dG x r lo hi).cells++y::aoN 2 (dG x r lo hi).cells)=dG y r lo hi:=rfl
theorem LY{x:SV}{r:Row}{lo hi:Bo}{q:Rat}:SV.agg (aoM 3 (dG x r lo hi).cells++((aY q).cells++aoN 7 (dG x r lo hi).cells))=dG x r ⟨lo.has,q⟩ hi:=rfl
theorem Kd{x:SV}{r:Row}{lo hi:Bo}{q:Rat}:SV.agg (aoM 8 (dG x r lo hi).cells++((aY q).cells++aoN 12 (dG x r lo hi).cells))=dG x r lo ⟨hi.has,q⟩:=rfl
theorem Ku{y:SV}{r:Row}:SV.agg (aoM 1 (bE r).cells++y::aoN 2 (bE r).cells)=dG y r r.low r.high:=rfl
theorem BP{k:Nat}{x:SV}:∀{l:List Row} {i:Nat},i<l.length→SV.aX k (bD (l.map bE) i x)=x.bC k
 | [],_,h=>by simp at h
 | r::l,0,_=>by simp[bD]
 | r::l,i+1,h=>by simp[bD,BP (l:=l) (i:=i) (by simpa using h)]
theorem CX{k:Nat}{x:SV}:∀{l:List Row} {i:Nat},i<l.length→SV.lS k (bD (l.map bE) i x)=x.lt k
 | [],_,h=>by simp at h
 | r::l,0,_=>by simp[bD]
 | r::l,i+1,h=>by simp[bD,CX (l:=l) (i:=i) (by simpa using h)]
@[simp] theorem RU(k:Nat)(x:SV)(r:Row)(lo hi:Bo):(dG x r lo hi).bC k=x.bC k:=by simp[dG]
@[simp] theorem abo(k:Nat)(x:SV)(r:Row)(lo hi:Bo):(dG x r lo hi).lt k=x.lt k:=by simp[dG]
theorem Dz(k:Nat)(r:Row):wM k (bE r)=bE r:=by
 show SV.agg (ao3 (fun y=>if y.bC k then SV.any else y) (.val (.string r.name)::.ro (r.ab.map aT)::((cL r.low).cells++(cL r.high).cells)))=_;simp;rfl
theorem F5(k n:Nat)(r:Row)(lo hi:Bo):wM k (dG (.view k 0 n) r lo hi)=dG .any r lo hi:=by
 show SV.agg (ao3 (fun y=>if y.bC k then SV.any else y) (.val (.string r.name)::.view k 0 n::((cL lo).cells++(cL hi).cells)))=_;simp;rfl
theorem X2{k n:Nat}{r:Row}{lo hi:Bo}{l:List Row}{i:Nat}:ao3 (wM k) (bD (l.map bE) i (dG (.view k 0 n) r lo hi))=bD (l.map bE) i (dG .any r lo hi):=by
 rw[cj,cj,anF,F5,List.map_map];exact congrArg (fun z=>List.set z i _) (List.map_congr_left fun r _=>Dz k r)
theorem L8{k:Nat}{r:Row}{lo hi:Bo}{l:List Row}{i:Nat}{ts:List Term}:j5 k (ts.map aT) (bD (l.map bE) i (dG (.view k 0 ts.length) r lo hi))=(l.set i ⟨r.name,ts,lo,hi⟩).map bE:=by
 rw[cj,EG,dR _ _ _ (by simp),anF];congr 1;have b1:∀b:Bo,j5 k (ts.map aT) (cL b).cells=(cL b).cells:=fun b=>dR _ _ _ rfl;show jT k (ts.map aT) (SV.agg (.val (.string r.name)::.view k 0 ts.length::((cL lo).cells++(cL hi).cells)))=_;simp[qY,b1];rfl
theorem Bj{b:Bo}{x:Rat}(h:nB b):bV b ⟨true, -x⟩ 1=if b.has=true then⟨b.has,b.at' - x⟩ else b:=by
 unfold bV;by_cases e:b.has=true
 ·rw[if_pos ⟨e,rfl⟩,if_pos e,e,Rat.mul_one,Rat.sub_eq_add_neg]
 ·have e':b.has=false:=by simpa using e
  rw[if_neg (fun q=>e q.1),if_neg e];obtain⟨h1,q⟩:=b;obtain rfl:h1=false:=e';obtain rfl:q=0:=h rfl;rfl
theorem FO{c:df}{q:Rat}:SV.agg (aoM 12 (bS c).cells++((aY q).cells++aoN 16 (bS c).cells))=bS ⟨c.name,c.whole,c.low,c.high,q⟩:=rfl
@[simp] theorem afJ(q:Rat):SV.agg (aoM 4 (aY q).cells)=aY q:=rfl
theorem OY{m:List (Int × Rat)}{v:Int}(h:vG m v≠0):Gn m v=aY (vG m v):=by
 unfold Gn vG at *;cases hm:mG m v with
 | none=>rw[hm]at h;exact absurd rfl h
 | some q=>rfl
structure LMp where
 k:Nat
 m:List (Int × Rat)
theorem EU{P:Program}{C:Ctx}{f:FuncId}{args args':List SV}{y:SV}{M:aJ}{W:Option (List Nat)}{k:aJ→List Nat→SV→Prop}(h:aI P f args' y)(e:jQ args=args')(hp:SV.ba args'=true)(hk:k M [] y):dH P C f args M W k :=
 fun β H w vals hd hW=>ai h hp hk β H w vals (by rw[←e];exact qL hd) hW
theorem DM{j:Nat}{t:Term}:∀{ts:List Term},(∀k,k<ts.length→(gt ts k).aq≠t.aq)→aS (ts++[t]) j=if t.aq=(j:Int) then t.num else aS ts j
 | [],_=>rfl
 | x::ts,h=>by
  have ih:=DM (j:=j) (t:=t) (ts:=ts) fun k hk=>h (k+1) (by simpa using hk);have h0:x.aq≠t.aq:=h 0 (by simp);simp only[amF,aS,ih];by_cases e:x.aq=(j:Int)
  ·rw[if_pos e,if_pos e,if_neg (fun q=>h0 (e.trans q.symm))]
  ·rw[if_neg e,if_neg e]
end Go.Ps
namespace Go.Proofs
open Go.Sv Go Go.Tb Go.Pl Go.Ut Go.Li Go.Ps
theorem y8{n m:Nat}{w:Wk}{mx:Bool}{s0:Rat}(S:Ae n m w)(h7:n≤7)(h7':m≤7){j:Nat}(hj:j<n){a:Rat}{ts:List Term}{A B:Nat}(hl:ts.length≤1)(hts:∀k,k<ts.length→0≤(gt ts k).aq∧(gt ts k).aq.toNat<n∧(gt ts k).aq.toNat≠j)(hW:Fo w a ts A B) :
  mw Tryz.prog 96 [.ptr 0 0 0,iv j,aY a,.ro (ts.map aT)] (aC mx s0 w) [6] (fun T y=>T=aC mx s0 (k8 w j a ts)∧y=.bG []):=by
 have nr:=S.nr;have nc:=S.nc;have nrg:=S.gr;have A1:=hW.A1;have B1:=hW.B1;have top:=hW.top;refine dK Tryz.func96 rfl (by simp) (fun C hC=>?_);have hC:C.fx=[0,1,2,3,4,5]:=hC;refine ae.xf (ae.mj (r5.go ?_));simp;refine ae.kE 7 rfl (by simp) ?_;simp only[aC,aQ,aR];simp[fg,aN];refine ae.jk (fun st=>st=⟨238,[(0,.ptr 0 0 0),(1,iv j),(3,.ro (ts.map aT)),(6,.bU (aY a) 0)],aC mx s0 (kW w (du w j a ts m))⟩) ?_ ?_
 ·refine ae.xf (ae.mj (r5.go ?_));simp;refine ae.zU ?_;refine ae.Hk (ι:=Nat) (fun i=>⟨238,[(0,.ptr 0 0 0),(1,iv j),(3,.ro (ts.map aT)),(6,.bU (aY a) 0),(31,iv m),(32,iv i)],aC mx s0 (kW w (du w j a ts i))⟩)
   (fun i=>i≤m) (fun i=>m - i) 0 (by omega) ?_ ?_
  ·simp[ar,hC,aC,aQ,aR,kW,du,nr];done
  rintro i hi;have pl:=jo w j a ts i;by_cases aF:i<m
  ·have hir:i<w.rows.length:=by omega
   have hir2:i<(du w j a ts i).length:=by omega
   have hig:i<w.gr.length:=by omega
   have pa:=jH w j a ts hir i;rw[if_neg (fun q=>by omega)]at pa;have lr:=dX hir2;rw[pa]at lr;have lg:=dO hig;have ps:du w j a ts (i+1)=if gt w.gr i=true then du w j a ts i else(du w j a ts i).set i (n9 w.aa.length j a ts (gt w.rows i)):=rfl;refine ae.xf (ae.mj (r5.go ?_));simp;refine ae.xf (ae.jz true (by simp[aF]) (fun _=>?_) (fun q=>by cases q));refine ae.go ?_;simp;refine ae.xf (ae.zU ?_);by_cases hgi:gt w.gr i=true
   ·rw[if_pos hgi]at ps;refine ae.go ?_;simp only[aC,aQ,aR,kW];simp(disch:=omega)[hir2,hig,lg,hgi,pl];repeat refine alR ?_
    refine ae.go ?_;simp;exact⟨i+1,by omega,by omega,Le.ct (by simp(disch:=omega)[ar,hC,aP,aC,aQ,aR,kW,ps,pl])⟩
   have hgi':gt w.gr i=false:=by simpa using hgi
   rw[if_neg hgi]at ps;obtain⟨wi,ewi⟩:∃wi,kW w (du w j a ts i)=wi:=⟨_,rfl⟩;have wc:wi.aa=w.aa:=by rw[←ewi];rfl
   have wrw:wi.rows=du w j a ts i:=by rw[←ewi];rfl
   have r1:i<wi.rows.length:=by rw[wrw];exact hir2
   have r2:aA (wi.rows.map bE) i=bE (gt w.rows i):=by rw[wrw];exact lr
   have en:kW w (du w j a ts (i+1))=kW wi (wi.rows.set i (n9 n j a ts (gt w.rows i))):=by rw[ps,←ewi,nc];rfl
   have es:kW wi wi.rows=wi:=rfl;have rg:gt wi.rows i=gt w.rows i:=by rw[wrw];exact pa
   have hbt:=S.te i aF;have nbr:=S.nb i aF;have wte:=hW.te i hir;have wro:=hW.ro i hir;have tl7:(gt w.rows i).ab.length≤7:=by have:=ko hbt;omega
   rw[ewi];clear ps lr pa hir2 pl lg;generalize gt w.rows i=r at *;refine ae.cutAt 5 (fun st=>st=⟨238,[(0,.ptr 0 0 0),(1,iv j),(3,.ro (ts.map aT)),(6,.bU (aY a) 0),(31,iv m),(32,iv i),(9,.ptr 3 i 0),(10,.ptr 7 0 0),(11,.mp 8)],aC mx s0 wi++[some ⟨4,[zR],false⟩,some ⟨0,[],false⟩]⟩) ?_ ?_
   ·have lg:=dO (show i<wi.gr.length by rw[←ewi];exact hig);have eg:gt wi.gr i=false:=by rw[←ewi];exact hgi'
    have hig':i<wi.gr.length:=by rw[←ewi];exact hig
    simp only[aG,aE,aC,aQ,aR];simp(disch:=omega)[r1,hig',lg,eg];repeat refine alR ?_
    simp[ar,hC,zR]
   rintro st rfl;simp only[ax,au];refine ae.le (Ct (fr':=[(0,.ptr 0 0 0),(1,iv j),(3,.ro (ts.map aT)),(6,.bU (aY a) 0),(31,iv m),(32,iv i),(9,.ptr 3 i 0),(10,.ptr 7 0 0),(11,.mp 8)]) (tl':=[some ⟨4,[aY 0],false⟩,some ⟨0,[],false⟩]) (by simp[EO]) (by
    have e:iR zR=aY 0:=by rw[←EY];rfl
    simp[xd,aC,aQ,aR,iS,e,jQ]) rfl) ?_
   refine ae.jk (fun st=>∃b mp,VF r j r.ab.length b mp∧st=⟨238,[(0,.ptr 0 0 0),(1,iv j),(3,.ro (ts.map aT)),(6,.bU (aY a) 0),(31,iv m),(32,iv i),(9,.ptr 3 i 0),(10,.ptr 7 0 0),(11,.mp 8)],aC mx s0 wi++[some ⟨4,[aY b],false⟩,some ⟨0,mp.map lz,false⟩]⟩) ?_ ?_
   ·refine ae.go ?_;simp only[aC,aQ,aR];simp(disch:=omega)[r1,r2];repeat refine alR ?_
    refine ae.cq (ι:=LSm) (fun⟨k,b,mp⟩=>⟨238,[(0,.ptr 0 0 0),(1,iv j),(3,.ro (ts.map aT)),(6,.bU (aY a) 0),(31,iv m),(32,iv i),(9,.ptr 3 i 0),(10,.ptr 7 0 0),(11,.mp 8),(55,.ro (r.ab.map aT)),(56,iv r.ab.length),(57,iv k)],aC mx s0 wi++[some ⟨4,[aY b],false⟩,some ⟨0,mp.map lz,false⟩]⟩)
     (fun⟨k,b,mp⟩=>k≤r.ab.length∧VF r j k b mp) (fun⟨k,b,mp⟩=>r.ab.length - k) ⟨0,0,[]⟩ ?_ ?_ ?_
    ·exact⟨aoE _,⟨rfl,fun i=>by simp[vG,mG,aS]⟩⟩
    ·simp[ar,hC,aC,aQ,aR];done
    rintro⟨k,b,mp⟩ ⟨hk,hS⟩;simp only[aC,aQ,aR,amF,api];by_cases hkl:k<r.ab.length
    ·have lt:=eu hkl;have tg:=fP hkl;obtain⟨bt1,bt2,bt3,bt4⟩:=cW hbt k hkl;have ea:=fun i=>DM (j:=i) (t:=gt r.ab k) (ts:=r.ab.take k) fun k' hk'=>by
      have hk'':k'<k:=by simp at hk';omega
      have:=bt4 k' hk'';rw[show gt (r.ab.take k) k'=gt r.ab k' by simp[gt,hk'']];omega
     simp only[←tg]at ea;generalize gt r.ab k=t at *;obtain⟨c,ec⟩:∃c:Nat,t.aq=c:=⟨t.aq.toNat,by omega⟩;by_cases hcj:c=j
     ·subst hcj;simp(disch:=omega)[hkl,lt,ec];repeat refine alR ?_
      exact⟨⟨k+1,t.num,mp⟩,⟨hkl,⟨by rw[ea,if_pos ec],fun i=>by
       rw[hS.at',ea];by_cases e:i=c
       ·rw[if_pos e,if_pos e]
       ·rw[if_neg e,if_neg e,if_neg (by omega)]⟩⟩,aph _ _ hkl,Le.ct (by simp(disch:=omega)[ar,hC,aP])⟩
     ·have hcj':¬(c:Int)=j:=by omega
      simp(disch:=omega)[hkl,lt,ec,hcj',M6];repeat refine alR ?_
      exact⟨⟨k+1,b,mU mp c t.num⟩,⟨hkl,⟨by rw[ea,if_neg (by omega)];exact hS.e9,fun i=>by
       rw[M0,hS.at',ea];by_cases e:i=c
       ·subst e;rw[if_pos rfl,if_neg hcj,if_pos ec]
       ·rw[if_neg (by omega)];by_cases e2:i=j
        ·rw[if_pos e2,if_pos e2]
        ·rw[if_neg e2,if_neg e2,if_neg (by omega)]⟩⟩,aph _ _ hkl,Le.ct (by simp(disch:=omega)[ar,hC,aP])⟩
    ·obtain rfl:k=r.ab.length:=by omega
     simp;exact⟨_,⟨b,mp,hS,rfl⟩,Le.ct (by simp[ar,hC])⟩
   rintro st ⟨b,mp,hS,rfl⟩;have hb:b=aS r.ab j:=by rw[hS.e9,anH]
   have hat:∀i:Nat,vG mp i=if i=j then 0 else aS r.ab i:=fun i=>by rw[hS.at',anH]
   subst hb;clear hS;have wx:qw A (aS r.ab j):=oK A1 wte;refine ae.jk (fun st=>aS r.ab j≠0∧st=⟨238,[(0,.ptr 0 0 0),(1,iv j),(3,.ro (ts.map aT)),(6,.bU (aY a) 0),(31,iv m),(32,iv i),(9,.ptr 3 i 0),(10,.ptr 7 0 0),(11,.mp 8)],aC mx s0 wi++[some ⟨4,[aY (aS r.ab j)],false⟩,some ⟨0,mp.map lz,false⟩]⟩) ?_ ?_
   ·refine ae.go ?_;simp only[aC,aQ,aR];simp;refine alT (o7 (aS r.ab j)) ?_;by_cases hx:aS r.ab j=0
    ·simp[hx];refine ae.go ?_;simp;have en0:kW w (du w j a ts (i+1))=wi:=by
      rw[en];have:n9 n j a ts r=r:=by unfold n9;rw[if_pos hx]
      rw[this,←rg,zW r1];rfl
     exact⟨i+1,by omega,by omega,Le.ct (by simp(disch:=omega)[ar,hC,aP,aC,aQ,aR,en0])⟩
    ·simp[hx];exact Le.ct (by simp[ar,hC])
   rintro st ⟨hx,rfl⟩;refine ae.jk (fun st=>∃mp',(∀i:Nat,vG mp' i=if i=j then 0 else aS r.ab i+aS ts i*aS r.ab j)∧st=⟨238,[(0,.ptr 0 0 0),(1,iv j),(3,.ro (ts.map aT)),(6,.bU (aY a) 0),(31,iv m),(32,iv i),(9,.ptr 3 i 0),(10,.ptr 7 0 0),(11,.mp 8)],aC mx s0 wi++[some ⟨4,[aY (aS r.ab j)],false⟩,some ⟨0,mp'.map lz,false⟩]⟩) ?_ ?_
   ·refine ae.go ?_;simp only[aC,aQ,aR];simp;refine ae.cq (ι:=LMp) (fun⟨k,mp⟩=>⟨238,[(0,.ptr 0 0 0),(1,iv j),(3,.ro (ts.map aT)),(6,.bU (aY a) 0),(31,iv m),(32,iv i),(9,.ptr 3 i 0),(10,.ptr 7 0 0),(11,.mp 8),(76,.ro (ts.map aT)),(77,iv ts.length),(78,iv k)],aC mx s0 wi++[some ⟨4,[aY (aS r.ab j)],false⟩,some ⟨0,mp.map lz,false⟩]⟩)
     (fun⟨k,mp⟩=>k≤ts.length∧∀i:Nat,vG mp i=if i=j then 0 else aS r.ab i+aS (ts.take k) i*aS r.ab j) (fun⟨k,mp⟩=>ts.length - k) ⟨0,mp⟩ ?_ ?_ ?_
    ·exact⟨aoE _,fun i=>by rw[hat];simp[aS,apb,apj]⟩
    ·simp[ar,hC,aC,aQ,aR];done
    rintro⟨k,mp⟩ ⟨hk,hS⟩;simp only[aC,aQ,aR,amF,api];by_cases hkl:k<ts.length
    ·have lt:=eu hkl;obtain rfl:k=0:=by omega
     obtain⟨t1,t2,t3⟩:=hts 0 hkl;have wt:=hW.ts 0 hkl;have tg:=fP hkl;have ea:∀i:Nat,aS (ts.take 1) i=if(gt ts 0).aq=(i:Int) then(gt ts 0).num else 0:=fun i=>by rw[tg];simp[aS]
     have e0:∀i:Nat,aS (ts.take 0) i=0:=fun i=>by simp[aS]
     generalize gt ts 0=t at *;obtain⟨c,ec⟩:∃c:Nat,t.aq=c:=⟨t.aq.toNat,by omega⟩;have ec':t.aq.toNat=c:=by omega
     rw[ec']at t2 t3;have wv:qw A (vG mp c):=by rw[hS,if_neg t3,e0,apb,apj];exact oK A1 wte
     simp(disch:=omega)[hkl,lt];repeat refine alR ?_
     refine ae.alS (.qs [0,1,2,3,4,5,7,8,9]<|.alt 6 [] (.l 10 []<|.l 11 []<|.l 12 [8]<|.nil)<|.alt 10 [] (.l 6 []<|.l 11 []<|.l 12 [8]<|.nil)<|.stop) ?_;have hS':∀i:Nat,vG (mU mp c (vG mp c+t.num*aS r.ab j)) i=if i=j then 0 else aS r.ab i+aS (ts.take 1) i*aS r.ab j:=fun i=>by
      rw[M0,hS,hS,if_neg t3,e0,e0,ea,apb,apj,apj];by_cases e:i=c
      ·subst e;rw[if_pos rfl,if_neg t3,if_pos ec]
      ·rw[if_neg (by omega),if_neg (show ¬t.aq=(i:Int) by omega),apb,apj]
     have qm:=dB t.num (aS r.ab j) (ah wt (by omega)) (ah wx (by omega));have qa:=dh (vG mp c) (t.num*aS r.ab j) (ah wv (by omega)) (ah (bW wt wx (by omega)) (by omega));simp(disch:=omega)[hkl,lt,ec,EA];repeat refine alR ?_
     refine⟨?_,?_⟩;all_goals
      refine alT qm ?_;simp[ec,EA];refine EU qa (by simp[jQ,Hy];rfl) (by simp) ?_;simp[ec,M6];exact⟨⟨1,mU mp c (vG mp c+t.num*aS r.ab j)⟩,⟨hkl,hS'⟩,aph _ _ hkl,Le.ct (by simp(disch:=omega)[ar,hC,aP])⟩
    ·obtain rfl:k=ts.length:=by omega
     simp;rw[anH]at hS;exact⟨_,⟨mp,hS,rfl⟩,Le.ct (by simp[ar,hC])⟩
   rintro st ⟨mp',hmp,rfl⟩;have hpe:∀k:Nat,iU r j ts k=vG mp' k:=fun k=>by rw[hmp];rfl
   have rl:(wi.rows.map bE).length=wi.rows.length:=by simp
   refine ae.cutAt 1 (fun st=>st=⟨238,[(0,.ptr 0 0 0),(1,iv j),(3,.ro (ts.map aT)),(6,.bU (aY a) 0),(31,iv m),(32,iv i),(9,.ptr 3 i 0),(10,.ptr 7 0 0),(11,.mp 8)],yD mx s0 wi i (dG (.val (.slice none 0 0)) r r.low r.high)++[some ⟨4,[aY (aS r.ab j)],false⟩,some ⟨0,mp'.map lz,false⟩]⟩) ?_ ?_
   ·simp only[aG,aE,aC,aQ,aR];simp(disch:=omega)[r1,r2];repeat refine alR ?_
    simp[ar,hC,yD,aQ,aR,Ku];done
   rintro st rfl;simp only[ax,au];refine ae.le (Le.HJ (l:=.val (.string r.name)::.val (.slice none 0 0)::((cL r.low).cells++(cL r.high).cells)) 3 i 1 5 rfl (Ia (by rw[rl];exact r1)) (by simpa using r1) (Nat.succ_pos _) rfl rfl (by simp)) ?_;simp only[yD];simp[aN,Er,KN];refine ae.jk (fun st=>st=⟨238,[(0,.ptr 0 0 0),(1,iv j),(3,.ro (ts.map aT)),(6,.bU (aY a) 0),(31,iv m),(32,iv i),(9,.ptr 3 i 0),(10,.ptr 7 0 0)],yD mx s0 wi i (dG (.view 9 0 (kS (iU r j ts) n).length) r r.low r.high)++[some ⟨4,[aY (aS r.ab j)],false⟩,some ⟨0,mp'.map lz,false⟩,some ⟨5,(kS (iU r j ts) n).map aT,false⟩]⟩) ?_ ?_
   ·refine ae.go ?_;simp only[aQ,aR];simp;refine ae.cq (ι:=Nat) (fun k=>⟨238,[(0,.ptr 0 0 0),(1,iv j),(3,.ro (ts.map aT)),(6,.bU (aY a) 0),(31,iv m),(32,iv i),(9,.ptr 3 i 0),(10,.ptr 7 0 0),(11,.mp 8),(105,iv n),(106,iv k)],yD mx s0 wi i (dG (.view 9 0 (kS (iU r j ts) k).length) r r.low r.high)++[some ⟨4,[aY (aS r.ab j)],false⟩,some ⟨0,mp'.map lz,false⟩,some ⟨5,(kS (iU r j ts) k).map aT,false⟩]⟩)
     (fun k=>k≤n) (fun k=>n - k) 0 (by omega) ?_ ?_
    ·simp[ar,hC,yD,aQ,aR,wc,nc,kS];done
    rintro k hk;have tl:=z8 (iU r j ts) k;have ls1:∀x:SV,aA (bD (wi.rows.map bE) i x) i=x:=fun x=>Ia (by rw[rl];exact r1);by_cases hkn:k<n
    ·have tf:kS (iU r j ts) (k+1)=if iU r j ts k=0 then kS (iU r j ts) k else kS (iU r j ts) k++[⟨k,iU r j ts k⟩]:=rfl;rw[hpe]at tf;have qs:=o7 (vG mp' k);generalize kS (iU r j ts) k=ac at *;simp only[yD,aQ,aR,amF,api];by_cases hz:vG mp' k=0
     ·rw[if_pos hz]at tf;simp(disch:=omega)[hkn,EA];repeat refine alR ?_
      refine EU qs (by simp[jQ,Hy]) (by simp) ?_;simp[hz];exact⟨k+1,by omega,by omega,Le.ct (by simp(disch:=omega)[ar,hC,aP,yD,aQ,aR,tf,CX r1])⟩
     ·rw[if_neg hz]at tf;have hk':=OY hz;simp(disch:=omega)[hkn,EA,hk'];repeat refine alR ?_
      refine alT (qs) ?_;simp[hz];refine ae.alS (.qs [0,1,2,3,4,5,6,7]<|.l 8 []<|.l 9 [1000000]<|.qs [10,11]<|.l 12 [3,1000000]<|.nil) ?_;simp(disch:=omega)[hkn,r1,ls1,hz,BP r1,X2];repeat refine alR ?_
      refine⟨⟨by simp[hC],by omega⟩,?_⟩;simp only[LD,Er];exact⟨k+1,by omega,by omega,Le.ct (by simp(disch:=omega)[ar,hC,aP,yD,aQ,aR,tf,CX r1,hpe,AY])⟩
    ·obtain rfl:k=n:=by omega
     simp only[yD,aQ,aR,amF,api];simp;exact Le.ct (by simp[ar,hC,yD,aQ,aR])
   rintro st rfl;have ls1:∀x:SV,aA (bD (wi.rows.map bE) i x) i=x:=fun x=>Ia (by rw[rl];exact r1);have qax:=dB a (aS r.ab j) (ah hW.a (by omega)) (ah wx (by omega));have wax:=bW hW.a wx (by omega);have tln:=z8 (iU r j ts) n;refine ae.jk (fun st=>st=⟨238,[(0,.ptr 0 0 0),(1,iv j),(3,.ro (ts.map aT)),(6,.bU (aY a) 0),(31,iv m),(32,iv i),(9,.ptr 3 i 0),(18,.ptr 10 0 0)],yD mx s0 wi i (dG (.view 9 0 (kS (iU r j ts) n).length) r r.low r.high)++[some ⟨4,[aY (aS r.ab j)],false⟩,some ⟨0,mp'.map lz,false⟩,some ⟨5,(kS (iU r j ts) n).map aT,false⟩,some ⟨4,[aY (a*aS r.ab j)],false⟩]⟩) ?_ ?_
   ·refine ae.go ?_;simp only[yD,aQ,aR,amF,api];simp;refine alT (qax) ?_;simp;exact Le.ct (by simp[ar,hC,yD,aQ,aR])
   rintro st rfl;refine ae.jk (fun st=>st=⟨238,[(0,.ptr 0 0 0),(1,iv j),(3,.ro (ts.map aT)),(6,.bU (aY a) 0),(31,iv m),(32,iv i),(9,.ptr 3 i 0),(18,.ptr 10 0 0)],yD mx s0 wi i (dG (.view 9 0 (kS (iU r j ts) n).length) r (bV r.low ⟨true, -(a*aS r.ab j)⟩ 1) r.high)++[some ⟨4,[aY (aS r.ab j)],false⟩,some ⟨0,mp'.map lz,false⟩,some ⟨5,(kS (iU r j ts) n).map aT,false⟩,some ⟨4,[aY (a*aS r.ab j)],false⟩]⟩) ?_ ?_
   ·refine ae.go ?_;rw[Bj nbr.1];simp only[yD,aQ,aR,amF,api];by_cases h1:r.low.has=true
    ·rw[if_pos h1];simp(disch:=omega)[r1,ls1,h1];repeat refine alR ?_
     refine ae.alS (.qs [0,1,2,3,4,5,6]<|.l 7 []<|.qs [8,9,10]<|.l 11 [3]<|.nil) ?_;simp(disch:=omega)[r1,ls1,h1];repeat refine alR ?_
     refine alT (yA r.low.at' (a*aS r.ab j) (ah wro.1 (by omega)) (ah wax (by omega))) ?_;simp(disch:=omega)[r1,ls1,h1,LY,Er];repeat refine alR ?_
     exact Le.ct (by simp[ar,hC,yD,aQ,aR,h1])
    ·rw[if_neg h1];simp(disch:=omega)[r1,ls1,h1];repeat refine alR ?_
     exact Le.ct (by simp[ar,hC,yD,aQ,aR])
   rintro st rfl;have ep:n9 n j a ts r=⟨r.name,kS (iU r j ts) n,bV r.low ⟨true, -(a*aS r.ab j)⟩ 1,bV r.high ⟨true, -(a*aS r.ab j)⟩ 1⟩:=by unfold n9;rw[if_neg hx]
   have sco:∀(es:List SV) (l:List df),j5 9 es (l.map bS)=l.map bS:=fun es l=>dR _ _ _ (by simp);have sbo:∀(es:List SV) (l:List Bool),j5 9 es (l.map cU)=l.map cU:=fun es l=>dR _ _ _ (by simp);have sst:∀(es:List SV) (l:List lU),j5 9 es (l.map gk)=l.map gk:=fun es l=>dR _ _ _ (by simp);have srs:∀(es:List SV) (q:Rat),j5 9 es (aY q).cells=(aY q).cells:=fun es q=>dR _ _ _ rfl;have jl:∀b:Bo,nB b→bV b ⟨true, -(a*aS r.ab j)⟩ 1=if b.has=true then⟨b.has,b.at' - a*aS r.ab j⟩ else b:=fun b h=>Bj h;refine ae.go ?_;simp only[yD,aQ,aR,amF,api];by_cases h1:r.high.has=true
   ·have jh:=jl _ nbr.2;rw[if_pos h1]at jh;rw[jh]at ep;simp(disch:=omega)[r1,ls1,h1];repeat refine alR ?_
    refine ae.alS (.qs [0,1,2,3,4,5,6]<|.l 7 []<|.qs [8,9,10]<|.l 11 [3]<|.nil) ?_;simp(disch:=omega)[r1,ls1,h1];repeat refine alR ?_
    refine alT (yA r.high.at' (a*aS r.ab j) (ah wro.2 (by omega)) (ah wax (by omega))) ?_;simp(disch:=omega)[r1,ls1,h1,Kd,Er];repeat refine alR ?_
    refine ae.go ?_;simp;refine⟨i+1,by omega,by omega,?_⟩;rw[en,ep];exact(Le.kE 9 rfl (by simp)).trans (Le.ct (by simp(disch:=omega)[ar,hC,aP,fg,aN,aC,aQ,aR,kW,L8,sco,sbo,sst,srs,qY,wc,nc,h1, -anF]))
   ·have jh:=jl _ nbr.2;rw[if_neg h1]at jh;rw[jh]at ep;simp(disch:=omega)[r1,ls1,h1];repeat refine alR ?_
    refine ae.go ?_;simp;refine⟨i+1,by omega,by omega,?_⟩;rw[en,ep];exact(Le.kE 9 rfl (by simp)).trans (Le.ct (by simp(disch:=omega)[ar,hC,aP,fg,aN,aC,aQ,aR,kW,L8,sco,sbo,sst,srs,qY,wc,nc, -anF]))
  ·obtain rfl:i=m:=by omega
   refine ae.go ?_;simp;exact Le.ct (by simp[ar,hC,aC,aQ,aR,kW])
 rintro st rfl;obtain⟨w1,ew⟩:∃w1,kW w (du w j a ts m)=w1:=⟨_,rfl⟩;have ep:k8 w j a ts=⟨fH w1.aa (gt w1.aa j).cost ts,w1.rows,w1.sh+(gt w1.aa j).cost*a,w1.gc.set j true,w1.gr,w1.steps++[⟨j,a,ts⟩],w1.no⟩:=by
  rw[←ew,←nr];rfl
 have c1:w1.aa=w.aa:=by rw[←ew];rfl
 have c2:w1.sh=w.sh:=by rw[←ew];rfl
 have c3:w1.gc=w.gc:=by rw[←ew];rfl
 have c4:w1.steps=w.steps:=by rw[←ew];rfl
 have hco:=hW.co;have hsh:=hW.sh;rw[←c1]at hco;rw[←c2]at hsh;have hjc:j<w1.aa.length:=by rw[c1,nc];exact hj
 have hjg:j<w1.gc.length:=by rw[c3,S.gc];exact hj
 have hst:w1.steps.length≤7:=by rw[c4];have:=S.st;have:=oV w.gc;have:=S.gc;omega
 have lc:=cX hjc;have wco:=hco j hjc;rw[ew,ep];clear ew ep;refine ae.cutAt 2 (fun st=>st=⟨238,[(0,.ptr 0 0 0),(1,iv j),(3,.ro (ts.map aT)),(6,.bU (aY a) 0),(19,.ptr 7 0 0)],aC mx s0 ⟨w1.aa,w1.rows,w1.sh+(gt w1.aa j).cost*a,w1.gc,w1.gr,w1.steps,w1.no⟩++[some ⟨4,[aY (gt w1.aa j).cost],false⟩]⟩) ?_ ?_
 ·simp only[aG,aE,aC,aQ,aR];simp(disch:=omega)[hjc,lc];repeat refine alR ?_
  refine ae.alS (.qs [0,1,2,3,4,5,6]<|.l 7 []<|.l 8 []<|.qs [9,10]<|.l 11 [0]<|.nil) ?_;simp(disch:=omega)[hjc,lc];repeat refine alR ?_
  refine alT (dB (gt w1.aa j).cost a (ah wco (by omega)) (ah hW.a (by omega))) ?_;simp;refine alT (dh w1.sh ((gt w1.aa j).cost*a) (ah hsh (by omega)) (ah (bW wco hW.a (by omega)) (by omega))) ?_;simp;simp[ar,hC,aC,aQ,aR];done
 rintro st rfl;simp only[ax,au];obtain⟨q,eq⟩:∃q,(gt w1.aa j).cost=q:=⟨_,rfl⟩;rw[eq]at wco ⊢;refine ae.jk (fun st=>st=⟨238,[(0,.ptr 0 0 0),(1,iv j),(3,.ro (ts.map aT)),(6,.bU (aY a) 0)],aC mx s0 ⟨fH w1.aa q ts,w1.rows,w1.sh+q*a,w1.gc,w1.gr,w1.steps,w1.no⟩⟩) ?_ ?_
 ·refine ae.go ?_;simp only[aC,aQ,aR];simp;refine ae.cq (ι:=Nat) (fun k=>⟨238,[(0,.ptr 0 0 0),(1,iv j),(3,.ro (ts.map aT)),(6,.bU (aY a) 0),(19,.ptr 7 0 0),(186,.ro (ts.map aT)),(187,iv ts.length),(188,iv k)],aC mx s0 ⟨fH w1.aa q (ts.take k),w1.rows,w1.sh+q*a,w1.gc,w1.gr,w1.steps,w1.no⟩++[some ⟨4,[aY q],false⟩]⟩)
   (fun k=>k≤ts.length) (fun k=>ts.length - k) 0 (by omega) ?_ ?_
  ·simp[ar,hC,aC,aQ,aR,fH];done
  rintro k hk;simp only[aC,aQ,aR,amF,api];by_cases hkl:k<ts.length
  ·have lt:=eu hkl;obtain rfl:k=0:=by omega
   obtain⟨t1,t2,t3⟩:=hts 0 hkl;have wt:=hW.ts 0 hkl;have tg:ts.take 1=[gt ts 0]:=by rw[fP hkl];rfl
   have tg0:ts.take 0=[]:=rfl;generalize gt ts 0=t at *;obtain⟨c,ec⟩:∃c:Nat,t.aq=c:=⟨t.aq.toNat,by omega⟩;have ec':t.aq.toNat=c:=by omega
   rw[ec']at t2 t3;have hcc:c<w1.aa.length:=by rw[c1,nc];exact t2
   have lcc:=cX hcc;have wcc:=hco c hcc;simp only[tg0,fH];simp(disch:=omega)[hkl,lt];repeat refine alR ?_
   refine ae.alS (.qs [0,1,2,3,4,5,6,7,8,9,10]<|.nil) ?_;simp(disch:=omega)[hkl,lt,ec,hcc,lcc];repeat refine alR ?_
   refine ae.alS (.qs [0,1,2,3,4,5,6,7]<|.l 8 []<|.l 9 []<|.qs [10,11]<|.l 12 [2]<|.nil) ?_;simp(disch:=omega)[hkl,lt,ec,hcc,lcc];repeat refine alR ?_
   refine alT (dB q t.num (ah wco (by omega)) (ah wt (by omega))) ?_;simp;refine alT (dh (gt w1.aa c).cost (q*t.num) (ah wcc (by omega)) (ah (bW wco wt (by omega)) (by omega))) ?_;simp(disch:=omega)[hkl,lt,ec,hcc,lcc];repeat refine alR ?_
   exact⟨1,hkl,by omega,Le.ct (by simp(disch:=omega)[ar,hC,aP,aC,aQ,aR,tg,fH,ec',FO,kC, -anF])⟩
  ·obtain rfl:k=ts.length:=by omega
   simp;exact Le.ct (by simp[ar,hC,aC,aQ,aR])
 rintro st rfl;have pc:=jI q ts w1.aa;have lg:=dO hjg;refine ae.cutAt 3 (fun st=>st=⟨238,[(0,.ptr 0 0 0),(1,iv j),(3,.ro (ts.map aT)),(6,.bU (aY a) 0),(23,iv (if ts.length=0 then 1 else 2))],aC mx s0 ⟨fH w1.aa q ts,w1.rows,w1.sh+q*a,w1.gc.set j true,w1.gr,w1.steps,w1.no⟩⟩) ?_ ?_
 ·simp only[aG,aE,aC,aQ,aR];by_cases hz:ts.length=0
  ·have hz':ts=[]:=List.eq_nil_of_length_eq_zero hz;simp(disch:=omega)[hjg,lg,mB,hz,hz'];repeat refine alR ?_
   simp[ar,hC,aC,aQ,aR,hz'];done
  ·have hz':0<ts.length:=by omega
   have hz2:¬ts=[]:=fun h=>hz (by rw[h];rfl);simp(disch:=omega)[hjg,lg,mB,hz',hz2];repeat refine alR ?_
   simp[ar,hC,aC,aQ,aR,hz2];done
 rintro st rfl;simp only[ax,au];obtain⟨g,eg⟩:∃g,w1.gc.set j true=g:=⟨_,rfl⟩;obtain⟨cs,ecs⟩:∃cs,fH w1.aa q ts=cs:=⟨_,rfl⟩;rw[eg,ecs];refine ae.go ?_;simp only[aC,aQ,aR];refine ae.alS (.qs [0,1,2,3,4,5,6,7,8,9]<|.l 10 []<|.l 11 [1000000]<|.qs [12,13]<|.l 14 [0,1000000]<|.nil) ?_;simp(disch:=omega)[];repeat refine alR ?_
 have e1:gk ⟨j,a,ts⟩=SV.agg (iv (if ts.length=0 then 1 else 2)::iv j::((aY a).cells++[.ro (ts.map aT)])):=rfl;exact⟨⟨by simp[hC],by omega⟩,_,_,⟨rfl,rfl⟩,by simp,by simp[aC,aQ,aR,iS,e1],by simp[aC],.inr ⟨by simp,by simp[aC,j6,aQ,aR]⟩⟩
end Go.Proofs


/- A text of the prover's own. -/
import Derived.Test.YtmghjkkjaolpgaaGreatDoorWIm
import Derived.Test.YtmghjkkjaolpgaaGreatDoorWVu
open Nat renaming zero_le→anA,sub_succ_lt_self→an2
open List renaming map_set→amw,take→anI,drop→anJ,map→anV,cons_append→aly,nil_append→anu,take_length→amy
open Rat renaming zero_mul→an3,add_zero→an4
set_option maxRecDepth 10000
set_option maxHeartbeats 1000000
namespace Go.Ps
open Go Go.Sv Go.Pl Go.Proofs Go.Tb Go.Ut Go.Li
/-! numbers by columns, in a map -/
def l7(x:Int × Rat):SV:=.bO [.val (.int .i64 x.1),bs x.2]
@[simp] theorem ZG(k:Nat)(e:Int × Rat):(l7 e).lt k=true:=rfl
@[simp] theorem Qv(k:Nat)(e:Int × Rat):(l7 e).bD k=false:=rfl
def mG:List (Int × Rat)→Int→Option Rat
 | [],_=>none
 | x::m,v=>if v=x.1 then some x.2 else mG m v
def mU:List (Int × Rat)→Int→Rat→List (Int × Rat)
 | [],v,q=>[(v,q)]
 | x::m,v,q=>if v=x.1 then(v,q)::m else x::mU m v q
def vG(m:List (Int × Rat))(v:Int):Rat:=(mG m v).getD 0
theorem LX(v:Int)(q:Rat):∀(m:List (Int × Rat)) (u:Int),mG (mU m v q) u=if u=v then some q else mG m u
 | [],u=>rfl
 | x::m,u=>by
  have ih:=LX v q m u;by_cases h:v=x.1
  ·simp only[mU,if_pos h,mG];by_cases e:u=v
   ·simp[e]
   ·simp[e,show ¬u=x.1 from fun q=>e (q.trans h.symm)]
  ·simp only[mU,if_neg h,mG,ih];by_cases e:u=v
   ·subst e;simp[h]
   ·simp[e]
theorem KY(v:Int)(q:Rat)(m:List (Int × Rat))(u:Int):vG (mU m v q) u=if u=v then q else vG m u:=by
 unfold vG;rw[LX];split<;>rfl
theorem uV(v:Int):∀(m:List (Int × Rat)) (i:Nat),(mG m v=none→eX (.int .i64 v) (m.map l7) i=some none∧mU m v=fun o=>m++[(v,o)]) ∧
  (∀o,mG m v=some o→∃j,j<m.length∧eX (.int .i64 v) (m.map l7) i=some (some (i+j,bs o))∧∀o',mU m v o'=m.set j (v,o'))
 | [],i=>⟨fun _=>⟨rfl,rfl⟩,fun o h=>by simp[mG]at h⟩
 | x::m,i=>by
  obtain⟨h1,h2⟩:=uV v m (i+1);have k:eX (.int .i64 v) ((x::m).map l7) i=LW (.int .i64 v) (.int .i64 x.1) (bs x.2) i (eX (.int .i64 v) (m.map l7) (i+1)):=rfl;rw[k];unfold LW;rw[Dr];by_cases h:v=x.1
  ·simp only[mG,if_pos h];refine⟨fun q=>by simp at q,fun o q=>⟨0,by simp,?_,fun o'=>?_⟩⟩
   ·simp at q;simp[h,q]
   ·simp[mU,h]
  ·simp only[mG,if_neg h,h,decide_false];refine⟨fun q=>?_,fun o q=>?_⟩
   ·obtain⟨a,b⟩:=h1 q;refine⟨a,?_⟩;funext o;simp[mU,h,b]
   ·obtain⟨j,a,b,d⟩:=h2 o q;refine⟨j+1,by simpa using a,?_,fun o'=>?_⟩
    ·rw[b];simp;omega
    ·simp[mU,h,d]
def zR:SV:=.agg [.val (.bool false),.val (.slice none 0 0),.val (.bool false),.val (.slice none 0 0)]
def FD(m:List (Int × Rat))(v:Int):SV:=match mG m v with
 | some q=>bs q
 | none=>zR
theorem Ij(m:List (Int × Rat))(v:Int):jj (FD m v)=bs (vG m v):=by
 unfold FD vG;cases mG m v with
 | some q=>rfl
 | none=>show jj zR=bs 0;rw[←KK];rfl
@[simp] theorem aa6(m:List (Int × Rat))(v:Int):(FD m v).eW=4:=by unfold FD;split<;>rfl
@[simp] theorem OO(m:List (Int × Rat))(v:Int):(FD m v).aO=false:=by unfold FD;split<;>rfl
@[simp] theorem Qc(m:List (Int × Rat))(v:Int):(FD m v).isAgg=true:=by unfold FD;split<;>rfl
theorem Du{m:List (Int × Rat)}{v:Int}{M:aJ}{b:Nat}{fs:List (Nat × Nat × TypeId)}:JN false M ⟨.st fs,4,b,[.val (.bool false),.val (.slice none 0 0),.val (.bool false),.val (.slice none 0 0)]⟩ (eX (.int .i64 v) (m.map l7) 0)=.m True M [] (some (FD m v)):=by
 unfold FD;cases h:mG m v with
 | none=>rw[((uV v m 0).1 h).1];rfl
 | some o =>
  obtain⟨j,_,hj,_⟩:=(uV v m 0).2 o h;rw[hj];rfl
theorem LS{m:List (Int × Rat)}{v:Int}{q:Rat}{M:aJ}{k:Nat}:FM M k (m.map l7) (.int .i64 v) (bs q) (eX (.int .i64 v) (m.map l7) 0)=.m True (aK M k (some ⟨0,(mU m v q).map l7,false⟩)) [] none:=by
 cases h:mG m v with
 | none =>
  obtain⟨a,b⟩:=(uV v m 0).1 h;rw[a,b];simp[FM];rfl
 | some o =>
  obtain⟨j,hj,a,b⟩:=(uV v m 0).2 o h;rw[a,b];simp only[FM,Nat.zero_add,ct,amw];rfl
@[simp] theorem acP(k:Nat):jj (.mp k)=.mp k:=rfl
def fi(w:Wk)(rs:List Row):Wk:=⟨w.ae,rs,w.sh,w.gc,w.gr,w.steps,w.no⟩
structure w5(w:Wk)(a:Rat)(ts:List Term)(A B:Nat):Prop where
 A1:1≤A
 B1:A≤B
 top:4*B+4*A+10≤10000000000
 te:∀i,i<w.rows.length→∀k,k<(gt w.rows i).ab.length→qw A (gt (gt w.rows i).ab k).num
 ro:∀i,i<w.rows.length→qw B (gt w.rows i).low.at'∧qw B (gt w.rows i).high.at'
 co:∀j,j<w.ae.length→qw B (gt w.ae j).cost
 sh:qw B w.sh
 a:qw (B+A) a
 ts:∀k,k<ts.length→qw (2*A) (gt ts k).num
structure UQ(r:Row)(j k:Nat)(b:Rat)(m:List (Int × Rat)):Prop where
 iw:b=aP (r.ab.take k) j
 at':∀i:Nat,vG m i=if i=j then 0 else aP (r.ab.take k) i
structure LSm where
 k:Nat
 b:Rat
 m:List (Int × Rat)
def dG(x:SV)(r:Row)(lo hi:Bo):SV:=.agg (.val (.string r.name)::x::((cL lo).cells++(cL hi).cells))
def yE(mx:Bool)(s0:Rat)(w:Wk)(i:Nat)(x:SV):aJ:=[some ⟨9,[aS w.gc.length w.gr.length w.steps.length w.no w.sh],false⟩,some ⟨7,[aR mx s0 w.ae.length w.rows.length],false⟩,
 some ⟨16,w.ae.map bW,false⟩,some ⟨12,bl (w.rows.map bE) i x,false⟩,some ⟨1,w.gc.map bZ,false⟩,some ⟨1,w.gr.map bZ,false⟩,some ⟨7,w.steps.map fZ,false⟩]
theorem HX{l:List SV}{i:Nat}{x:SV}(h:i<l.length):aB (bl l i x) i=x:=by
 rw[ct,y5 (by simpa using h)];simp
theorem DS{l:List SV}{i:Nat}{x y:SV}:bl (bl l i x) i y=bl l i y:=by
 rw[ct,ct,ct,List.set_set]
@[simp] theorem aec{l:List SV}{i:Nat}{x:SV}:(bl l i x).length=l.length:=by rw[ct];simp
@[simp] theorem VO(x:SV)(r:Row)(lo hi:Bo):(dG x r lo hi).eW=12:=rfl
@[simp] theorem MF(x:SV)(r:Row)(lo hi:Bo):(dG x r lo hi).aO=false:=rfl
@[simp] theorem MH(x:SV)(r:Row)(lo hi:Bo):(dG x r lo hi).isAgg=true:=rfl
@[simp] theorem ada(x:SV)(r:Row)(lo hi:Bo):aB (dG x r lo hi).cells 1=x:=rfl
@[simp] theorem aed(x:SV)(r:Row)(lo hi:Bo):aB (dG x r lo hi).cells 2=.val (.bool lo.has):=rfl
@[simp] theorem acO(x:SV)(r:Row)(lo hi:Bo):aB (dG x r lo hi).cells 7=.val (.bool hi.has):=rfl
@[simp] theorem adQ(x:SV)(r:Row)(lo hi:Bo):SV.agg (anI 4 (anJ 3 (dG x r lo hi).cells))=bs lo.at':=rfl
@[simp] theorem afi(x:SV)(r:Row)(lo hi:Bo):SV.agg (anI 4 (anJ 8 (dG x r lo hi).cells))=bs hi.at':=rfl
theorem Jd{x:SV}{r:Row}{lo hi:Bo}:SV.agg (.val (.string r.name)::x::((cL lo).cells++(cL hi).cells))=dG x r lo hi:=rfl
theorem Kv{x y:SV}{r:Row}{lo hi:Bo}:SV.agg (anI 1 (dG x r lo hi).cells++y::anJ 2 (dG x r lo hi).cells)=dG y r lo hi:=rfl
theorem KL{x:SV}{r:Row}{lo hi:Bo}{q:Rat}:SV.agg (anI 3 (dG x r lo hi).cells++((bs q).cells++anJ 7 (dG x r lo hi).cells))=dG x r ⟨lo.has,q⟩ hi:=rfl
theorem JP{x:SV}{r:Row}{lo hi:Bo}{q:Rat}:SV.agg (anI 8 (dG x r lo hi).cells++((bs q).cells++anJ 12 (dG x r lo hi).cells))=dG x r lo ⟨hi.has,q⟩:=rfl
theorem JL{y:SV}{r:Row}:SV.agg (anI 1 (bE r).cells++y::anJ 2 (bE r).cells)=dG y r r.low r.high:=rfl
theorem AO{k:Nat}{x:SV}:∀{l:List Row} {i:Nat},i<l.length→SV.aY k (bl (l.map bE) i x)=x.bD k
 | [],_,h=>by simp at h
 | r::l,0,_=>by simp[bl]
 | r::l,i+1,h=>by simp[bl,AO (l:=l) (i:=i) (by simpa using h)]
theorem BS{k:Nat}{x:SV}:∀{l:List Row} {i:Nat},i<l.length→SV.mb k (bl (l.map bE) i x)=x.lt k
 | [],_,h=>by simp at h
 | r::l,0,_=>by simp[bl]
 | r::l,i+1,h=>by simp[bl,BS (l:=l) (i:=i) (by simpa using h)]
@[simp] theorem Pf(k:Nat)(x:SV)(r:Row)(lo hi:Bo):(dG x r lo hi).bD k=x.bD k:=by simp[dG]
@[simp] theorem Xd(k:Nat)(x:SV)(r:Row)(lo hi:Bo):(dG x r lo hi).lt k=x.lt k:=by simp[dG]
theorem Dy(k:Nat)(r:Row):vw k (bE r)=bE r:=by
 show SV.agg (anV (fun y=>if y.bD k then SV.any else y) (.val (.string r.name)::.ro (r.ab.map aW)::((cL r.low).cells++(cL r.high).cells)))=_;simp;rfl
theorem Fq(k n:Nat)(r:Row)(lo hi:Bo):vw k (dG (.view k 0 n) r lo hi)=dG .any r lo hi:=by
 show SV.agg (anV (fun y=>if y.bD k then SV.any else y) (.val (.string r.name)::.view k 0 n::((cL lo).cells++(cL hi).cells)))=_;simp;rfl
theorem Vm{k n:Nat}{r:Row}{lo hi:Bo}{l:List Row}{i:Nat}:anV (vw k) (bl (l.map bE) i (dG (.view k 0 n) r lo hi))=bl (l.map bE) i (dG .any r lo hi):=by
 rw[ct,ct,amw,Fq,List.map_map];exact congrArg (fun z=>List.set z i _) (List.map_congr_left fun r _=>Dy k r)
theorem Lv{k:Nat}{r:Row}{lo hi:Bo}{l:List Row}{i:Nat}{ts:List Term}:j8 k (ts.map aW) (bl (l.map bE) i (dG (.view k 0 ts.length) r lo hi))=(l.set i ⟨r.name,ts,lo,hi⟩).map bE:=by
 rw[ct,Dl,dB _ _ _ (by simp),amw];congr 1;have b1:∀b:Bo,j8 k (ts.map aW) (cL b).cells=(cL b).cells:=fun b=>dB _ _ _ rfl;show j5 k (ts.map aW) (SV.agg (.val (.string r.name)::.view k 0 ts.length::((cL lo).cells++(cL hi).cells)))=_;simp[rh,b1];rfl
theorem A8{b:Bo}{x:Rat}(h:nB b):cD b ⟨true, -x⟩ 1=if b.has=true then⟨b.has,b.at' - x⟩ else b:=by
 unfold cD;by_cases e:b.has=true
 ·rw[if_pos ⟨e,rfl⟩,if_pos e,e,Rat.mul_one,Rat.sub_eq_add_neg]
 ·have e':b.has=false:=by simpa using e
  rw[if_neg (fun q=>e q.1),if_neg e];obtain⟨h1,q⟩:=b;obtain rfl:h1=false:=e';obtain rfl:q=0:=h rfl;rfl
theorem EN{c:dL}{q:Rat}:SV.agg (anI 12 (bW c).cells++((bs q).cells++anJ 16 (bW c).cells))=bW ⟨c.name,c.whole,c.low,c.high,q⟩:=rfl
@[simp] theorem aeb(q:Rat):SV.agg (anI 4 (bs q).cells)=bs q:=rfl
theorem MT{m:List (Int × Rat)}{v:Int}(h:vG m v≠0):FD m v=bs (vG m v):=by
 unfold FD vG at *;cases hm:mG m v with
 | none=>rw[hm]at h;exact absurd rfl h
 | some q=>rfl
structure LMp where
 k:Nat
 m:List (Int × Rat)
theorem DC{P:Program}{C:Ctx}{f:FuncId}{args args':List SV}{y:SV}{M:aJ}{W:Option (List Nat)}{k:aJ→List Nat→SV→Prop}(h:aF P f args' y)(e:kQ args=args')(hp:SV.bf args'=true)(hk:k M [] y):cU P C f args M W k :=
 fun β H w vals hd hW=>ai h hp hk β H w vals (by rw[←e];exact nF hd) hW
theorem CW{j:Nat}{t:Term}:∀{ts:List Term},(∀k,k<ts.length→(gt ts k).aI≠t.aI)→aP (ts++[t]) j=if t.aI=(j:Int) then t.num else aP ts j
 | [],_=>rfl
 | x::ts,h=>by
  have ih:=CW (j:=j) (t:=t) (ts:=ts) fun k hk=>h (k+1) (by simpa using hk);have h0:x.aI≠t.aI:=h 0 (by simp);simp only[aly,aP,ih];by_cases e:x.aI=(j:Int)
  ·rw[if_pos e,if_pos e,if_neg (fun q=>h0 (e.trans q.symm))]
  ·rw[if_neg e,if_neg e]
end Go.Ps
namespace Go.Proofs
open Go.Sv Go Go.Tb Go.Pl Go.Ut Go.Li Go.Ps
theorem zn{n m:Nat}{w:Wk}{mx:Bool}{s0:Rat}(S:I9 n m w)(h7:n≤7)(h7':m≤7){j:Nat}(hj:j<n){a:Rat}{ts:List Term}{A B:Nat}(hl:ts.length≤1)(hts:∀k,k<ts.length→0≤(gt ts k).aI∧(gt ts k).aI.toNat<n∧(gt ts k).aI.toNat≠j)(hW:w5 w a ts A B) :
  ji Tryz.prog 96 [.ptr 0 0 0,iv j,bs a,.ro (ts.map aW)] (aG mx s0 w) [6] (fun T y=>T=aG mx s0 (jX w j a ts)∧y=.bO []):=by
 have nr:=S.nr;have nc:=S.nc;have nrg:=S.gr;have A1:=hW.A1;have B1:=hW.B1;have top:=hW.top;refine bP Tryz.func96 rfl (by simp) (fun C hC=>?_);have hC:C.fx=[0,1,2,3,4,5]:=hC;refine aa.nP (aa.im (nq.go ?_));simp;refine aa.je 7 rfl (by simp) ?_;simp only[aG,aS,aR];simp[dH,aK];refine aa.gp (fun st=>st=⟨238,[(0,.ptr 0 0 0),(1,iv j),(3,.ro (ts.map aW)),(6,.bK (bs a) 0)],aG mx s0 (fi w (cC w j a ts m))⟩) ?_ ?_
 ·refine aa.nP (aa.im (nq.go ?_));simp;refine aa.sn ?_;refine aa.D8 (ι:=Nat) (fun i=>⟨238,[(0,.ptr 0 0 0),(1,iv j),(3,.ro (ts.map aW)),(6,.bK (bs a) 0),(31,iv m),(32,iv i)],aG mx s0 (fi w (cC w j a ts i))⟩)
   (fun i=>i≤m) (fun i=>m - i) 0 (by omega) ?_ ?_
  ·simp[aw,hC,aG,aS,aR,fi,cC,nr];done
  rintro i hi;have pl:=jA w j a ts i;by_cases az:i<m
  ·have hir:i<w.rows.length:=by omega
   have hir2:i<(cC w j a ts i).length:=by omega
   have hig:i<w.gr.length:=by omega
   have pa:=jQ w j a ts hir i;rw[if_neg (fun q=>by omega)]at pa;have lr:=dU hir2;rw[pa]at lr;have lg:=bI hig;have ps:cC w j a ts (i+1)=if gt w.gr i=true then cC w j a ts i else(cC w j a ts i).set i (mc w.ae.length j a ts (gt w.rows i)):=rfl;refine aa.nP (aa.im (nq.go ?_));simp;refine aa.nP (aa.gD true (by simp[az]) (fun _=>?_) (fun q=>by cases q));refine aa.go ?_;simp;refine aa.nP (aa.sn ?_);by_cases hgi:gt w.gr i=true
   ·rw[if_pos hgi]at ps;refine aa.go ?_;simp only[aG,aS,aR,fi];simp(disch:=omega)[hir2,hig,lg,hgi,pl];repeat refine akI ?_
    refine aa.go ?_;simp;exact⟨i+1,by omega,by omega,Le.bA (by simp(disch:=omega)[aw,hC,aN,aG,aS,aR,fi,ps,pl])⟩
   have hgi':gt w.gr i=false:=by simpa using hgi
   rw[if_neg hgi]at ps;obtain⟨wi,ewi⟩:∃wi,fi w (cC w j a ts i)=wi:=⟨_,rfl⟩;have wc:wi.ae=w.ae:=by rw[←ewi];rfl
   have wrw:wi.rows=cC w j a ts i:=by rw[←ewi];rfl
   have r1:i<wi.rows.length:=by rw[wrw];exact hir2
   have r2:aB (wi.rows.map bE) i=bE (gt w.rows i):=by rw[wrw];exact lr
   have en:fi w (cC w j a ts (i+1))=fi wi (wi.rows.set i (mc n j a ts (gt w.rows i))):=by rw[ps,←ewi,nc];rfl
   have es:fi wi wi.rows=wi:=rfl;have rg:gt wi.rows i=gt w.rows i:=by rw[wrw];exact pa
   have hbt:=S.te i az;have nbr:=S.nb i az;have wte:=hW.te i hir;have wro:=hW.ro i hir;have tl7:(gt w.rows i).ab.length≤7:=by have:=ic hbt;omega
   rw[ewi];clear ps lr pa hir2 pl lg;generalize gt w.rows i=r at *;refine aa.cutAt 5 (fun st=>st=⟨238,[(0,.ptr 0 0 0),(1,iv j),(3,.ro (ts.map aW)),(6,.bK (bs a) 0),(31,iv m),(32,iv i),(9,.ptr 3 i 0),(10,.ptr 7 0 0),(11,.mp 8)],aG mx s0 wi++[some ⟨4,[zR],false⟩,some ⟨0,[],false⟩]⟩) ?_ ?_
   ·have lg:=bI (show i<wi.gr.length by rw[←ewi];exact hig);have eg:gt wi.gr i=false:=by rw[←ewi];exact hgi'
    have hig':i<wi.gr.length:=by rw[←ewi];exact hig
    simp only[ar,aq,aG,aS,aR];simp(disch:=omega)[r1,hig',lg,eg];repeat refine akI ?_
    simp[aw,hC,zR]
   rintro st rfl;simp only[ao,al];refine aa.le (BU (fr':=[(0,.ptr 0 0 0),(1,iv j),(3,.ro (ts.map aW)),(6,.bK (bs a) 0),(31,iv m),(32,iv i),(9,.ptr 3 i 0),(10,.ptr 7 0 0),(11,.mp 8)]) (tl':=[some ⟨4,[bs 0],false⟩,some ⟨0,[],false⟩]) (by simp[E7]) (by
    have e:jj zR=bs 0:=by rw[←KK];rfl
    simp[wW,aG,aS,aR,dX,e,kQ]) rfl) ?_
   refine aa.gp (fun st=>∃b mp,UQ r j r.ab.length b mp∧st=⟨238,[(0,.ptr 0 0 0),(1,iv j),(3,.ro (ts.map aW)),(6,.bK (bs a) 0),(31,iv m),(32,iv i),(9,.ptr 3 i 0),(10,.ptr 7 0 0),(11,.mp 8)],aG mx s0 wi++[some ⟨4,[bs b],false⟩,some ⟨0,mp.map l7,false⟩]⟩) ?_ ?_
   ·refine aa.go ?_;simp only[aG,aS,aR];simp(disch:=omega)[r1,r2];repeat refine akI ?_
    refine aa.bG (ι:=LSm) (fun⟨k,b,mp⟩=>⟨238,[(0,.ptr 0 0 0),(1,iv j),(3,.ro (ts.map aW)),(6,.bK (bs a) 0),(31,iv m),(32,iv i),(9,.ptr 3 i 0),(10,.ptr 7 0 0),(11,.mp 8),(55,.ro (r.ab.map aW)),(56,iv r.ab.length),(57,iv k)],aG mx s0 wi++[some ⟨4,[bs b],false⟩,some ⟨0,mp.map l7,false⟩]⟩)
     (fun⟨k,b,mp⟩=>k≤r.ab.length∧UQ r j k b mp) (fun⟨k,b,mp⟩=>r.ab.length - k) ⟨0,0,[]⟩ ?_ ?_ ?_
    ·exact⟨anA _,⟨rfl,fun i=>by simp[vG,mG,aP]⟩⟩
    ·simp[aw,hC,aG,aS,aR];done
    rintro⟨k,b,mp⟩ ⟨hk,hS⟩;simp only[aG,aS,aR,aly,anu];by_cases hkl:k<r.ab.length
    ·have lt:=dZ hkl;have tg:=fJ hkl;obtain⟨bt1,bt2,bt3,bt4⟩:=gw hbt k hkl;have ea:=fun i=>CW (j:=i) (t:=gt r.ab k) (ts:=r.ab.take k) fun k' hk'=>by
      have hk'':k'<k:=by simp at hk';omega
      have:=bt4 k' hk'';rw[show gt (r.ab.take k) k'=gt r.ab k' by simp[gt,hk'']];omega
     simp only[←tg]at ea;generalize gt r.ab k=t at *;obtain⟨c,ec⟩:∃c:Nat,t.aI=c:=⟨t.aI.toNat,by omega⟩;by_cases hcj:c=j
     ·subst hcj;simp(disch:=omega)[hkl,lt,ec];repeat refine akI ?_
      exact⟨⟨k+1,t.num,mp⟩,⟨hkl,⟨by rw[ea,if_pos ec],fun i=>by
       rw[hS.at',ea];by_cases e:i=c
       ·rw[if_pos e,if_pos e]
       ·rw[if_neg e,if_neg e,if_neg (by omega)]⟩⟩,an2 _ _ hkl,Le.bA (by simp(disch:=omega)[aw,hC,aN])⟩
     ·have hcj':¬(c:Int)=j:=by omega
      simp(disch:=omega)[hkl,lt,ec,hcj',LS];repeat refine akI ?_
      exact⟨⟨k+1,b,mU mp c t.num⟩,⟨hkl,⟨by rw[ea,if_neg (by omega)];exact hS.iw,fun i=>by
       rw[KY,hS.at',ea];by_cases e:i=c
       ·subst e;rw[if_pos rfl,if_neg hcj,if_pos ec]
       ·rw[if_neg (by omega)];by_cases e2:i=j
        ·rw[if_pos e2,if_pos e2]
        ·rw[if_neg e2,if_neg e2,if_neg (by omega)]⟩⟩,an2 _ _ hkl,Le.bA (by simp(disch:=omega)[aw,hC,aN])⟩
    ·obtain rfl:k=r.ab.length:=by omega
     simp;exact⟨_,⟨b,mp,hS,rfl⟩,Le.bA (by simp[aw,hC])⟩
   rintro st ⟨b,mp,hS,rfl⟩;have hb:b=aP r.ab j:=by rw[hS.iw,amy]
   have hat:∀i:Nat,vG mp i=if i=j then 0 else aP r.ab i:=fun i=>by rw[hS.at',amy]
   subst hb;clear hS;have wx:qw A (aP r.ab j):=kZ A1 wte;refine aa.gp (fun st=>aP r.ab j≠0∧st=⟨238,[(0,.ptr 0 0 0),(1,iv j),(3,.ro (ts.map aW)),(6,.bK (bs a) 0),(31,iv m),(32,iv i),(9,.ptr 3 i 0),(10,.ptr 7 0 0),(11,.mp 8)],aG mx s0 wi++[some ⟨4,[bs (aP r.ab j)],false⟩,some ⟨0,mp.map l7,false⟩]⟩) ?_ ?_
   ·refine aa.go ?_;simp only[aG,aS,aR];simp;refine akK (pd (aP r.ab j)) ?_;by_cases hx:aP r.ab j=0
    ·simp[hx];refine aa.go ?_;simp;have en0:fi w (cC w j a ts (i+1))=wi:=by
      rw[en];have:mc n j a ts r=r:=by unfold mc;rw[if_pos hx]
      rw[this,←rg,yt r1];rfl
     exact⟨i+1,by omega,by omega,Le.bA (by simp(disch:=omega)[aw,hC,aN,aG,aS,aR,en0])⟩
    ·simp[hx];exact Le.bA (by simp[aw,hC])
   rintro st ⟨hx,rfl⟩;refine aa.gp (fun st=>∃mp',(∀i:Nat,vG mp' i=if i=j then 0 else aP r.ab i+aP ts i*aP r.ab j)∧st=⟨238,[(0,.ptr 0 0 0),(1,iv j),(3,.ro (ts.map aW)),(6,.bK (bs a) 0),(31,iv m),(32,iv i),(9,.ptr 3 i 0),(10,.ptr 7 0 0),(11,.mp 8)],aG mx s0 wi++[some ⟨4,[bs (aP r.ab j)],false⟩,some ⟨0,mp'.map l7,false⟩]⟩) ?_ ?_
   ·refine aa.go ?_;simp only[aG,aS,aR];simp;refine aa.bG (ι:=LMp) (fun⟨k,mp⟩=>⟨238,[(0,.ptr 0 0 0),(1,iv j),(3,.ro (ts.map aW)),(6,.bK (bs a) 0),(31,iv m),(32,iv i),(9,.ptr 3 i 0),(10,.ptr 7 0 0),(11,.mp 8),(76,.ro (ts.map aW)),(77,iv ts.length),(78,iv k)],aG mx s0 wi++[some ⟨4,[bs (aP r.ab j)],false⟩,some ⟨0,mp.map l7,false⟩]⟩)
     (fun⟨k,mp⟩=>k≤ts.length∧∀i:Nat,vG mp i=if i=j then 0 else aP r.ab i+aP (ts.take k) i*aP r.ab j) (fun⟨k,mp⟩=>ts.length - k) ⟨0,mp⟩ ?_ ?_ ?_
    ·exact⟨anA _,fun i=>by rw[hat];simp[aP,an3,an4]⟩
    ·simp[aw,hC,aG,aS,aR];done
    rintro⟨k,mp⟩ ⟨hk,hS⟩;simp only[aG,aS,aR,aly,anu];by_cases hkl:k<ts.length
    ·have lt:=dZ hkl;obtain rfl:k=0:=by omega
     obtain⟨t1,t2,t3⟩:=hts 0 hkl;have wt:=hW.ts 0 hkl;have tg:=fJ hkl;have ea:∀i:Nat,aP (ts.take 1) i=if(gt ts 0).aI=(i:Int) then(gt ts 0).num else 0:=fun i=>by rw[tg];simp[aP]
     have e0:∀i:Nat,aP (ts.take 0) i=0:=fun i=>by simp[aP]
     generalize gt ts 0=t at *;obtain⟨c,ec⟩:∃c:Nat,t.aI=c:=⟨t.aI.toNat,by omega⟩;have ec':t.aI.toNat=c:=by omega
     rw[ec']at t2 t3;have wv:qw A (vG mp c):=by rw[hS,if_neg t3,e0,an3,an4];exact kZ A1 wte
     simp(disch:=omega)[hkl,lt];repeat refine akI ?_
     refine aa.akJ (.qs [0,1,2,3,4,5,7,8,9]<|.alt 6 [] (.l 10 []<|.l 11 []<|.l 12 [8]<|.nil)<|.alt 10 [] (.l 6 []<|.l 11 []<|.l 12 [8]<|.nil)<|.stop) ?_;have hS':∀i:Nat,vG (mU mp c (vG mp c+t.num*aP r.ab j)) i=if i=j then 0 else aP r.ab i+aP (ts.take 1) i*aP r.ab j:=fun i=>by
      rw[KY,hS,hS,if_neg t3,e0,e0,ea,an3,an4,an4];by_cases e:i=c
      ·subst e;rw[if_pos rfl,if_neg t3,if_pos ec]
      ·rw[if_neg (by omega),if_neg (show ¬t.aI=(i:Int) by omega),an3,an4]
     have qm:=dJ t.num (aP r.ab j) (ah wt (by omega)) (ah wx (by omega));have qa:=dK (vG mp c) (t.num*aP r.ab j) (ah wv (by omega)) (ah (bM wt wx (by omega)) (by omega));simp(disch:=omega)[hkl,lt,ec,Du];repeat refine akI ?_
     refine⟨?_,?_⟩;all_goals
      refine akK qm ?_;simp[ec,Du];refine DC qa (by simp[kQ,Ij];rfl) (by simp) ?_;simp[ec,LS];exact⟨⟨1,mU mp c (vG mp c+t.num*aP r.ab j)⟩,⟨hkl,hS'⟩,an2 _ _ hkl,Le.bA (by simp(disch:=omega)[aw,hC,aN])⟩
    ·obtain rfl:k=ts.length:=by omega
     simp;rw[amy]at hS;exact⟨_,⟨mp,hS,rfl⟩,Le.bA (by simp[aw,hC])⟩
   rintro st ⟨mp',hmp,rfl⟩;have hpe:∀k:Nat,eG r j ts k=vG mp' k:=fun k=>by rw[hmp];rfl
   have rl:(wi.rows.map bE).length=wi.rows.length:=by simp
   refine aa.cutAt 1 (fun st=>st=⟨238,[(0,.ptr 0 0 0),(1,iv j),(3,.ro (ts.map aW)),(6,.bK (bs a) 0),(31,iv m),(32,iv i),(9,.ptr 3 i 0),(10,.ptr 7 0 0),(11,.mp 8)],yE mx s0 wi i (dG (.val (.slice none 0 0)) r r.low r.high)++[some ⟨4,[bs (aP r.ab j)],false⟩,some ⟨0,mp'.map l7,false⟩]⟩) ?_ ?_
   ·simp only[ar,aq,aG,aS,aR];simp(disch:=omega)[r1,r2];repeat refine akI ?_
    simp[aw,hC,yE,aS,aR,JL];done
   rintro st rfl;simp only[ao,al];refine aa.le (Le.Gc (l:=.val (.string r.name)::.val (.slice none 0 0)::((cL r.low).cells++(cL r.high).cells)) 3 i 1 5 rfl (HX (by rw[rl];exact r1)) (by simpa using r1) (Nat.succ_pos _) rfl rfl (by simp)) ?_;simp only[yE];simp[aK,DS,Jd];refine aa.gp (fun st=>st=⟨238,[(0,.ptr 0 0 0),(1,iv j),(3,.ro (ts.map aW)),(6,.bK (bs a) 0),(31,iv m),(32,iv i),(9,.ptr 3 i 0),(10,.ptr 7 0 0)],yE mx s0 wi i (dG (.view 9 0 (jW (eG r j ts) n).length) r r.low r.high)++[some ⟨4,[bs (aP r.ab j)],false⟩,some ⟨0,mp'.map l7,false⟩,some ⟨5,(jW (eG r j ts) n).map aW,false⟩]⟩) ?_ ?_
   ·refine aa.go ?_;simp only[aS,aR];simp;refine aa.bG (ι:=Nat) (fun k=>⟨238,[(0,.ptr 0 0 0),(1,iv j),(3,.ro (ts.map aW)),(6,.bK (bs a) 0),(31,iv m),(32,iv i),(9,.ptr 3 i 0),(10,.ptr 7 0 0),(11,.mp 8),(105,iv n),(106,iv k)],yE mx s0 wi i (dG (.view 9 0 (jW (eG r j ts) k).length) r r.low r.high)++[some ⟨4,[bs (aP r.ab j)],false⟩,some ⟨0,mp'.map l7,false⟩,some ⟨5,(jW (eG r j ts) k).map aW,false⟩]⟩)
     (fun k=>k≤n) (fun k=>n - k) 0 (by omega) ?_ ?_
    ·simp[aw,hC,yE,aS,aR,wc,nc,jW];done
    rintro k hk;have tl:=qt (eG r j ts) k;have ls1:∀x:SV,aB (bl (wi.rows.map bE) i x) i=x:=fun x=>HX (by rw[rl];exact r1);by_cases hkn:k<n
    ·have tf:jW (eG r j ts) (k+1)=if eG r j ts k=0 then jW (eG r j ts) k else jW (eG r j ts) k++[⟨k,eG r j ts k⟩]:=rfl;rw[hpe]at tf;have qs:=pd (vG mp' k);generalize jW (eG r j ts) k=ac at *;simp only[yE,aS,aR,aly,anu];by_cases hz:vG mp' k=0
     ·rw[if_pos hz]at tf;simp(disch:=omega)[hkn,Du];repeat refine akI ?_
      refine DC qs (by simp[kQ,Ij]) (by simp) ?_;simp[hz];exact⟨k+1,by omega,by omega,Le.bA (by simp(disch:=omega)[aw,hC,aN,yE,aS,aR,tf,BS r1])⟩
     ·rw[if_neg hz]at tf;have hk':=MT hz;simp(disch:=omega)[hkn,Du,hk'];repeat refine akI ?_
      refine akK (qs) ?_;simp[hz];refine aa.akJ (.qs [0,1,2,3,4,5,6,7]<|.l 8 []<|.l 9 [1000000]<|.qs [10,11]<|.l 12 [3,1000000]<|.nil) ?_;simp(disch:=omega)[hkn,r1,ls1,hz,AO r1,Vm];repeat refine akI ?_
      refine⟨⟨by simp[hC],by omega⟩,?_⟩;simp only[Kv,DS];exact⟨k+1,by omega,by omega,Le.bA (by simp(disch:=omega)[aw,hC,aN,yE,aS,aR,tf,BS r1,hpe,zI])⟩
    ·obtain rfl:k=n:=by omega
     simp only[yE,aS,aR,aly,anu];simp;exact Le.bA (by simp[aw,hC,yE,aS,aR])
   rintro st rfl;have ls1:∀x:SV,aB (bl (wi.rows.map bE) i x) i=x:=fun x=>HX (by rw[rl];exact r1);have qax:=dJ a (aP r.ab j) (ah hW.a (by omega)) (ah wx (by omega));have wax:=bM hW.a wx (by omega);have tln:=qt (eG r j ts) n;refine aa.gp (fun st=>st=⟨238,[(0,.ptr 0 0 0),(1,iv j),(3,.ro (ts.map aW)),(6,.bK (bs a) 0),(31,iv m),(32,iv i),(9,.ptr 3 i 0),(18,.ptr 10 0 0)],yE mx s0 wi i (dG (.view 9 0 (jW (eG r j ts) n).length) r r.low r.high)++[some ⟨4,[bs (aP r.ab j)],false⟩,some ⟨0,mp'.map l7,false⟩,some ⟨5,(jW (eG r j ts) n).map aW,false⟩,some ⟨4,[bs (a*aP r.ab j)],false⟩]⟩) ?_ ?_
   ·refine aa.go ?_;simp only[yE,aS,aR,aly,anu];simp;refine akK (qax) ?_;simp;exact Le.bA (by simp[aw,hC,yE,aS,aR])
   rintro st rfl;refine aa.gp (fun st=>st=⟨238,[(0,.ptr 0 0 0),(1,iv j),(3,.ro (ts.map aW)),(6,.bK (bs a) 0),(31,iv m),(32,iv i),(9,.ptr 3 i 0),(18,.ptr 10 0 0)],yE mx s0 wi i (dG (.view 9 0 (jW (eG r j ts) n).length) r (cD r.low ⟨true, -(a*aP r.ab j)⟩ 1) r.high)++[some ⟨4,[bs (aP r.ab j)],false⟩,some ⟨0,mp'.map l7,false⟩,some ⟨5,(jW (eG r j ts) n).map aW,false⟩,some ⟨4,[bs (a*aP r.ab j)],false⟩]⟩) ?_ ?_
   ·refine aa.go ?_;rw[A8 nbr.1];simp only[yE,aS,aR,aly,anu];by_cases h1:r.low.has=true
    ·rw[if_pos h1];simp(disch:=omega)[r1,ls1,h1];repeat refine akI ?_
     refine aa.akJ (.qs [0,1,2,3,4,5,6]<|.l 7 []<|.qs [8,9,10]<|.l 11 [3]<|.nil) ?_;simp(disch:=omega)[r1,ls1,h1];repeat refine akI ?_
     refine akK (zt r.low.at' (a*aP r.ab j) (ah wro.1 (by omega)) (ah wax (by omega))) ?_;simp(disch:=omega)[r1,ls1,h1,KL,DS];repeat refine akI ?_
     exact Le.bA (by simp[aw,hC,yE,aS,aR,h1])
    ·rw[if_neg h1];simp(disch:=omega)[r1,ls1,h1];repeat refine akI ?_
     exact Le.bA (by simp[aw,hC,yE,aS,aR])
   rintro st rfl;have ep:mc n j a ts r=⟨r.name,jW (eG r j ts) n,cD r.low ⟨true, -(a*aP r.ab j)⟩ 1,cD r.high ⟨true, -(a*aP r.ab j)⟩ 1⟩:=by unfold mc;rw[if_neg hx]
   have sco:∀(es:List SV) (l:List dL),j8 9 es (l.map bW)=l.map bW:=fun es l=>dB _ _ _ (by simp);have sbo:∀(es:List SV) (l:List Bool),j8 9 es (l.map bZ)=l.map bZ:=fun es l=>dB _ _ _ (by simp);have sst:∀(es:List SV) (l:List nY),j8 9 es (l.map fZ)=l.map fZ:=fun es l=>dB _ _ _ (by simp);have srs:∀(es:List SV) (q:Rat),j8 9 es (bs q).cells=(bs q).cells:=fun es q=>dB _ _ _ rfl;have jl:∀b:Bo,nB b→cD b ⟨true, -(a*aP r.ab j)⟩ 1=if b.has=true then⟨b.has,b.at' - a*aP r.ab j⟩ else b:=fun b h=>A8 h;refine aa.go ?_;simp only[yE,aS,aR,aly,anu];by_cases h1:r.high.has=true
   ·have jh:=jl _ nbr.2;rw[if_pos h1]at jh;rw[jh]at ep;simp(disch:=omega)[r1,ls1,h1];repeat refine akI ?_
    refine aa.akJ (.qs [0,1,2,3,4,5,6]<|.l 7 []<|.qs [8,9,10]<|.l 11 [3]<|.nil) ?_;simp(disch:=omega)[r1,ls1,h1];repeat refine akI ?_
    refine akK (zt r.high.at' (a*aP r.ab j) (ah wro.2 (by omega)) (ah wax (by omega))) ?_;simp(disch:=omega)[r1,ls1,h1,JP,DS];repeat refine akI ?_
    refine aa.go ?_;simp;refine⟨i+1,by omega,by omega,?_⟩;rw[en,ep];exact(Le.je 9 rfl (by simp)).trans (Le.bA (by simp(disch:=omega)[aw,hC,aN,dH,aK,aG,aS,aR,fi,Lv,sco,sbo,sst,srs,rh,wc,nc,h1, -amw]))
   ·have jh:=jl _ nbr.2;rw[if_neg h1]at jh;rw[jh]at ep;simp(disch:=omega)[r1,ls1,h1];repeat refine akI ?_
    refine aa.go ?_;simp;refine⟨i+1,by omega,by omega,?_⟩;rw[en,ep];exact(Le.je 9 rfl (by simp)).trans (Le.bA (by simp(disch:=omega)[aw,hC,aN,dH,aK,aG,aS,aR,fi,Lv,sco,sbo,sst,srs,rh,wc,nc, -amw]))
  ·obtain rfl:i=m:=by omega
   refine aa.go ?_;simp;exact Le.bA (by simp[aw,hC,aG,aS,aR,fi])
 rintro st rfl;obtain⟨w1,ew⟩:∃w1,fi w (cC w j a ts m)=w1:=⟨_,rfl⟩;have ep:jX w j a ts=⟨iF w1.ae (gt w1.ae j).cost ts,w1.rows,w1.sh+(gt w1.ae j).cost*a,w1.gc.set j true,w1.gr,w1.steps++[⟨j,a,ts⟩],w1.no⟩:=by
  rw[←ew,←nr];rfl
 have c1:w1.ae=w.ae:=by rw[←ew];rfl
 have c2:w1.sh=w.sh:=by rw[←ew];rfl
 have c3:w1.gc=w.gc:=by rw[←ew];rfl
 have c4:w1.steps=w.steps:=by rw[←ew];rfl
 have hco:=hW.co;have hsh:=hW.sh;rw[←c1]at hco;rw[←c2]at hsh;have hjc:j<w1.ae.length:=by rw[c1,nc];exact hj
 have hjg:j<w1.gc.length:=by rw[c3,S.gc];exact hj
 have hst:w1.steps.length≤7:=by rw[c4];have:=S.st;have:=m4 w.gc;have:=S.gc;omega
 have lc:=cZ hjc;have wco:=hco j hjc;rw[ew,ep];clear ew ep;refine aa.cutAt 2 (fun st=>st=⟨238,[(0,.ptr 0 0 0),(1,iv j),(3,.ro (ts.map aW)),(6,.bK (bs a) 0),(19,.ptr 7 0 0)],aG mx s0 ⟨w1.ae,w1.rows,w1.sh+(gt w1.ae j).cost*a,w1.gc,w1.gr,w1.steps,w1.no⟩++[some ⟨4,[bs (gt w1.ae j).cost],false⟩]⟩) ?_ ?_
 ·simp only[ar,aq,aG,aS,aR];simp(disch:=omega)[hjc,lc];repeat refine akI ?_
  refine aa.akJ (.qs [0,1,2,3,4,5,6]<|.l 7 []<|.l 8 []<|.qs [9,10]<|.l 11 [0]<|.nil) ?_;simp(disch:=omega)[hjc,lc];repeat refine akI ?_
  refine akK (dJ (gt w1.ae j).cost a (ah wco (by omega)) (ah hW.a (by omega))) ?_;simp;refine akK (dK w1.sh ((gt w1.ae j).cost*a) (ah hsh (by omega)) (ah (bM wco hW.a (by omega)) (by omega))) ?_;simp;simp[aw,hC,aG,aS,aR];done
 rintro st rfl;simp only[ao,al];obtain⟨q,eq⟩:∃q,(gt w1.ae j).cost=q:=⟨_,rfl⟩;rw[eq]at wco ⊢;refine aa.gp (fun st=>st=⟨238,[(0,.ptr 0 0 0),(1,iv j),(3,.ro (ts.map aW)),(6,.bK (bs a) 0)],aG mx s0 ⟨iF w1.ae q ts,w1.rows,w1.sh+q*a,w1.gc,w1.gr,w1.steps,w1.no⟩⟩) ?_ ?_
 ·refine aa.go ?_;simp only[aG,aS,aR];simp;refine aa.bG (ι:=Nat) (fun k=>⟨238,[(0,.ptr 0 0 0),(1,iv j),(3,.ro (ts.map aW)),(6,.bK (bs a) 0),(19,.ptr 7 0 0),(186,.ro (ts.map aW)),(187,iv ts.length),(188,iv k)],aG mx s0 ⟨iF w1.ae q (ts.take k),w1.rows,w1.sh+q*a,w1.gc,w1.gr,w1.steps,w1.no⟩++[some ⟨4,[bs q],false⟩]⟩)
   (fun k=>k≤ts.length) (fun k=>ts.length - k) 0 (by omega) ?_ ?_
  ·simp[aw,hC,aG,aS,aR,iF];done
  rintro k hk;simp only[aG,aS,aR,aly,anu];by_cases hkl:k<ts.length
  ·have lt:=dZ hkl;obtain rfl:k=0:=by omega
   obtain⟨t1,t2,t3⟩:=hts 0 hkl;have wt:=hW.ts 0 hkl;have tg:ts.take 1=[gt ts 0]:=by rw[fJ hkl];rfl
   have tg0:ts.take 0=[]:=rfl;generalize gt ts 0=t at *;obtain⟨c,ec⟩:∃c:Nat,t.aI=c:=⟨t.aI.toNat,by omega⟩;have ec':t.aI.toNat=c:=by omega
   rw[ec']at t2 t3;have hcc:c<w1.ae.length:=by rw[c1,nc];exact t2
   have lcc:=cZ hcc;have wcc:=hco c hcc;simp only[tg0,iF];simp(disch:=omega)[hkl,lt];repeat refine akI ?_
   refine aa.akJ (.qs [0,1,2,3,4,5,6,7,8,9,10]<|.nil) ?_;simp(disch:=omega)[hkl,lt,ec,hcc,lcc];repeat refine akI ?_
   refine aa.akJ (.qs [0,1,2,3,4,5,6,7]<|.l 8 []<|.l 9 []<|.qs [10,11]<|.l 12 [2]<|.nil) ?_;simp(disch:=omega)[hkl,lt,ec,hcc,lcc];repeat refine akI ?_
   refine akK (dJ q t.num (ah wco (by omega)) (ah wt (by omega))) ?_;simp;refine akK (dK (gt w1.ae c).cost (q*t.num) (ah wcc (by omega)) (ah (bM wco wt (by omega)) (by omega))) ?_;simp(disch:=omega)[hkl,lt,ec,hcc,lcc];repeat refine akI ?_
   exact⟨1,hkl,by omega,Le.bA (by simp(disch:=omega)[aw,hC,aN,aG,aS,aR,tg,iF,ec',EN,kr, -amw])⟩
  ·obtain rfl:k=ts.length:=by omega
   simp;exact Le.bA (by simp[aw,hC,aG,aS,aR])
 rintro st rfl;have pc:=nJ q ts w1.ae;have lg:=bI hjg;refine aa.cutAt 3 (fun st=>st=⟨238,[(0,.ptr 0 0 0),(1,iv j),(3,.ro (ts.map aW)),(6,.bK (bs a) 0),(23,iv (if ts.length=0 then 1 else 2))],aG mx s0 ⟨iF w1.ae q ts,w1.rows,w1.sh+q*a,w1.gc.set j true,w1.gr,w1.steps,w1.no⟩⟩) ?_ ?_
 ·simp only[ar,aq,aG,aS,aR];by_cases hz:ts.length=0
  ·have hz':ts=[]:=List.eq_nil_of_length_eq_zero hz;simp(disch:=omega)[hjg,lg,eQ,hz,hz'];repeat refine akI ?_
   simp[aw,hC,aG,aS,aR,hz'];done
  ·have hz':0<ts.length:=by omega
   have hz2:¬ts=[]:=fun h=>hz (by rw[h];rfl);simp(disch:=omega)[hjg,lg,eQ,hz',hz2];repeat refine akI ?_
   simp[aw,hC,aG,aS,aR,hz2];done
 rintro st rfl;simp only[ao,al];obtain⟨g,eg⟩:∃g,w1.gc.set j true=g:=⟨_,rfl⟩;obtain⟨cs,ecs⟩:∃cs,iF w1.ae q ts=cs:=⟨_,rfl⟩;rw[eg,ecs];refine aa.go ?_;simp only[aG,aS,aR];refine aa.akJ (.qs [0,1,2,3,4,5,6,7,8,9]<|.l 10 []<|.l 11 [1000000]<|.qs [12,13]<|.l 14 [0,1000000]<|.nil) ?_;simp(disch:=omega)[];repeat refine akI ?_
 have e1:fZ ⟨j,a,ts⟩=SV.agg (iv (if ts.length=0 then 1 else 2)::iv j::((bs a).cells++[.ro (ts.map aW)])):=rfl;exact⟨⟨by simp[hC],by omega⟩,_,_,⟨rfl,rfl⟩,by simp,by simp[aG,aS,aR,dX,e1],by simp[aG],.inr ⟨by simp,by simp[aG,eP,aS,aR]⟩⟩
end Go.Proofs


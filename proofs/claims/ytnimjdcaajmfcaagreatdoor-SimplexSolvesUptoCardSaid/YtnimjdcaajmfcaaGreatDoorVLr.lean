/- A text of the prover's own. -/
import Derived.ChangeSame
import Derived.ChangeMaps5
import GoSem.ClaimJoined
import Derived.Test.YtnimjdcaajmfcaaGreatDoorVEs
import Derived.Test.YtnimjdcaajmfcaaGreatDoorRows
import Derived.RowKit
import Derived.LaidLaws
import Derived.ProofKit
import Derived.OpenShut
import Derived.Deep.DeepHandedRow
import Derived.Deep.DeepWitnessRowRef
import Derived.LaidHandle
open List renaming getElem?_eq_getElem->awZ,length_cons->awV,map_cons->aw6,all_append->azH,mem_cons->ayn,all_cons->azI,length_map->ay3,mem_map->ayN,length_eq_zero_iff->axR,getElem?_cons_zero->ayc,mem_append_left->ayE,range->ayq,getElem?_eq_some_iff->ayd,getElem?_range->azJ,Sublist->azK,contains_iff_mem->ayC,mem_singleton->ayo
open Nat renaming not_lt_zero->azL,add_mul->awM,eq_zero_or_pos->axS
open Go.World renaming cell?->azF,sameAt->azM,var?_cell->azN,holding->azO
open Go.Addr renaming add->azP
open Go.Value renaming cells->awL,oneCell'->awK,okWide->azQ
open Go.DataW renaming trod->azR,weightsEach->azS,trod_struct->azT,weights->azU,weightsAll->azV,trod_int->azW,trod_string->azX,trod_bool->azY,trod_slice->azZ,Trod->az0,trod_step->az1,trodStep->az2,TrodAll->az3
open Bool renaming and_eq_true->ayt,not_eq_true'->ayL
open Option renaming bind_eq_some_iff->az4,bind_some->axv
open Option.some renaming inj->ax9,injEq->awR
open Go.MemPlace renaming mem_row->az5,cell->az6,row->az7
open Go.Proofs.Tryz renaming prog->ay9,underlying33->azn,underlying319->azo,underlying338->az8,underlying9->az9
open Go.Proofs.YtnimjdcaajmfcaaGreatDoor.Rows renaming matrixFactorRow->aAa,laid_errors_errorType->aAb
namespace Go.Sv
open Go Go.ChangeShapes Go.WideShapes
inductive Pt where
 | int (k:IntKind) | str | bool | sl (e:Pt) | unit | pair (a b:Pt)
def Pt.T:Pt->Type
 | .int _=>Int
 | .str=>ByteArray
 | .bool=>Bool
 | .sl e=>List e.T
 | .unit=>Unit
 | .pair a b=>a.T × b.T
def Pt.qD:Pt->Bool
 | .unit=>true
 | .pair _ _=>true
 | _=>false
def Pt.n:Pt->Nat
 | .unit=>0
 | .pair a b=>a.n+b.n
 | _=>1
def Ib(b:Bool)(l:List SV):SV:=if b then .agg l else aM l 0
def Pt.cs:(p:Pt)->p.T->List SV
 | .int k,(x:Int)=>[.val (.int k x)]
 | .str,(x:ByteArray)=>[.val (.string x)]
 | .bool,(x:Bool)=>[.val (.bool x)]
 | .sl e,(x:List e.T)=>[.ro (x.map λy=>Ib e.qD (e.cs y))]
 | .unit,_=>[]
 | .pair a b,(x:a.T × b.T)=>a.cs x.1++b.cs x.2
def Pt.sv(p:Pt)(x:p.T):SV:=Ib p.qD (p.cs x)
def Pt.wf:(p:Pt)->p.T->Prop
 | .int k,(x:Int)=>(Lit.int k x).wf=true
 | .str,(x:ByteArray)=>x.size<=reachBytes
 | .bool,_=>True
 | .sl e,(x:List e.T)=>x.length<=reachBytes∧∀y∈x,e.wf y
 | .unit,_=>True
 | .pair a b,(x:a.T × b.T)=>a.wf x.1∧b.wf x.2
def Pt.bk:(p:Pt)->p.T->Nat
 | .int _,_=>1
 | .str,(x:ByteArray)=>x.size+1
 | .bool,_=>1
 | .sl e,(x:List e.T)=>(x.map e.bk).sum+1
 | .unit,_=>0
 | .pair a b,(x:a.T × b.T)=>a.bk x.1+b.bk x.2
structure Bk{Hh:Type}(f:DataW Hh->Nat)(g:List (DataW Hh)->Nat):Prop where
 lit:∀l,1<=f (.lit l)
 str:∀b,f (.lit (.string b))=b.length+1
 nil:f .nil=1
 sl:∀e r,f (.slice e r)=g e+g r+1
 agg:∀l,f (.agg l)=g l+1
 g0:g []=0
 g1:∀d r,g (d::r)=f d+g r
def Pt.mJ(P:Program):Pt->TypeId->List Field->Nat->Bool
 | .int k,t,_,_=>match P.underlying t with | some (.int k')=>decide (k'=k) | _=>false
 | .str,t,_,_=>match P.underlying t with | some .string=>true | _=>false
 | .bool,t,_,_=>match P.underlying t with | some .bool=>true | _=>false
 | .sl e,t,_,_=>match P.underlying t with
  | some (.slice u)=>decide (P.cellsOf u=e.n)&&decide (0<e.n)&&decide (0<P.bytesOf u)&&(match P.underlying u with | some (.struct gs)=>e.qD&&e.mJ P u gs.toList 0 | _=>!e.qD&&e.mJ P u [] 0)
  | _=>false
 | .unit,_,fs,_=>fs.isEmpty
 | .pair a b,t,fs,o=>match fs with
  | []=>false
  | f::r=>decide (f.offset=o)&&decide (P.cellsOf f.type=a.n)&&(match P.underlying f.type with | some (.struct gs)=>a.qD&&a.mJ P f.type gs.toList 0 | _=>!a.qD&&a.mJ P f.type [] 0)&&b.qD&&b.mJ P t r (o+a.n)
def Pt.bR(P:Program)(p:Pt)(t:TypeId):Bool:=(match P.underlying t with | some (.struct gs)=>p.qD&&p.mJ P t gs.toList 0 | _=>!p.qD&&p.mJ P t [] 0)
def Pt.fits(P:Program)(p:Pt)(t:TypeId):Bool:=decide (P.cellsOf t=p.n)&&p.bR P t
def wW(W:World):Hp:=λb=>match W.heap[b]? with | some (.cells cs _ _)=>some cs | _=>none
theorem Pt.Ee:∀(p:Pt) (x:p.T),(p.cs x).length=p.n
 | .int _,_=>rfl
 | .str,_=>rfl
 | .bool,_=>rfl
 | .sl _,_=>rfl
 | .unit,_=>rfl
 | .pair a b,x=>by simp only[Pt.cs,Pt.n,List.length_append,Pt.Ee a,Pt.Ee b]
theorem GK{α:Type}{q:Nat->α->Prop}:∀(n:Nat),(∀i,i<n->∃x,q i x)->∃l:List α,l.length=n∧∀i (h:i<l.length),q i l[i]
 | 0,_=>⟨[],rfl,λi h=>absurd h (azL _)⟩
 | n+1,h=>by
  obtain⟨l,h1,h2⟩:=GK (q:=q) n (λi hi=>h i (by omega));obtain⟨x,hx⟩:=h n (by omega);refine⟨l++[x],by simp[h1],λi hi=>?_⟩;by_cases e:i<l.length
  ·rw[List.getElem_append_left e];exact h2 i e
  ·have:i=l.length:=by simp at hi;omega
   subst this;simpa[h1]using hx
theorem JF{β:cu}{H:Hp}{s:Nat}{cb:Array Value}:∀(es:List SV) (o:Nat),(∀i (h:i<es.length),∃v,Den β H es[i] v∧v.cells.size=s∧∀j,j<s->cb[o+i*s+j]?=v.cells[j]?) ->
  ∃vs,ba β H s es vs∧∀q,q<vs.length->cb[o+q]?=vs[q]?
 | [],o,_=>⟨[],by simp[ba],λq hq=>absurd hq (azL _)⟩
 | x::es,o,h=>by
  obtain⟨v,h1,h2,h3⟩:=h 0 (by simp);obtain⟨vs,h4,h5⟩:=JF (s:=s) (cb:=cb) es (o+s) (λi hi=>by obtain⟨v,g1,g2,g3⟩:=h (i+1) (by simpa using hi);refine⟨v,g1,g2,λj hj=>?_⟩;rw[<-g3 j hj];congr 1;rw[awM];omega)
  refine⟨v.cells.toList++vs,by simp only[ba];exact⟨v,vs,rfl,h2,h1,h4⟩,λq hq=>?_⟩;by_cases e:q<s
  ·rw[List.getElem?_append_left (by simpa[h2]using e)];have:=h3 q e;simpa using this
  ·rw[List.getElem?_append_right (by simp[h2];omega)];have:=h5 (q - s) (by simp[h2]at hq;omega);simp only[Array.length_toList,h2];rw[<-this];congr 1;omega
section
variable {Hh:Type} {enc:TypeId × Value->Hh} {P:Program} {W:World} {held:Bool}
theorem KN{base:Nat}{a:Addr}{n:Nat}{cs:List Value}(h:W.cells? base a n=some cs)(hn:0<n) :
  a.spot=none∧∃cb T z,W.heap[a.block]?=some (.cells cb T z)∧∀j,j<n->cb[a.off+j]?=cs[j]?:=by
 obtain⟨_,hl,hc⟩:=World.cells?_some h;have h0:=hc 0 hn;simp only[azP,if_true,azF]at h0;have hs:∃v,cs[0]?=some v:=⟨_,awZ (by omega)⟩;obtain⟨v,hv⟩:=hs;rw[hv]at h0;split at h0
 ·rename_i cb T z hh;split at h0
  ·cases h0
  ·rename_i ai;refine⟨by simpa using ai,cb,T,z,hh,λj hj=>?_⟩;have:=hc j hj;rw[<-this];unfold azP;by_cases e:j=0
   ·subst e;simp only[if_true,azF,hh];rw[if_neg ai];simp
   ·simp only[if_neg e,azF,hh];simp
 ·cases h0
theorem vO{β:cu}{H:Hp}{p:Pt}{x:p.T}{cs:List Value}(h:bN β H (p.cs x) cs):∃v:Value,v.cells.toList=cs∧v.cells.size=p.n∧Den β H (p.sv x) v:=by
 have hl:=h.length;rw[Pt.Ee]at hl;cases hp:p.qD with
 | true =>
  refine⟨.agg cs.toArray,by simp[awL],by simp[awL,hl],?_⟩;simp only[Pt.sv,Ib,hp,if_true,Den];exact⟨cs,rfl,h⟩
 | false =>
  have hn:p.n=1:=by cases p<;>simp_all [Pt.qD,Pt.n]
  rw[hn]at hl;have hlen:(p.cs x).length=1:=by rw[Pt.Ee,hn]
  match hc:p.cs x,cs,hlen,hl with
  | [y],[v],_,_ =>
   rw[hc]at h;simp only[bN]at h;obtain⟨v',r,e,h1,h2,rfl⟩:=h;simp only[List.cons.injEq,and_true]at e;subst e;have:=eo (Den.one h2 h1);refine⟨v,by rw[this],by rw[this,hn];rfl,?_⟩;simp only[Pt.sv,Ib,hp,hc,aM];exact h2
theorem yc{β:cu}{H:Hp}:∀{l l':List SV} {vs aj:List Value},bN β H l vs->bN β H l' aj->bN β H (l++l') (vs++aj)
 | [],l',vs,aj,h,h'=>by simp only[bN]at h;simpa[h]using h'
 | x::l,l',vs,aj,h,h'=>by simp only[bN]at h;obtain⟨v,r,rfl,h1,h2,h3⟩:=h;simp only[List.cons_append,bN];exact⟨v,r++aj,rfl,h1,h2,yc h3 h'⟩
theorem Bk.sum{f:DataW Hh->Nat}{g:List (DataW Hh)->Nat}(hb:Bk f g){α:Type}{m:α->Nat}:∀{ys:List α} {es:List (DataW Hh × List MemPlace)},ys.length=es.length->(∀i (h:i<ys.length) (h':i<es.length),m ys[i]<=f (es[i]).1)->(ys.map m).sum<=g (es.map (·.1))
 | [],[],_,_=>by simp[hb.g0]
 | y::ys,e::es,hl,h=>by have h0:=h 0 (by simp) (by simp);have hr:=Bk.sum hb (m:=m) (ys:=ys) (es:=es) (by simpa using hl) (λi a b=>by have:=h (i+1) (by simp only[awV];omega) (by simp only[awV];omega);simp only[List.getElem_cons_succ]at this;exact this);simp only[aw6,List.sum_cons,hb.g1];simp only[List.getElem_cons_zero]at h0;omega
structure Rd(P:Program)(W:World)(enc:TypeId × Value->Hh)(held:Bool)(p:Pt):Prop where
 one:p.qD=false->∀(t:TypeId) (fuel:Nat) (cs:List Value) (x:DataW Hh × List MemPlace),p.mJ P t [] 0=true->azR enc P W 0 (λ_=>true) held fuel t cs=some x ->
  (x.1.weights P t).all (·<=reachBytes)=true->∃y,p.wf y∧bN o4 (wW W) (p.cs y) cs∧∀f g,Bk f g->p.bk y<=f x.1
 many:p.qD=true->∀(t:TypeId) (fs:List Field) (o fuel:Nat) (cs:List Value) (xs:List (DataW Hh × List MemPlace)),p.mJ P t fs o=true->cs.length=o+p.n->xs.length=fs.length ->
  (∀(i:Nat) (f:Field),fs[i]?=some f->azR enc P W 0 (λ_=>true) held fuel f.type ((cs.drop f.offset).take (P.cellsOf f.type))=xs[i]?) ->
  (azS P (fs.map (·.type)) (xs.map (·.1))).all (·<=reachBytes)=true->∃y,p.wf y∧bN o4 (wW W) (p.cs y) (cs.drop o)∧∀f g,Bk f g->p.bk y<=g (xs.map (·.1))
theorem Rd.here{p:Pt}(h:Rd P W enc held p){t:TypeId}{fuel:Nat}{cs:List Value}{x:DataW Hh × List MemPlace}(hf:p.bR P t=true)(hn:P.cellsOf t=p.n)(ht:azR enc P W 0 (λ_=>true) held fuel t cs=some x)
  (hw:(x.1.weights P t).all (·<=reachBytes)=true):∃y,p.wf y∧bN o4 (wW W) (p.cs y) cs∧∀f g,Bk f g->p.bk y<=f x.1:=by
 unfold Pt.bR at hf;split at hf
 ·rename_i gs hu;simp only[ayt]at hf;obtain⟨xs,n,rfl,hx,hl,hlen,aa⟩:=azT hu ht;subst hx;obtain⟨y,q1,q2,q3⟩:=h.many hf.1 t gs.toList 0 n cs xs hf.2 (by rw[hl,hn];omega) (by simpa using hlen) (λi f hi=>aa i f (by simpa using hi)) (by simpa[azU,hu]using hw);exact⟨y,q1,by simpa using q2,λf g hb=>by have:=q3 f g hb;simp only[hb.agg];omega⟩
 ·simp only[ayt,ayL]at hf;exact h.one hf.1 t fuel cs x hf.2 ht hw
theorem rJ{e:TypeId}:∀{l:List (DataW Hh)} {d:DataW Hh},d∈l->(azV P e l).all (·<=reachBytes)=true->(d.weights P e).all (·<=reachBytes)=true
 | a::l,d,h,hw=>by
  simp only[azV,azH,ayt]at hw;rcases ayn.1 h with rfl | h
  ·exact hw.1
  ·exact rJ h hw.2
theorem Ch:∀p:Pt,Rd P W enc held p
 | .int k=>⟨λ_ t fuel cs x hf ht hw=>by
   simp only[Pt.mJ]at hf;split at hf
   ·rename_i k' hu;simp only[decide_eq_true_eq]at hf;subst hf;obtain⟨n,rfl,rfl,h⟩:=azW hu ht;exact⟨n,h,by simp only[Pt.cs,bN];exact⟨_,_,rfl,rfl,by simp[Den,awK],rfl⟩,λf g hb=>hb.lit _⟩
   ·(cases hf),λh=>by cases h⟩
 | .str=>⟨λ_ t fuel cs x hf ht hw=>by
   simp only[Pt.mJ]at hf;split at hf
   ·rename_i hu;obtain⟨s,rfl,rfl,h⟩:=azX hu ht;simp only[azU,azI,List.all_nil,Bool.and_true,decide_eq_true_eq]at hw;exact⟨s,by simpa[Pt.wf]using hw,by simp only[Pt.cs,bN];exact⟨_,_,rfl,rfl,by simp[Den,awK],rfl⟩,λf g hb=>by rw[hb.str];exact Nat.le_refl _⟩
   ·(cases hf),λh=>by cases h⟩
 | .bool=>⟨λ_ t fuel cs x hf ht hw=>by
   simp only[Pt.mJ]at hf;split at hf
   ·rename_i hu;obtain⟨b,rfl,rfl⟩:=azY hu ht;exact⟨b,trivial,by simp only[Pt.cs,bN];exact⟨_,_,rfl,rfl,by simp[Den,awK],rfl⟩,λf g hb=>hb.lit _⟩
   ·(cases hf),λh=>by cases h⟩
 | .unit=>⟨λh=>(by cases h),λ_ t fs o fuel cs xs hf hl hx aa hw=>by refine⟨(),trivial,?_,λf g hb=>Nat.zero_le _⟩;simp only[Pt.cs,bN];rw[List.drop_eq_nil_of_le (by simp[Pt.n]at hl;omega)]⟩
 | .pair a b=>⟨λh=>(by cases h),λ_ t fs o fuel cs xs hf hl hx aa hw=>by
   simp only[Pt.mJ]at hf;split at hf
   ·cases hf
   ·rename_i f r;simp only[ayt,decide_eq_true_eq]at hf;obtain⟨⟨⟨⟨h1,h2⟩,h3⟩,hb⟩,h4⟩:=hf
    match xs,hx with
    | x0::xr,hx =>
    have ax:(x0.1.weights P f.type).all (·<=reachBytes)=true∧(azS P (r.map (·.type)) (xr.map (·.1))).all (·<=reachBytes)=true:=by simpa only[aw6,azS,azH,ayt]using hw
    simp only[Pt.n]at hl;obtain⟨y,wy,dy,ky⟩:=(Ch a).here (t:=f.type) (by unfold Pt.bR;exact h3) h2 (by simpa using aa 0 f rfl) ax.1;have hr:=(Ch b);have key:∃z,b.wf z∧bN o4 (wW W) (b.cs z) (cs.drop (o+a.n))∧∀f g,Bk f g->b.bk z<=g (xr.map (·.1)):=by exact hr.many hb t r (o+a.n) fuel cs xr h4 (by omega) (by simpa using hx) (λi f hi=>by simpa using aa (i+1) f (by simpa using hi)) ax.2
    obtain⟨z,wz,dz,kz⟩:=key;refine⟨(y,z),⟨wy,wz⟩,?_,λf g hb=>by have:=ky f g hb;have:=kz f g hb;simp only[Pt.bk,aw6,hb.g1];omega⟩;simp only[Pt.cs];have:=yc dy dz;rw[h1,h2]at this
    rwa [<-List.drop_drop,List.take_append_drop]at this⟩
 | .sl e=>⟨λ_ t fuel cs x hf ht hw=>by
   simp only[Pt.mJ]at hf;split at hf
   ·rename_i u hu;simp only[ayt,decide_eq_true_eq]at hf;obtain⟨⟨⟨h1,h2⟩,h3⟩,h4⟩:=hf;rcases azZ hu ht with⟨rfl,rfl⟩ | ⟨ad,len,cap,elems,rest,n,rfl,rfl,rfl,hb,hle,hm,hlen,ao,ai,ay⟩
    ·refine⟨([]:List e.T),⟨by simp,by simp⟩,?_,λf g hb=>by simp[Pt.bk,hb.nil]⟩;simp only[Pt.cs,List.map_nil,bN];exact⟨_,_,rfl,rfl,by simp only[Den];exact .inl ⟨trivial,_,_,rfl⟩,rfl⟩
    ·simp only[azU,hu,azI,azH,ayt,decide_eq_true_eq,ay3]at hw;obtain⟨w1,w2,w3⟩:=hw;have el:∀i,i<len->∃(ac:List Value) (z:DataW Hh × List MemPlace),W.cells? 0 (ad.add (i*P.cellsOf u)) (P.cellsOf u)=some ac∧azR enc P W 0 (λ_=>true) held n u ac=some z∧elems[i]?=some z:=λi hi=>by
      have:=ao i hi;rw[awZ (by omega)]at this;obtain⟨ac,g1,g2⟩:=az4.1 this;exact⟨ac,_,g1,g2,awZ (by omega)⟩
     obtain⟨ys,an,hy⟩:=GK (q:=λi y=>e.wf y∧(∀h:i<elems.length,∀f g,Bk f g->e.bk y<=f (elems[i]).1)∧∃ac,W.cells? 0 (ad.add (i*P.cellsOf u)) (P.cellsOf u)=some ac∧bN o4 (wW W) (e.cs y) ac) len (λi hi=>by obtain⟨ac,z,g1,g2,g3⟩:=el i hi;obtain⟨y,q1,q2,q3⟩:=(Ch e).here (t:=u) (by unfold Pt.bR;exact h4) h1 g2 (rJ (l:=elems.map (·.1)) (ayN.2 ⟨z,List.mem_of_getElem? g3,rfl⟩) w2);exact⟨y,q1,λh f g hb=>by have:=q3 f g hb;rw[awZ h]at g3;rw[ax9 g3];exact this,ac,g1,q2⟩)
     have aA:len<=reachBytes:=by have:=Nat.le_mul_of_pos_right (elems.length+rest.length) h3;omega
     refine⟨(ys:List e.T),⟨by rw[an];exact aA,λy aB=>?_⟩,?_,λf g hb=>?_⟩
     ·obtain⟨i,hi,rfl⟩:=List.getElem_of_mem aB;exact(hy i hi).1
     ·simp only[Pt.cs,bN];refine⟨_,_,rfl,rfl,?_,rfl⟩;simp only[Den];rcases axS len with rfl | aC
      ·left;exact⟨by simp[axR.1 an],_,_,rfl⟩
      ·right;obtain⟨_,_,aV,g0,_⟩:=hy 0 (by omega);rw[Nat.zero_mul]at g0;have aD:ad.add 0=ad:=by simp[azP]
       rw[aD]at g0;obtain⟨ak,cb,T,z,hh,_⟩:=KN g0 (by omega);obtain⟨vs,d1,d2⟩:=JF (β:=o4) (H:=wW W) (s:=e.n) (cb:=cb) (ys.map λy=>Ib e.qD (e.cs y)) ad.off (λi hi=>by
        simp only[ay3]at hi;obtain⟨_,_,ac,g1,g2⟩:=hy i hi;obtain⟨v,q1,q2,q3⟩:=vO g2;obtain⟨_,aW,T',z',ap,az⟩:=KN g1 (by omega);have aq:(ad.add (i*P.cellsOf u)).block=ad.block:=by unfold azP;split<;>rfl
        have ar:(ad.add (i*P.cellsOf u)).off=ad.off+i*P.cellsOf u:=by unfold azP;split<;>simp_all
        rw[aq,hh]at ap;simp only[awR,Obj.cells.injEq]at ap;obtain⟨rfl, -, -⟩:=ap;refine⟨v,by rw[List.getElem_map];exact q3,q2,λj hj=>?_⟩;rw[ar,h1]at az;rw[az j hj,<-q1];simp)
       refine⟨ad.block,ad.off,cap,e.n,cb,vs,?_,by simp[an,hle],by simp[wW,hh],d1,d2⟩;simp only[ay3,an];obtain⟨bb,oo,ss⟩:=ad;simp only at ak;subst ak;rfl
     ·have:=hb.sum (m:=e.bk) (ys:=ys) (es:=elems) (by omega) (λi h h'=>(hy i h).2.1 h' f g hb);simp only[Pt.bk,hb.sl];omega
   ·(cases hf),λh=>by cases h⟩
theorem Pt.ae2{p:Pt}{t:TypeId}{v:Value}{d:DataW Hh}{ps:List MemPlace}{base:Nat}{r:Reach}(hf:p.fits P t=true)(ab:azQ P W r base t v)(ht:az0 enc P W 0 (λ_=>true) held t v d ps)
  (hw:(d.weights P t).all (·<=reachBytes)=true):∃y,p.wf y∧Den o4 (wW W) (p.sv y) v∧∀f g,Bk f g->p.bk y<=f d:=by
 simp only[Pt.fits,ayt,decide_eq_true_eq]at hf;obtain⟨fuel,ht⟩:=ht;obtain⟨y,wy,dy,ky⟩:=(Ch (P:=P) (W:=W) (enc:=enc) (held:=held) p).here hf.2 hf.1 ht hw;refine⟨y,wy,?_,ky⟩;have ae:=hf.2;unfold Pt.bR at ae;split at ae
 ·rename_i gs hu;simp only[ayt]at ae;unfold azQ at ab;rw[hu]at ab;obtain⟨cs,rfl, -, -⟩:=ab;simp only[Pt.sv,Ib,ae.1,if_true,Den];exact⟨_,by simp[awL],dy⟩
 ·rename_i ay;simp only[ayt,ayL]at ae;obtain⟨v',h1,h2,h3⟩:=vO dy;have hv:v.cells=#[v]:=by
   cases v<;>try rfl
   ·rename_i cs;exfalso;cases p<;>simp only[Pt.qD,Pt.mJ]at ae;all_goals first | (cases ae.1;done) | skip
    all_goals
     have al:=ae.2;split at al
     ·rename_i hu;unfold azQ at ab;rw[hu]at ab;simp[Cell.okWide,Cell.ok,hu]at ab
     ·cases al
  have aE:v'=v:=by
   have e:=congrArg List.toArray h1;simp only[Array.toArray_toList]at e;rw[hv]at e;have au:(p.sv y).one=true:=by cases p<;>simp_all [Pt.qD,Pt.sv,Ib,Pt.cs,SV.one,awK]
   rw[eo (Den.one h3 au)]at e;simpa using e
  rw[<-aE];exact h3
theorem nJ{α β:Type}{g:α->Option β}:∀{l:List α} {xs:List β},xs.length=l.length->(∀(i:Nat) (f:α),l[i]?=some f->g f=xs[i]?)->l.mapM g=some xs
 | [],[],_,_=>by simp
 | [],_::_,h,_=>by simp at h
 | _::_,[],h,_=>by simp at h
 | a::l,x::xs,h,hg=>by have h0:=hg 0 a rfl;have hr:=nJ (g:=g) (l:=l) (xs:=xs) (by simpa using h) (λi f hi=>by simpa using hg (i+1) f (by simpa using hi));simp only[ayc]at h0;simp[List.mapM_cons,h0,hr]
structure Rs(P:Program)(W W':World)(enc:TypeId × Value->Hh)(held:Bool)(sp:Nat->Bool)(p:Pt):Prop where
 one:p.qD=false->∀(t:TypeId) (fuel:Nat) (cs:List Value) (x:DataW Hh × List MemPlace),p.mJ P t [] 0=true->azR enc P W 0 (λ_=>true) held fuel t cs=some x ->
  (∀q∈x.2,sp q.block=true∧W.sameAt W' q)->azR enc P W' 0 sp held fuel t cs=some x
 many:p.qD=true->∀(t:TypeId) (fs:List Field) (o fuel:Nat) (cs:List Value) (xs:List (DataW Hh × List MemPlace)),p.mJ P t fs o=true->xs.length=fs.length ->
  (∀(i:Nat) (f:Field),fs[i]?=some f->azR enc P W 0 (λ_=>true) held fuel f.type ((cs.drop f.offset).take (P.cellsOf f.type))=xs[i]?) ->
  (∀q∈xs.flatMap (·.2),sp q.block=true∧W.sameAt W' q) ->
  ∀(i:Nat) (f:Field),fs[i]?=some f->azR enc P W' 0 sp held fuel f.type ((cs.drop f.offset).take (P.cellsOf f.type))=xs[i]?
theorem Rs.here{W':World}{sp:Nat->Bool}{p:Pt}(h:Rs P W W' enc held sp p){t:TypeId}{fuel:Nat}{cs:List Value}{x:DataW Hh × List MemPlace}(hf:p.bR P t=true)(ht:azR enc P W 0 (λ_=>true) held fuel t cs=some x)
  (hs:∀q∈x.2,sp q.block=true∧W.sameAt W' q):azR enc P W' 0 sp held fuel t cs=some x:=by
 unfold Pt.bR at hf;split at hf
 ·rename_i gs hu;simp only[ayt]at hf;obtain⟨xs,n,rfl,hx,hl,hlen,aa⟩:=azT hu ht;subst hx;have:=h.many hf.1 t gs.toList 0 n cs xs hf.2 (by simpa using hlen) (λi f hi=>aa i f (by simpa using hi)) hs;exact trod_struct_mk hu hl (nJ (by simpa using hlen) (λi f hi=>this i f hi))
 ·simp only[ayt,ayL]at hf;exact h.one hf.1 t fuel cs x hf.2 ht hs
theorem JD{W':World}{sp:Nat->Bool}:∀p:Pt,Rs P W W' enc held sp p
 | .int k=>⟨λ_ t fuel cs x hf ht hs=>by
   simp only[Pt.mJ]at hf;split at hf
   ·rename_i k' hu;obtain⟨n,rfl,rfl,h⟩:=azW hu ht;cases fuel with
    | zero=>simp[azR]at ht
    | succ m=>exact trod_int_mk m hu h
   ·(cases hf),λh=>by cases h⟩
 | .str=>⟨λ_ t fuel cs x hf ht hs=>by
   simp only[Pt.mJ]at hf;split at hf
   ·rename_i hu;obtain⟨s,rfl,rfl,h⟩:=azX hu ht;cases fuel with
    | zero=>simp[azR]at ht
    | succ m=>rw[az1];unfold az2;simp[hu,h]
   ·(cases hf),λh=>by cases h⟩
 | .bool=>⟨λ_ t fuel cs x hf ht hs=>by
   simp only[Pt.mJ]at hf;split at hf
   ·rename_i hu;obtain⟨b,rfl,rfl⟩:=azY hu ht;cases fuel with
    | zero=>simp[azR]at ht
    | succ m=>rw[az1];unfold az2;simp[hu]
   ·(cases hf),λh=>by cases h⟩
 | .unit=>⟨λh=>(by cases h),λ_ t fs o fuel cs xs hf hx aa hs i f hi=>by simp only[Pt.mJ,List.isEmpty_iff]at hf;subst hf;simp at hi⟩
 | .pair a b=>⟨λh=>(by cases h),λ_ t fs o fuel cs xs hf hx aa hs i f hi=>by
   simp only[Pt.mJ]at hf;split at hf
   ·cases hf
   ·rename_i f0 r;simp only[ayt,decide_eq_true_eq]at hf;obtain⟨⟨⟨⟨h1,h2⟩,h3⟩,hb⟩,h4⟩:=hf
    match xs,hx with
    | x0::xr,hx =>
    cases i with
    | zero =>
     simp only[ayc,awR]at hi ⊢;subst hi;exact(JD a).here (by unfold Pt.bR;exact h3) (by simpa using aa 0 f0 rfl) (λq hq=>hs q (by simp[hq]))
    | succ i =>
     simp only[List.getElem?_cons_succ]at hi ⊢;exact(JD b).many hb t r (o+a.n) fuel cs xr h4 (by simpa using hx) (λi f hi=>by simpa using aa (i+1) f (by simpa using hi)) (λq hq=>hs q (by simp only[List.flatMap_cons,List.mem_append];exact .inr hq)) i f hi⟩
 | .sl e=>⟨λ_ t fuel cs x hf ht hs=>by
   simp only[Pt.mJ]at hf;split at hf
   ·rename_i u hu;simp only[ayt,decide_eq_true_eq]at hf;obtain⟨⟨⟨h1,h2⟩,h3⟩,h4⟩:=hf;rcases azZ hu ht with⟨rfl,rfl⟩ | ⟨ad,len,cap,elems,rest,n,rfl,rfl,rfl,hb,hle,hm,hlen,ao,ai,ay⟩
    ·cases fuel with
     | zero=>simp[azR]at ht
     | succ m=>rw[az1];unfold az2;simp[hu]
    ·obtain⟨aF,aG⟩:=ai rfl;have aq:∀i,(ad.add i).block=ad.block:=λi=>by unfold azP;split<;>rfl
     have ar:∀i,(ad.add i).off=ad.off+i:=λi=>by unfold azP;split<;>simp_all
     have one:∀i (z:DataW Hh × List MemPlace),i<elems.length+rest.length->z∈elems++rest->(W.cells? 0 (ad.add (i*P.cellsOf u)) (P.cellsOf u)).bind (azR enc P W 0 (λ_=>true) held n u)=some z ->
       (W'.cells? 0 (ad.add (i*P.cellsOf u)) (P.cellsOf u)).bind (azR enc P W' 0 sp held n u)=some z:=λi z hi hz h=>by
      obtain⟨ac,g1,g2⟩:=az4.1 h;have aH:=World.cells?_carry (w':=W') g1 (λq hq=>by obtain⟨j,hj,rfl⟩:=az5.1 hq;refine(hs _ (ayE _ (az5.2 ⟨i*P.cellsOf u+j,?_,by rw[aq,ar,Nat.add_assoc]⟩))).2;have:=Nat.mul_le_mul_right (P.cellsOf u) (show i+1<=elems.length+rest.length from hi);rw[awM,Nat.one_mul]at this;omega)
      rw[aH];exact(JD e).here (by unfold Pt.bR;exact h4) g2 (λq hq=>hs q (List.mem_append_right _ (List.mem_flatMap.2 ⟨z,hz,hq⟩)))
     have hA:(ayq len).mapM (λi=>(W'.cells? 0 (ad.add (i*P.cellsOf u)) (P.cellsOf u)).bind (azR enc P W' 0 sp held n u))=some elems:=by
      refine nJ (by simp[hlen]) (λi k hi=>?_);have aR:i<len:=by have:=(ayd.1 hi).1;simpa using this
      rw[azJ aR]at hi;simp only[awR]at hi;subst hi;have he:=ao i aR;rw[awZ (by omega)]at he ⊢;exact one i _ (by omega) (by simp) he
     have hB:(if sp ad.block then(ayq (cap - len)).mapM (λj=>(W'.cells? 0 (ad.add ((len+j)*P.cellsOf u)) (P.cellsOf u)).bind (azR enc P W' 0 sp held n u)) else some [])=some rest:=by
      split
      ·refine nJ (by simp[aF]) (λi k hi=>?_);have aR:i<cap - len:=by
        have:=(ayd.1 hi).1;simpa using this
       rw[azJ aR]at hi;simp only[awR]at hi;subst hi;have he:=aG i aR;rw[awZ (by omega)]at he ⊢;exact one (len+i) _ (by omega) (by simp) he
      ·rename_i aI;rcases axS (elems.length+rest.length)with h0 | h0
       ·have:rest.length=0:=by omega
        rw[axR.1 this]
       ·exfalso;refine aI (hs _ (ayE _ (az5.2 ⟨0,Nat.mul_pos h0 (by omega),rfl⟩))).1
     rw[az1];unfold az2;simp only[hu];rw[if_pos ⟨hb,hle,hm⟩,hA];simp only[axv];rw[hB];rfl
   ·(cases hf),λh=>by cases h⟩
theorem DJ{W W':World}(h:Go.RowKit.Below W.heap.size W W'){q:MemPlace}(hq:q.block<W.heap.size):W.sameAt W' q:=by
 cases q with
 | cell b off=>simp only[azM,azF];rw[h.block b hq]
 | map b=>simp only[azM];exact h.block b hq
theorem H5{W':World}{sp:Nat->Bool}{p:Pt}{t:TypeId}{v:Value}{d:DataW Hh}{ps:List MemPlace}(hf:p.fits P t=true)(h:az0 enc P W 0 (λ_=>true) held t v d ps)(hs:∀q∈ps,sp q.block=true∧W.sameAt W' q) :
  az0 enc P W' 0 sp held t v d ps:=by
 simp only[Pt.fits,ayt,decide_eq_true_eq]at hf;obtain⟨fuel,h⟩:=h;exact⟨fuel,(JD p).here hf.2 h hs⟩
theorem s9{W':World}{sp:Nat->Bool}:∀{pts:List Pt} {ts:List TypeId} {vs:List Value} {ds:List (DataW Hh)} {ps:List MemPlace},pts.length=ts.length->(∀(i:Nat) (p:Pt) (t:TypeId),pts[i]?=some p->ts[i]?=some t->p.fits P t=true) ->
  az3 enc P W 0 (λ_=>true) held ts vs ds ps->(∀q∈ps,sp q.block=true∧W.sameAt W' q)->az3 enc P W' 0 sp held ts vs ds ps
 | pts,[],vs,ds,ps,hl,hf,h,hs=>by obtain⟨rfl,rfl,rfl⟩:=trodAll_nil h;exact trodAll_mk0
 | p::pts,t::ts,vs,ds,ps,hl,hf,h,hs=>by obtain⟨v,r,d,e,p1,p2,rfl,rfl,rfl,h1,h2⟩:=trodAll_cons h;exact⟨p1,p2,H5 (hf 0 p t rfl rfl) h1 (λq hq=>hs q (by simp[hq])),s9 (by simpa using hl) (λi p t h1 h2=>hf (i+1) p t (by simpa using h1) (by simpa using h2)) h2 (λq hq=>hs q (by simp[hq])),rfl⟩
end
end Go.Sv
namespace Go.Proofs
open Go Go.Sv Go.ChangeShapes Go.WideShapes Go.RowKit
theorem I1{H:Type}{enc:TypeId × Value->H}{P:Program}{f:Func}{s:ChangeSpec}{apart fresh handsOn again:Bool}{W W':World}{args:Array Value}{v:Value}{ds gs:List (DataW H)}{before pa pv:List MemPlace}
  (hW:DataW.Whole enc P f.params.toList s.vars apart W args.toList ds gs before) (hB:Below W.heap.size W W')
  (am:∀(b:Nat) (sp:Nat->Bool) (hd:Bool),az3 enc P W' b sp hd f.resultTypes.toList (v.resultList f.resultTypes.size) (s.fn H (ds++gs)).results [])
  (af:∀sp:Nat->Bool,(∀p∈before,sp p.block=true)->az3 enc P W' 0 sp true f.params.toList args.toList (s.fn H (ds++gs)).args pa)
  (ag:∀sp:Nat->Bool,(∀p∈before,sp p.block=true)->DataW.TrodVars enc P W' sp s.vars (s.fn H (ds++gs)).vars pv)
  (aJ:before=pa++pv)
  (aK:∀(j:Nat) (t:TypeId) (r:Value),f.resultTypes[j]?=some t->(v.resultList f.resultTypes.size)[j]?=some r->azQ P W' .any 0 t r) :
  s.post enc P f apart fresh handsOn again W args v W':=by
 have lt:∀p∈before,p.block<W.heap.size:=λp hp=>hW.lt p hp;have all:∀p∈before,(λb=>decide (b<W.heap.size)) p.block=true:=λp hp=>by simpa using lt p hp
 refine⟨ds,gs,before,[],pa,pv,hW,am _ _ _,af _ all,ag _ all,hB.frame _,λ_=>?_⟩;obtain⟨_,_,_,_,_,nf,nd⟩:=hW;have e:([]++pa)++pv=before:=by rw[aJ];simp
 refine⟨aK,_,_,([]++pa)++pv,⟨[]++pa,pv,trodAll_append (af _ (λ_ _=>rfl)) (am _ _ _),ag _ (λ_ _=>rfl),rfl,?_,?_⟩,?_⟩
 ·intro b off hp;rw[e]at hp;have hb:b<W.heap.size:=lt _ hp;rw[hB.frozen (p:=⟨b,off,none⟩) hb];exact nf b off hp
 ·intro ha;rw[e];exact nd ha
 ·intro p hp _;rw[e]at hp;exact hp
theorem Cj{α β:Type}{f:α->β}:∀{l:List α},(l.map f).Nodup->∀{p q},p∈l->q∈l->f p=f q->p=q
 | [],_,_,_,h,_,_=>by cases h
 | a::l,hn,p,q,hp,hq,e=>by
  rw[aw6,List.nodup_cons]at hn;rcases ayn.1 hp with h1 | h1<;>rcases ayn.1 hq with h2 | h2
  ·rw[h1,h2]
  ·exact absurd (ayN.2 ⟨_,h2,by rw[<-e,h1]⟩) hn.1
  ·exact absurd (ayN.2 ⟨_,h1,by rw[e,h2]⟩) hn.1
  ·exact Cj hn.2 h1 h2 e
section
variable {P:Program} {W:World} {ti tp te ts:TypeId} {ms:Array (String × TypeId)} {f:Field} {nm:String}
theorem CH(hi:P.underlying ti=some (.interface ms))(av:∀u,P.typeName? 3 u=some nm->u=tp)
  (hp:P.underlying tp=some (.pointer te)) (he:P.underlying te=some (.struct #[f])) (aL:f.type=ts) (aN:f.offset=0) (hs:P.underlying ts=some .string) (hc:P.cellsOf te=1) (aO:P.cellsOf ts=1) :
  ∀(l:List (String × Nat × List UInt8)) {ps:List MemPlace},DataW.LaidVars P W (l.map λx=>(x.1,.iface nm (.ptr (.agg [.lit (.string x.2.2)])))) ps ->
  (∀x∈l,P.globalNamed x.1=some x.2.1∧(P.globals[x.2.1]?).map (·.type)=some ti) ->
  (∀b off,az6 b off∈ps->(∃c t,W.heap[b]?=some (.cells c t (0,0)))∧∀u v,W.cell? ⟨b,off,none⟩=some (.iface u v)->azQ P W .any 0 u v) ->
  ∃A:List (Nat × Addr),A.map (·.1)=l.map (·.2.1)∧(∀p∈A,∃T z,W.heap[p.1]?=some (.cells #[.iface tp (.pointer (some p.2))] T z)) ∧
   azK (A.map λp=>az6 p.2.block p.2.off) ps:=by
 intro l
 induction l with
 | nil=>intro _ _ _ _;exact⟨[],rfl,by simp,by simp⟩
 | cons x l ih =>
  intro ps h hg hr;obtain⟨g,t,cs,fuel,p,q,h1,h2,h3,h4,h5,rfl⟩:=h;obtain⟨g1,g2⟩:=hg x (List.mem_cons_self ..);obtain rfl:=ax9 (h1.symm.trans g1);obtain rfl:=ax9 (h2.symm.trans g2);obtain⟨A,a1,a2,a3⟩:=ih h5 (λy hy=>hg y (List.mem_cons_of_mem _ hy)) (λb off hb=>hr b off (by simp[hb]));obtain⟨cl⟩:=cs;obtain⟨a,s,e1,e2,e3,e4,e5⟩:=errorString_of_trod hi av hp he aL aN hs hc aO h4 (λu v e=>by have e':cl=[.iface u v]:=e;subst e';exact(hr x.2.1 0 (by simp[az7])).2 u v (by simpa using azN h1 h3 0))
  have aP:cl=[.iface tp (.pointer (some a))]:=e1;subst aP;refine⟨(x.2.1,a)::A,by simp[a1],?_,?_⟩
  ·rintro y hy;rcases ayn.1 hy with rfl | hy
   ·simp only[World.var?,h1,axv]at h3;split at h3
    ·rename_i c T z hh;exact⟨T,z,by rw[hh];simp only[awR]at h3;rw[h3]⟩
    ·cases h3
   ·exact a2 y hy
  ·rw[aw6,e5,List.append_assoc];refine List.Sublist.trans ?_ (List.sublist_append_right _ _);simpa[az7]using a3
end
def Ec(W:World):Hp:=λb=>if vC.contains b then(match W.heap[b]? with | some (.cells cs _ _)=>some cs | _=>none) else none
theorem U7{W:World}{A:List (Nat × Addr)}{ps:List MemPlace}(h1:A.map (·.1)=vC)(h2:∀p∈A,∃T z,W.heap[p.1]?=some (.cells #[.iface fD (.pointer (some p.2))] T z))
  (h3:azK (A.map λp=>az6 p.2.block p.2.off) ps) (h4:ps.Nodup):pV (Ec W) W:=by
 have at_:∀g,g∈vC->∃a,(g,a)∈A∧Ec W g=some #[.iface fD (.pointer (some a))]:=λg hg=>by rw[<-h1]at hg;obtain⟨⟨g',a⟩,hp,rfl⟩:=ayN.1 hg;obtain⟨T,z,hh⟩:=h2 _ hp;refine⟨a,hp,?_⟩;have aw:vC.contains g'=true:=ayC.2 (by rw[<-h1];exact ayN.2 ⟨_,hp,rfl⟩);simp only at hh;simp only[Ec,aw,if_true,hh]
 refine⟨λb cs hb=>?_,⟨λg x hx=>?_,λt g t' g' e1 e2 aQ he=>?_⟩⟩
 ·unfold Ec at hb;split at hb
  ·split at hb
   ·rename_i c T z hh;simp only[awR]at hb;subst hb;exact⟨T,z,hh⟩
   ·cases hb
  ·cases hb
 ·unfold gl at hx;split at hx
  ·rename_i hg;simp only[awR]at hx;subst hx;obtain⟨a,_,ha⟩:=at_ g (ayC.1 hg);refine⟨.iface fD (.pointer (some a)),?_,?_⟩
   ·simp only[Den];exact⟨a,ha,rfl⟩
   ·rw[ha];rfl
  ·cases hx
 ·unfold gl at e1 e2;split at e1
  ·split at e2
   ·rename_i hg aw;obtain⟨a,ma,ha⟩:=at_ g (ayC.1 (by simpa using hg));obtain⟨a',aS,aT⟩:=at_ g' (ayC.1 (by simpa using aw));rw[ha,aT]at he;simp only[awR,Array.mk.injEq,List.cons.injEq,Value.iface.injEq,Value.pointer.injEq,and_true,true_and]at he;subst he;exact aQ (Prod.mk.inj (Cj (List.Nodup.sublist h3 h4) ma aS rfl)).1
   ·cases e2
  ·cases e1
end Go.Proofs
namespace Go.Proofs
open Go Go.Sv Go.ChangeShapes Go.WideShapes Go.RowKit
def zA : List (String × Nat × List UInt8) := [("optima/api.ErrText", 3, [111, 112, 116, 105, 109, 97, 58, 32, 116, 101, 120, 116]), ("optima/api.ErrBound", 4, [111, 112, 116, 105, 109, 97, 58, 32, 98, 111, 117, 110, 100]), ("optima/api.ErrZero", 5, [111, 112, 116, 105, 109, 97, 58, 32, 122, 101, 114, 111]), ("optima/api.ErrShape", 0, [111, 112, 116, 105, 109, 97, 58, 32, 115, 104, 97, 112, 101]), ("optima/api.ErrSingular", 1, [111, 112, 116, 105, 109, 97, 58, 32, 115, 105, 110, 103, 117, 108, 97, 114]), ("optima/api.ErrSense", 6, [111, 112, 116, 105, 109, 97, 58, 32, 115, 101, 110, 115, 101]), ("optima/api.ErrName", 7, [111, 112, 116, 105, 109, 97, 58, 32, 110, 97, 109, 101]), ("optima/api.ErrNumber", 8, [111, 112, 116, 105, 109, 97, 58, 32, 110, 117, 109, 98, 101, 114]), ("optima/api.ErrBasis", 2, [111, 112, 116, 105, 109, 97, 58, 32, 98, 97, 115, 105, 115]), ("optima/api.ErrOpen", 9, [111, 112, 116, 105, 109, 97, 58, 32, 111, 112, 101, 110])]
def GL : List (String × DataW Unit) := zA.map λx => (x.1, .iface "*errors.errorString" (.ptr (.agg [.lit (.string x.2.2)])))
theorem Tryz.FR:ay9.cellsOf 338=1:=by kernel_rfl
theorem Tryz.OT:ay9.cellsOf 9=1:=by kernel_rfl
theorem Tryz.Ok (u : TypeId) (h : ay9.typeName? 3 u = some "*errors.errorString") : u = 319 :=
 typeName_ptr_named (nm := "errors.errorString") (by rw [show "*" ++ "errors.errorString" = "*errors.errorString" by decide]; kernel_rfl) (by kernel_rfl) (by decide) u (by rw [show "*" ++ "errors.errorString" = "*errors.errorString" by decide]; exact h)
theorem Tryz.yo:∀x∈zA,ay9.globalNamed x.1=some x.2.1∧(ay9.globals[x.2.1]?).map (·.type)=some 33:=by
 have h:zA.all (λx=>decide (ay9.globalNamed x.1=some x.2.1)&&decide ((ay9.globals[x.2.1]?).map (·.type)=some 33))=true:=by kernel_rfl
 intro x hx;have:=List.all_eq_true.1 h x hx;simpa using this
theorem Tryz.Hi{W:World}(h:laidMet ay9 GL W):pV (Ec W) W:=by obtain⟨ps,h1,h2,h3⟩:=h;obtain⟨A,a1,a2,a3⟩:=CH azn Tryz.Ok azo az8 rfl rfl az9 Tryz.FR Tryz.OT zA h1 Tryz.yo h3;exact U7 (by rw[a1];rfl) a2 a3 h2
noncomputable def Tryz.low:Nat:=(azO ay9 default ⟨#[],#[],[]⟩).heap.size
noncomputable def Tryz.CJ(os:Os):World :=
 let w0:=azO ay9 os ⟨(zA.map λx=>Obj.cells #[.string ⟨x.2.2.toArray⟩] 338).toArray,#[],[]⟩
 { w0 with heap:=zA.zipIdx.foldl (λh x=>h.modify x.1.2.1 fun
      | .cells _ t frozen=>.cells #[.iface 319 (.pointer (some ⟨Tryz.low+x.2,0,none⟩))] t frozen
      | o=>o) w0.heap }
end Go.Proofs
namespace Go.Proofs
open Go Go.Sv Go.ChangeShapes Go.WideShapes Go.RowKit
theorem Tryz.et : ay9.globalNamed "errors.errorType" = some 10 := by kernel_rfl
theorem Tryz.rt : (ay9.cutTypes.find? (·.1 == "internal/reflectlite.rtype")).map (·.2) = some 291 := by kernel_rfl
theorem Tryz.WA:((ayq 350).filter λt=>ay9.rowNamed t [101,114,114,111,114])=[33]:=by kernel_rfl
theorem Tryz.agl:ay9.types.size=350:=by kernel_rfl
theorem VA{W:World}{A:List (Nat × Addr)}{ps:List MemPlace}(h1:A.map (·.1)=vC)(h2:∀p∈A,∃T z,W.heap[p.1]?=some (.cells #[.iface fD (.pointer (some p.2))] T z))
  (h3:azK (A.map λp=>az6 p.2.block p.2.off) ps) (hr:∀b off,az6 b off∈ps->∃c t,W.heap[b]?=some (.cells c t (0,0)))
  (hh:W.cell? ⟨10,0,none⟩=some (.iface 291 (.agg #[.pointer (some ⟨11,33,none⟩)]))):LP W:=by
 refine⟨λg hg=>?_,hh⟩;have hg:=ayC.1 hg;rw[<-h1]at hg;obtain⟨⟨g',a⟩,hp,rfl⟩:=ayN.1 hg;obtain⟨T,z,e1⟩:=h2 _ hp;obtain⟨c,t,e2⟩:=hr a.block a.off (h3.subset (ayN.2 ⟨_,hp,rfl⟩));exact⟨a,T,z,c,t,e1,e2⟩
theorem A1{P:Program}{l s:List (String × DataW Unit)}{a:String × DataW Unit}{W:World}(h1:(l.filter λx=>x.2.handleName?.isSome)=[a])(h2:(l.filter λx=>x.2.handleName?.isNone)=s)(h:laidMetH P l W):laidMet P s W∧handlesMet P [a] W:=by unfold laidMetH at h;rw[h1,h2]at h;exact h
theorem Tryz.FA{W:World}(h:laidMetH ay9 aAa.laid W):pV (Ec W) W∧LP W:=by
 obtain ⟨hl, hh⟩ := A1 (l := aAa.laid) (a := ("errors.errorType", aAb)) (s := GL) (by kernel_rfl) (by kernel_rfl) h
 refine⟨Tryz.Hi hl,?_⟩;obtain⟨ps,h1,h2,h3⟩:=hl;obtain⟨A,a1,a2,a3⟩:=CH azn Tryz.Ok azo az8 rfl rfl az9 Tryz.FR Tryz.OT zA h1 Tryz.yo h3;refine VA (by rw[a1];rfl) a2 a3 (λb off hb=>(h3 b off hb).1) ?_;obtain⟨name,u,ty,e1,e2,e3,e4,e5⟩:=hh _ (ayo.2 rfl);have en:name=[101,114,114,111,114]:=(ax9 e1).symm;subst en;obtain rfl:=ax9 (Tryz.rt.symm.trans e2);have hm:ty∈(ayq 350).filter λt=>ay9.rowNamed t [101,114,114,111,114]:=List.mem_filter.2 ⟨List.mem_range.2 (by rw[<-Tryz.agl];exact e3),e4⟩;rw[Tryz.WA]at hm;obtain rfl:=ayo.1 hm;have aU:typeHandle ay9 33=.pointer (some ⟨11,33,none⟩):=by kernel_rfl
 rw[aU]at e5;simpa using azN Tryz.et e5 0
noncomputable def Tryz.tN(os:Os):World :=
 { Tryz.CJ os with heap:=(Tryz.CJ os).heap.modify 10 fun
   | .cells _ t frozen=>.cells #[.iface 291 (.agg #[.pointer (some ⟨11,33,none⟩)])] t frozen
   | o=>o }
end Go.Proofs
namespace Go.Proofs
open Go Go.Sv Go.ChangeShapes Go.WideShapes Go.RowKit
theorem Td{W:World}(h:pV (Ec W) W):pV (wW W) W:=by
 refine⟨λb cs hb=>?_,h.2.mono λb cs hb=>?_⟩
 ·unfold wW at hb;split at hb
  ·rename_i c T z hh;simp only[awR]at hb;subst hb;exact⟨T,z,hh⟩
  ·cases hb
 ·unfold Ec at hb;split at hb
  ·split at hb
   ·rename_i c T z hh;simp only[awR]at hb;subst hb;simp[wW,hh]
   ·cases hb
  ·cases hb
theorem LS{β:cu}{H:Hp}{x:SV}{v:Value}{l:List SV}{vs:List Value}(h:Den β H x v)(h':bZ β H l vs):bZ β H (x::l) (v::vs):=by simp only[bZ];exact⟨v,vs,rfl,h,h'⟩
theorem PE{β:cu}{H:Hp}:bZ β H [] []:=by simp[bZ]
theorem AL{P:Program}{fn:FuncId}{args:List SV}{b:Bool}(h:Bp P fn args (λx=>x=.val (.bool b))){W:World}(hW:pV (Ec W) W∧LP W){ah:List Value}(hd:bZ o4 (wW W) args ah) :
  Calls P fn ah.toArray W λe W'=>e=.returned (.bool b)∧Below W.heap.size W W':=by
 refine(h (wW W) W ah (Td hW.1) hW.2 hd).mono λe W' ⟨H',v,x,e1,e2,e3,_,_,_,e4⟩=>?_;subst e3;simp only[Den]at e2;exact⟨by rw[e1,e2.1],e4⟩
end Go.Proofs


/- A text of the prover's own. -/
import Derived.ChangeSame
import Derived.ChangeMaps5
import GoSem.ClaimJoined
import Derived.Test.YtnimjdcaajmfcaaGreatDoorBEs
import Derived.Test.YtnimjdcaajmfcaaGreatDoorRows
import Derived.RowKit
import Derived.LaidLaws
import Derived.ProofKit
import Derived.OpenShut
import Derived.Deep.DeepHandedRow
import Derived.Deep.DeepWitnessRowRef
import Derived.LaidHandle
open List renaming getElem?_eq_getElem->asB,length_cons->asw,map_cons->asF,all_append->atV,mem_cons->atf,all_cons->atW,length_map->atT,mem_map->atB,length_eq_zero_iff->as0,getElem?_cons_zero->as9,mem_append_left->ats,range->ati,getElem?_eq_some_iff->ata,getElem?_range->atX,Sublist->atY,contains_iff_mem->atq
open Nat renaming not_lt_zero->atZ,add_mul->asn,eq_zero_or_pos->as1
open Go.World renaming cell?->awX,sameAt->awY,holding->awZ
open Go.Addr renaming add->aw0
open Go.Value renaming cells->px,oneCell'->pe,okWide->aw1
open Go.DataW renaming trod->aw2,weightsEach->aw3,trod_struct->aw4,weights->aw5,weightsAll->aw6,trod_int->aw7,trod_string->aw8,trod_bool->aw9,trod_slice->axa,Trod->axb,trod_step->axc,trodStep->axd,TrodAll->axe
open Bool renaming and_eq_true->atl,not_eq_true'->atz
open Option renaming bind_eq_some_iff->at0,bind_some->asR
open Option.some renaming inj->as6,injEq->ass
open Go.MemPlace renaming mem_row->axf,cell->axg,row->axh
open Go.Proofs.Tryz renaming prog->awW
open Go.Proofs.YtnimjdcaajmfcaaGreatDoor.Rows renaming simplexBestRow->axi
namespace Go.Sv
open Go Go.ChangeShapes Go.WideShapes
inductive Pt where
 | int (k:IntKind) | str | bool | sl (e:Pt) | unit | pair (a b:Pt)
def Pt.T:Pt->Type
 | .int _=>Int
 | .str=>ByteArray
 | .bool=>Bool
 | .sl e=>List e.T
 | .unit=>Unit
 | .pair a b=>a.T × b.T
def Pt.oV:Pt->Bool
 | .unit=>true
 | .pair _ _=>true
 | _=>false
def Pt.n:Pt->Nat
 | .unit=>0
 | .pair a b=>a.n+b.n
 | _=>1
def GO(b:Bool)(l:List SV):SV:=if b then .agg l else aL l 0
def Pt.cs:(p:Pt)->p.T->List SV
 | .int k,(x:Int)=>[.val (.int k x)]
 | .str,(x:ByteArray)=>[.val (.string x)]
 | .bool,(x:Bool)=>[.val (.bool x)]
 | .sl e,(x:List e.T)=>[.ro (x.map λy=>GO e.oV (e.cs y))]
 | .unit,_=>[]
 | .pair a b,(x:a.T × b.T)=>a.cs x.1++b.cs x.2
def Pt.sv(p:Pt)(x:p.T):SV:=GO p.oV (p.cs x)
def Pt.wf:(p:Pt)->p.T->Prop
 | .int k,(x:Int)=>(Lit.int k x).wf=true
 | .str,(x:ByteArray)=>x.size<=reachBytes
 | .bool,_=>True
 | .sl e,(x:List e.T)=>x.length<=reachBytes∧∀y∈x,e.wf y
 | .unit,_=>True
 | .pair a b,(x:a.T × b.T)=>a.wf x.1∧b.wf x.2
def Pt.bk:(p:Pt)->p.T->Nat
 | .int _,_=>1
 | .str,(x:ByteArray)=>x.size+1
 | .bool,_=>1
 | .sl e,(x:List e.T)=>(x.map e.bk).sum+1
 | .unit,_=>0
 | .pair a b,(x:a.T × b.T)=>a.bk x.1+b.bk x.2
structure Bk{Hh:Type}(f:DataW Hh->Nat)(g:List (DataW Hh)->Nat):Prop where
 lit:∀l,1<=f (.lit l)
 str:∀b,f (.lit (.string b))=b.length+1
 nil:f .nil=1
 sl:∀e r,f (.slice e r)=g e+g r+1
 agg:∀l,f (.agg l)=g l+1
 g0:g []=0
 g1:∀d r,g (d::r)=f d+g r
def Pt.lA(P:Program):Pt->TypeId->List Field->Nat->Bool
 | .int k,t,_,_=>match P.underlying t with | some (.int k')=>decide (k'=k) | _=>false
 | .str,t,_,_=>match P.underlying t with | some .string=>true | _=>false
 | .bool,t,_,_=>match P.underlying t with | some .bool=>true | _=>false
 | .sl e,t,_,_=>match P.underlying t with
  | some (.slice u)=>decide (P.cellsOf u=e.n)&&decide (0<e.n)&&decide (0<P.bytesOf u)&&(match P.underlying u with | some (.struct gs)=>e.oV&&e.lA P u gs.toList 0 | _=>!e.oV&&e.lA P u [] 0)
  | _=>false
 | .unit,_,fs,_=>fs.isEmpty
 | .pair a b,t,fs,o=>match fs with
  | []=>false
  | f::r=>decide (f.offset=o)&&decide (P.cellsOf f.type=a.n)&&(match P.underlying f.type with | some (.struct gs)=>a.oV&&a.lA P f.type gs.toList 0 | _=>!a.oV&&a.lA P f.type [] 0)&&b.oV&&b.lA P t r (o+a.n)
def Pt.bK(P:Program)(p:Pt)(t:TypeId):Bool:=(match P.underlying t with | some (.struct gs)=>p.oV&&p.lA P t gs.toList 0 | _=>!p.oV&&p.lA P t [] 0)
def Pt.fits(P:Program)(p:Pt)(t:TypeId):Bool:=decide (P.cellsOf t=p.n)&&p.bK P t
def ve(W:World):Hp:=λb=>match W.heap[b]? with | some (.cells cs _ _)=>some cs | _=>none
theorem Pt.Cl:∀(p:Pt) (x:p.T),(p.cs x).length=p.n
 | .int _,_=>rfl
 | .str,_=>rfl
 | .bool,_=>rfl
 | .sl _,_=>rfl
 | .unit,_=>rfl
 | .pair a b,x=>by simp only[Pt.cs,Pt.n,List.length_append,Pt.Cl a,Pt.Cl b]
theorem E1{α:Type}{q:Nat->α->Prop}:∀(n:Nat),(∀i,i<n->∃x,q i x)->∃l:List α,l.length=n∧∀i (h:i<l.length),q i l[i]
 | 0,_=>⟨[],rfl,λi h=>absurd h (atZ _)⟩
 | n+1,h=>by
  obtain⟨l,h1,h2⟩:=E1 (q:=q) n (λi hi=>h i (by omega));obtain⟨x,hx⟩:=h n (by omega);refine⟨l++[x],by simp[h1],λi hi=>?_⟩;by_cases e:i<l.length
  ·rw[List.getElem_append_left e];exact h2 i e
  ·have:i=l.length:=by simp at hi;omega
   subst this;simpa[h1]using hx
theorem IM{β:ca}{H:Hp}{s:Nat}{cb:Array Value}:∀(es:List SV) (o:Nat),(∀i (h:i<es.length),∃v,Den β H es[i] v∧v.cells.size=s∧∀j,j<s->cb[o+i*s+j]?=v.cells[j]?) ->
  ∃vs,aW β H s es vs∧∀q,q<vs.length->cb[o+q]?=vs[q]?
 | [],o,_=>⟨[],by simp[aW],λq hq=>absurd hq (atZ _)⟩
 | x::es,o,h=>by
  obtain⟨v,h1,h2,h3⟩:=h 0 (by simp);obtain⟨vs,h4,h5⟩:=IM (s:=s) (cb:=cb) es (o+s) (λi hi=>by obtain⟨v,g1,g2,g3⟩:=h (i+1) (by simpa using hi);refine⟨v,g1,g2,λj hj=>?_⟩;rw[<-g3 j hj];congr 1;rw[asn];omega)
  refine⟨v.cells.toList++vs,by simp only[aW];exact⟨v,vs,rfl,h2,h1,h4⟩,λq hq=>?_⟩;by_cases e:q<s
  ·rw[List.getElem?_append_left (by simpa[h2]using e)];have:=h3 q e;simpa using this
  ·rw[List.getElem?_append_right (by simp[h2];omega)];have:=h5 (q - s) (by simp[h2]at hq;omega);simp only[Array.length_toList,h2];rw[<-this];congr 1;omega
section
variable {Hh:Type} {enc:TypeId × Value->Hh} {P:Program} {W:World} {held:Bool}
theorem Ia{base:Nat}{a:Addr}{n:Nat}{cs:List Value}(h:W.cells? base a n=some cs)(hn:0<n) :
  a.spot=none∧∃cb T z,W.heap[a.block]?=some (.cells cb T z)∧∀j,j<n->cb[a.off+j]?=cs[j]?:=by
 obtain⟨_,hl,hc⟩:=World.cells?_some h;have h0:=hc 0 hn;simp only[aw0,if_true,awX]at h0;have hs:∃v,cs[0]?=some v:=⟨_,asB (by omega)⟩;obtain⟨v,hv⟩:=hs;rw[hv]at h0;split at h0
 ·rename_i cb T z hh;split at h0
  ·cases h0
  ·rename_i ai;refine⟨by simpa using ai,cb,T,z,hh,λj hj=>?_⟩;have:=hc j hj;rw[<-this];unfold aw0;by_cases e:j=0
   ·subst e;simp only[if_true,awX,hh];rw[if_neg ai];simp
   ·simp only[if_neg e,awX,hh];simp
 ·cases h0
theorem sK{β:ca}{H:Hp}{p:Pt}{x:p.T}{cs:List Value}(h:bE β H (p.cs x) cs):∃v:Value,v.cells.toList=cs∧v.cells.size=p.n∧Den β H (p.sv x) v:=by
 have hl:=h.length;rw[Pt.Cl]at hl;cases hp:p.oV with
 | true =>
  refine⟨.agg cs.toArray,by simp[px],by simp[px,hl],?_⟩;simp only[Pt.sv,GO,hp,if_true,Den];exact⟨cs,rfl,h⟩
 | false =>
  have hn:p.n=1:=by cases p<;>simp_all [Pt.oV,Pt.n]
  rw[hn]at hl;have hlen:(p.cs x).length=1:=by rw[Pt.Cl,hn]
  match hc:p.cs x,cs,hlen,hl with
  | [y],[v],_,_ =>
   rw[hc]at h;simp only[bE]at h;obtain⟨v',r,e,h1,h2,rfl⟩:=h;simp only[List.cons.injEq,and_true]at e;subst e;have:=dU (Den.one h2 h1);refine⟨v,by rw[this],by rw[this,hn];rfl,?_⟩;simp only[Pt.sv,GO,hp,hc,aL];exact h2
theorem vF{β:ca}{H:Hp}:∀{l l':List SV} {vs aj:List Value},bE β H l vs->bE β H l' aj->bE β H (l++l') (vs++aj)
 | [],l',vs,aj,h,h'=>by simp only[bE]at h;simpa[h]using h'
 | x::l,l',vs,aj,h,h'=>by simp only[bE]at h;obtain⟨v,r,rfl,h1,h2,h3⟩:=h;simp only[List.cons_append,bE];exact⟨v,r++aj,rfl,h1,h2,vF h3 h'⟩
theorem Bk.sum{f:DataW Hh->Nat}{g:List (DataW Hh)->Nat}(hb:Bk f g){α:Type}{m:α->Nat}:∀{ys:List α} {es:List (DataW Hh × List MemPlace)},ys.length=es.length->(∀i (h:i<ys.length) (h':i<es.length),m ys[i]<=f (es[i]).1)->(ys.map m).sum<=g (es.map (·.1))
 | [],[],_,_=>by simp[hb.g0]
 | y::ys,e::es,hl,h=>by have h0:=h 0 (by simp) (by simp);have hr:=Bk.sum hb (m:=m) (ys:=ys) (es:=es) (by simpa using hl) (λi a b=>by have:=h (i+1) (by simp only[asw];omega) (by simp only[asw];omega);simp only[List.getElem_cons_succ]at this;exact this);simp only[asF,List.sum_cons,hb.g1];simp only[List.getElem_cons_zero]at h0;omega
structure Rd(P:Program)(W:World)(enc:TypeId × Value->Hh)(held:Bool)(p:Pt):Prop where
 one:p.oV=false->∀(t:TypeId) (fuel:Nat) (cs:List Value) (x:DataW Hh × List MemPlace),p.lA P t [] 0=true->aw2 enc P W 0 (λ_=>true) held fuel t cs=some x ->
  (x.1.weights P t).all (·<=reachBytes)=true->∃y,p.wf y∧bE rz (ve W) (p.cs y) cs∧∀f g,Bk f g->p.bk y<=f x.1
 many:p.oV=true->∀(t:TypeId) (fs:List Field) (o fuel:Nat) (cs:List Value) (xs:List (DataW Hh × List MemPlace)),p.lA P t fs o=true->cs.length=o+p.n->xs.length=fs.length ->
  (∀(i:Nat) (f:Field),fs[i]?=some f->aw2 enc P W 0 (λ_=>true) held fuel f.type ((cs.drop f.offset).take (P.cellsOf f.type))=xs[i]?) ->
  (aw3 P (fs.map (·.type)) (xs.map (·.1))).all (·<=reachBytes)=true->∃y,p.wf y∧bE rz (ve W) (p.cs y) (cs.drop o)∧∀f g,Bk f g->p.bk y<=g (xs.map (·.1))
theorem Rd.here{p:Pt}(h:Rd P W enc held p){t:TypeId}{fuel:Nat}{cs:List Value}{x:DataW Hh × List MemPlace}(hf:p.bK P t=true)(hn:P.cellsOf t=p.n)(ht:aw2 enc P W 0 (λ_=>true) held fuel t cs=some x)
  (hw:(x.1.weights P t).all (·<=reachBytes)=true):∃y,p.wf y∧bE rz (ve W) (p.cs y) cs∧∀f g,Bk f g->p.bk y<=f x.1:=by
 unfold Pt.bK at hf;split at hf
 ·rename_i gs hu;simp only[atl]at hf;obtain⟨xs,n,rfl,hx,hl,hlen,aa⟩:=aw4 hu ht;subst hx;obtain⟨y,q1,q2,q3⟩:=h.many hf.1 t gs.toList 0 n cs xs hf.2 (by rw[hl,hn];omega) (by simpa using hlen) (λi f hi=>aa i f (by simpa using hi)) (by simpa[aw5,hu]using hw);exact⟨y,q1,by simpa using q2,λf g hb=>by have:=q3 f g hb;simp only[hb.agg];omega⟩
 ·simp only[atl,atz]at hf;exact h.one hf.1 t fuel cs x hf.2 ht hw
theorem ph{e:TypeId}:∀{l:List (DataW Hh)} {d:DataW Hh},d∈l->(aw6 P e l).all (·<=reachBytes)=true->(d.weights P e).all (·<=reachBytes)=true
 | a::l,d,h,hw=>by
  simp only[aw6,atV,atl]at hw;rcases atf.1 h with rfl | h
  ·exact hw.1
  ·exact ph h hw.2
theorem Dr:∀p:Pt,Rd P W enc held p
 | .int k=>⟨λ_ t fuel cs x hf ht hw=>by
   simp only[Pt.lA]at hf;split at hf
   ·rename_i k' hu;simp only[decide_eq_true_eq]at hf;subst hf;obtain⟨n,rfl,rfl,h⟩:=aw7 hu ht;exact⟨n,h,by simp only[Pt.cs,bE];exact⟨_,_,rfl,rfl,by simp[Den,pe],rfl⟩,λf g hb=>hb.lit _⟩
   ·(cases hf),λh=>by cases h⟩
 | .str=>⟨λ_ t fuel cs x hf ht hw=>by
   simp only[Pt.lA]at hf;split at hf
   ·rename_i hu;obtain⟨s,rfl,rfl,h⟩:=aw8 hu ht;simp only[aw5,atW,List.all_nil,Bool.and_true,decide_eq_true_eq]at hw;exact⟨s,by simpa[Pt.wf]using hw,by simp only[Pt.cs,bE];exact⟨_,_,rfl,rfl,by simp[Den,pe],rfl⟩,λf g hb=>by rw[hb.str];exact Nat.le_refl _⟩
   ·(cases hf),λh=>by cases h⟩
 | .bool=>⟨λ_ t fuel cs x hf ht hw=>by
   simp only[Pt.lA]at hf;split at hf
   ·rename_i hu;obtain⟨b,rfl,rfl⟩:=aw9 hu ht;exact⟨b,trivial,by simp only[Pt.cs,bE];exact⟨_,_,rfl,rfl,by simp[Den,pe],rfl⟩,λf g hb=>hb.lit _⟩
   ·(cases hf),λh=>by cases h⟩
 | .unit=>⟨λh=>(by cases h),λ_ t fs o fuel cs xs hf hl hx aa hw=>by refine⟨(),trivial,?_,λf g hb=>Nat.zero_le _⟩;simp only[Pt.cs,bE];rw[List.drop_eq_nil_of_le (by simp[Pt.n]at hl;omega)]⟩
 | .pair a b=>⟨λh=>(by cases h),λ_ t fs o fuel cs xs hf hl hx aa hw=>by
   simp only[Pt.lA]at hf;split at hf
   ·cases hf
   ·rename_i f r;simp only[atl,decide_eq_true_eq]at hf;obtain⟨⟨⟨⟨h1,h2⟩,h3⟩,hb⟩,h4⟩:=hf
    match xs,hx with
    | x0::xr,hx =>
    have ax:(x0.1.weights P f.type).all (·<=reachBytes)=true∧(aw3 P (r.map (·.type)) (xr.map (·.1))).all (·<=reachBytes)=true:=by simpa only[asF,aw3,atV,atl]using hw
    simp only[Pt.n]at hl;obtain⟨y,wy,dy,ky⟩:=(Dr a).here (t:=f.type) (by unfold Pt.bK;exact h3) h2 (by simpa using aa 0 f rfl) ax.1;have hr:=(Dr b);have key:∃z,b.wf z∧bE rz (ve W) (b.cs z) (cs.drop (o+a.n))∧∀f g,Bk f g->b.bk z<=g (xr.map (·.1)):=by exact hr.many hb t r (o+a.n) fuel cs xr h4 (by omega) (by simpa using hx) (λi f hi=>by simpa using aa (i+1) f (by simpa using hi)) ax.2
    obtain⟨z,wz,dz,kz⟩:=key;refine⟨(y,z),⟨wy,wz⟩,?_,λf g hb=>by have:=ky f g hb;have:=kz f g hb;simp only[Pt.bk,asF,hb.g1];omega⟩;simp only[Pt.cs];have:=vF dy dz;rw[h1,h2]at this
    rwa [<-List.drop_drop,List.take_append_drop]at this⟩
 | .sl e=>⟨λ_ t fuel cs x hf ht hw=>by
   simp only[Pt.lA]at hf;split at hf
   ·rename_i u hu;simp only[atl,decide_eq_true_eq]at hf;obtain⟨⟨⟨h1,h2⟩,h3⟩,h4⟩:=hf;rcases axa hu ht with⟨rfl,rfl⟩ | ⟨ad,len,cap,elems,rest,n,rfl,rfl,rfl,hb,hle,hm,hlen,ao,ai,ay⟩
    ·refine⟨([]:List e.T),⟨by simp,by simp⟩,?_,λf g hb=>by simp[Pt.bk,hb.nil]⟩;simp only[Pt.cs,List.map_nil,bE];exact⟨_,_,rfl,rfl,by simp only[Den];exact .inl ⟨trivial,_,_,rfl⟩,rfl⟩
    ·simp only[aw5,hu,atW,atV,atl,decide_eq_true_eq,atT]at hw;obtain⟨w1,w2,w3⟩:=hw;have el:∀i,i<len->∃(ac:List Value) (z:DataW Hh × List MemPlace),W.cells? 0 (ad.add (i*P.cellsOf u)) (P.cellsOf u)=some ac∧aw2 enc P W 0 (λ_=>true) held n u ac=some z∧elems[i]?=some z:=λi hi=>by
      have:=ao i hi;rw[asB (by omega)]at this;obtain⟨ac,g1,g2⟩:=at0.1 this;exact⟨ac,_,g1,g2,asB (by omega)⟩
     obtain⟨ys,an,hy⟩:=E1 (q:=λi y=>e.wf y∧(∀h:i<elems.length,∀f g,Bk f g->e.bk y<=f (elems[i]).1)∧∃ac,W.cells? 0 (ad.add (i*P.cellsOf u)) (P.cellsOf u)=some ac∧bE rz (ve W) (e.cs y) ac) len (λi hi=>by obtain⟨ac,z,g1,g2,g3⟩:=el i hi;obtain⟨y,q1,q2,q3⟩:=(Dr e).here (t:=u) (by unfold Pt.bK;exact h4) h1 g2 (ph (l:=elems.map (·.1)) (atB.2 ⟨z,List.mem_of_getElem? g3,rfl⟩) w2);exact⟨y,q1,λh f g hb=>by have:=q3 f g hb;rw[asB h]at g3;rw[as6 g3];exact this,ac,g1,q2⟩)
     have aA:len<=reachBytes:=by have:=Nat.le_mul_of_pos_right (elems.length+rest.length) h3;omega
     refine⟨(ys:List e.T),⟨by rw[an];exact aA,λy aB=>?_⟩,?_,λf g hb=>?_⟩
     ·obtain⟨i,hi,rfl⟩:=List.getElem_of_mem aB;exact(hy i hi).1
     ·simp only[Pt.cs,bE];refine⟨_,_,rfl,rfl,?_,rfl⟩;simp only[Den];rcases as1 len with rfl | aC
      ·left;exact⟨by simp[as0.1 an],_,_,rfl⟩
      ·right;obtain⟨_,_,aV,g0,_⟩:=hy 0 (by omega);rw[Nat.zero_mul]at g0;have aD:ad.add 0=ad:=by simp[aw0]
       rw[aD]at g0;obtain⟨ak,cb,T,z,hh,_⟩:=Ia g0 (by omega);obtain⟨vs,d1,d2⟩:=IM (β:=rz) (H:=ve W) (s:=e.n) (cb:=cb) (ys.map λy=>GO e.oV (e.cs y)) ad.off (λi hi=>by
        simp only[atT]at hi;obtain⟨_,_,ac,g1,g2⟩:=hy i hi;obtain⟨v,q1,q2,q3⟩:=sK g2;obtain⟨_,aX,T',z',ap,az⟩:=Ia g1 (by omega);have aq:(ad.add (i*P.cellsOf u)).block=ad.block:=by unfold aw0;split<;>rfl
        have ar:(ad.add (i*P.cellsOf u)).off=ad.off+i*P.cellsOf u:=by unfold aw0;split<;>simp_all
        rw[aq,hh]at ap;simp only[ass,Obj.cells.injEq]at ap;obtain⟨rfl, -, -⟩:=ap;refine⟨v,by rw[List.getElem_map];exact q3,q2,λj hj=>?_⟩;rw[ar,h1]at az;rw[az j hj,<-q1];simp)
       refine⟨ad.block,ad.off,cap,e.n,cb,vs,?_,by simp[an,hle],by simp[ve,hh],d1,d2⟩;simp only[atT,an];obtain⟨bb,oo,ss⟩:=ad;simp only at ak;subst ak;rfl
     ·have:=hb.sum (m:=e.bk) (ys:=ys) (es:=elems) (by omega) (λi h h'=>(hy i h).2.1 h' f g hb);simp only[Pt.bk,hb.sl];omega
   ·(cases hf),λh=>by cases h⟩
theorem Pt.QD{p:Pt}{t:TypeId}{v:Value}{d:DataW Hh}{ps:List MemPlace}{base:Nat}{r:Reach}(hf:p.fits P t=true)(ab:aw1 P W r base t v)(ht:axb enc P W 0 (λ_=>true) held t v d ps)
  (hw:(d.weights P t).all (·<=reachBytes)=true):∃y,p.wf y∧Den rz (ve W) (p.sv y) v∧∀f g,Bk f g->p.bk y<=f d:=by
 simp only[Pt.fits,atl,decide_eq_true_eq]at hf;obtain⟨fuel,ht⟩:=ht;obtain⟨y,wy,dy,ky⟩:=(Dr (P:=P) (W:=W) (enc:=enc) (held:=held) p).here hf.2 hf.1 ht hw;refine⟨y,wy,?_,ky⟩;have ae:=hf.2;unfold Pt.bK at ae;split at ae
 ·rename_i gs hu;simp only[atl]at ae;unfold aw1 at ab;rw[hu]at ab;obtain⟨cs,rfl, -, -⟩:=ab;simp only[Pt.sv,GO,ae.1,if_true,Den];exact⟨_,by simp[px],dy⟩
 ·rename_i ay;simp only[atl,atz]at ae;obtain⟨v',h1,h2,h3⟩:=sK dy;have hv:v.cells=#[v]:=by
   cases v<;>try rfl
   ·rename_i cs;exfalso;cases p<;>simp only[Pt.oV,Pt.lA]at ae;all_goals first | (cases ae.1;done) | skip
    all_goals
     have al:=ae.2;split at al
     ·rename_i hu;unfold aw1 at ab;rw[hu]at ab;simp[Cell.okWide,Cell.ok,hu]at ab
     ·cases al
  have aE:v'=v:=by
   have e:=congrArg List.toArray h1;simp only[Array.toArray_toList]at e;rw[hv]at e;have au:(p.sv y).one=true:=by cases p<;>simp_all [Pt.oV,Pt.sv,GO,Pt.cs,SV.one,pe]
   rw[dU (Den.one h3 au)]at e;simpa using e
  rw[<-aE];exact h3
theorem mr{α β:Type}{g:α->Option β}:∀{l:List α} {xs:List β},xs.length=l.length->(∀(i:Nat) (f:α),l[i]?=some f->g f=xs[i]?)->l.mapM g=some xs
 | [],[],_,_=>by simp
 | [],_::_,h,_=>by simp at h
 | _::_,[],h,_=>by simp at h
 | a::l,x::xs,h,hg=>by have h0:=hg 0 a rfl;have hr:=mr (g:=g) (l:=l) (xs:=xs) (by simpa using h) (λi f hi=>by simpa using hg (i+1) f (by simpa using hi));simp only[as9]at h0;simp[List.mapM_cons,h0,hr]
structure Rs(P:Program)(W W':World)(enc:TypeId × Value->Hh)(held:Bool)(sp:Nat->Bool)(p:Pt):Prop where
 one:p.oV=false->∀(t:TypeId) (fuel:Nat) (cs:List Value) (x:DataW Hh × List MemPlace),p.lA P t [] 0=true->aw2 enc P W 0 (λ_=>true) held fuel t cs=some x ->
  (∀q∈x.2,sp q.block=true∧W.sameAt W' q)->aw2 enc P W' 0 sp held fuel t cs=some x
 many:p.oV=true->∀(t:TypeId) (fs:List Field) (o fuel:Nat) (cs:List Value) (xs:List (DataW Hh × List MemPlace)),p.lA P t fs o=true->xs.length=fs.length ->
  (∀(i:Nat) (f:Field),fs[i]?=some f->aw2 enc P W 0 (λ_=>true) held fuel f.type ((cs.drop f.offset).take (P.cellsOf f.type))=xs[i]?) ->
  (∀q∈xs.flatMap (·.2),sp q.block=true∧W.sameAt W' q) ->
  ∀(i:Nat) (f:Field),fs[i]?=some f->aw2 enc P W' 0 sp held fuel f.type ((cs.drop f.offset).take (P.cellsOf f.type))=xs[i]?
theorem Rs.here{W':World}{sp:Nat->Bool}{p:Pt}(h:Rs P W W' enc held sp p){t:TypeId}{fuel:Nat}{cs:List Value}{x:DataW Hh × List MemPlace}(hf:p.bK P t=true)(ht:aw2 enc P W 0 (λ_=>true) held fuel t cs=some x)
  (hs:∀q∈x.2,sp q.block=true∧W.sameAt W' q):aw2 enc P W' 0 sp held fuel t cs=some x:=by
 unfold Pt.bK at hf;split at hf
 ·rename_i gs hu;simp only[atl]at hf;obtain⟨xs,n,rfl,hx,hl,hlen,aa⟩:=aw4 hu ht;subst hx;have:=h.many hf.1 t gs.toList 0 n cs xs hf.2 (by simpa using hlen) (λi f hi=>aa i f (by simpa using hi)) hs;exact trod_struct_mk hu hl (mr (by simpa using hlen) (λi f hi=>this i f hi))
 ·simp only[atl,atz]at hf;exact h.one hf.1 t fuel cs x hf.2 ht hs
theorem IT{W':World}{sp:Nat->Bool}:∀p:Pt,Rs P W W' enc held sp p
 | .int k=>⟨λ_ t fuel cs x hf ht hs=>by
   simp only[Pt.lA]at hf;split at hf
   ·rename_i k' hu;obtain⟨n,rfl,rfl,h⟩:=aw7 hu ht;cases fuel with
    | zero=>simp[aw2]at ht
    | succ m=>exact trod_int_mk m hu h
   ·(cases hf),λh=>by cases h⟩
 | .str=>⟨λ_ t fuel cs x hf ht hs=>by
   simp only[Pt.lA]at hf;split at hf
   ·rename_i hu;obtain⟨s,rfl,rfl,h⟩:=aw8 hu ht;cases fuel with
    | zero=>simp[aw2]at ht
    | succ m=>rw[axc];unfold axd;simp[hu,h]
   ·(cases hf),λh=>by cases h⟩
 | .bool=>⟨λ_ t fuel cs x hf ht hs=>by
   simp only[Pt.lA]at hf;split at hf
   ·rename_i hu;obtain⟨b,rfl,rfl⟩:=aw9 hu ht;cases fuel with
    | zero=>simp[aw2]at ht
    | succ m=>rw[axc];unfold axd;simp[hu]
   ·(cases hf),λh=>by cases h⟩
 | .unit=>⟨λh=>(by cases h),λ_ t fs o fuel cs xs hf hx aa hs i f hi=>by simp only[Pt.lA,List.isEmpty_iff]at hf;subst hf;simp at hi⟩
 | .pair a b=>⟨λh=>(by cases h),λ_ t fs o fuel cs xs hf hx aa hs i f hi=>by
   simp only[Pt.lA]at hf;split at hf
   ·cases hf
   ·rename_i f0 r;simp only[atl,decide_eq_true_eq]at hf;obtain⟨⟨⟨⟨h1,h2⟩,h3⟩,hb⟩,h4⟩:=hf
    match xs,hx with
    | x0::xr,hx =>
    cases i with
    | zero =>
     simp only[as9,ass]at hi ⊢;subst hi;exact(IT a).here (by unfold Pt.bK;exact h3) (by simpa using aa 0 f0 rfl) (λq hq=>hs q (by simp[hq]))
    | succ i =>
     simp only[List.getElem?_cons_succ]at hi ⊢;exact(IT b).many hb t r (o+a.n) fuel cs xr h4 (by simpa using hx) (λi f hi=>by simpa using aa (i+1) f (by simpa using hi)) (λq hq=>hs q (by simp only[List.flatMap_cons,List.mem_append];exact .inr hq)) i f hi⟩
 | .sl e=>⟨λ_ t fuel cs x hf ht hs=>by
   simp only[Pt.lA]at hf;split at hf
   ·rename_i u hu;simp only[atl,decide_eq_true_eq]at hf;obtain⟨⟨⟨h1,h2⟩,h3⟩,h4⟩:=hf;rcases axa hu ht with⟨rfl,rfl⟩ | ⟨ad,len,cap,elems,rest,n,rfl,rfl,rfl,hb,hle,hm,hlen,ao,ai,ay⟩
    ·cases fuel with
     | zero=>simp[aw2]at ht
     | succ m=>rw[axc];unfold axd;simp[hu]
    ·obtain⟨aF,aH⟩:=ai rfl;have aq:∀i,(ad.add i).block=ad.block:=λi=>by unfold aw0;split<;>rfl
     have ar:∀i,(ad.add i).off=ad.off+i:=λi=>by unfold aw0;split<;>simp_all
     have one:∀i (z:DataW Hh × List MemPlace),i<elems.length+rest.length->z∈elems++rest->(W.cells? 0 (ad.add (i*P.cellsOf u)) (P.cellsOf u)).bind (aw2 enc P W 0 (λ_=>true) held n u)=some z ->
       (W'.cells? 0 (ad.add (i*P.cellsOf u)) (P.cellsOf u)).bind (aw2 enc P W' 0 sp held n u)=some z:=λi z hi hz h=>by
      obtain⟨ac,g1,g2⟩:=at0.1 h;have aI:=World.cells?_carry (w':=W') g1 (λq hq=>by obtain⟨j,hj,rfl⟩:=axf.1 hq;refine(hs _ (ats _ (axf.2 ⟨i*P.cellsOf u+j,?_,by rw[aq,ar,Nat.add_assoc]⟩))).2;have:=Nat.mul_le_mul_right (P.cellsOf u) (show i+1<=elems.length+rest.length from hi);rw[asn,Nat.one_mul]at this;omega)
      rw[aI];exact(IT e).here (by unfold Pt.bK;exact h4) g2 (λq hq=>hs q (List.mem_append_right _ (List.mem_flatMap.2 ⟨z,hz,hq⟩)))
     have hA:(ati len).mapM (λi=>(W'.cells? 0 (ad.add (i*P.cellsOf u)) (P.cellsOf u)).bind (aw2 enc P W' 0 sp held n u))=some elems:=by
      refine mr (by simp[hlen]) (λi k hi=>?_);have aP:i<len:=by have:=(ata.1 hi).1;simpa using this
      rw[atX aP]at hi;simp only[ass]at hi;subst hi;have he:=ao i aP;rw[asB (by omega)]at he ⊢;exact one i _ (by omega) (by simp) he
     have hB:(if sp ad.block then(ati (cap - len)).mapM (λj=>(W'.cells? 0 (ad.add ((len+j)*P.cellsOf u)) (P.cellsOf u)).bind (aw2 enc P W' 0 sp held n u)) else some [])=some rest:=by
      split
      ·refine mr (by simp[aF]) (λi k hi=>?_);have aP:i<cap - len:=by
        have:=(ata.1 hi).1;simpa using this
       rw[atX aP]at hi;simp only[ass]at hi;subst hi;have he:=aH i aP;rw[asB (by omega)]at he ⊢;exact one (len+i) _ (by omega) (by simp) he
      ·rename_i aJ;rcases as1 (elems.length+rest.length)with h0 | h0
       ·have:rest.length=0:=by omega
        rw[as0.1 this]
       ·exfalso;refine aJ (hs _ (ats _ (axf.2 ⟨0,Nat.mul_pos h0 (by omega),rfl⟩))).1
     rw[axc];unfold axd;simp only[hu];rw[if_pos ⟨hb,hle,hm⟩,hA];simp only[asR];rw[hB];rfl
   ·(cases hf),λh=>by cases h⟩
theorem Cz{W W':World}(h:Go.RowKit.Below W.heap.size W W'){q:MemPlace}(hq:q.block<W.heap.size):W.sameAt W' q:=by
 cases q with
 | cell b off=>simp only[awY,awX];rw[h.block b hq]
 | map b=>simp only[awY];exact h.block b hq
theorem Hd{W':World}{sp:Nat->Bool}{p:Pt}{t:TypeId}{v:Value}{d:DataW Hh}{ps:List MemPlace}(hf:p.fits P t=true)(h:axb enc P W 0 (λ_=>true) held t v d ps)(hs:∀q∈ps,sp q.block=true∧W.sameAt W' q) :
  axb enc P W' 0 sp held t v d ps:=by
 simp only[Pt.fits,atl,decide_eq_true_eq]at hf;obtain⟨fuel,h⟩:=h;exact⟨fuel,(IT p).here hf.2 h hs⟩
theorem rA{W':World}{sp:Nat->Bool}:∀{pts:List Pt} {ts:List TypeId} {vs:List Value} {ds:List (DataW Hh)} {ps:List MemPlace},pts.length=ts.length->(∀(i:Nat) (p:Pt) (t:TypeId),pts[i]?=some p->ts[i]?=some t->p.fits P t=true) ->
  axe enc P W 0 (λ_=>true) held ts vs ds ps->(∀q∈ps,sp q.block=true∧W.sameAt W' q)->axe enc P W' 0 sp held ts vs ds ps
 | pts,[],vs,ds,ps,hl,hf,h,hs=>by obtain⟨rfl,rfl,rfl⟩:=trodAll_nil h;exact trodAll_mk0
 | p::pts,t::ts,vs,ds,ps,hl,hf,h,hs=>by obtain⟨v,r,d,e,p1,p2,rfl,rfl,rfl,h1,h2⟩:=trodAll_cons h;exact⟨p1,p2,Hd (hf 0 p t rfl rfl) h1 (λq hq=>hs q (by simp[hq])),rA (by simpa using hl) (λi p t h1 h2=>hf (i+1) p t (by simpa using h1) (by simpa using h2)) h2 (λq hq=>hs q (by simp[hq])),rfl⟩
end
end Go.Sv
namespace Go.Proofs
open Go Go.Sv Go.ChangeShapes Go.WideShapes Go.RowKit
theorem Gw{H:Type}{enc:TypeId × Value->H}{P:Program}{f:Func}{s:ChangeSpec}{apart fresh handsOn again:Bool}{W W':World}{args:Array Value}{v:Value}{ds gs:List (DataW H)}{before pa pv:List MemPlace}
  (hW:DataW.Whole enc P f.params.toList s.vars apart W args.toList ds gs before) (hB:Below W.heap.size W W')
  (am:∀(b:Nat) (sp:Nat->Bool) (hd:Bool),axe enc P W' b sp hd f.resultTypes.toList (v.resultList f.resultTypes.size) (s.fn H (ds++gs)).results [])
  (af:∀sp:Nat->Bool,(∀p∈before,sp p.block=true)->axe enc P W' 0 sp true f.params.toList args.toList (s.fn H (ds++gs)).args pa)
  (ag:∀sp:Nat->Bool,(∀p∈before,sp p.block=true)->DataW.TrodVars enc P W' sp s.vars (s.fn H (ds++gs)).vars pv)
  (aK:before=pa++pv)
  (aM:∀(j:Nat) (t:TypeId) (r:Value),f.resultTypes[j]?=some t->(v.resultList f.resultTypes.size)[j]?=some r->aw1 P W' .any 0 t r) :
  s.post enc P f apart fresh handsOn again W args v W':=by
 have lt:∀p∈before,p.block<W.heap.size:=λp hp=>hW.lt p hp;have all:∀p∈before,(λb=>decide (b<W.heap.size)) p.block=true:=λp hp=>by simpa using lt p hp
 refine⟨ds,gs,before,[],pa,pv,hW,am _ _ _,af _ all,ag _ all,hB.frame _,λ_=>?_⟩;obtain⟨_,_,_,_,_,nf,nd⟩:=hW;have e:([]++pa)++pv=before:=by rw[aK];simp
 refine⟨aM,_,_,([]++pa)++pv,⟨[]++pa,pv,trodAll_append (af _ (λ_ _=>rfl)) (am _ _ _),ag _ (λ_ _=>rfl),rfl,?_,?_⟩,?_⟩
 ·intro b off hp;rw[e]at hp;have hb:b<W.heap.size:=lt _ hp;rw[hB.frozen (p:=⟨b,off,none⟩) hb];exact nf b off hp
 ·intro ha;rw[e];exact nd ha
 ·intro p hp _;rw[e]at hp;exact hp
theorem Bi{α β:Type}{f:α->β}:∀{l:List α},(l.map f).Nodup->∀{p q},p∈l->q∈l->f p=f q->p=q
 | [],_,_,_,h,_,_=>by cases h
 | a::l,hn,p,q,hp,hq,e=>by
  rw[asF,List.nodup_cons]at hn;rcases atf.1 hp with h1 | h1<;>rcases atf.1 hq with h2 | h2
  ·rw[h1,h2]
  ·exact absurd (atB.2 ⟨_,h2,by rw[<-e,h1]⟩) hn.1
  ·exact absurd (atB.2 ⟨_,h1,by rw[e,h2]⟩) hn.1
  ·exact Bi hn.2 h1 h2 e
section
variable {P:Program} {W:World} {ti tp te ts:TypeId} {ms:Array (String × TypeId)} {f:Field} {nm:String}
theorem Kc(hi:P.underlying ti=some (.interface ms))(av:∀u,P.typeName? 3 u=some nm->u=tp)
  (hp:P.underlying tp=some (.pointer te)) (he:P.underlying te=some (.struct #[f])) (aN:f.type=ts) (aO:f.offset=0) (hs:P.underlying ts=some .string) (hc:P.cellsOf te=1) (aQ:P.cellsOf ts=1) :
  ∀(l:List (String × Nat × List UInt8)) {ps:List MemPlace},DataW.LaidVars P W (l.map λx=>(x.1,.iface nm (.ptr (.agg [.lit (.string x.2.2)])))) ps ->
  (∀x∈l,P.globalNamed x.1=some x.2.1∧(P.globals[x.2.1]?).map (·.type)=some ti) ->
  (∀b off,axg b off∈ps->(∃c t,W.heap[b]?=some (.cells c t (0,0)))∧∀u v,W.cell? ⟨b,off,none⟩=some (.iface u v)->aw1 P W .any 0 u v) ->
  ∃A:List (Nat × Addr),A.map (·.1)=l.map (·.2.1)∧(∀p∈A,∃T z,W.heap[p.1]?=some (.cells #[.iface tp (.pointer (some p.2))] T z)) ∧
   atY (A.map λp=>axg p.2.block p.2.off) ps:=by
 intro l
 induction l with
 | nil=>intro _ _ _ _;exact⟨[],rfl,by simp,by simp⟩
 | cons x l ih =>
  intro ps h hg hr;obtain⟨g,t,cs,fuel,p,q,h1,h2,h3,h4,h5,rfl⟩:=h;obtain⟨g1,g2⟩:=hg x (List.mem_cons_self ..);obtain rfl:=as6 (h1.symm.trans g1);obtain rfl:=as6 (h2.symm.trans g2);obtain⟨A,a1,a2,a3⟩:=ih h5 (λy hy=>hg y (List.mem_cons_of_mem _ hy)) (λb off hb=>hr b off (by simp[hb]));obtain⟨cl⟩:=cs;obtain⟨a,s,e1,e2,e3,e4,e5⟩:=errorString_of_trod hi av hp he aN aO hs hc aQ h4 (λu v e=>by have e':cl=[.iface u v]:=e;subst e';exact(hr x.2.1 0 (by simp[axh])).2 u v (by simpa using World.var?_cell h1 h3 0))
  have aR:cl=[.iface tp (.pointer (some a))]:=e1;subst aR;refine⟨(x.2.1,a)::A,by simp[a1],?_,?_⟩
  ·rintro y hy;rcases atf.1 hy with rfl | hy
   ·simp only[World.var?,h1,asR]at h3;split at h3
    ·rename_i c T z hh;exact⟨T,z,by rw[hh];simp only[ass]at h3;rw[h3]⟩
    ·cases h3
   ·exact a2 y hy
  ·rw[asF,e5,List.append_assoc];refine List.Sublist.trans ?_ (List.sublist_append_right _ _);simpa[axh]using a3
end
def CS(W:World):Hp:=λb=>if Cx.contains b then(match W.heap[b]? with | some (.cells cs _ _)=>some cs | _=>none) else none
theorem Uf{W:World}{A:List (Nat × Addr)}{ps:List MemPlace}(h1:A.map (·.1)=Cx)(h2:∀p∈A,∃T z,W.heap[p.1]?=some (.cells #[.iface mC (.pointer (some p.2))] T z))
  (h3:atY (A.map λp=>axg p.2.block p.2.off) ps) (h4:ps.Nodup):wA (CS W) W:=by
 have at_:∀g,g∈Cx->∃a,(g,a)∈A∧CS W g=some #[.iface mC (.pointer (some a))]:=λg hg=>by rw[<-h1]at hg;obtain⟨⟨g',a⟩,hp,rfl⟩:=atB.1 hg;obtain⟨T,z,hh⟩:=h2 _ hp;refine⟨a,hp,?_⟩;have aw:Cx.contains g'=true:=atq.2 (by rw[<-h1];exact atB.2 ⟨_,hp,rfl⟩);simp only at hh;simp only[CS,aw,if_true,hh]
 refine⟨λb cs hb=>?_,⟨λg x hx=>?_,λt g t' g' e1 e2 aS he=>?_⟩⟩
 ·unfold CS at hb;split at hb
  ·split at hb
   ·rename_i c T z hh;simp only[ass]at hb;subst hb;exact⟨T,z,hh⟩
   ·cases hb
  ·cases hb
 ·unfold gl at hx;split at hx
  ·rename_i hg;simp only[ass]at hx;subst hx;obtain⟨a,_,ha⟩:=at_ g (atq.1 hg);refine⟨.iface mC (.pointer (some a)),?_,?_⟩
   ·simp only[Den];exact⟨a,ha,rfl⟩
   ·rw[ha];rfl
  ·cases hx
 ·unfold gl at e1 e2;split at e1
  ·split at e2
   ·rename_i hg aw;obtain⟨a,ma,ha⟩:=at_ g (atq.1 (by simpa using hg));obtain⟨a',aT,aU⟩:=at_ g' (atq.1 (by simpa using aw));rw[ha,aU]at he;simp only[ass,Array.mk.injEq,List.cons.injEq,Value.iface.injEq,Value.pointer.injEq,and_true,true_and]at he;subst he;exact aS (Prod.mk.inj (Bi (List.Nodup.sublist h3 h4) ma aT rfl)).1
   ·cases e2
  ·cases e1
end Go.Proofs
namespace Go.Proofs
open Go Go.Sv Go.ChangeShapes Go.WideShapes Go.RowKit
def Af : List (String × Nat × List UInt8) := [("optima/api.ErrText", 3, [111, 112, 116, 105, 109, 97, 58, 32, 116, 101, 120, 116]), ("optima/api.ErrBound", 4, [111, 112, 116, 105, 109, 97, 58, 32, 98, 111, 117, 110, 100]), ("optima/api.ErrZero", 5, [111, 112, 116, 105, 109, 97, 58, 32, 122, 101, 114, 111]), ("optima/api.ErrShape", 0, [111, 112, 116, 105, 109, 97, 58, 32, 115, 104, 97, 112, 101]), ("optima/api.ErrName", 7, [111, 112, 116, 105, 109, 97, 58, 32, 110, 97, 109, 101])]
def Fv : List (String × DataW Unit) := Af.map λx => (x.1, .iface "*errors.errorString" (.ptr (.agg [.lit (.string x.2.2)])))
theorem Tryz.MG:awW.cellsOf 338=1:=by kernel_rfl
theorem Tryz.Sl:awW.cellsOf 9=1:=by kernel_rfl
theorem Tryz.R3 (u : TypeId) (h : awW.typeName? 3 u = some "*errors.errorString") : u = 319 :=
 typeName_ptr_named (nm := "errors.errorString") (by rw [show "*" ++ "errors.errorString" = "*errors.errorString" by decide]; kernel_rfl) (by kernel_rfl) (by decide) u (by rw [show "*" ++ "errors.errorString" = "*errors.errorString" by decide]; exact h)
theorem Tryz.DP:∀x∈Af,awW.globalNamed x.1=some x.2.1∧(awW.globals[x.2.1]?).map (·.type)=some 33:=by
 have h:Af.all (λx=>decide (awW.globalNamed x.1=some x.2.1)&&decide ((awW.globals[x.2.1]?).map (·.type)=some 33))=true:=by kernel_rfl
 intro x hx;have:=List.all_eq_true.1 h x hx;simpa using this
theorem Tryz.EK{W:World}(h:laidMet awW Fv W):wA (CS W) W:=by obtain⟨ps,h1,h2,h3⟩:=h;obtain⟨A,a1,a2,a3⟩:=Kc Tryz.underlying33 Tryz.R3 Tryz.underlying319 Tryz.underlying338 rfl rfl Tryz.underlying9 Tryz.MG Tryz.Sl Af h1 Tryz.DP h3;exact Uf (by rw[a1];rfl) a2 a3 h2
noncomputable def Tryz.low:Nat:=(awZ awW default ⟨#[],#[],[]⟩).heap.size
noncomputable def Tryz.uq(os:Os):World :=
 let w0:=awZ awW os ⟨(Af.map λx=>Obj.cells #[.string ⟨x.2.2.toArray⟩] 338).toArray,#[],[]⟩
 { w0 with heap:=Af.zipIdx.foldl (λh x=>h.modify x.1.2.1 fun
      | .cells _ t frozen=>.cells #[.iface 319 (.pointer (some ⟨Tryz.low+x.2,0,none⟩))] t frozen
      | o=>o) w0.heap }
end Go.Proofs
namespace Go.Proofs
open Go Go.Sv Go.ChangeShapes Go.WideShapes Go.RowKit
theorem Tryz.et : awW.globalNamed "errors.errorType" = some 10 := by kernel_rfl
end Go.Proofs
namespace Go.Proofs
open Go Go.Sv Go.ChangeShapes Go.WideShapes Go.RowKit
theorem Ou{W:World}(h:wA (CS W) W):wA (ve W) W:=by
 refine⟨λb cs hb=>?_,h.2.mono λb cs hb=>?_⟩
 ·unfold ve at hb;split at hb
  ·rename_i c T z hh;simp only[ass]at hb;subst hb;exact⟨T,z,hh⟩
  ·cases hb
 ·unfold CS at hb;split at hb
  ·split at hb
   ·rename_i c T z hh;simp only[ass]at hb;subst hb;simp[ve,hh]
   ·cases hb
  ·cases hb
theorem Bm{β:ca}{H:Hp}{x:SV}{v:Value}{l:List SV}{vs:List Value}(h:Den β H x v)(h':bY β H l vs):bY β H (x::l) (v::vs):=by simp only[bY];exact⟨v,vs,rfl,h,h'⟩
theorem NI{β:ca}{H:Hp}:bY β H [] []:=by simp[bY]
end Go.Proofs
namespace Go.Proofs
open Go Go.Sv Go.ChangeShapes Go.WideShapes Go.RowKit
theorem Tryz.inv_of_laidH{W:World}(h:laidMetH awW axi.laid W):wA (CS W) W:=by
 have e1:(axi.laid.filter λx=>x.2.handleName?.isSome)=[]:=by kernel_rfl
 have e2:axi.laid=Fv:=by kernel_rfl
 unfold laidMetH at h;rw[e1]at h;have h':laidMet awW axi.laid W:=h;rw[e2]at h';exact Tryz.EK h'
theorem calls_of_pureF{P:Program}{fn:FuncId}{args:List SV}{b:Bool}(h:aG P fn args (.val (.bool b))){W:World}(hW:wA (CS W) W){ah:List Value}(hd:bY rz (ve W) args ah) :
  Calls P fn ah.toArray W λe W'=>e=.returned (.bool b)∧Below W.heap.size W W':=by
 refine(h (ve W) W ah (Ou hW) hd).mono λe W' ⟨H',v,x,e1,e2,e3,_,_,_,e4⟩=>?_;subst e3;simp only[Den]at e2;exact⟨by rw[e1,e2.1],e4⟩
end Go.Proofs


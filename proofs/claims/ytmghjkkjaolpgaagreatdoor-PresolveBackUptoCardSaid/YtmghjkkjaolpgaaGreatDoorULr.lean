/- A text of the prover's own. -/
import Derived.Test.YtmghjkkjaolpgaaGreatDoorUGl
import Derived.ChangeSame
import Derived.ChangeMaps5
import Derived.Below
import GoSem.ClaimJoined
import Derived.Test.YtmghjkkjaolpgaaGreatDoorUEs
import Derived.Test.YtmghjkkjaolpgaaGreatDoorRows
import Derived.RowKit
import Derived.LaidLaws
import Derived.WalkKit
import Derived.ProofKit
import Derived.OpenShut
import Derived.Deep.DeepHandedRow
import Derived.Deep.DeepWitnessRowRef
import Derived.LaidHandle
open List renaming getElem?_eq_getElem→al8,length_cons→al4,map_cons→amc,all_append→ans,mem_cons→amM,all_cons→ant,length_map→anp,mem_map→am8,length_eq_zero_iff→amx,getElem?_cons_zero→amG,mem_append_left→amZ,range→amP,getElem?_eq_some_iff→amH,getElem?_range→anu,Sublist→anv,contains_iff_mem→amX,mem_singleton→amN
open Nat renaming not_lt_zero→anw,add_mul→alV,eq_zero_or_pos→amy
open Bool renaming and_eq_true→amS,not_eq_true'→am6
open Option renaming bind_eq_some_iff→anx,bind_some→amo
open Option.some renaming inj→amD,injEq→al0
namespace Go.Sv
open Go Go.ChangeShapes Go.WideShapes
inductive Pt where
 | int (k:IntKind) | str | bool | sl (e:Pt) | unit | pair (a b:Pt)
def Pt.T:Pt→Type
 | .int _=>Int
 | .str=>ByteArray
 | .bool=>Bool
 | .sl e=>List e.T
 | .unit=>Unit
 | .pair a b=>a.T × b.T
def Pt.mT:Pt→Bool
 | .unit=>true
 | .pair _ _=>true
 | _=>false
def Pt.n:Pt→Nat
 | .unit=>0
 | .pair a b=>a.n+b.n
 | _=>1
def Dk(b:Bool)(l:List SV):SV:=if b then .agg l else aA l 0
def Pt.cs:(p:Pt)→p.T→List SV
 | .int k,(x:Int)=>[.val (.int k x)]
 | .str,(x:ByteArray)=>[.val (.string x)]
 | .bool,(x:Bool)=>[.val (.bool x)]
 | .sl e,(x:List e.T)=>[.ro (x.map fun y=>Dk e.mT (e.cs y))]
 | .unit,_=>[]
 | .pair a b,(x:a.T × b.T)=>a.cs x.1++b.cs x.2
def Pt.sv(p:Pt)(x:p.T):SV:=Dk p.mT (p.cs x)
def Pt.wf:(p:Pt)→p.T→Prop
 | .int k,(x:Int)=>(Lit.int k x).wf=true
 | .str,(x:ByteArray)=>x.size≤reachBytes
 | .bool,_=>True
 | .sl e,(x:List e.T)=>x.length≤reachBytes∧∀y∈x,e.wf y
 | .unit,_=>True
 | .pair a b,(x:a.T × b.T)=>a.wf x.1∧b.wf x.2
def Pt.bk:(p:Pt)→p.T→Nat
 | .int _,_=>1
 | .str,(x:ByteArray)=>x.size+1
 | .bool,_=>1
 | .sl e,(x:List e.T)=>(x.map e.bk).sum+1
 | .unit,_=>0
 | .pair a b,(x:a.T × b.T)=>a.bk x.1+b.bk x.2
structure Bk{Hh:Type}(f:DataW Hh→Nat)(g:List (DataW Hh)→Nat):Prop where
 lit:∀l,1≤f (.lit l)
 str:∀b,f (.lit (.string b))=b.length+1
 nil:f .nil=1
 sl:∀e r,f (.slice e r)=g e+g r+1
 agg:∀l,f (.agg l)=g l+1
 g0:g []=0
 g1:∀d r,g (d::r)=f d+g r
def Pt.kn(P:Program):Pt→TypeId→List Field→Nat→Bool
 | .int k,t,_,_=>match P.underlying t with | some (.int k')=>decide (k'=k) | _=>false
 | .str,t,_,_=>match P.underlying t with | some .string=>true | _=>false
 | .bool,t,_,_=>match P.underlying t with | some .bool=>true | _=>false
 | .sl e,t,_,_=>match P.underlying t with
  | some (.slice u)=>decide (P.cellsOf u=e.n)&&decide (0<e.n)&&decide (0<P.bytesOf u)&&(match P.underlying u with | some (.struct gs)=>e.mT&&e.kn P u gs.toList 0 | _=>!e.mT&&e.kn P u [] 0)
  | _=>false
 | .unit,_,fs,_=>fs.isEmpty
 | .pair a b,t,fs,o=>match fs with
  | []=>false
  | f::r=>decide (f.offset=o)&&decide (P.cellsOf f.type=a.n)&&(match P.underlying f.type with | some (.struct gs)=>a.mT&&a.kn P f.type gs.toList 0 | _=>!a.mT&&a.kn P f.type [] 0)&&b.mT&&b.kn P t r (o+a.n)
def Pt.bA(P:Program)(p:Pt)(t:TypeId):Bool:=(match P.underlying t with | some (.struct gs)=>p.mT&&p.kn P t gs.toList 0 | _=>!p.mT&&p.kn P t [] 0)
def Pt.fits(P:Program)(p:Pt)(t:TypeId):Bool:=decide (P.cellsOf t=p.n)&&p.bA P t
def sC(W:World):Hp:=fun b=>match W.heap[b]? with | some (.cells cs _ _)=>some cs | _=>none
theorem Pt.yG:∀(p:Pt) (x:p.T),(p.cs x).length=p.n
 | .int _,_=>rfl
 | .str,_=>rfl
 | .bool,_=>rfl
 | .sl _,_=>rfl
 | .unit,_=>rfl
 | .pair a b,x=>by simp only[Pt.cs,Pt.n,List.length_append,Pt.yG a,Pt.yG b]
theorem B8{α:Type}{q:Nat→α→Prop}:∀(n:Nat),(∀i,i<n→∃x,q i x)→∃l:List α,l.length=n∧∀i (h:i<l.length),q i l[i]
 | 0,_=>⟨[],rfl,fun i h=>absurd h (anw _)⟩
 | n+1,h=>by
  obtain⟨l,h1,h2⟩:=B8 (q:=q) n (fun i hi=>h i (by omega));obtain⟨x,hx⟩:=h n (by omega);refine⟨l++[x],by simp[h1],fun i hi=>?_⟩;by_cases e:i<l.length
  ·rw[List.getElem_append_left e];exact h2 i e
  ·have:i=l.length:=by simp at hi;omega
   subst this;simpa[h1]using hx
theorem Et{β:bO}{H:Hp}{s:Nat}{cb:Array Value}:∀(es:List SV) (o:Nat),(∀i (h:i<es.length),∃v,Den β H es[i] v∧v.cells.size=s∧∀j,j<s→cb[o+i*s+j]?=v.cells[j]?) →
  ∃vs,aU β H s es vs∧∀q,q<vs.length→cb[o+q]?=vs[q]?
 | [],o,_=>⟨[],by simp[aU],fun q hq=>absurd hq (anw _)⟩
 | x::es,o,h=>by
  obtain⟨v,h1,h2,h3⟩:=h 0 (by simp);obtain⟨vs,h4,h5⟩:=Et (s:=s) (cb:=cb) es (o+s) (fun i hi=>by
   obtain⟨v,g1,g2,g3⟩:=h (i+1) (by simpa using hi);refine⟨v,g1,g2,fun j hj=>?_⟩;rw[←g3 j hj];congr 1;rw[alV];omega)
  refine⟨v.cells.toList++vs,by simp only[aU];exact⟨v,vs,rfl,h2,h1,h4⟩,fun q hq=>?_⟩;by_cases e:q<s
  ·rw[List.getElem?_append_left (by simpa[h2]using e)];have:=h3 q e;simpa using this
  ·rw[List.getElem?_append_right (by simp[h2];omega)];have:=h5 (q - s) (by simp[h2]at hq;omega);simp only[Array.length_toList,h2];rw[←this];congr 1;omega
section
variable {Hh:Type} {enc:TypeId × Value→Hh} {P:Program} {W:World} {held:Bool}
theorem Eh{base:Nat}{a:Addr}{n:Nat}{cs:List Value}(h:W.cells? base a n=some cs)(hn:0<n) :
  a.spot=none∧∃cb T z,W.heap[a.block]?=some (.cells cb T z)∧∀j,j<n→cb[a.off+j]?=cs[j]?:=by
 obtain⟨_,hl,hc⟩:=World.cells?_some h;have h0:=hc 0 hn;simp only[Addr.add,if_true,World.cell?]at h0;have hs:∃v,cs[0]?=some v:=⟨_,al8 (by omega)⟩;obtain⟨v,hv⟩:=hs;rw[hv]at h0;split at h0
 ·rename_i cb T z hh;split at h0
  ·cases h0
  ·rename_i hsp;refine⟨by simpa using hsp,cb,T,z,hh,fun j hj=>?_⟩;have:=hc j hj;rw[←this];unfold Addr.add;by_cases e:j=0
   ·subst e;simp only[if_true,World.cell?,hh];rw[if_neg hsp];simp
   ·simp only[if_neg e,World.cell?,hh];simp
 ·cases h0
theorem p7{β:bO}{H:Hp}{p:Pt}{x:p.T}{cs:List Value}(h:bh β H (p.cs x) cs):∃v:Value,v.cells.toList=cs∧v.cells.size=p.n∧Den β H (p.sv x) v:=by
 have hl:=h.length;rw[Pt.yG]at hl;cases hp:p.mT with
 | true =>
  refine⟨.agg cs.toArray,by simp[Value.cells],by simp[Value.cells,hl],?_⟩;simp only[Pt.sv,Dk,hp,if_true,Den];exact⟨cs,rfl,h⟩
 | false =>
  have hn:p.n=1:=by cases p<;>simp_all [Pt.mT,Pt.n]
  rw[hn]at hl;have hlen:(p.cs x).length=1:=by rw[Pt.yG,hn]
  match hc:p.cs x,cs,hlen,hl with
  | [y],[v],_,_ =>
   rw[hc]at h;simp only[bh]at h;obtain⟨v',r,e,h1,h2,rfl⟩:=h;simp only[List.cons.injEq,and_true]at e;subst e;have:=dU (Den.one h2 h1);refine⟨v,by rw[this],by rw[this,hn];rfl,?_⟩;simp only[Pt.sv,Dk,hp,hc,aA];exact h2
theorem td{β:bO}{H:Hp}:∀{l l':List SV} {vs vs':List Value},bh β H l vs→bh β H l' vs'→bh β H (l++l') (vs++vs')
 | [],l',vs,vs',h,h'=>by simp only[bh]at h;simpa[h]using h'
 | x::l,l',vs,vs',h,h'=>by
  simp only[bh]at h;obtain⟨v,r,rfl,h1,h2,h3⟩:=h;simp only[List.cons_append,bh];exact⟨v,r++vs',rfl,h1,h2,td h3 h'⟩
theorem Bk.sum{f:DataW Hh→Nat}{g:List (DataW Hh)→Nat}(hb:Bk f g){α:Type}{m:α→Nat}:∀{ys:List α} {es:List (DataW Hh × List MemPlace)},ys.length=es.length→(∀i (h:i<ys.length) (h':i<es.length),m ys[i]≤f (es[i]).1)→(ys.map m).sum≤g (es.map (·.1))
 | [],[],_,_=>by simp[hb.g0]
 | y::ys,e::es,hl,h=>by
  have h0:=h 0 (by simp) (by simp);have hr:=Bk.sum hb (m:=m) (ys:=ys) (es:=es) (by simpa using hl) (fun i a b=>by have:=h (i+1) (by simp only[al4];omega) (by simp only[al4];omega);simp only[List.getElem_cons_succ]at this;exact this);simp only[amc,List.sum_cons,hb.g1];simp only[List.getElem_cons_zero]at h0;omega
structure Rd(P:Program)(W:World)(enc:TypeId × Value→Hh)(held:Bool)(p:Pt):Prop where
 one:p.mT=false→∀(t:TypeId) (fuel:Nat) (cs:List Value) (x:DataW Hh × List MemPlace),p.kn P t [] 0=true→DataW.trod enc P W 0 (fun _=>true) held fuel t cs=some x →
  (x.1.weights P t).all (·≤reachBytes)=true→∃y,p.wf y∧bh lF (sC W) (p.cs y) cs∧∀f g,Bk f g→p.bk y≤f x.1
 many:p.mT=true→∀(t:TypeId) (fs:List Field) (o fuel:Nat) (cs:List Value) (xs:List (DataW Hh × List MemPlace)),p.kn P t fs o=true→cs.length=o+p.n→xs.length=fs.length →
  (∀(i:Nat) (f:Field),fs[i]?=some f→DataW.trod enc P W 0 (fun _=>true) held fuel f.type ((cs.drop f.offset).take (P.cellsOf f.type))=xs[i]?) →
  (DataW.weightsEach P (fs.map (·.type)) (xs.map (·.1))).all (·≤reachBytes)=true→∃y,p.wf y∧bh lF (sC W) (p.cs y) (cs.drop o)∧∀f g,Bk f g→p.bk y≤g (xs.map (·.1))
theorem Rd.here{p:Pt}(h:Rd P W enc held p){t:TypeId}{fuel:Nat}{cs:List Value}{x:DataW Hh × List MemPlace}(hf:p.bA P t=true)(hn:P.cellsOf t=p.n)(ht:DataW.trod enc P W 0 (fun _=>true) held fuel t cs=some x)
  (hw:(x.1.weights P t).all (·≤reachBytes)=true):∃y,p.wf y∧bh lF (sC W) (p.cs y) cs∧∀f g,Bk f g→p.bk y≤f x.1:=by
 unfold Pt.bA at hf;split at hf
 ·rename_i gs hu;simp only[amS]at hf;obtain⟨xs,n,rfl,hx,hl,hlen,hall⟩:=DataW.trod_struct hu ht;subst hx;obtain⟨y,q1,q2,q3⟩:=h.many hf.1 t gs.toList 0 n cs xs hf.2 (by rw[hl,hn];omega) (by simpa using hlen) (fun i f hi=>hall i f (by simpa using hi)) (by simpa[DataW.weights,hu]using hw);exact⟨y,q1,by simpa using q2,fun f g hb=>by have:=q3 f g hb;simp only[hb.agg];omega⟩
 ·simp only[amS,am6]at hf;exact h.one hf.1 t fuel cs x hf.2 ht hw
theorem nI{e:TypeId}:∀{l:List (DataW Hh)} {d:DataW Hh},d∈l→(DataW.weightsAll P e l).all (·≤reachBytes)=true→(d.weights P e).all (·≤reachBytes)=true
 | a::l,d,h,hw=>by
  simp only[DataW.weightsAll,ans,amS]at hw;rcases amM.1 h with rfl | h
  ·exact hw.1
  ·exact nI h hw.2
theorem BV:∀p:Pt,Rd P W enc held p
 | .int k=>⟨fun _ t fuel cs x hf ht hw=>by
   simp only[Pt.kn]at hf;split at hf
   ·rename_i k' hu;simp only[decide_eq_true_eq]at hf;subst hf;obtain⟨n,rfl,rfl,h⟩:=DataW.trod_int hu ht;exact⟨n,h,by simp only[Pt.cs,bh];exact⟨_,_,rfl,rfl,by simp[Den,Value.oneCell'],rfl⟩,fun f g hb=>hb.lit _⟩
   ·(cases hf),fun h=>by cases h⟩
 | .str=>⟨fun _ t fuel cs x hf ht hw=>by
   simp only[Pt.kn]at hf;split at hf
   ·rename_i hu;obtain⟨s,rfl,rfl,h⟩:=DataW.trod_string hu ht;simp only[DataW.weights,ant,List.all_nil,Bool.and_true,decide_eq_true_eq]at hw;exact⟨s,by simpa[Pt.wf]using hw,by simp only[Pt.cs,bh];exact⟨_,_,rfl,rfl,by simp[Den,Value.oneCell'],rfl⟩,fun f g hb=>by rw[hb.str];exact Nat.le_refl _⟩
   ·(cases hf),fun h=>by cases h⟩
 | .bool=>⟨fun _ t fuel cs x hf ht hw=>by
   simp only[Pt.kn]at hf;split at hf
   ·rename_i hu;obtain⟨b,rfl,rfl⟩:=DataW.trod_bool hu ht;exact⟨b,trivial,by simp only[Pt.cs,bh];exact⟨_,_,rfl,rfl,by simp[Den,Value.oneCell'],rfl⟩,fun f g hb=>hb.lit _⟩
   ·(cases hf),fun h=>by cases h⟩
 | .unit=>⟨fun h=>(by cases h),fun _ t fs o fuel cs xs hf hl hx hall hw=>by
   refine⟨(),trivial,?_,fun f g hb=>Nat.zero_le _⟩;simp only[Pt.cs,bh];rw[List.drop_eq_nil_of_le (by simp[Pt.n]at hl;omega)]⟩
 | .pair a b=>⟨fun h=>(by cases h),fun _ t fs o fuel cs xs hf hl hx hall hw=>by
   simp only[Pt.kn]at hf;split at hf
   ·cases hf
   ·rename_i f r;simp only[amS,decide_eq_true_eq]at hf;obtain⟨⟨⟨⟨h1,h2⟩,h3⟩,hb⟩,h4⟩:=hf
    match xs,hx with
    | x0::xr,hx =>
    have hw':(x0.1.weights P f.type).all (·≤reachBytes)=true∧(DataW.weightsEach P (r.map (·.type)) (xr.map (·.1))).all (·≤reachBytes)=true:=by
     simpa only[amc,DataW.weightsEach,ans,amS]using hw
    simp only[Pt.n]at hl;obtain⟨y,wy,dy,ky⟩:=(BV a).here (t:=f.type) (by unfold Pt.bA;exact h3) h2 (by simpa using hall 0 f rfl) hw'.1;have hr:=(BV b);have key:∃z,b.wf z∧bh lF (sC W) (b.cs z) (cs.drop (o+a.n))∧∀f g,Bk f g→b.bk z≤g (xr.map (·.1)):=by
     exact hr.many hb t r (o+a.n) fuel cs xr h4 (by omega) (by simpa using hx) (fun i f hi=>by simpa using hall (i+1) f (by simpa using hi)) hw'.2
    obtain⟨z,wz,dz,kz⟩:=key;refine⟨(y,z),⟨wy,wz⟩,?_,fun f g hb=>by have:=ky f g hb;have:=kz f g hb;simp only[Pt.bk,amc,hb.g1];omega⟩;simp only[Pt.cs];have:=td dy dz;rw[h1,h2]at this
    rwa [←List.drop_drop,List.take_append_drop]at this⟩
 | .sl e=>⟨fun _ t fuel cs x hf ht hw=>by
   simp only[Pt.kn]at hf;split at hf
   ·rename_i u hu;simp only[amS,decide_eq_true_eq]at hf;obtain⟨⟨⟨h1,h2⟩,h3⟩,h4⟩:=hf;rcases DataW.trod_slice hu ht with⟨rfl,rfl⟩ | ⟨ad,len,cap,elems,rest,n,rfl,rfl,rfl,hb,hle,hm,hlen,hel,hsp,hns⟩
    ·refine⟨([]:List e.T),⟨by simp,by simp⟩,?_,fun f g hb=>by simp[Pt.bk,hb.nil]⟩;simp only[Pt.cs,List.map_nil,bh];exact⟨_,_,rfl,rfl,by simp only[Den];exact .inl ⟨trivial,_,_,rfl⟩,rfl⟩
    ·simp only[DataW.weights,hu,ant,ans,amS,decide_eq_true_eq,anp]at hw;obtain⟨w1,w2,w3⟩:=hw;have el:∀i,i<len→∃(cs':List Value) (z:DataW Hh × List MemPlace),W.cells? 0 (ad.add (i*P.cellsOf u)) (P.cellsOf u)=some cs'∧DataW.trod enc P W 0 (fun _=>true) held n u cs'=some z∧elems[i]?=some z:=fun i hi=>by
      have:=hel i hi;rw[al8 (by omega)]at this;obtain⟨cs',g1,g2⟩:=anx.1 this;exact⟨cs',_,g1,g2,al8 (by omega)⟩
     obtain⟨ys,hys,hy⟩:=B8 (q:=fun i y=>e.wf y∧(∀h:i<elems.length,∀f g,Bk f g→e.bk y≤f (elems[i]).1)∧∃cs',W.cells? 0 (ad.add (i*P.cellsOf u)) (P.cellsOf u)=some cs'∧bh lF (sC W) (e.cs y) cs') len (fun i hi=>by
      obtain⟨cs',z,g1,g2,g3⟩:=el i hi;obtain⟨y,q1,q2,q3⟩:=(BV e).here (t:=u) (by unfold Pt.bA;exact h4) h1 g2 (nI (l:=elems.map (·.1)) (am8.2 ⟨z,List.mem_of_getElem? g3,rfl⟩) w2);exact⟨y,q1,fun h f g hb=>by have:=q3 f g hb;rw[al8 h]at g3;rw[amD g3];exact this,cs',g1,q2⟩)
     have hlr:len≤reachBytes:=by
      have:=Nat.le_mul_of_pos_right (elems.length+rest.length) h3;omega
     refine⟨(ys:List e.T),⟨by rw[hys];exact hlr,fun y hy'=>?_⟩,?_,fun f g hb=>?_⟩
     ·obtain⟨i,hi,rfl⟩:=List.getElem_of_mem hy';exact(hy i hi).1
     ·simp only[Pt.cs,bh];refine⟨_,_,rfl,rfl,?_,rfl⟩;simp only[Den];rcases amy len with rfl | hpos
      ·left;exact⟨by simp[amx.1 hys],_,_,rfl⟩
      ·right;obtain⟨_,_,cs0,g0,_⟩:=hy 0 (by omega);rw[Nat.zero_mul]at g0;have ha0:ad.add 0=ad:=by simp[Addr.add]
       rw[ha0]at g0;obtain⟨hsp0,cb,T,z,hh,_⟩:=Eh g0 (by omega);obtain⟨vs,d1,d2⟩:=Et (β:=lF) (H:=sC W) (s:=e.n) (cb:=cb) (ys.map fun y=>Dk e.mT (e.cs y)) ad.off (fun i hi=>by
        simp only[anp]at hi;obtain⟨_,_,cs',g1,g2⟩:=hy i hi;obtain⟨v,q1,q2,q3⟩:=p7 g2;obtain⟨_,cb',T',z',hh',hc'⟩:=Eh g1 (by omega);have hbk:(ad.add (i*P.cellsOf u)).block=ad.block:=by unfold Addr.add;split<;>rfl
        have hof:(ad.add (i*P.cellsOf u)).off=ad.off+i*P.cellsOf u:=by unfold Addr.add;split<;>simp_all
        rw[hbk,hh]at hh';simp only[al0,Obj.cells.injEq]at hh';obtain⟨rfl, -, -⟩:=hh';refine⟨v,by rw[List.getElem_map];exact q3,q2,fun j hj=>?_⟩;rw[hof,h1]at hc';rw[hc' j hj,←q1];simp)
       refine⟨ad.block,ad.off,cap,e.n,cb,vs,?_,by simp[hys,hle],by simp[sC,hh],d1,d2⟩;simp only[anp,hys];obtain⟨bb,oo,ss⟩:=ad;simp only at hsp0;subst hsp0;rfl
     ·have:=hb.sum (m:=e.bk) (ys:=ys) (es:=elems) (by omega) (fun i h h'=>(hy i h).2.1 h' f g hb);simp only[Pt.bk,hb.sl];omega
   ·(cases hf),fun h=>by cases h⟩
theorem Pt.M4{p:Pt}{t:TypeId}{v:Value}{d:DataW Hh}{ps:List MemPlace}{base:Nat}{r:Reach}(hf:p.fits P t=true)(hval:Value.okWide P W r base t v)(ht:DataW.Trod enc P W 0 (fun _=>true) held t v d ps)
  (hw:(d.weights P t).all (·≤reachBytes)=true):∃y,p.wf y∧Den lF (sC W) (p.sv y) v∧∀f g,Bk f g→p.bk y≤f d:=by
 simp only[Pt.fits,amS,decide_eq_true_eq]at hf;obtain⟨fuel,ht⟩:=ht;obtain⟨y,wy,dy,ky⟩:=(BV (P:=P) (W:=W) (enc:=enc) (held:=held) p).here hf.2 hf.1 ht hw;refine⟨y,wy,?_,ky⟩;have hat:=hf.2;unfold Pt.bA at hat;split at hat
 ·rename_i gs hu;simp only[amS]at hat;unfold Value.okWide at hval;rw[hu]at hval;obtain⟨cs,rfl, -, -⟩:=hval;simp only[Pt.sv,Dk,hat.1,if_true,Den];exact⟨_,by simp[Value.cells],dy⟩
 ·rename_i hns;simp only[amS,am6]at hat;obtain⟨v',h1,h2,h3⟩:=p7 dy;have hv:v.cells=#[v]:=by
   cases v<;>try rfl
   ·rename_i cs;exfalso;cases p<;>simp only[Pt.mT,Pt.kn]at hat;all_goals first | (cases hat.1;done) | skip
    all_goals
     have hat2:=hat.2;split at hat2
     ·rename_i hu;unfold Value.okWide at hval;rw[hu]at hval;simp[Cell.okWide,Cell.ok,hu]at hval
     ·cases hat2
  have hv':v'=v:=by
   have e:=congrArg List.toArray h1;simp only[Array.toArray_toList]at e;rw[hv]at e;have hone:(p.sv y).one=true:=by
    cases p<;>simp_all [Pt.mT,Pt.sv,Dk,Pt.cs,aA,SV.one,Value.oneCell']
   rw[dU (Den.one h3 hone)]at e;simpa using e
  rw[←hv'];exact h3
theorem kQ{α β:Type}{g:α→Option β}:∀{l:List α} {xs:List β},xs.length=l.length→(∀(i:Nat) (f:α),l[i]?=some f→g f=xs[i]?)→l.mapM g=some xs
 | [],[],_,_=>by simp
 | [],_::_,h,_=>by simp at h
 | _::_,[],h,_=>by simp at h
 | a::l,x::xs,h,hg=>by
  have h0:=hg 0 a rfl;have hr:=kQ (g:=g) (l:=l) (xs:=xs) (by simpa using h) (fun i f hi=>by simpa using hg (i+1) f (by simpa using hi));simp only[amG]at h0;simp[List.mapM_cons,h0,hr]
structure Rs(P:Program)(W W':World)(enc:TypeId × Value→Hh)(held:Bool)(sp:Nat→Bool)(p:Pt):Prop where
 one:p.mT=false→∀(t:TypeId) (fuel:Nat) (cs:List Value) (x:DataW Hh × List MemPlace),p.kn P t [] 0=true→DataW.trod enc P W 0 (fun _=>true) held fuel t cs=some x →
  (∀q∈x.2,sp q.block=true∧W.sameAt W' q)→DataW.trod enc P W' 0 sp held fuel t cs=some x
 many:p.mT=true→∀(t:TypeId) (fs:List Field) (o fuel:Nat) (cs:List Value) (xs:List (DataW Hh × List MemPlace)),p.kn P t fs o=true→xs.length=fs.length →
  (∀(i:Nat) (f:Field),fs[i]?=some f→DataW.trod enc P W 0 (fun _=>true) held fuel f.type ((cs.drop f.offset).take (P.cellsOf f.type))=xs[i]?) →
  (∀q∈xs.flatMap (·.2),sp q.block=true∧W.sameAt W' q) →
  ∀(i:Nat) (f:Field),fs[i]?=some f→DataW.trod enc P W' 0 sp held fuel f.type ((cs.drop f.offset).take (P.cellsOf f.type))=xs[i]?
theorem Rs.here{W':World}{sp:Nat→Bool}{p:Pt}(h:Rs P W W' enc held sp p){t:TypeId}{fuel:Nat}{cs:List Value}{x:DataW Hh × List MemPlace}(hf:p.bA P t=true)(ht:DataW.trod enc P W 0 (fun _=>true) held fuel t cs=some x)
  (hs:∀q∈x.2,sp q.block=true∧W.sameAt W' q):DataW.trod enc P W' 0 sp held fuel t cs=some x:=by
 unfold Pt.bA at hf;split at hf
 ·rename_i gs hu;simp only[amS]at hf;obtain⟨xs,n,rfl,hx,hl,hlen,hall⟩:=DataW.trod_struct hu ht;subst hx;have:=h.many hf.1 t gs.toList 0 n cs xs hf.2 (by simpa using hlen) (fun i f hi=>hall i f (by simpa using hi)) hs;exact trod_struct_mk hu hl (kQ (by simpa using hlen) (fun i f hi=>this i f hi))
 ·simp only[amS,am6]at hf;exact h.one hf.1 t fuel cs x hf.2 ht hs
theorem EE{W':World}{sp:Nat→Bool}:∀p:Pt,Rs P W W' enc held sp p
 | .int k=>⟨fun _ t fuel cs x hf ht hs=>by
   simp only[Pt.kn]at hf;split at hf
   ·rename_i k' hu;obtain⟨n,rfl,rfl,h⟩:=DataW.trod_int hu ht;cases fuel with
    | zero=>simp[DataW.trod]at ht
    | succ m=>exact trod_int_mk m hu h
   ·(cases hf),fun h=>by cases h⟩
 | .str=>⟨fun _ t fuel cs x hf ht hs=>by
   simp only[Pt.kn]at hf;split at hf
   ·rename_i hu;obtain⟨s,rfl,rfl,h⟩:=DataW.trod_string hu ht;cases fuel with
    | zero=>simp[DataW.trod]at ht
    | succ m=>rw[DataW.trod_step];unfold DataW.trodStep;simp[hu,h]
   ·(cases hf),fun h=>by cases h⟩
 | .bool=>⟨fun _ t fuel cs x hf ht hs=>by
   simp only[Pt.kn]at hf;split at hf
   ·rename_i hu;obtain⟨b,rfl,rfl⟩:=DataW.trod_bool hu ht;cases fuel with
    | zero=>simp[DataW.trod]at ht
    | succ m=>rw[DataW.trod_step];unfold DataW.trodStep;simp[hu]
   ·(cases hf),fun h=>by cases h⟩
 | .unit=>⟨fun h=>(by cases h),fun _ t fs o fuel cs xs hf hx hall hs i f hi=>by
   simp only[Pt.kn,List.isEmpty_iff]at hf;subst hf;simp at hi⟩
 | .pair a b=>⟨fun h=>(by cases h),fun _ t fs o fuel cs xs hf hx hall hs i f hi=>by
   simp only[Pt.kn]at hf;split at hf
   ·cases hf
   ·rename_i f0 r;simp only[amS,decide_eq_true_eq]at hf;obtain⟨⟨⟨⟨h1,h2⟩,h3⟩,hb⟩,h4⟩:=hf
    match xs,hx with
    | x0::xr,hx =>
    cases i with
    | zero =>
     simp only[amG,al0]at hi ⊢;subst hi;exact(EE a).here (by unfold Pt.bA;exact h3) (by simpa using hall 0 f0 rfl) (fun q hq=>hs q (by simp[hq]))
    | succ i =>
     simp only[List.getElem?_cons_succ]at hi ⊢;exact(EE b).many hb t r (o+a.n) fuel cs xr h4 (by simpa using hx) (fun i f hi=>by simpa using hall (i+1) f (by simpa using hi)) (fun q hq=>hs q (by simp only[List.flatMap_cons,List.mem_append];exact .inr hq)) i f hi⟩
 | .sl e=>⟨fun _ t fuel cs x hf ht hs=>by
   simp only[Pt.kn]at hf;split at hf
   ·rename_i u hu;simp only[amS,decide_eq_true_eq]at hf;obtain⟨⟨⟨h1,h2⟩,h3⟩,h4⟩:=hf;rcases DataW.trod_slice hu ht with⟨rfl,rfl⟩ | ⟨ad,len,cap,elems,rest,n,rfl,rfl,rfl,hb,hle,hm,hlen,hel,hsp,hns⟩
    ·cases fuel with
     | zero=>simp[DataW.trod]at ht
     | succ m=>rw[DataW.trod_step];unfold DataW.trodStep;simp[hu]
    ·obtain⟨hrl,hre⟩:=hsp rfl;have hbk:∀i,(ad.add i).block=ad.block:=fun i=>by unfold Addr.add;split<;>rfl
     have hof:∀i,(ad.add i).off=ad.off+i:=fun i=>by unfold Addr.add;split<;>simp_all
     have one:∀i (z:DataW Hh × List MemPlace),i<elems.length+rest.length→z∈elems++rest→(W.cells? 0 (ad.add (i*P.cellsOf u)) (P.cellsOf u)).bind (DataW.trod enc P W 0 (fun _=>true) held n u)=some z →
       (W'.cells? 0 (ad.add (i*P.cellsOf u)) (P.cellsOf u)).bind (DataW.trod enc P W' 0 sp held n u)=some z:=fun i z hi hz h=>by
      obtain⟨cs',g1,g2⟩:=anx.1 h;have g1':=World.cells?_carry (w':=W') g1 (fun q hq=>by
       obtain⟨j,hj,rfl⟩:=MemPlace.mem_row.1 hq;refine(hs _ (amZ _ (MemPlace.mem_row.2 ⟨i*P.cellsOf u+j,?_,by rw[hbk,hof,Nat.add_assoc]⟩))).2;have:=Nat.mul_le_mul_right (P.cellsOf u) (show i+1≤elems.length+rest.length from hi);rw[alV,Nat.one_mul]at this;omega)
      rw[g1'];exact(EE e).here (by unfold Pt.bA;exact h4) g2 (fun q hq=>hs q (List.mem_append_right _ (List.mem_flatMap.2 ⟨z,hz,hq⟩)))
     have hA:(amP len).mapM (fun i=>(W'.cells? 0 (ad.add (i*P.cellsOf u)) (P.cellsOf u)).bind (DataW.trod enc P W' 0 sp held n u))=some elems:=by
      refine kQ (by simp[hlen]) (fun i k hi=>?_);have aF:i<len:=by
       have:=(amH.1 hi).1;simpa using this
      rw[anu aF]at hi;simp only[al0]at hi;subst hi;have he:=hel i aF;rw[al8 (by omega)]at he ⊢;exact one i _ (by omega) (by simp) he
     have hB:(if sp ad.block then(amP (cap - len)).mapM (fun j=>(W'.cells? 0 (ad.add ((len+j)*P.cellsOf u)) (P.cellsOf u)).bind (DataW.trod enc P W' 0 sp held n u)) else some [])=some rest:=by
      split
      ·refine kQ (by simp[hrl]) (fun i k hi=>?_);have aF:i<cap - len:=by
        have:=(amH.1 hi).1;simpa using this
       rw[anu aF]at hi;simp only[al0]at hi;subst hi;have he:=hre i aF;rw[al8 (by omega)]at he ⊢;exact one (len+i) _ (by omega) (by simp) he
      ·rename_i hno;rcases amy (elems.length+rest.length)with h0 | h0
       ·have:rest.length=0:=by omega
        rw[amx.1 this]
       ·exfalso;refine hno (hs _ (amZ _ (MemPlace.mem_row.2 ⟨0,Nat.mul_pos h0 (by omega),rfl⟩))).1
     rw[DataW.trod_step];unfold DataW.trodStep;simp only[hu];rw[if_pos ⟨hb,hle,hm⟩,hA];simp only[amo];rw[hB];rfl
   ·(cases hf),fun h=>by cases h⟩
theorem yE{W W':World}(h:Go.RowKit.Below W.heap.size W W'){q:MemPlace}(hq:q.block<W.heap.size):W.sameAt W' q:=by
 cases q with
 | cell b off=>simp only[World.sameAt,World.cell?];rw[h.block b hq]
 | map b=>simp only[World.sameAt];exact h.block b hq
theorem CE{W':World}{sp:Nat→Bool}{p:Pt}{t:TypeId}{v:Value}{d:DataW Hh}{ps:List MemPlace}(hf:p.fits P t=true)(h:DataW.Trod enc P W 0 (fun _=>true) held t v d ps)(hs:∀q∈ps,sp q.block=true∧W.sameAt W' q) :
  DataW.Trod enc P W' 0 sp held t v d ps:=by
 simp only[Pt.fits,amS,decide_eq_true_eq]at hf;obtain⟨fuel,h⟩:=h;exact⟨fuel,(EE p).here hf.2 h hs⟩
theorem pd{W':World}{sp:Nat→Bool}:∀{pts:List Pt} {ts:List TypeId} {vs:List Value} {ds:List (DataW Hh)} {ps:List MemPlace},pts.length=ts.length→(∀(i:Nat) (p:Pt) (t:TypeId),pts[i]?=some p→ts[i]?=some t→p.fits P t=true) →
  DataW.TrodAll enc P W 0 (fun _=>true) held ts vs ds ps→(∀q∈ps,sp q.block=true∧W.sameAt W' q)→DataW.TrodAll enc P W' 0 sp held ts vs ds ps
 | pts,[],vs,ds,ps,hl,hf,h,hs=>by
  obtain⟨rfl,rfl,rfl⟩:=trodAll_nil h;exact trodAll_mk0
 | p::pts,t::ts,vs,ds,ps,hl,hf,h,hs=>by
  obtain⟨v,r,d,e,p1,p2,rfl,rfl,rfl,h1,h2⟩:=trodAll_cons h;exact⟨p1,p2,CE (hf 0 p t rfl rfl) h1 (fun q hq=>hs q (by simp[hq])),pd (by simpa using hl) (fun i p t h1 h2=>hf (i+1) p t (by simpa using h1) (by simpa using h2)) h2 (fun q hq=>hs q (by simp[hq])),rfl⟩
end
end Go.Sv
namespace Go.Proofs
open Go Go.Sv Go.ChangeShapes Go.WideShapes Go.RowKit
theorem Da{H:Type}{enc:TypeId × Value→H}{P:Program}{f:Func}{s:ChangeSpec}{apart fresh handsOn again:Bool}{W W':World}{args:Array Value}{v:Value}{ds gs:List (DataW H)}{before pa pv:List MemPlace}
  (hW:DataW.Whole enc P f.params.toList s.vars apart W args.toList ds gs before) (hB:Below W.heap.size W W')
  (hres:∀(b:Nat) (sp:Nat→Bool) (hd:Bool),DataW.TrodAll enc P W' b sp hd f.resultTypes.toList (v.resultList f.resultTypes.size) (s.fn H (ds++gs)).results [])
  (hargs:∀sp:Nat→Bool,(∀p∈before,sp p.block=true)→DataW.TrodAll enc P W' 0 sp true f.params.toList args.toList (s.fn H (ds++gs)).args pa)
  (hvars:∀sp:Nat→Bool,(∀p∈before,sp p.block=true)→DataW.TrodVars enc P W' sp s.vars (s.fn H (ds++gs)).vars pv)
  (hps:before=pa++pv)
  (hok:∀(j:Nat) (t:TypeId) (r:Value),f.resultTypes[j]?=some t→(v.resultList f.resultTypes.size)[j]?=some r→Value.okWide P W' .any 0 t r) :
  s.post enc P f apart fresh handsOn again W args v W':=by
 have lt:∀p∈before,p.block<W.heap.size:=fun p hp=>hW.lt p hp;have all:∀p∈before,(fun b=>decide (b<W.heap.size)) p.block=true:=fun p hp=>by simpa using lt p hp
 refine⟨ds,gs,before,[],pa,pv,hW,hres _ _ _,hargs _ all,hvars _ all,hB.frame _,fun _=>?_⟩;obtain⟨_,_,_,_,_,nf,nd⟩:=hW;have e:([]++pa)++pv=before:=by rw[hps];simp
 refine⟨hok,_,_,([]++pa)++pv,⟨[]++pa,pv,trodAll_append (hargs _ (fun _ _=>rfl)) (hres _ _ _),hvars _ (fun _ _=>rfl),rfl,?_,?_⟩,?_⟩
 ·intro b off hp;rw[e]at hp;have hb:b<W.heap.size:=lt _ hp;rw[hB.frozen (p:=⟨b,off,none⟩) hb];exact nf b off hp
 ·intro ha;rw[e];exact nd ha
 ·intro p hp _;rw[e]at hp;exact hp
theorem xX{α β:Type}{f:α→β}:∀{l:List α},(l.map f).Nodup→∀{p q},p∈l→q∈l→f p=f q→p=q
 | [],_,_,_,h,_,_=>by cases h
 | a::l,hn,p,q,hp,hq,e=>by
  rw[amc,List.nodup_cons]at hn;rcases amM.1 hp with h1 | h1<;>rcases amM.1 hq with h2 | h2
  ·rw[h1,h2]
  ·exact absurd (am8.2 ⟨_,h2,by rw[←e,h1]⟩) hn.1
  ·exact absurd (am8.2 ⟨_,h1,by rw[e,h2]⟩) hn.1
  ·exact xX hn.2 h1 h2 e
section
variable {P:Program} {W:World} {ti tp te ts:TypeId} {ms:Array (String × TypeId)} {f:Field} {nm:String}
theorem xV(hi:P.underlying ti=some (.interface ms))(hrow:∀u,P.typeName? 3 u=some nm→u=tp)
  (hp:P.underlying tp=some (.pointer te)) (he:P.underlying te=some (.struct #[f])) (hft:f.type=ts) (hfo:f.offset=0) (hs:P.underlying ts=some .string) (hc:P.cellsOf te=1) (hcs:P.cellsOf ts=1) :
  ∀(l:List (String × Nat × List UInt8)) {ps:List MemPlace},DataW.LaidVars P W (l.map fun x=>(x.1,.iface nm (.ptr (.agg [.lit (.string x.2.2)])))) ps →
  (∀x∈l,P.globalNamed x.1=some x.2.1∧(P.globals[x.2.1]?).map (·.type)=some ti) →
  (∀b off,MemPlace.cell b off∈ps→(∃c t,W.heap[b]?=some (.cells c t (0,0)))∧∀u v,W.cell? ⟨b,off,none⟩=some (.iface u v)→Value.okWide P W .any 0 u v) →
  ∃A:List (Nat × Addr),A.map (·.1)=l.map (·.2.1)∧(∀p∈A,∃T z,W.heap[p.1]?=some (.cells #[.iface tp (.pointer (some p.2))] T z)) ∧
   anv (A.map fun p=>MemPlace.cell p.2.block p.2.off) ps:=by
 intro l
 induction l with
 | nil=>intro _ _ _ _;exact⟨[],rfl,by simp,by simp⟩
 | cons x l ih =>
  intro ps h hg hr;obtain⟨g,t,cs,fuel,p,q,h1,h2,h3,h4,h5,rfl⟩:=h;obtain⟨g1,g2⟩:=hg x (List.mem_cons_self ..);obtain rfl:=amD (h1.symm.trans g1);obtain rfl:=amD (h2.symm.trans g2);obtain⟨A,a1,a2,a3⟩:=ih h5 (fun y hy=>hg y (List.mem_cons_of_mem _ hy)) (fun b off hb=>hr b off (by simp[hb]));obtain⟨cl⟩:=cs;obtain⟨a,s,e1,e2,e3,e4,e5⟩:=errorString_of_trod hi hrow hp he hft hfo hs hc hcs h4 (fun u v e=>by
   have e':cl=[.iface u v]:=e;subst e';exact(hr x.2.1 0 (by simp[MemPlace.row])).2 u v (by simpa using World.var?_cell h1 h3 0))
  have e1':cl=[.iface tp (.pointer (some a))]:=e1;subst e1';refine⟨(x.2.1,a)::A,by simp[a1],?_,?_⟩
  ·rintro y hy;rcases amM.1 hy with rfl | hy
   ·simp only[World.var?,h1,amo]at h3;split at h3
    ·rename_i c T z hh;exact⟨T,z,by rw[hh];simp only[al0]at h3;rw[h3]⟩
    ·cases h3
   ·exact a2 y hy
  ·rw[amc,e5,List.append_assoc];refine List.Sublist.trans ?_ (List.sublist_append_right _ _);simpa[MemPlace.row]using a3
end
def z6(W:World):Hp:=fun b=>if pX.contains b then(match W.heap[b]? with | some (.cells cs _ _)=>some cs | _=>none) else none
theorem NR{W:World}{A:List (Nat × Addr)}{ps:List MemPlace}(h1:A.map (·.1)=pX)(h2:∀p∈A,∃T z,W.heap[p.1]?=some (.cells #[.iface eM (.pointer (some p.2))] T z))
  (h3:anv (A.map fun p=>MemPlace.cell p.2.block p.2.off) ps) (h4:ps.Nodup):mn (z6 W) W:=by
 have at_:∀g,g∈pX→∃a,(g,a)∈A∧z6 W g=some #[.iface eM (.pointer (some a))]:=fun g hg=>by
  rw[←h1]at hg;obtain⟨⟨g',a⟩,hp,rfl⟩:=am8.1 hg;obtain⟨T,z,hh⟩:=h2 _ hp;refine⟨a,hp,?_⟩;have hg':pX.contains g'=true:=amX.2 (by rw[←h1];exact am8.2 ⟨_,hp,rfl⟩);simp only at hh;simp only[z6,hg',if_true,hh]
 refine⟨fun b cs hb=>?_,⟨fun g x hx=>?_,fun t g t' g' e1 e2 hne he=>?_⟩⟩
 ·unfold z6 at hb;split at hb
  ·split at hb
   ·rename_i c T z hh;simp only[al0]at hb;subst hb;exact⟨T,z,hh⟩
   ·cases hb
  ·cases hb
 ·unfold gl at hx;split at hx
  ·rename_i hg;simp only[al0]at hx;subst hx;obtain⟨a,_,ha⟩:=at_ g (amX.1 hg);refine⟨.iface eM (.pointer (some a)),?_,?_⟩
   ·simp only[Den];exact⟨a,ha,rfl⟩
   ·rw[ha];rfl
  ·cases hx
 ·unfold gl at e1 e2;split at e1
  ·split at e2
   ·rename_i hg hg';obtain⟨a,ma,ha⟩:=at_ g (amX.1 (by simpa using hg));obtain⟨a',ma',ha'⟩:=at_ g' (amX.1 (by simpa using hg'));rw[ha,ha']at he;simp only[al0,Array.mk.injEq,List.cons.injEq,Value.iface.injEq,Value.pointer.injEq,and_true,true_and]at he;subst he;exact hne (Prod.mk.inj (xX (List.Nodup.sublist h3 h4) ma ma' rfl)).1
   ·cases e2
  ·cases e1
end Go.Proofs
namespace Go.Proofs
open Go Go.Sv Go.ChangeShapes Go.WideShapes Go.RowKit
def wX : List (String × Nat × List UInt8) := [("optima/api.ErrText", 3, [111, 112, 116, 105, 109, 97, 58, 32, 116, 101, 120, 116]), ("optima/api.ErrBound", 1, [111, 112, 116, 105, 109, 97, 58, 32, 98, 111, 117, 110, 100]), ("optima/api.ErrZero", 4, [111, 112, 116, 105, 109, 97, 58, 32, 122, 101, 114, 111]), ("optima/api.ErrShape", 0, [111, 112, 116, 105, 109, 97, 58, 32, 115, 104, 97, 112, 101]), ("optima/api.ErrSingular", 5, [111, 112, 116, 105, 109, 97, 58, 32, 115, 105, 110, 103, 117, 108, 97, 114]), ("optima/api.ErrSense", 6, [111, 112, 116, 105, 109, 97, 58, 32, 115, 101, 110, 115, 101]), ("optima/api.ErrName", 2, [111, 112, 116, 105, 109, 97, 58, 32, 110, 97, 109, 101]), ("optima/api.ErrNumber", 7, [111, 112, 116, 105, 109, 97, 58, 32, 110, 117, 109, 98, 101, 114]), ("optima/api.ErrBasis", 8, [111, 112, 116, 105, 109, 97, 58, 32, 98, 97, 115, 105, 115]), ("optima/api.ErrOpen", 9, [111, 112, 116, 105, 109, 97, 58, 32, 111, 112, 101, 110])]
def AT : List (String × DataW Unit) := wX.map fun x => (x.1, .iface "*errors.errorString" (.ptr (.agg [.lit (.string x.2.2)])))
theorem Tryz.Ay:Tryz.prog.cellsOf 304=1:=by kernel_rfl
theorem Tryz.Ib:Tryz.prog.cellsOf 9=1:=by kernel_rfl
theorem Tryz.Iv (u : TypeId) (h : Tryz.prog.typeName? 3 u = some "*errors.errorString") : u = 285 :=
 typeName_ptr_named (nm := "errors.errorString") (by rw [show "*" ++ "errors.errorString" = "*errors.errorString" by decide]; kernel_rfl) (by kernel_rfl) (by decide) u (by rw [show "*" ++ "errors.errorString" = "*errors.errorString" by decide]; exact h)
theorem Tryz.s7:∀x∈wX,Tryz.prog.globalNamed x.1=some x.2.1∧(Tryz.prog.globals[x.2.1]?).map (·.type)=some 41:=by
 have h:wX.all (fun x=>decide (Tryz.prog.globalNamed x.1=some x.2.1)&&decide ((Tryz.prog.globals[x.2.1]?).map (·.type)=some 41))=true:=by kernel_rfl
 intro x hx;have:=List.all_eq_true.1 h x hx;simpa using this
theorem Tryz.Ao{W:World}(h:laidMet Tryz.prog AT W):mn (z6 W) W:=by
 obtain⟨ps,h1,h2,h3⟩:=h;obtain⟨A,a1,a2,a3⟩:=xV Tryz.underlying41 Tryz.Iv Tryz.underlying285 Tryz.underlying304 rfl rfl Tryz.underlying9 Tryz.Ay Tryz.Ib wX h1 Tryz.s7 h3;exact NR (by rw[a1];rfl) a2 a3 h2
noncomputable def Tryz.low:Nat:=(World.holding Tryz.prog default ⟨#[],#[],[]⟩).heap.size
noncomputable def Tryz.x5(os:Os):World :=
 let w0:=World.holding Tryz.prog os ⟨(wX.map fun x=>Obj.cells #[.string ⟨x.2.2.toArray⟩] 304).toArray,#[],[]⟩
 { w0 with heap:=wX.zipIdx.foldl (fun h x=>h.modify x.1.2.1 fun
      | .cells _ t frozen=>.cells #[.iface 285 (.pointer (some ⟨Tryz.low+x.2,0,none⟩))] t frozen
      | o=>o) w0.heap }
end Go.Proofs
namespace Go.Proofs
open Go Go.Sv Go.ChangeShapes Go.WideShapes Go.RowKit
theorem Tryz.et : Tryz.prog.globalNamed "errors.errorType" = some 10 := by kernel_rfl
theorem Tryz.rt : (Tryz.prog.cutTypes.find? (·.1 == "internal/reflectlite.rtype")).map (·.2) = some 252 := by kernel_rfl
theorem Tryz.Ny:((amP 316).filter fun t=>Tryz.prog.rowNamed t [101,114,114,111,114])=[41]:=by kernel_rfl
theorem Tryz.Wt:Tryz.prog.types.size=316:=by kernel_rfl
theorem Oq{W:World}{A:List (Nat × Addr)}{ps:List MemPlace}(h1:A.map (·.1)=pX)(h2:∀p∈A,∃T z,W.heap[p.1]?=some (.cells #[.iface eM (.pointer (some p.2))] T z))
  (h3:anv (A.map fun p=>MemPlace.cell p.2.block p.2.off) ps) (hr:∀b off,MemPlace.cell b off∈ps→∃c t,W.heap[b]?=some (.cells c t (0,0)))
  (hh:W.cell? ⟨10,0,none⟩=some (.iface 252 (.agg #[.pointer (some ⟨11,41,none⟩)]))):Fj W:=by
 refine⟨fun g hg=>?_,hh⟩;have hg:=amX.1 hg;rw[←h1]at hg;obtain⟨⟨g',a⟩,hp,rfl⟩:=am8.1 hg;obtain⟨T,z,e1⟩:=h2 _ hp;obtain⟨c,t,e2⟩:=hr a.block a.off (h3.subset (am8.2 ⟨_,hp,rfl⟩));exact⟨a,T,z,c,t,e1,e2⟩
theorem v8{P:Program}{l s:List (String × DataW Unit)}{a:String × DataW Unit}{W:World}(h1:(l.filter fun x=>x.2.handleName?.isSome)=[a])(h2:(l.filter fun x=>x.2.handleName?.isNone)=s)(h:laidMetH P l W):laidMet P s W∧handlesMet P [a] W:=by
 unfold laidMetH at h;rw[h1,h2]at h;exact h
theorem Tryz.BQ{W:World}(h:laidMetH Tryz.prog YtmghjkkjaolpgaaGreatDoor.Rows.presolveToldRow.laid W):mn (z6 W) W∧Fj W:=by
 obtain ⟨hl, hh⟩ := v8 (l := YtmghjkkjaolpgaaGreatDoor.Rows.presolveToldRow.laid) (a := ("errors.errorType", YtmghjkkjaolpgaaGreatDoor.Rows.laid_errors_errorType)) (s := AT) (by kernel_rfl) (by kernel_rfl) h
 refine⟨Tryz.Ao hl,?_⟩;obtain⟨ps,h1,h2,h3⟩:=hl;obtain⟨A,a1,a2,a3⟩:=xV Tryz.underlying41 Tryz.Iv Tryz.underlying285 Tryz.underlying304 rfl rfl Tryz.underlying9 Tryz.Ay Tryz.Ib wX h1 Tryz.s7 h3;refine Oq (by rw[a1];rfl) a2 a3 (fun b off hb=>(h3 b off hb).1) ?_;obtain⟨name,u,ty,e1,e2,e3,e4,e5⟩:=hh _ (amN.2 rfl);have en:name=[101,114,114,111,114]:=(amD e1).symm;subst en;obtain rfl:=amD (Tryz.rt.symm.trans e2);have hm:ty∈(amP 316).filter fun t=>Tryz.prog.rowNamed t [101,114,114,111,114]:=List.mem_filter.2 ⟨List.mem_range.2 (by rw[←Tryz.Wt];exact e3),e4⟩;rw[Tryz.Ny]at hm;obtain rfl:=amN.1 hm;have hth:typeHandle Tryz.prog 41=.pointer (some ⟨11,41,none⟩):=by kernel_rfl
 rw[hth]at e5;simpa using World.var?_cell Tryz.et e5 0
noncomputable def Tryz.pN(os:Os):World :=
 { Tryz.x5 os with heap:=(Tryz.x5 os).heap.modify 10 fun
   | .cells _ t frozen=>.cells #[.iface 252 (.agg #[.pointer (some ⟨11,41,none⟩)])] t frozen
   | o=>o }
end Go.Proofs
namespace Go.Proofs
open Go Go.Sv Go.ChangeShapes Go.WideShapes Go.RowKit
theorem LG{W:World}(h:mn (z6 W) W):mn (sC W) W:=by
 refine⟨fun b cs hb=>?_,h.2.mono fun b cs hb=>?_⟩
 ·unfold sC at hb;split at hb
  ·rename_i c T z hh;simp only[al0]at hb;subst hb;exact⟨T,z,hh⟩
  ·cases hb
 ·unfold z6 at hb;split at hb
  ·split at hb
   ·rename_i c T z hh;simp only[al0]at hb;subst hb;simp[sC,hh]
   ·cases hb
  ·cases hb
theorem x6{β:bO}{H:Hp}{x:SV}{v:Value}{l:List SV}{vs:List Value}(h:Den β H x v)(h':bF β H l vs):bF β H (x::l) (v::vs):=by
 simp only[bF];exact⟨v,vs,rfl,h,h'⟩
theorem Hd{β:bO}{H:Hp}:bF β H [] []:=by simp[bF]
theorem w5{P:Program}{fn:FuncId}{args:List SV}{b:Bool}(h:wD P fn args (fun x=>x=.val (.bool b))){W:World}(hW:mn (z6 W) W∧Fj W){vals:List Value}(hd:bF lF (sC W) args vals) :
  Calls P fn vals.toArray W fun e W'=>e=.returned (.bool b)∧Below W.heap.size W W':=by
 refine(h (sC W) W vals (LG hW.1) hW.2 hd).mono fun e W' ⟨H',v,x,e1,e2,e3,_,_,_,e4⟩=>?_;subst e3;simp only[Den]at e2;exact⟨by rw[e1,e2.1],e4⟩
end Go.Proofs


/- A text of the prover's own. -/
import Derived.Test.YtmghjkkjaolpgaaGreatDoorUVo
import Derived.IntWalk
open List renaming replicate→alZ,append_assoc→amg,getElem?_append_right→alY,getElem?_append_left→alX,getElem?_take_of_lt→amd,getElem?_drop→ame,ext_getElem?→amr,length_replicate→ams,getElem?_eq_none→al2
open Nat renaming add_mul→alV,one_mul→alW,mul_le_mul_right→amh,mod_lt→amt,le_refl→amk
open Array renaming length_toList→amp,getElem?_toList→ama,range→amu
namespace Go.Sv
open Go Go.RowKit
inductive cr where
 | stuck
 /-- condition, entries, entries that are named no more, what is left in the slot -/
 | m (c:Prop) (M:aJ) (pk:List Nat) (x:Option SV)
def oF(x:SV)(j:Nat)(y:SV):SV :=
 if j=0∧x.fj=y.fj then y else .agg (x.cells.take j++y.cells++x.cells.drop (j+y.fj))
def mH(M:aJ)(ti:Option TI)(x y:Option SV):cr :=
 match ti,x,y with
 | some ti,some (.ptr k i j),some y =>
  match ao M k with
  | some ⟨sz,es,false⟩=>.m (i<es.length∧(aA es i).aM=false∧y.aM=false∧y.fj=ti.size∧j+ti.size≤(aA es i).fj) (aN M k (some ⟨sz,bD es i (oF (aA es i) j y),false⟩)) [] none
  | _=>.stuck
 | _,_,_=>.stuck
def ow(M:aJ)(ti:Option TI):cr :=
 match ti with
 | some ti=>.m True (M++[some ⟨ti.size,[ti.cK],false⟩]) [] (some (.ptr M.length 0 0))
 | none=>.stuck
def xY(M:aJ)(ti:Option TI)(x:Option SV):cr :=
 match ti,x with
 | some ti,some x=>.m (x.fj=ti.size∧x.aM=false) (M++[some ⟨ti.size,[x],false⟩]) [] (some (.ptr M.length 0 0))
 | _,_=>.stuck
def jL(sz len:Nat):List (Nat × Option SV)→List SV→Option (List SV)
 | [],acc=>some acc
 | (i,some x)::r,acc=>if x.fj=sz∧x.aM=false∧i<len then jL sz len r (bD acc i x) else none
 | (_,none)::_,_=>none
def fG(P:Program)(M:aJ)(ti:Option TI)(len:Nat)(parts:List (Nat × Option SV)):cr :=
 match ti with
 | some ⟨.sl el,_,_,_⟩ =>
  match az P el with
  | some te =>
   match jL te.size len parts (alZ len te.cK)with
   | some es=>if len*te.size≤16777216 then .m True (M++[some ⟨te.size,es,false⟩]) [] (some (.view M.length 0 len)) else .stuck
   | none=>.stuck
  | none=>.stuck
 | _=>.stuck
def fZ(P:Program)(M:aJ)(ti:Option TI)(l c:Option SV):cr :=
 match ti,l,c with
 | some ⟨.sl el,_,_,_⟩,some (.val (.int _ n)),some (.val (.int _ m)) =>
  match az P el with
  | some te=>.m (0≤n∧n≤m∧m≤281474976710656∧te.bytes*m≤281474976710656) (M++[some ⟨te.size,alZ n.toNat te.cK,false⟩]) [] (some (.view M.length 0 n.toNat))
  | none=>.stuck
 | _,_,_=>.stuck
section
variable {P:Program} {C:Ctx} {β:bO} {H:Hp} {M:aJ} {w:World} {c:Prop}
theorem Den.MD{x:SV}{u:Value}(h:Den β H x u)(hx:x.aM=false):u.cells.size=x.fj :=
 h.nH.resolve_left fun⟨l,e⟩=>by rw[e]at hx;simp[SV.aM]at hx
theorem wK{x:SV}(hx:x.aM=false):∀l,x≠.bG l:=fun l e=>by rw[e]at hx;simp[SV.aM]at hx
theorem B4{x y:SV}{v u:Value}{j:Nat}(hx:Den β H x v)(hy:Den β H y u)(hxt:x.aM=false)(hyt:y.aM=false)(hj:j+y.fj≤x.fj) :
  ∃z,Den β H (oF x j y) z∧z.cells.toList=v.cells.toList.take j++u.cells.toList++v.cells.toList.drop (j+u.cells.size):=by
 have hv:=hx.MD hxt;have hu:=hy.MD hyt;unfold oF;split
 ·rename_i h;obtain⟨rfl,h2⟩:=h;refine⟨u,hy,?_⟩;rw[List.drop_eq_nil_of_le (by simp;omega)];simp
 ·refine⟨.agg (v.cells.toList.take j++u.cells.toList++v.cells.toList.drop (j+u.cells.size)).toArray,?_,by simp[Value.cells]⟩;simp only[Den];refine⟨_,rfl,?_⟩;rw[hu];exact(((hx.pE (wK hxt)).take j).append (hy.pE (wK hyt))).append ((hx.pE (wK hxt)).drop _)
theorem Dg(hW:cv C β H M w){t:TypeId}{x y:Option SV}{u v:Value}{M':aJ}{pk:List Nat}{r:Option SV}
  (h:mH M (az P t) x y=.m c M' pk r) (hc:c) (hx:∀s,x=some s→Den β H s u) (hy:∀s,y=some s→Den β H s v) :
  pk=[]∧r=none∧∃w',(Instr.storeAt t u v).run P w=.ok () w'∧cv C β H M' w'∧w'.heap.size=w.heap.size ∧
   ∀b,(∀k i j d,x=some (.ptr k i j)→β k=some (some d)→b≠d.b)→w'.heap[b]?=w.heap[b]?:=by
 unfold mH at h;split at h
 ·rename_i ti k i j y hti;split at h
  ·rename_i sz es he;simp only[cr.m.injEq]at h;obtain⟨rfl,rfl,rfl,rfl⟩:=h;obtain⟨h1,h2,h3,h4,h5⟩:=hc;refine⟨rfl,rfl,?_⟩;have hu:=hx _ rfl;have hv:=hy _ rfl;simp only[Den]at hu;obtain⟨d,hd,rfl⟩:=hu;have he':=aL he;rcases hW.da k _ he' with⟨g1,_⟩ | ⟨d',cs,T,vs,g1,g2,g3,g4,g5,g6,g7, -⟩ | ⟨d',ms,g1,g2,g3,g4⟩
   rotate_left 2
   ·obtain⟨l,hl⟩:=g4.Fu i h1;simp only at hl;rw[hl]at h2;simp[SV.aM]at h2
   ·rw[hd]at g1;simp at g1
   ·rw[hd]at g1;simp only[Option.some.injEq]at g1;subst g1;simp only at g2 g5;obtain⟨i1,d1,z1,ht⟩:=ay hti;obtain⟨vi,hvi1,hvi2,hvi3⟩:=g5.get h1;have pW:=hvi1.MD h2;have hlen:=g5.length;obtain⟨z,hz1,hz2⟩:=B4 (j:=j) hvi1 hv h2 h3 (by omega);have hzs:z.cells.size=sz:=by
     have:=congrArg List.length hz2;have hvs:=hv.MD h3;simp at this;omega
    obtain⟨vs',q1,q2,q3⟩:=g5.set h1 hz1 hzs;have hvs:=hv.MD h3;have hmul:i*sz+sz≤cs.size:=by
     calc i*sz+sz=(i+1)*sz:=by rw[alV,alW]
      _≤es.length*sz:=amh _ h1
      _=vs.length:=hlen.symm
      _≤cs.size:=g6
    obtain⟨w',cs',r1,r2,r3,r4⟩:=iL (P:=P) v.cells.toList w (i*d.sz+j) 0 cs g3 (by simp[hvs];rw[g2];omega) ((hv.pE (wK h3)).Dp);refine⟨w',?_,?_,r2.size,fun b hb=>r2.there b (hb k i j d rfl hd)⟩
    ·simp only[Instr.storeAt,Instr.sureAddr,storeVar,Sem.run_bind,Sem.run_pure,Result.andThen_ok,ht.eK];rw[if_neg (by simp[hvs,h4])];exact r1
    ·rw[ez];refine hW.write he' rfl hd g2 r2 (by rw[r3,g4]) q1 (by rw[q2,r3];exact g6) (fun q hq=>?_);rw[r4,q3];simp only[Nat.add_zero,amp,hvs,g2];have hcz:∀p,z.cells[p]?=(vi.cells.toList.take j++v.cells.toList++vi.cells.toList.drop (j+v.cells.size))[p]?:=fun p=>by rw[←ama,hz2]
     by_cases hA:i*sz≤q∧q<i*sz+sz
     ·rw[if_pos hA,hcz];by_cases hB:i*sz+j≤q∧q<i*sz+j+y.fj
      ·rw[if_pos hB,amg,alY (by simp;omega),alX (by simp;omega)];congr 1;simp;omega
      ·rw[if_neg hB];rw[g7 q (by rw[hlen];have:=amh sz (show i+1≤es.length from h1);rw[alV,alW]at this;omega)];have hvq:=hvi3 (q - i*sz) (by omega);rw[show i*sz+(q - i*sz)=q from by omega]at hvq;rw[hvq];by_cases hC:q - i*sz<j
       ·rw[amg,alX (by simp;omega),amd hC];simp
       ·rw[amg,alY (by simp;omega),alY (by simp;omega),ame];simp only[List.length_take,amp];rw[show j+v.cells.size+(q - i*sz - min j vi.cells.size - v.cells.size)=q - i*sz from by omega];simp
     ·rw[if_neg hA,if_neg (by omega)];exact g7 q (by omega)
  ·cases h
 ·cases h
theorem CO(hW:cv C β H M w){t:TypeId}{M':aJ}{pk:List Nat}{r:Option SV}(h:ow M (az P t)=.m c M' pk r) :
  pk=[]∧∃x d,r=some x∧(Instr.alloc t true (.tuple #[])).run P w=.ok (.pointer (some ⟨w.heap.size,0,none⟩)) (w.alloc (.cells d t)) ∧
   ∃bd,cv C (β.dT M.length (some bd)) H M' (w.alloc (.cells d t))∧Den (β.dT M.length (some bd)) H x (.pointer (some ⟨w.heap.size,0,none⟩)):=by
 unfold ow at h;split at h
 ·rename_i ti hti;simp only[cr.m.injEq]at h;obtain⟨-,rfl,rfl,rfl⟩:=h;obtain⟨i1,d1,z1,ht⟩:=ay hti;obtain⟨v,hv1,hv2,hv3⟩:=oX ht β H;refine⟨rfl,_,z1.cells,rfl,?_,⟨w.heap.size,z1.cells.size,ti.size⟩,?_,?_⟩
  ·simp[Instr.alloc,ht.jY,newVar,newRow]
  ·refine hW.alloc (vs:=v.cells.toList) ?_ (by simp[hv2]) (fun q hq=>by simp[hv2]);simp only[aU];exact⟨v,[],by simp,by rw[hv2,hv3],hv1,rfl⟩
  ·simp only[Den];exact⟨_,by simp[bO.dT];rfl,by simp⟩
 ·cases h
theorem JI(hW:cv C β H M w){t:TypeId}{x:Option SV}{u:Value}{M':aJ}{pk:List Nat}{r:Option SV}(h:xY M (az P t) x=.m c M' pk r)(hc:c)(hx:∀s,x=some s→Den β H s u) :
  pk=[]∧∃x d,r=some x∧(Instr.box t u).run P w=.ok (.pointer (some ⟨w.heap.size,0,none⟩)) (w.alloc (.cells d t)) ∧
   ∃bd,cv C (β.dT M.length (some bd)) H M' (w.alloc (.cells d t))∧Den (β.dT M.length (some bd)) H x (.pointer (some ⟨w.heap.size,0,none⟩)):=by
 unfold xY at h;split at h
 ·rename_i ti s hti;simp only[cr.m.injEq]at h;obtain⟨rfl,rfl,rfl,rfl⟩:=h;have hu:=hx _ rfl;refine⟨rfl,_,u.cells,rfl,?_,⟨w.heap.size,u.cells.size,ti.size⟩,?_,?_⟩
  ·simp[Instr.box,newVar,newRow]
  ·refine hW.alloc (vs:=u.cells.toList) ?_ (by simp) (fun q hq=>by simp);simp only[aU];exact⟨u,[],by simp,by rw[hu.MD hc.2,hc.1],hu,rfl⟩
  ·simp only[Den];exact⟨_,by simp[bO.dT];rfl,by simp⟩
 ·cases h
theorem xN{ρ:Operand→Value}{fr:List (Nat × SV)}(hρ:∀o s,ev fr o=some s→Den β H s (ρ o)){sz len:Nat} :
  ∀(parts:List (Nat × Operand)) (acc:List SV) (cs:Array Value) (l:List SV),acc.length=len→jL sz len (parts.map fun p=>(p.1,ev fr p.2)) acc=some l→aU β H sz acc cs.toList →
   l.length=len∧∃cs',Instr.fill (fun i=>some (i*sz,sz)) cs (parts.map fun p=>(p.1,ρ p.2))=some cs'∧aU β H sz l cs'.toList
 | [],acc,cs,l,ha,h,hd=>by
  simp only[List.map_nil,jL,Option.some.injEq]at h;subst h;exact⟨ha,cs,by simp[Instr.fill],hd⟩
 | (i,o)::parts,acc,cs,l,ha,h,hd=>by
  simp only[List.map_cons]at h ⊢;cases hx:ev fr o with
  | none=>rw[hx]at h;simp[jL]at h
  | some x =>
   rw[hx]at h;simp only[jL]at h;split at h
   ·rename_i hc;obtain⟨h1,h2,h3⟩:=hc;have hdx:=hρ o x hx;have pW:=hdx.MD h2;have hlen:=hd.length;have hcs:i*sz+(ρ o).cells.size≤cs.size:=by
     rw[pW,h1]
     calc i*sz+sz=(i+1)*sz:=by rw[alV,alW]
      _≤len*sz:=amh _ h3
      _=cs.size:=by rw[←ha,←hlen];simp
    have hfo:=BZ (ρ o) (i*sz) cs hcs;obtain⟨vs',q1,q2,q3⟩:=hd.set (i:=i) (by rw[ha];exact h3) hdx (by rw[pW,h1]);have hvs:vs'=((ρ o).cells.zipIdx.foldl (fun cs (p:Value × Nat)=>cs.setIfInBounds (i*sz+p.2) p.1) cs).toList:=by
     rw[hfo];apply amr;intro q;rw[q3];by_cases hq:q<i*sz
     ·rw[if_neg (by omega),amg,alX (by simp;omega),amd hq]
     ·rw[amg,alY (by simp;omega)];have hl2:(cs.toList.take (i*sz)).length=i*sz:=by simp;omega
      rw[hl2];by_cases hq2:q<i*sz+sz
      ·rw[if_pos (by omega),alX (by simp[pW,h1];omega)];simp
      ·rw[if_neg (by omega),alY (by simp[pW,h1];omega),ame];congr 1;simp[pW,h1];omega
    obtain⟨g1,cs',g2,g3⟩:=xN hρ parts _ ((ρ o).cells.zipIdx.foldl (fun cs (p:Value × Nat)=>cs.setIfInBounds (i*sz+p.2) p.1) cs) l (by rw[cj];simpa using ha) h (by rw[←hvs];exact q1);refine⟨g1,cs',?_,g3⟩;simp only[Instr.fill];rw[if_neg (by simp[pW,h1]at hcs ⊢;omega)];exact g2
   ·cases h
theorem x4(L:Array Value)(s n:Nat)(hs:L.size=s)(q:Nat)(hq:q<n*s):((amu (n*s)).map (fun i=>L[i % L.size]!))[q]?=(alZ n L.toList).flatten[q]?:=by
 have hs0:0<s:=by
             rcases Nat.eq_zero_or_pos s with h | h;· subst h;simp at hq
             ·exact h
 have h1:((amu (n*s)).map (fun i=>L[i % L.size]!))[q]?=some (L[q % s]'(by rw[hs];exact amt _ hs0)):=by
  simp[hq,hs,amt _ hs0]
 rw[h1];clear h1
 induction n generalizing q with
 | zero=>simp at hq
 | succ n ih =>
  simp only[List.replicate_succ,List.flatten_cons];by_cases hq':q<s
  ·rw[alX (by simpa[hs]using hq')];simp only[Nat.mod_eq_of_lt hq'];rw[ama];exact(Array.getElem?_eq_getElem _).symm
  ·rw[alY (by simp[hs];omega)];simp only[amp,hs];rw[←ih (q - s) (by rw[alV,alW]at hq;omega)];congr 2;rw[Nat.mod_eq_sub_mod (by omega)]
theorem tG(hW:cv C β H M w){ρ:Operand→Value}{fr:List (Nat × SV)}(hρ:∀o s,ev fr o=some s→Den β H s (ρ o)){t:TypeId}{len:Nat}{parts:Array (Nat × Operand)}
  {M':aJ} {pk:List Nat} {r:Option SV} (h:fG P M (az P t) len (parts.toList.map fun p=>(p.1,ev fr p.2))=.m c M' pk r) :
  pk=[]∧∃x d T,r=some x∧(Instr.buildSlice t len (parts.map fun(i,x)=>(i,ρ x))).run P w=.ok (.slice (some ⟨w.heap.size,0,none⟩) len len) (w.alloc (.cells d T)) ∧
   ∃bd,cv C (β.dT M.length (some bd)) H M' (w.alloc (.cells d T))∧Den (β.dT M.length (some bd)) H x (.slice (some ⟨w.heap.size,0,none⟩) len len):=by
 unfold fG at h;split at h
 ·rename_i el _ _ _ hti;obtain⟨i1,d1,z1,ht⟩:=ay hti;obtain rfl:=ka ht.k;split at h
  ·rename_i te hte;obtain⟨i2,d2,z2,ht2⟩:=ay hte;split at h
   ·rename_i es hes;split at h
    ·rename_i hsm;simp only[cr.m.injEq]at h;obtain⟨-,rfl,rfl,rfl⟩:=h;obtain⟨v,hv1,hv2,hv3⟩:=oX ht2 β H
     let zz:Array Value:=if len*te.size=0 then #[] else z2.cells
     have hd0:aU β H te.size (alZ len te.cK) ((amu (len*te.size)).map (fun i=>zz[i % zz.size]!)).toList:=by
      have h0:=aU.replicate (s:=te.size) hv1 (by rw[hv2,hv3]) len;have e:((amu (len*te.size)).map (fun i=>zz[i % zz.size]!)).toList=(alZ len v.cells.toList).flatten:=by
       have hl0:=h0.length;simp only[ams]at hl0;apply amr;intro q;by_cases hq:q<len*te.size
       ·have hz:zz=v.cells:=by simp only[zz];rw[if_neg (by omega),hv2]
        rw[hz,ama];exact x4 v.cells te.size len (by rw[hv2,hv3]) q hq
       ·rw[al2 (by simp;omega),al2 (by omega)]
      rw[e];exact h0
     obtain⟨g1,cs',g2,g3⟩:=xN hρ parts.toList _ _ es (by simp) hes hd0;have hl:=g3.length;refine⟨rfl,_,cs',el,rfl,?_,⟨w.heap.size,cs'.size,te.size⟩,?_,?_⟩
     ·have hmp:(parts.map fun(i,x)=>(i,ρ x)).toList=parts.toList.map fun p=>(p.1,ρ p.2):=by simp
      simp only[Instr.buildSlice,Sem.run_bind,ht.aK,Result.andThen_ok,ht2.eK];rw[if_neg (by omega)];by_cases h0:len*te.size=0
      ·rw[if_pos h0];have hzz:zz=#[]:=if_pos h0;rw[hzz]at g2;simp only[Sem.run_bind,Sem.run_pure,Result.andThen_ok,hmp,g2,newRow,run_newObj,World.alloc_eq]
      ·rw[if_neg h0];have hzz:zz=z2.cells:=if_neg h0;rw[hzz]at g2;simp only[Sem.run_bind,Sem.run_pure,Result.andThen_ok,ht2.jY,hmp,g2,newRow,run_newObj,World.alloc_eq]
     ·exact hW.alloc g3 (by simp) (fun q hq=>by simp)
     ·simp only[Den];right;refine⟨_,len,0,by simp[bO.dT];rfl,amk _,?_,fun _=>by simp,rfl⟩;simp only[Nat.zero_add];simp at hl;rw[hl,g1];exact amk _
    ·cases h
   ·cases h
  ·cases h
 ·cases h
theorem wI(hW:cv C β H M w){t:TypeId}{l cp:Option SV}{u v:Value}{M':aJ}{pk:List Nat}{r:Option SV}(h:fZ P M (az P t) l cp=.m c M' pk r)(hc:c)
  (hl:∀s,l=some s→Den β H s u) (hv:∀s,cp=some s→Den β H s v) :
  pk=[]∧∃x d T z,r=some x∧(Instr.makeSlice t u v).run P w=.ok z (w.alloc (.cells d T)) ∧
   ∃bd,cv C (β.dT M.length (some bd)) H M' (w.alloc (.cells d T))∧Den (β.dT M.length (some bd)) H x z:=by
 unfold fZ at h;split at h
 ·rename_i el _ _ _ k n k' m hti;have h1:=hl _ rfl;have h2:=hv _ rfl;simp only[Den]at h1 h2;obtain⟨rfl, -⟩:=h1;obtain⟨rfl, -⟩:=h2;obtain⟨i1,d1,z1,ht⟩:=ay hti;obtain rfl:=ka ht.k;split at h
  ·rename_i te hte;obtain⟨i2,d2,z2,ht2⟩:=ay hte;simp only[cr.m.injEq]at h;obtain⟨rfl,rfl,rfl,rfl⟩:=h;obtain⟨c1,c2,c3,c4⟩:=hc;obtain⟨z,hz1,hz2,hz3⟩:=oX ht2 β H;have wn:IntKind.i64.wrap n=n:=IntWalk.i64_in n (by omega);have wm:IntKind.i64.wrap m=m:=IntWalk.i64_in m (by omega);have hb:(te.bytes:Int)*m≤2^48:=by omega
   let zz:Array Value:=if m.toNat*te.size=0 then #[] else z2.cells
   have hbytes:i2.bytes=te.bytes:=ht2.bytes.symm;refine⟨rfl,_,(amu (m.toNat*te.size)).map (fun i=>zz[i % zz.size]!),el,.slice (some ⟨w.heap.size,0,none⟩) n.toNat m.toNat,rfl,?_,⟨w.heap.size,m.toNat*te.size,te.size⟩,?_,?_⟩
   ·have ha:∀(k:IntKind) (q:Int),(asInt (.int k q)).run P w=.ok q w:=fun k q=>by simp[asInt,asIntOf]
    simp only[Instr.makeSlice,Sem.run_bind,ht.aK,Result.andThen_ok,ha,ht2.uJ,wn,wm,hbytes];rw[if_neg (by simp;omega)];simp only[Sem.run_bind,run_askRoom,Result.andThen_ok,ht2.eK];by_cases h0:m.toNat*te.size=0
    ·rw[if_pos h0];have hzz:zz=#[]:=if_pos h0;simp only[hzz,Sem.run_bind,newRow,run_newObj,Sem.run_pure,Result.andThen_ok,World.alloc_eq]
    ·rw[if_neg h0];have hzz:zz=z2.cells:=if_neg h0;simp only[hzz,Sem.run_bind,ht2.jY,newRow,run_newObj,Sem.run_pure,Result.andThen_ok,World.alloc_eq]
   ·have h0:=aU.replicate (s:=te.size) hz1 (by rw[hz2,hz3]) n.toNat;have hl0:=h0.length;simp only[ams]at hl0;have hle:n.toNat*te.size≤m.toNat*te.size:=amh _ (by omega);have:=hW.alloc (T:=el) (cs:=(amu (m.toNat*te.size)).map (fun i=>zz[i % zz.size]!)) h0 (by simp[hl0];omega) (fun q hq=>by
     rw[hl0]at hq;have hz:zz=z.cells:=by simp only[zz];rw[if_neg (by omega),hz2]
     rw[hz,x4 z.cells te.size m.toNat (by rw[hz2,hz3]) q (by omega)];have hx:∀a b:Nat,a≤b→∀L:List Value,∀q,q<a*L.length→(alZ b L).flatten[q]?=(alZ a L).flatten[q]?:=fun a b hab L q hq=>by
      obtain⟨e,rfl⟩:=Nat.exists_eq_add_of_le hab;rw[List.replicate_append_replicate.symm,List.flatten_append,alX (by simpa using hq)]
     exact hx _ _ (by omega) _ q (by simpa[hz2,hz3]using hq))
    simpa using this
   ·simp only[Den];right;exact⟨_,m.toNat,0,by simp[bO.dT];rfl,by omega,by simp,fun _=>by simp,rfl⟩
  ·cases h
 ·cases h
end
end Go.Sv


/- A text of the prover's own. -/
import Derived.Test.YtnimjdcaajmfcaaGreatDoorVVo
import Derived.IntWalk
open List renaming replicate->awQ,append_assoc->axa,getElem?_append_right->awP,getElem?_append_left->awO,getElem?_take_of_lt->aw7,getElem?_drop->aw8,ext_getElem?->axA,length_replicate->axB,getElem?_eq_none->awT
open Go.Instr renaming storeAt->axC,alloc->axD,box->axE,fill->axl,buildSlice->axF,makeSlice->axG
open Nat renaming add_mul->awM,one_mul->awN,mul_le_mul_right->axn,mod_lt->axH,le_refl->axq
open Go.Sem renaming run_bind->aw4,run_pure->axr
open Go.Result renaming andThen_ok->aw5
open Array renaming length_toList->axw,getElem?_toList->aw1,range->axI
open Go.World renaming alloc_eq->axJ
namespace Go.Sv
open Go Go.RowKit
inductive cK where
 | stuck
 /-- condition, entries, entries that are named no more, what is left in the slot -/
 | m (c:Prop) (M:aC) (pk:List Nat) (x:Option SV)
def sE(x:SV)(j:Nat)(y:SV):SV :=
 if j=0∧x.ir=y.ir then y else .agg (x.cells.take j++y.cells++x.cells.drop (j+y.ir))
def pE(M:aC)(ti:Option TI)(x y:Option SV):cK :=
 match ti,x,y with
 | some ti,some (.ptr k i j),some y =>
  match aA M k with
  | some ⟨sz,es,false⟩=>.m (i<es.length∧(aM es i).aW=false∧y.aW=false∧y.ir=ti.size∧j+ti.size<=(aM es i).ir) (aX M k (some ⟨sz,da es i (sE (aM es i) j y),false⟩)) [] none
  | _=>.stuck
 | _,_,_=>.stuck
def sK(M:aC)(ti:Option TI):cK :=
 match ti with
 | some ti=>.m True (M++[some ⟨ti.size,[ti.dm],false⟩]) [] (some (.ptr M.length 0 0))
 | none=>.stuck
def Db(M:aC)(ti:Option TI)(x:Option SV):cK :=
 match ti,x with
 | some ti,some x=>.m (x.ir=ti.size∧x.aW=false) (M++[some ⟨ti.size,[x],false⟩]) [] (some (.ptr M.length 0 0))
 | _,_=>.stuck
def kU(sz len:Nat):List (Nat × Option SV)->List SV->Option (List SV)
 | [],acc=>some acc
 | (i,some x)::r,acc=>if x.ir=sz∧x.aW=false∧i<len then kU sz len r (da acc i x) else none
 | (_,none)::_,_=>none
def gI(P:Program)(M:aC)(ti:Option TI)(len:Nat)(parts:List (Nat × Option SV)):cK :=
 match ti with
 | some ⟨.sl el,_,_,_⟩ =>
  match an P el with
  | some te =>
   match kU te.size len parts (awQ len te.dm)with
   | some es=>if len*te.size<=16777216 then .m True (M++[some ⟨te.size,es,false⟩]) [] (some (.view M.length 0 len)) else .stuck
   | none=>.stuck
  | none=>.stuck
 | _=>.stuck
def iA(P:Program)(M:aC)(ti:Option TI)(l c:Option SV):cK :=
 match ti,l,c with
 | some ⟨.sl el,_,_,_⟩,some (.val (.int _ n)),some (.val (.int _ m)) =>
  match an P el with
  | some te=>.m (0<=n∧n<=m∧m<=281474976710656∧te.bytes*m<=281474976710656) (M++[some ⟨te.size,awQ n.toNat te.dm,false⟩]) [] (some (.view M.length 0 n.toNat))
  | none=>.stuck
 | _,_,_=>.stuck
section
variable {P:Program} {C:Ctx} {β:cu} {H:Hp} {M:aC} {w:World} {c:Prop}
theorem Den.Tx{x:SV}{u:Value}(h:Den β H x u)(hx:x.aW=false):u.cells.size=x.ir :=
 h.q9.resolve_left λ⟨l,e⟩=>by rw[e]at hx;simp[SV.aW]at hx
theorem z6{x:SV}(hx:x.aW=false):∀l,x≠.bM l:=λl e=>by rw[e]at hx;simp[SV.aW]at hx
theorem FQ{x y:SV}{v u:Value}{j:Nat}(hx:Den β H x v)(hy:Den β H y u)(al:x.aW=false)(au:y.aW=false)(hj:j+y.ir<=x.ir) :
  ∃z,Den β H (sE x j y) z∧z.cells.toList=v.cells.toList.take j++u.cells.toList++v.cells.toList.drop (j+u.cells.size):=by
 have hv:=hx.Tx al;have hu:=hy.Tx au;unfold sE;split
 ·rename_i h;obtain⟨rfl,h2⟩:=h;refine⟨u,hy,?_⟩;rw[List.drop_eq_nil_of_le (by simp;omega)];simp
 ·refine⟨.agg (v.cells.toList.take j++u.cells.toList++v.cells.toList.drop (j+u.cells.size)).toArray,?_,by simp[Value.cells]⟩;simp only[Den];refine⟨_,rfl,?_⟩;rw[hu];exact(((hx.ua (z6 al)).take j).append (hy.ua (z6 au))).append ((hx.ua (z6 al)).drop _)
theorem IW(hW:cM C β H M w){t:TypeId}{x y:Option SV}{u v:Value}{M':aC}{pk:List Nat}{r:Option SV}
  (h:pE M (an P t) x y=.m c M' pk r) (hc:c) (hx:∀s,x=some s->Den β H s u) (hy:∀s,y=some s->Den β H s v) :
  pk=[]∧r=none∧∃w',(axC t u v).run P w=.ok () w'∧cM C β H M' w'∧w'.heap.size=w.heap.size ∧
   ∀b,(∀k i j d,x=some (.ptr k i j)->β k=some (some d)->b≠d.b)->w'.heap[b]?=w.heap[b]?:=by
 unfold pE at h;split at h
 ·rename_i ti k i j y ab;split at h
  ·rename_i sz es he;simp only[cK.m.injEq]at h;obtain⟨rfl,rfl,rfl,rfl⟩:=h;obtain⟨h1,h2,h3,h4,h5⟩:=hc;refine⟨rfl,rfl,?_⟩;have hu:=hx _ rfl;have hv:=hy _ rfl;simp only[Den]at hu;obtain⟨d,hd,rfl⟩:=hu;have av:=aU he;rcases hW.dF k _ av with⟨g1,_⟩ | ⟨d',cs,T,vs,g1,g2,g3,g4,g5,g6,g7, -⟩ | ⟨d',ms,g1,g2,g3,g4⟩
   rotate_left 2
   ·obtain⟨l,hl⟩:=g4.LR i h1;simp only at hl;rw[hl]at h2;simp[SV.aW]at h2
   ·rw[hd]at g1;simp at g1
   ·rw[hd]at g1;simp only[Option.some.injEq]at g1;subst g1;simp only at g2 g5;obtain⟨i1,d1,z1,ht⟩:=aH ab;obtain⟨vi,ai,aF,am⟩:=g5.get h1;have wE:=ai.Tx h2;have hlen:=g5.length;obtain⟨z,ao,ad⟩:=FQ (j:=j) ai hv h2 h3 (by omega);have aG:z.cells.size=sz:=by
     have:=congrArg List.length ad;have ah:=hv.Tx h3;simp at this;omega
    obtain⟨aw,q1,q2,q3⟩:=g5.set h1 ao aG;have ah:=hv.Tx h3;have hmul:i*sz+sz<=cs.size:=by
     calc i*sz+sz=(i+1)*sz:=by rw[awM,awN]
      _<=es.length*sz:=axn _ h1
      _=vs.length:=hlen.symm
      _<=cs.size:=g6
    obtain⟨w',ac,r1,r2,r3,r4⟩:=jU (P:=P) v.cells.toList w (i*d.sz+j) 0 cs g3 (by simp[ah];rw[g2];omega) ((hv.ua (z6 h3)).Jq);refine⟨w',?_,?_,r2.size,λb hb=>r2.there b (hb k i j d rfl hd)⟩
    ·simp only[axC,Instr.sureAddr,storeVar,aw4,axr,aw5,ht.fC];rw[if_neg (by simp[ah,h4])];exact r1
    ·rw[dL];refine hW.write av rfl hd g2 r2 (by rw[r3,g4]) q1 (by rw[q2,r3];exact g6) (λq hq=>?_);rw[r4,q3];simp only[Nat.add_zero,axw,ah,g2];have aI:∀p,z.cells[p]?=(vi.cells.toList.take j++v.cells.toList++vi.cells.toList.drop (j+v.cells.size))[p]?:=λp=>by rw[<-aw1,ad]
     by_cases hA:i*sz<=q∧q<i*sz+sz
     ·rw[if_pos hA,aI];by_cases hB:i*sz+j<=q∧q<i*sz+j+y.ir
      ·rw[if_pos hB,axa,awP (by simp;omega),awO (by simp;omega)];congr 1;simp;omega
      ·rw[if_neg hB];rw[g7 q (by rw[hlen];have:=axn sz (show i+1<=es.length from h1);rw[awM,awN]at this;omega)];have ax:=am (q - i*sz) (by omega);rw[show i*sz+(q - i*sz)=q from by omega]at ax;rw[ax];by_cases hC:q - i*sz<j
       ·rw[axa,awO (by simp;omega),aw7 hC];simp
       ·rw[axa,awP (by simp;omega),awP (by simp;omega),aw8];simp only[List.length_take,axw];rw[show j+v.cells.size+(q - i*sz - min j vi.cells.size - v.cells.size)=q - i*sz from by omega];simp
     ·rw[if_neg hA,if_neg (by omega)];exact g7 q (by omega)
  ·cases h
 ·cases h
theorem ID(hW:cM C β H M w){t:TypeId}{M':aC}{pk:List Nat}{r:Option SV}(h:sK M (an P t)=.m c M' pk r) :
  pk=[]∧∃x d,r=some x∧(axD t true (.tuple #[])).run P w=.ok (.pointer (some ⟨w.heap.size,0,none⟩)) (w.alloc (.cells d t)) ∧
   ∃bd,cM C (β.eK M.length (some bd)) H M' (w.alloc (.cells d t))∧Den (β.eK M.length (some bd)) H x (.pointer (some ⟨w.heap.size,0,none⟩)):=by
 unfold sK at h;split at h
 ·rename_i ti ab;simp only[cK.m.injEq]at h;obtain⟨-,rfl,rfl,rfl⟩:=h;obtain⟨i1,d1,z1,ht⟩:=aH ab;obtain⟨v,ap,ae,ak⟩:=rT ht β H;refine⟨rfl,_,z1.cells,rfl,?_,⟨w.heap.size,z1.cells.size,ti.size⟩,?_,?_⟩
  ·simp[axD,ht.lE,newVar,newRow]
  ·refine hW.alloc (vs:=v.cells.toList) ?_ (by simp[ae]) (λq hq=>by simp[ae]);simp only[ba];exact⟨v,[],by simp,by rw[ae,ak],ap,rfl⟩
  ·simp only[Den];exact⟨_,by simp[cu.eK];rfl,by simp⟩
 ·cases h
theorem PD(hW:cM C β H M w){t:TypeId}{x:Option SV}{u:Value}{M':aC}{pk:List Nat}{r:Option SV}(h:Db M (an P t) x=.m c M' pk r)(hc:c)(hx:∀s,x=some s->Den β H s u) :
  pk=[]∧∃x d,r=some x∧(axE t u).run P w=.ok (.pointer (some ⟨w.heap.size,0,none⟩)) (w.alloc (.cells d t)) ∧
   ∃bd,cM C (β.eK M.length (some bd)) H M' (w.alloc (.cells d t))∧Den (β.eK M.length (some bd)) H x (.pointer (some ⟨w.heap.size,0,none⟩)):=by
 unfold Db at h;split at h
 ·rename_i ti s ab;simp only[cK.m.injEq]at h;obtain⟨rfl,rfl,rfl,rfl⟩:=h;have hu:=hx _ rfl;refine⟨rfl,_,u.cells,rfl,?_,⟨w.heap.size,u.cells.size,ti.size⟩,?_,?_⟩
  ·simp[axE,newVar,newRow]
  ·refine hW.alloc (vs:=u.cells.toList) ?_ (by simp) (λq hq=>by simp);simp only[ba];exact⟨u,[],by simp,by rw[hu.Tx hc.2,hc.1],hu,rfl⟩
  ·simp only[Den];exact⟨_,by simp[cu.eK];rfl,by simp⟩
 ·cases h
theorem Cv{ρ:Operand->Value}{fr:List (Nat × SV)}(hρ:∀o s,ev fr o=some s->Den β H s (ρ o)){sz len:Nat} :
  ∀(parts:List (Nat × Operand)) (acc:List SV) (cs:Array Value) (l:List SV),acc.length=len->kU sz len (parts.map λp=>(p.1,ev fr p.2)) acc=some l->ba β H sz acc cs.toList ->
   l.length=len∧∃ac,axl (λi=>some (i*sz,sz)) cs (parts.map λp=>(p.1,ρ p.2))=some ac∧ba β H sz l ac.toList
 | [],acc,cs,l,ha,h,hd=>by simp only[List.map_nil,kU,Option.some.injEq]at h;subst h;exact⟨ha,cs,by simp[axl],hd⟩
 | (i,o)::parts,acc,cs,l,ha,h,hd=>by
  simp only[List.map_cons]at h ⊢;cases hx:ev fr o with
  | none=>rw[hx]at h;simp[kU]at h
  | some x =>
   rw[hx]at h;simp only[kU]at h;split at h
   ·rename_i hc;obtain⟨h1,h2,h3⟩:=hc;have ay:=hρ o x hx;have wE:=ay.Tx h2;have hlen:=hd.length;have az:i*sz+(ρ o).cells.size<=cs.size:=by
     rw[wE,h1]
     calc i*sz+sz=(i+1)*sz:=by rw[awM,awN]
      _<=len*sz:=axn _ h3
      _=cs.size:=by rw[<-ha,<-hlen];simp
    have aJ:=G0 (ρ o) (i*sz) cs az;obtain⟨aw,q1,q2,q3⟩:=hd.set (i:=i) (by rw[ha];exact h3) ay (by rw[wE,h1]);have ah:aw=((ρ o).cells.zipIdx.foldl (λcs (p:Value × Nat)=>cs.setIfInBounds (i*sz+p.2) p.1) cs).toList:=by
     rw[aJ];apply axA;intro q;rw[q3];by_cases hq:q<i*sz
     ·rw[if_neg (by omega),axa,awO (by simp;omega),aw7 hq]
     ·rw[axa,awP (by simp;omega)];have aK:(cs.toList.take (i*sz)).length=i*sz:=by simp;omega
      rw[aK];by_cases aP:q<i*sz+sz
      ·rw[if_pos (by omega),awO (by simp[wE,h1];omega)];simp
      ·rw[if_neg (by omega),awP (by simp[wE,h1];omega),aw8];congr 1;simp[wE,h1];omega
    obtain⟨g1,ac,g2,g3⟩:=Cv hρ parts _ ((ρ o).cells.zipIdx.foldl (λcs (p:Value × Nat)=>cs.setIfInBounds (i*sz+p.2) p.1) cs) l (by rw[cq];simpa using ha) h (by rw[<-ah];exact q1);refine⟨g1,ac,?_,g3⟩;simp only[axl];rw[if_neg (by simp[wE,h1]at az ⊢;omega)];exact g2
   ·cases h
theorem CF(L:Array Value)(s n:Nat)(hs:L.size=s)(q:Nat)(hq:q<n*s):((axI (n*s)).map (λi=>L[i % L.size]!))[q]?=(awQ n L.toList).flatten[q]?:=by
 have aB:0<s:=by
             rcases Nat.eq_zero_or_pos s with h | h;· subst h;simp at hq
             ·exact h
 have h1:((axI (n*s)).map (λi=>L[i % L.size]!))[q]?=some (L[q % s]'(by rw[hs];exact axH _ aB)):=by simp[hq,hs,axH _ aB]
 rw[h1];clear h1
 induction n generalizing q with
 | zero=>simp at hq
 | succ n ih =>
  simp only[List.replicate_succ,List.flatten_cons];by_cases aD:q<s
  ·rw[awO (by simpa[hs]using aD)];simp only[Nat.mod_eq_of_lt aD];rw[aw1];exact(Array.getElem?_eq_getElem _).symm
  ·rw[awP (by simp[hs];omega)];simp only[axw,hs];rw[<-ih (q - s) (by rw[awM,awN]at hq;omega)];congr 2;rw[Nat.mod_eq_sub_mod (by omega)]
theorem yA(hW:cM C β H M w){ρ:Operand->Value}{fr:List (Nat × SV)}(hρ:∀o s,ev fr o=some s->Den β H s (ρ o)){t:TypeId}{len:Nat}{parts:Array (Nat × Operand)}
  {M':aC} {pk:List Nat} {r:Option SV} (h:gI P M (an P t) len (parts.toList.map λp=>(p.1,ev fr p.2))=.m c M' pk r) :
  pk=[]∧∃x d T,r=some x∧(axF t len (parts.map λ(i,x)=>(i,ρ x))).run P w=.ok (.slice (some ⟨w.heap.size,0,none⟩) len len) (w.alloc (.cells d T)) ∧
   ∃bd,cM C (β.eK M.length (some bd)) H M' (w.alloc (.cells d T))∧Den (β.eK M.length (some bd)) H x (.slice (some ⟨w.heap.size,0,none⟩) len len):=by
 unfold gI at h;split at h
 ·rename_i el _ _ _ ab;obtain⟨i1,d1,z1,ht⟩:=aH ab;obtain rfl:=mm ht.k;split at h
  ·rename_i te aq;obtain⟨i2,d2,z2,aa⟩:=aH aq;split at h
   ·rename_i es aL;split at h
    ·rename_i aR;simp only[cK.m.injEq]at h;obtain⟨-,rfl,rfl,rfl⟩:=h;obtain⟨v,ap,ae,ak⟩:=rT aa β H
     let zz:Array Value:=if len*te.size=0 then #[] else z2.cells
     have aN:ba β H te.size (awQ len te.dm) ((axI (len*te.size)).map (λi=>zz[i % zz.size]!)).toList:=by
      have h0:=ba.replicate (s:=te.size) ap (by rw[ae,ak]) len;have e:((axI (len*te.size)).map (λi=>zz[i % zz.size]!)).toList=(awQ len v.cells.toList).flatten:=by
       have aj:=h0.length;simp only[axB]at aj;apply axA;intro q;by_cases hq:q<len*te.size
       ·have hz:zz=v.cells:=by simp only[zz];rw[if_neg (by omega),ae]
        rw[hz,aw1];exact CF v.cells te.size len (by rw[ae,ak]) q hq
       ·rw[awT (by simp;omega),awT (by omega)]
      rw[e];exact h0
     obtain⟨g1,ac,g2,g3⟩:=Cv hρ parts.toList _ _ es (by simp) aL aN;have hl:=g3.length;refine⟨rfl,_,ac,el,rfl,?_,⟨w.heap.size,ac.size,te.size⟩,?_,?_⟩
     ·have aE:(parts.map λ(i,x)=>(i,ρ x)).toList=parts.toList.map λp=>(p.1,ρ p.2):=by simp
      simp only[axF,aw4,ht.aQ,aw5,aa.fC];rw[if_neg (by omega)];by_cases h0:len*te.size=0
      ·rw[if_pos h0];have af:zz=#[]:=if_pos h0;rw[af]at g2;simp only[aw4,axr,aw5,aE,g2,newRow,run_newObj,axJ]
      ·rw[if_neg h0];have af:zz=z2.cells:=if_neg h0;rw[af]at g2;simp only[aw4,axr,aw5,aa.lE,aE,g2,newRow,run_newObj,axJ]
     ·exact hW.alloc g3 (by simp) (λq hq=>by simp)
     ·simp only[Den];right;refine⟨_,len,0,by simp[cu.eK];rfl,axq _,?_,λ_=>by simp,rfl⟩;simp only[Nat.zero_add];simp at hl;rw[hl,g1];exact axq _
    ·cases h
   ·cases h
  ·cases h
 ·cases h
theorem zS(hW:cM C β H M w){t:TypeId}{l cp:Option SV}{u v:Value}{M':aC}{pk:List Nat}{r:Option SV}(h:iA P M (an P t) l cp=.m c M' pk r)(hc:c)
  (hl:∀s,l=some s->Den β H s u) (hv:∀s,cp=some s->Den β H s v) :
  pk=[]∧∃x d T z,r=some x∧(axG t u v).run P w=.ok z (w.alloc (.cells d T)) ∧
   ∃bd,cM C (β.eK M.length (some bd)) H M' (w.alloc (.cells d T))∧Den (β.eK M.length (some bd)) H x z:=by
 unfold iA at h;split at h
 ·rename_i el _ _ _ k n k' m ab;have h1:=hl _ rfl;have h2:=hv _ rfl;simp only[Den]at h1 h2;obtain⟨rfl, -⟩:=h1;obtain⟨rfl, -⟩:=h2;obtain⟨i1,d1,z1,ht⟩:=aH ab;obtain rfl:=mm ht.k;split at h
  ·rename_i te aq;obtain⟨i2,d2,z2,aa⟩:=aH aq;simp only[cK.m.injEq]at h;obtain⟨rfl,rfl,rfl,rfl⟩:=h;obtain⟨c1,c2,c3,c4⟩:=hc;obtain⟨z,ao,ad,ar⟩:=rT aa β H;have wn:IntKind.i64.wrap n=n:=IntWalk.i64_in n (by omega);have wm:IntKind.i64.wrap m=m:=IntWalk.i64_in m (by omega);have hb:(te.bytes:Int)*m<=2^48:=by omega
   let zz:Array Value:=if m.toNat*te.size=0 then #[] else z2.cells
   have ag:i2.bytes=te.bytes:=aa.bytes.symm;refine⟨rfl,_,(axI (m.toNat*te.size)).map (λi=>zz[i % zz.size]!),el,.slice (some ⟨w.heap.size,0,none⟩) n.toNat m.toNat,rfl,?_,⟨w.heap.size,m.toNat*te.size,te.size⟩,?_,?_⟩
   ·have ha:∀(k:IntKind) (q:Int),(asInt (.int k q)).run P w=.ok q w:=λk q=>by simp[asInt,asIntOf]
    simp only[axG,aw4,ht.aQ,aw5,ha,aa.yO,wn,wm,ag];rw[if_neg (by simp;omega)];simp only[aw4,run_askRoom,aw5,aa.fC];by_cases h0:m.toNat*te.size=0
    ·rw[if_pos h0];have af:zz=#[]:=if_pos h0;simp only[af,aw4,newRow,run_newObj,axr,aw5,axJ]
    ·rw[if_neg h0];have af:zz=z2.cells:=if_neg h0;simp only[af,aw4,aa.lE,newRow,run_newObj,axr,aw5,axJ]
   ·have h0:=ba.replicate (s:=te.size) ao (by rw[ad,ar]) n.toNat;have aj:=h0.length;simp only[axB]at aj;have hle:n.toNat*te.size<=m.toNat*te.size:=axn _ (by omega);have:=hW.alloc (T:=el) (cs:=(axI (m.toNat*te.size)).map (λi=>zz[i % zz.size]!)) h0 (by simp[aj];omega) (λq hq=>by
     rw[aj]at hq;have hz:zz=z.cells:=by simp only[zz];rw[if_neg (by omega),ad]
     rw[hz,CF z.cells te.size m.toNat (by rw[ad,ar]) q (by omega)];have hx:∀a b:Nat,a<=b->∀L:List Value,∀q,q<a*L.length->(awQ b L).flatten[q]?=(awQ a L).flatten[q]?:=λa b aO L q hq=>by obtain⟨e,rfl⟩:=Nat.exists_eq_add_of_le aO;rw[List.replicate_append_replicate.symm,List.flatten_append,awO (by simpa using hq)]
     exact hx _ _ (by omega) _ q (by simpa[ad,ar]using hq))
    simpa using this
   ·simp only[Den];right;exact⟨_,m.toNat,0,by simp[cu.eK];rfl,by omega,by simp,λ_=>by simp,rfl⟩
  ·cases h
 ·cases h
end
end Go.Sv


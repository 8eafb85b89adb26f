/- A text of the prover's own. -/
import Derived.Test.YtnimjdcaajmfcaaGreatDoorBVo
import Derived.IntWalk
open List renaming replicate->asr,append_assoc->asJ,getElem?_append_right->asq,getElem?_append_left->asp,getElem?_take_of_lt->asG,getElem?_drop->asH,ext_getElem?->asU,length_replicate->asV,getElem?_eq_none->asu
open Go.Instr renaming storeAt->awl,alloc->awm,box->awn,fill->awg,buildSlice->awo,makeSlice->awp
open Nat renaming add_mul->asn,one_mul->aso,mul_le_mul_right->asK,mod_lt->asW,le_refl->asN
open Go.Sem renaming run_bind->av4,run_pure->awi
open Go.Result renaming andThen_ok->av5
open Array renaming length_toList->asS,getElem?_toList->asD,range->asX
open Go.World renaming alloc_eq->awq
namespace Go.Sv
open Go Go.RowKit
inductive cB where
 | stuck
 /-- condition, entries, entries that are named no more, what is left in the slot -/
 | m (c:Prop) (M:aD) (pk:List Nat) (x:Option SV)
def qZ(x:SV)(j:Nat)(y:SV):SV :=
 if j=0∧x.gJ=y.gJ then y else .agg (x.cells.take j++y.cells++x.cells.drop (j+y.gJ))
def ow(M:aD)(ti:Option TI)(x y:Option SV):cB :=
 match ti,x,y with
 | some ti,some (.ptr k i j),some y =>
  match aA M k with
  | some ⟨sz,es,false⟩=>.m (i<es.length∧(aL es i).aV=false∧y.aV=false∧y.gJ=ti.size∧j+ti.size<=(aL es i).gJ) (aX M k (some ⟨sz,cZ es i (qZ (aL es i) j y),false⟩)) [] none
  | _=>.stuck
 | _,_,_=>.stuck
def qG(M:aD)(ti:Option TI):cB :=
 match ti with
 | some ti=>.m True (M++[some ⟨ti.size,[ti.cR],false⟩]) [] (some (.ptr M.length 0 0))
 | none=>.stuck
def A0(M:aD)(ti:Option TI)(x:Option SV):cB :=
 match ti,x with
 | some ti,some x=>.m (x.gJ=ti.size∧x.aV=false) (M++[some ⟨ti.size,[x],false⟩]) [] (some (.ptr M.length 0 0))
 | _,_=>.stuck
def ki(sz len:Nat):List (Nat × Option SV)->List SV->Option (List SV)
 | [],acc=>some acc
 | (i,some x)::r,acc=>if x.gJ=sz∧x.aV=false∧i<len then ki sz len r (cZ acc i x) else none
 | (_,none)::_,_=>none
def fP(P:Program)(M:aD)(ti:Option TI)(len:Nat)(parts:List (Nat × Option SV)):cB :=
 match ti with
 | some ⟨.sl el,_,_,_⟩ =>
  match an P el with
  | some te =>
   match ki te.size len parts (asr len te.cR)with
   | some es=>if len*te.size<=16777216 then .m True (M++[some ⟨te.size,es,false⟩]) [] (some (.view M.length 0 len)) else .stuck
   | none=>.stuck
  | none=>.stuck
 | _=>.stuck
def gQ(P:Program)(M:aD)(ti:Option TI)(l c:Option SV):cB :=
 match ti,l,c with
 | some ⟨.sl el,_,_,_⟩,some (.val (.int _ n)),some (.val (.int _ m)) =>
  match an P el with
  | some te=>.m (0<=n∧n<=m∧m<=281474976710656∧te.bytes*m<=281474976710656) (M++[some ⟨te.size,asr n.toNat te.cR,false⟩]) [] (some (.view M.length 0 n.toNat))
  | none=>.stuck
 | _,_,_=>.stuck
section
variable {P:Program} {C:Ctx} {β:ca} {H:Hp} {M:aD} {w:World} {c:Prop}
theorem Den.QL{x:SV}{u:Value}(h:Den β H x u)(hx:x.aV=false):u.cells.size=x.gJ :=
 h.pO.resolve_left λ⟨l,e⟩=>by rw[e]at hx;simp[SV.aV]at hx
theorem yI{x:SV}(hx:x.aV=false):∀l,x≠.bP l:=λl e=>by rw[e]at hx;simp[SV.aV]at hx
theorem Du{x y:SV}{v u:Value}{j:Nat}(hx:Den β H x v)(hy:Den β H y u)(al:x.aV=false)(au:y.aV=false)(hj:j+y.gJ<=x.gJ) :
  ∃z,Den β H (qZ x j y) z∧z.cells.toList=v.cells.toList.take j++u.cells.toList++v.cells.toList.drop (j+u.cells.size):=by
 have hv:=hx.QL al;have hu:=hy.QL au;unfold qZ;split
 ·rename_i h;obtain⟨rfl,h2⟩:=h;refine⟨u,hy,?_⟩;rw[List.drop_eq_nil_of_le (by simp;omega)];simp
 ·refine⟨.agg (v.cells.toList.take j++u.cells.toList++v.cells.toList.drop (j+u.cells.size)).toArray,?_,by simp[Value.cells]⟩;simp only[Den];refine⟨_,rfl,?_⟩;rw[hu];exact(((hx.sa (yI al)).take j).append (hy.sa (yI au))).append ((hx.sa (yI al)).drop _)
theorem Ga(hW:cJ C β H M w){t:TypeId}{x y:Option SV}{u v:Value}{M':aD}{pk:List Nat}{r:Option SV}
  (h:ow M (an P t) x y=.m c M' pk r) (hc:c) (hx:∀s,x=some s->Den β H s u) (hy:∀s,y=some s->Den β H s v) :
  pk=[]∧r=none∧∃w',(awl t u v).run P w=.ok () w'∧cJ C β H M' w'∧w'.heap.size=w.heap.size ∧
   ∀b,(∀k i j d,x=some (.ptr k i j)->β k=some (some d)->b≠d.b)->w'.heap[b]?=w.heap[b]?:=by
 unfold ow at h;split at h
 ·rename_i ti k i j y ab;split at h
  ·rename_i sz es he;simp only[cB.m.injEq]at h;obtain⟨rfl,rfl,rfl,rfl⟩:=h;obtain⟨h1,h2,h3,h4,h5⟩:=hc;refine⟨rfl,rfl,?_⟩;have hu:=hx _ rfl;have hv:=hy _ rfl;simp only[Den]at hu;obtain⟨d,hd,rfl⟩:=hu;have av:=aT he;rcases hW.dt k _ av with⟨g1,_⟩ | ⟨d',cs,T,vs,g1,g2,g3,g4,g5,g6,g7, -⟩ | ⟨d',ms,g1,g2,g3,g4⟩
   rotate_left 2
   ·obtain⟨l,hl⟩:=g4.Jf i h1;simp only at hl;rw[hl]at h2;simp[SV.aV]at h2
   ·rw[hd]at g1;simp at g1
   ·rw[hd]at g1;simp only[Option.some.injEq]at g1;subst g1;simp only at g2 g5;obtain⟨i1,d1,z1,ht⟩:=aF ab;obtain⟨vi,ai,aG,am⟩:=g5.get h1;have uh:=ai.QL h2;have hlen:=g5.length;obtain⟨z,ao,ad⟩:=Du (j:=j) ai hv h2 h3 (by omega);have aH:z.cells.size=sz:=by
     have:=congrArg List.length ad;have ah:=hv.QL h3;simp at this;omega
    obtain⟨aw,q1,q2,q3⟩:=g5.set h1 ao aH;have ah:=hv.QL h3;have hmul:i*sz+sz<=cs.size:=by
     calc i*sz+sz=(i+1)*sz:=by rw[asn,aso]
      _<=es.length*sz:=asK _ h1
      _=vs.length:=hlen.symm
      _<=cs.size:=g6
    obtain⟨w',ac,r1,r2,r3,r4⟩:=jf (P:=P) v.cells.toList w (i*d.sz+j) 0 cs g3 (by simp[ah];rw[g2];omega) ((hv.sa (yI h3)).FJ);refine⟨w',?_,?_,r2.size,λb hb=>r2.there b (hb k i j d rfl hd)⟩
    ·simp only[awl,Instr.sureAddr,storeVar,av4,awi,av5,ht.ff];rw[if_neg (by simp[ah,h4])];exact r1
    ·rw[dI];refine hW.write av rfl hd g2 r2 (by rw[r3,g4]) q1 (by rw[q2,r3];exact g6) (λq hq=>?_);rw[r4,q3];simp only[Nat.add_zero,asS,ah,g2];have aI:∀p,z.cells[p]?=(vi.cells.toList.take j++v.cells.toList++vi.cells.toList.drop (j+v.cells.size))[p]?:=λp=>by rw[<-asD,ad]
     by_cases hA:i*sz<=q∧q<i*sz+sz
     ·rw[if_pos hA,aI];by_cases hB:i*sz+j<=q∧q<i*sz+j+y.gJ
      ·rw[if_pos hB,asJ,asq (by simp;omega),asp (by simp;omega)];congr 1;simp;omega
      ·rw[if_neg hB];rw[g7 q (by rw[hlen];have:=asK sz (show i+1<=es.length from h1);rw[asn,aso]at this;omega)];have ax:=am (q - i*sz) (by omega);rw[show i*sz+(q - i*sz)=q from by omega]at ax;rw[ax];by_cases hC:q - i*sz<j
       ·rw[asJ,asp (by simp;omega),asG hC];simp
       ·rw[asJ,asq (by simp;omega),asq (by simp;omega),asH];simp only[List.length_take,asS];rw[show j+v.cells.size+(q - i*sz - min j vi.cells.size - v.cells.size)=q - i*sz from by omega];simp
     ·rw[if_neg hA,if_neg (by omega)];exact g7 q (by omega)
  ·cases h
 ·cases h
theorem Gl(hW:cJ C β H M w){t:TypeId}{M':aD}{pk:List Nat}{r:Option SV}(h:qG M (an P t)=.m c M' pk r) :
  pk=[]∧∃x d,r=some x∧(awm t true (.tuple #[])).run P w=.ok (.pointer (some ⟨w.heap.size,0,none⟩)) (w.alloc (.cells d t)) ∧
   ∃bd,cJ C (β.ef M.length (some bd)) H M' (w.alloc (.cells d t))∧Den (β.ef M.length (some bd)) H x (.pointer (some ⟨w.heap.size,0,none⟩)):=by
 unfold qG at h;split at h
 ·rename_i ti ab;simp only[cB.m.injEq]at h;obtain⟨-,rfl,rfl,rfl⟩:=h;obtain⟨i1,d1,z1,ht⟩:=aF ab;obtain⟨v,ap,ae,ak⟩:=qu ht β H;refine⟨rfl,_,z1.cells,rfl,?_,⟨w.heap.size,z1.cells.size,ti.size⟩,?_,?_⟩
  ·simp[awm,ht.kJ,newVar,newRow]
  ·refine hW.alloc (vs:=v.cells.toList) ?_ (by simp[ae]) (λq hq=>by simp[ae]);simp only[aW];exact⟨v,[],by simp,by rw[ae,ak],ap,rfl⟩
  ·simp only[Den];exact⟨_,by simp[ca.ef];rfl,by simp⟩
 ·cases h
theorem Lx(hW:cJ C β H M w){t:TypeId}{x:Option SV}{u:Value}{M':aD}{pk:List Nat}{r:Option SV}(h:A0 M (an P t) x=.m c M' pk r)(hc:c)(hx:∀s,x=some s->Den β H s u) :
  pk=[]∧∃x d,r=some x∧(awn t u).run P w=.ok (.pointer (some ⟨w.heap.size,0,none⟩)) (w.alloc (.cells d t)) ∧
   ∃bd,cJ C (β.ef M.length (some bd)) H M' (w.alloc (.cells d t))∧Den (β.ef M.length (some bd)) H x (.pointer (some ⟨w.heap.size,0,none⟩)):=by
 unfold A0 at h;split at h
 ·rename_i ti s ab;simp only[cB.m.injEq]at h;obtain⟨rfl,rfl,rfl,rfl⟩:=h;have hu:=hx _ rfl;refine⟨rfl,_,u.cells,rfl,?_,⟨w.heap.size,u.cells.size,ti.size⟩,?_,?_⟩
  ·simp[awn,newVar,newRow]
  ·refine hW.alloc (vs:=u.cells.toList) ?_ (by simp) (λq hq=>by simp);simp only[aW];exact⟨u,[],by simp,by rw[hu.QL hc.2,hc.1],hu,rfl⟩
  ·simp only[Den];exact⟨_,by simp[ca.ef];rfl,by simp⟩
 ·cases h
theorem A2{ρ:Operand->Value}{fr:List (Nat × SV)}(hρ:∀o s,ev fr o=some s->Den β H s (ρ o)){sz len:Nat} :
  ∀(parts:List (Nat × Operand)) (acc:List SV) (cs:Array Value) (l:List SV),acc.length=len->ki sz len (parts.map λp=>(p.1,ev fr p.2)) acc=some l->aW β H sz acc cs.toList ->
   l.length=len∧∃ac,awg (λi=>some (i*sz,sz)) cs (parts.map λp=>(p.1,ρ p.2))=some ac∧aW β H sz l ac.toList
 | [],acc,cs,l,ha,h,hd=>by simp only[List.map_nil,ki,Option.some.injEq]at h;subst h;exact⟨ha,cs,by simp[awg],hd⟩
 | (i,o)::parts,acc,cs,l,ha,h,hd=>by
  simp only[List.map_cons]at h ⊢;cases hx:ev fr o with
  | none=>rw[hx]at h;simp[ki]at h
  | some x =>
   rw[hx]at h;simp only[ki]at h;split at h
   ·rename_i hc;obtain⟨h1,h2,h3⟩:=hc;have ay:=hρ o x hx;have uh:=ay.QL h2;have hlen:=hd.length;have az:i*sz+(ρ o).cells.size<=cs.size:=by
     rw[uh,h1]
     calc i*sz+sz=(i+1)*sz:=by rw[asn,aso]
      _<=len*sz:=asK _ h3
      _=cs.size:=by rw[<-ha,<-hlen];simp
    have aJ:=Em (ρ o) (i*sz) cs az;obtain⟨aw,q1,q2,q3⟩:=hd.set (i:=i) (by rw[ha];exact h3) ay (by rw[uh,h1]);have ah:aw=((ρ o).cells.zipIdx.foldl (λcs (p:Value × Nat)=>cs.setIfInBounds (i*sz+p.2) p.1) cs).toList:=by
     rw[aJ];apply asU;intro q;rw[q3];by_cases hq:q<i*sz
     ·rw[if_neg (by omega),asJ,asp (by simp;omega),asG hq]
     ·rw[asJ,asq (by simp;omega)];have aK:(cs.toList.take (i*sz)).length=i*sz:=by simp;omega
      rw[aK];by_cases aQ:q<i*sz+sz
      ·rw[if_pos (by omega),asp (by simp[uh,h1];omega)];simp
      ·rw[if_neg (by omega),asq (by simp[uh,h1];omega),asH];congr 1;simp[uh,h1];omega
    obtain⟨g1,ac,g2,g3⟩:=A2 hρ parts _ ((ρ o).cells.zipIdx.foldl (λcs (p:Value × Nat)=>cs.setIfInBounds (i*sz+p.2) p.1) cs) l (by rw[ec];simpa using ha) h (by rw[<-ah];exact q1);refine⟨g1,ac,?_,g3⟩;simp only[awg];rw[if_neg (by simp[uh,h1]at az ⊢;omega)];exact g2
   ·cases h
theorem A8(L:Array Value)(s n:Nat)(hs:L.size=s)(q:Nat)(hq:q<n*s):((asX (n*s)).map (λi=>L[i % L.size]!))[q]?=(asr n L.toList).flatten[q]?:=by
 have aB:0<s:=by
             rcases Nat.eq_zero_or_pos s with h | h;· subst h;simp at hq
             ·exact h
 have h1:((asX (n*s)).map (λi=>L[i % L.size]!))[q]?=some (L[q % s]'(by rw[hs];exact asW _ aB)):=by simp[hq,hs,asW _ aB]
 rw[h1];clear h1
 induction n generalizing q with
 | zero=>simp at hq
 | succ n ih =>
  simp only[List.replicate_succ,List.flatten_cons];by_cases aC:q<s
  ·rw[asp (by simpa[hs]using aC)];simp only[Nat.mod_eq_of_lt aC];rw[asD];exact(Array.getElem?_eq_getElem _).symm
  ·rw[asq (by simp[hs];omega)];simp only[asS,hs];rw[<-ih (q - s) (by rw[asn,aso]at hq;omega)];congr 2;rw[Nat.mod_eq_sub_mod (by omega)]
theorem wC(hW:cJ C β H M w){ρ:Operand->Value}{fr:List (Nat × SV)}(hρ:∀o s,ev fr o=some s->Den β H s (ρ o)){t:TypeId}{len:Nat}{parts:Array (Nat × Operand)}
  {M':aD} {pk:List Nat} {r:Option SV} (h:fP P M (an P t) len (parts.toList.map λp=>(p.1,ev fr p.2))=.m c M' pk r) :
  pk=[]∧∃x d T,r=some x∧(awo t len (parts.map λ(i,x)=>(i,ρ x))).run P w=.ok (.slice (some ⟨w.heap.size,0,none⟩) len len) (w.alloc (.cells d T)) ∧
   ∃bd,cJ C (β.ef M.length (some bd)) H M' (w.alloc (.cells d T))∧Den (β.ef M.length (some bd)) H x (.slice (some ⟨w.heap.size,0,none⟩) len len):=by
 unfold fP at h;split at h
 ·rename_i el _ _ _ ab;obtain⟨i1,d1,z1,ht⟩:=aF ab;obtain rfl:=k6 ht.k;split at h
  ·rename_i te aq;obtain⟨i2,d2,z2,aa⟩:=aF aq;split at h
   ·rename_i es aM;split at h
    ·rename_i aR;simp only[cB.m.injEq]at h;obtain⟨-,rfl,rfl,rfl⟩:=h;obtain⟨v,ap,ae,ak⟩:=qu aa β H
     let zz:Array Value:=if len*te.size=0 then #[] else z2.cells
     have aN:aW β H te.size (asr len te.cR) ((asX (len*te.size)).map (λi=>zz[i % zz.size]!)).toList:=by
      have h0:=aW.replicate (s:=te.size) ap (by rw[ae,ak]) len;have e:((asX (len*te.size)).map (λi=>zz[i % zz.size]!)).toList=(asr len v.cells.toList).flatten:=by
       have aj:=h0.length;simp only[asV]at aj;apply asU;intro q;by_cases hq:q<len*te.size
       ·have hz:zz=v.cells:=by simp only[zz];rw[if_neg (by omega),ae]
        rw[hz,asD];exact A8 v.cells te.size len (by rw[ae,ak]) q hq
       ·rw[asu (by simp;omega),asu (by omega)]
      rw[e];exact h0
     obtain⟨g1,ac,g2,g3⟩:=A2 hρ parts.toList _ _ es (by simp) aM aN;have hl:=g3.length;refine⟨rfl,_,ac,el,rfl,?_,⟨w.heap.size,ac.size,te.size⟩,?_,?_⟩
     ·have aE:(parts.map λ(i,x)=>(i,ρ x)).toList=parts.toList.map λp=>(p.1,ρ p.2):=by simp
      simp only[awo,av4,ht.aO,av5,aa.ff];rw[if_neg (by omega)];by_cases h0:len*te.size=0
      ·rw[if_pos h0];have af:zz=#[]:=if_pos h0;rw[af]at g2;simp only[av4,awi,av5,aE,g2,newRow,run_newObj,awq]
      ·rw[if_neg h0];have af:zz=z2.cells:=if_neg h0;rw[af]at g2;simp only[av4,awi,av5,aa.kJ,aE,g2,newRow,run_newObj,awq]
     ·exact hW.alloc g3 (by simp) (λq hq=>by simp)
     ·simp only[Den];right;refine⟨_,len,0,by simp[ca.ef];rfl,asN _,?_,λ_=>by simp,rfl⟩;simp only[Nat.zero_add];simp at hl;rw[hl,g1];exact asN _
    ·cases h
   ·cases h
  ·cases h
 ·cases h
theorem y8(hW:cJ C β H M w){t:TypeId}{l cp:Option SV}{u v:Value}{M':aD}{pk:List Nat}{r:Option SV}(h:gQ P M (an P t) l cp=.m c M' pk r)(hc:c)
  (hl:∀s,l=some s->Den β H s u) (hv:∀s,cp=some s->Den β H s v) :
  pk=[]∧∃x d T z,r=some x∧(awp t u v).run P w=.ok z (w.alloc (.cells d T)) ∧
   ∃bd,cJ C (β.ef M.length (some bd)) H M' (w.alloc (.cells d T))∧Den (β.ef M.length (some bd)) H x z:=by
 unfold gQ at h;split at h
 ·rename_i el _ _ _ k n k' m ab;have h1:=hl _ rfl;have h2:=hv _ rfl;simp only[Den]at h1 h2;obtain⟨rfl, -⟩:=h1;obtain⟨rfl, -⟩:=h2;obtain⟨i1,d1,z1,ht⟩:=aF ab;obtain rfl:=k6 ht.k;split at h
  ·rename_i te aq;obtain⟨i2,d2,z2,aa⟩:=aF aq;simp only[cB.m.injEq]at h;obtain⟨rfl,rfl,rfl,rfl⟩:=h;obtain⟨c1,c2,c3,c4⟩:=hc;obtain⟨z,ao,ad,ar⟩:=qu aa β H;have wn:IntKind.i64.wrap n=n:=IntWalk.i64_in n (by omega);have wm:IntKind.i64.wrap m=m:=IntWalk.i64_in m (by omega);have hb:(te.bytes:Int)*m<=2^48:=by omega
   let zz:Array Value:=if m.toNat*te.size=0 then #[] else z2.cells
   have ag:i2.bytes=te.bytes:=aa.bytes.symm;refine⟨rfl,_,(asX (m.toNat*te.size)).map (λi=>zz[i % zz.size]!),el,.slice (some ⟨w.heap.size,0,none⟩) n.toNat m.toNat,rfl,?_,⟨w.heap.size,m.toNat*te.size,te.size⟩,?_,?_⟩
   ·have ha:∀(k:IntKind) (q:Int),(asInt (.int k q)).run P w=.ok q w:=λk q=>by simp[asInt,asIntOf]
    simp only[awp,av4,ht.aO,av5,ha,aa.xj,wn,wm,ag];rw[if_neg (by simp;omega)];simp only[av4,run_askRoom,av5,aa.ff];by_cases h0:m.toNat*te.size=0
    ·rw[if_pos h0];have af:zz=#[]:=if_pos h0;simp only[af,av4,newRow,run_newObj,awi,av5,awq]
    ·rw[if_neg h0];have af:zz=z2.cells:=if_neg h0;simp only[af,av4,aa.kJ,newRow,run_newObj,awi,av5,awq]
   ·have h0:=aW.replicate (s:=te.size) ao (by rw[ad,ar]) n.toNat;have aj:=h0.length;simp only[asV]at aj;have hle:n.toNat*te.size<=m.toNat*te.size:=asK _ (by omega);have:=hW.alloc (T:=el) (cs:=(asX (m.toNat*te.size)).map (λi=>zz[i % zz.size]!)) h0 (by simp[aj];omega) (λq hq=>by
     rw[aj]at hq;have hz:zz=z.cells:=by simp only[zz];rw[if_neg (by omega),ad]
     rw[hz,A8 z.cells te.size m.toNat (by rw[ad,ar]) q (by omega)];have hx:∀a b:Nat,a<=b->∀L:List Value,∀q,q<a*L.length->(asr b L).flatten[q]?=(asr a L).flatten[q]?:=λa b aP L q hq=>by obtain⟨e,rfl⟩:=Nat.exists_eq_add_of_le aP;rw[List.replicate_append_replicate.symm,List.flatten_append,asp (by simpa using hq)]
     exact hx _ _ (by omega) _ q (by simpa[ad,ar]using hq))
    simpa using this
   ·simp only[Den];right;exact⟨_,m.toNat,0,by simp[ca.ef];rfl,by omega,by simp,λ_=>by simp,rfl⟩
  ·cases h
 ·cases h
end
end Go.Sv


/- A text of the prover's own. -/
import Derived.Laws.Pointers
import Derived.Test.YtnimjdcaajmfcaaGreatDoorVVm
import Derived.Laws.Small
import Derived.Laws.Strings
import Derived.ChangeKeysEq
open Go.Value renaming oneCell'->awK,cells->awL
open List renaming length_cons->awV,drop_of_length_le->awX,drop_eq_getElem_cons->awY,getElem?_eq_getElem->awZ
open Option.some renaming injEq->awR
open Array renaming getElem?_eq_getElem->aw0,getElem?_toList->aw1
open List.cons renaming injEq->aw2
open BitVec renaming ofInt->aw3
open Go.Sem renaming run_bind->aw4
open Go.Result renaming andThen_ok->aw5
namespace Go.Sv
open Go Go.RowKit
inductive TK where
 | int (k:IntKind)
 | bool
 | str
 | sl (e:TypeId)
 | st (fs:List (Nat × Nat × TypeId))
 | arr (n:Nat) (e:TypeId)
 | ptr (e:TypeId)
 | iface
 | mp (k e:TypeId)
 | other
structure TI where
 k:TK
 size:Nat
 bytes:Nat
 zero:List SV
def TK.isAgg:TK->Bool
 | .st _ | .arr _ _=>true
 | _=>false
def L5:TypeDesc->Bool
 | .struct _ | .array _ _=>true
 | _=>false
def PO(P:Program)(t:TypeId):Nat:=((P.info? t).map (·.size)).getD 0
def tk(P:Program):TypeDesc->TK
 | .int k=>.int k
 | .bool=>.bool
 | .string=>.str
 | .slice e=>.sl e
 | .struct fs=>.st (fs.toList.map λf=>(f.offset,PO P f.type,f.type))
 | .array n e=>.arr n e
 | .pointer e=>.ptr e
 | .interface _=>.iface
 | .map k e=>.mp k e
 | _=>.other
def FL(v:Value):SV:=.val v
def D2:Value->Bool
 | .agg _=>true
 | _=>false
def an(P:Program)(t:TypeId):Option TI :=
 match P.info? t,P.underlying t with
 | some i,some d =>
  match i.zero with
  | some z=>if z.cells.toList.all awK&&z.cells.size==i.size&&(L5 d||i.size==1)&&D2 z==L5 d then some ⟨tk P d,i.size,i.bytes,z.cells.toList.map FL⟩ else none
  | none=>none
 | _,_=>none
theorem uQ(P:Program)(d:TypeDesc):(tk P d).isAgg=L5 d:=by cases d<;>rfl
theorem An{β:cu}{H:Hp}{v:Value}(h:v.oneCell'=true):Den β H (FL v) v∧(FL v).one=true:=by exact⟨by simp[FL,Den,h],by simp[FL,SV.one,h]⟩
structure wM(P:Program)(t:TypeId)(ti:TI)(i:TypeInfo)(d:TypeDesc)(z:Value):Prop where
 info:P.info? t=some i
 under:P.underlying t=some d
 hz:i.zero=some z
 cells:∀v∈z.cells.toList,v.oneCell'=true
 T6:z.cells.size=i.size
 one:L5 d=true∨i.size=1
 k:ti.k=tk P d
 size:ti.size=i.size
 bytes:ti.bytes=i.bytes
 zero:ti.zero=z.cells.toList.map FL
 shape:D2 z=L5 d
theorem aH{P:Program}{t:TypeId}{ti:TI}(h:an P t=some ti):∃i d z,wM P t ti i d z:=by
 unfold an at h;split at h
 ·rename_i i d hi hd;split at h
  ·rename_i z hz;split at h
   ·rename_i hc;simp only[Bool.and_eq_true,Bool.or_eq_true,beq_iff_eq,List.all_eq_true]at hc;simp only[awR]at h;subst h;exact⟨i,d,z,hi,hd,hz,hc.1.1.1,hc.1.1.2,hc.1.2,rfl,rfl,rfl,rfl,hc.2⟩
   ·cases h
  ·cases h
 ·cases h
section runs
variable {P:Program} {t:TypeId} {ti:TI} {i:TypeInfo} {d:TypeDesc} {z:Value} {w:World}
theorem wM.yO(h:wM P t ti i d z):(typeInfo t).run P w=.ok i w:=by simp[typeInfo,h.info]
theorem wM.aQ(h:wM P t ti i d z):(underlying t).run P w=.ok d w:=by simp[underlying,h.under]
theorem wM.lE(h:wM P t ti i d z):(zeroValue t).run P w=.ok z w:=by simp[zeroValue,h.yO,h.hz]
theorem wM.fC(h:wM P t ti i d z):(sizeOf t).run P w=.ok ti.size w:=by simp[sizeOf,h.yO,h.size]
theorem wM.IU(h:wM P t ti i d z):(isAgg t).run P w=.ok ti.k.isAgg w:=by rw[h.k,uQ];cases d<;>simp[isAgg,h.aQ,L5]
end runs
def TI.dm(ti:TI):SV:=if ti.k.isAgg then .agg ti.zero else aM ti.zero 0
theorem BB{β:cu}{H:Hp}:∀(l:List Value),(∀v∈l,v.oneCell'=true)->bN β H (l.map FL) l
 | [],_=>by simp[bN]
 | v::l,h=>by simp only[List.map_cons,bN];have:=An (β:=β) (H:=H) (h v (by simp));exact⟨v,l,rfl,this.2,this.1,BB l λu hu=>h u (by simp[hu])⟩
theorem rT{P:Program}{t:TypeId}{ti:TI}{i:TypeInfo}{d:TypeDesc}{z:Value}(h:wM P t ti i d z)(β:cu)(H:Hp) :
  ∃v,Den β H ti.dm v∧v.cells=z.cells∧z.cells.size=ti.size:=by
 have hs:z.cells.size=ti.size:=by rw[h.size,h.T6]
 unfold TI.dm;by_cases ha:ti.k.isAgg=true
 ·rw[if_pos ha];refine⟨.agg z.cells,?_,rfl,hs⟩;simp only[Den];exact⟨z.cells.toList,by simp,by rw[h.zero];exact BB _ h.cells⟩
 ·rw[if_neg ha];have h1:i.size=1:=h.one.resolve_left (by rw[<-uQ P,<-h.k];exact ha);have h2:z.cells.toList.length=1:=by simp[h.T6,h1]
  obtain⟨v,hv⟩:∃v,z.cells.toList=[v]:=List.length_eq_one_iff.1 h2;have ab:=h.cells v (by simp[hv]);refine⟨v,?_,?_,hs⟩
  ·rw[h.zero,hv];exact(An ab).1
  ·rw[eo ab];apply Array.ext';simp[hv]
theorem H6{P:Program}{t:TypeId}{ti:TI}{i:TypeInfo}{d:TypeDesc}{z:Value}(h:wM P t ti i d z)(β:cu)(H:Hp):Den β H ti.dm z:=by
 obtain⟨v,ab,ad,aD⟩:=rT h β H;have hz:=h.shape;rw[<-uQ P,<-h.k]at hz;unfold TI.dm at ab ⊢;by_cases ha:ti.k.isAgg=true
 ·rw[if_pos ha]at ab ⊢;rw[ha]at hz;simp only[Den]at ab;obtain⟨vs,rfl,ae⟩:=ab;cases z<;>simp[D2]at hz;rename_i cs;simp only[awL]at ad;subst ad;simp only[Den];exact⟨vs,rfl,ae⟩
 ·rw[if_neg ha]at ab ⊢;have hc:z.cells=#[z]:=by
   have:ti.k.isAgg=false:=by simpa using ha
   rw[this]at hz;cases z<;>simp_all [D2,awL]
  rw[hc]at ad;have ak:(aM ti.zero 0).one=true:=by rw[h.zero,hc];have aw:=h.cells z (by rw[hc];simp);simp[aM,FL,SV.one,aw]
  rw[eo (Den.one ab ak)]at ad;simp only[Array.mk.injEq,aw2,and_true]at ad;rw[<-ad];exact ab
/-! ### Operands -/
def D5(v:Value):Option SV:=if v.oneCell'=true then some (.val v) else none
def ev(fr:List (Nat × SV)):Operand->Option SV
 | .tmp t=>get fr t
 | .const v=>D5 v
 | .global g=>match gl g with
  | some x=>some (.dG x 0)
  | none=>some (.val (.pointer (some ⟨g,0,none⟩)))
 | .func f=>some (.val (.func (.func f) #[] #[]))
theorem Eu{β:cu}{H:Hp}{n:Nat}{fr:List (Nat × SV)}{a:Act}{o:Operand}{x:SV}(hF:jl β H n fr a)(h:ev fr o=some x):Den β H x (a.eval o):=by
 cases o with
 | tmp t =>
  obtain⟨v,hv,hd⟩:=hF.2.2 t x h;simp only[Act.eval,Array.getD_eq_getD_getElem?,hv];exact hd
 | const v =>
  simp only[ev,D5]at h;split at h
  ·rename_i hv;simp only[awR]at h;subst h;exact(An hv).1
  ·cases h
 | global g =>
  simp only[ev]at h;split at h
  ·rename_i y hy;simp only[awR]at h;subst h;obtain⟨v,h1,h2⟩:=hF.1.2.at_ g y hy;simp only[Den,Act.eval];exact⟨g,0,_,v,rfl,h2,h1,λi _=>by simp⟩
  ·simp only[awR]at h;subst h;simp[Den,Act.eval,awK]
 | func f=>simp only[ev,awR]at h;subst h;simp[Den,Act.eval,awK]
/-! ### Results of an operation -/
inductive dV where
 | stuck
 | q (c:Prop) (x:SV)
 | m (c:Prop) (M:aC) (x:Option SV)
abbrev SV.i64(n:Int):SV:=.val (.int .i64 n)
abbrev SV.bool(b:Bool):SV:=.val (.bool b)
def iV(op:BinOp)(k:IntKind)(m n:Int):dV :=
 match op with
 | .add=>.q True (.val (.int k (k.wrap (m+n))))
 | .sub=>.q True (.val (.int k (k.wrap (m - n))))
 | .mul=>.q True (.val (.int k (k.wrap (m*n))))
 | .quo=>.q (n≠0) (.val (.int k (k.wrap (m.tdiv n))))
 | .rem=>.q (n≠0) (.val (.int k (m.tmod n)))
 | .and=>.q True (.val (.int k (k.wrap (aw3 k.bits m &&& aw3 k.bits n).toNat)))
 | .or=>.q True (.val (.int k (k.wrap (aw3 k.bits m ||| aw3 k.bits n).toNat)))
 | .xor=>.q True (.val (.int k (k.wrap (aw3 k.bits m ^^^ aw3 k.bits n).toNat)))
 | .eql=>.q True (.bool (decide (m=n)))
 | .neq=>.q True (.bool (decide (m≠n)))
 | .lss=>.q True (.bool (decide (m<n)))
 | .leq=>.q True (.bool (decide (m<=n)))
 | .gtr=>.q True (.bool (decide (m > n)))
 | .geq=>.q True (.bool (decide (m ≥ n)))
 | _=>.stuck
def Gk(op:BinOp)(k:IntKind)(m n:Int):dV :=
 match op with
 | .shl=>.q (0<=n) (.val (.int k (k.wrap (m*2^(min n.toNat k.bits)))))
 | .shr=>.q (0<=n) (.val (.int k (m.fdiv (2^(min n.toNat k.bits)))))
 | _=>.stuck
def sR:BinOp->Bool
 | .shl | .shr=>true
 | _=>false
def w6(op:BinOp)(a b:ByteArray):dV :=
 match op with
 | .add=>.q (a.size+b.size<=9223372036854775807) (.val (.string (a++b)))
 | .eql=>.q True (.bool (decide (a=b)))
 | .neq=>.q True (.bool (decide (a≠b)))
 | _=>.stuck
def cE(op:BinOp)(ti:Option TI):Option SV->Option SV->dV
 | some (.val (.int k m)),some (.val (.int k' n))=>if sR op then Gk op k m n else if k=k' then iV op k m n else .stuck
 | some (.val (.string a)),some (.val (.string b))=>w6 op a b
 | some (.val (.bool a)),some (.val (.bool b)) =>
  match op,ti with
  | .eql,some ⟨.bool,_,_,_⟩=>.q True (.bool (a==b))
  | .neq,some ⟨.bool,_,_,_⟩=>.q True (.bool (!(a==b)))
  | _,_=>.stuck
 | some (.dG _ _),some (.val (.pointer none)) =>
  match op,ti with
  | .eql,some ⟨.ptr _,_,_,_⟩=>.q True (.bool false)
  | .neq,some ⟨.ptr _,_,_,_⟩=>.q True (.bool true)
  | _,_=>.stuck
 | some (.val (.pointer none)),some (.val (.pointer none)) =>
  match op,ti with
  | .eql,some ⟨.ptr _,_,_,_⟩=>.q True (.bool true)
  | .neq,some ⟨.ptr _,_,_,_⟩=>.q True (.bool false)
  | _,_=>.stuck
 | _,_=>.stuck
theorem cg{β:cu}{H:Hp}{v:Value}(h:v.oneCell'=true):Den β H (.val v) v:=by simp[Den,h]
theorem Mp{P:Program}{β:cu}{H:Hp}{op:BinOp}{t:TypeId}{k:IntKind}{m n:Int}{c:Prop}{r:SV}
  (h:iV op k m n=.q c r) (hc:c):∃z,(∀w,(binOp op t (.int k m) (.int k n)).run P w=.ok z w)∧Den β H r z:=by
 cases op<;>simp only[iV,dV.q.injEq,reduceCtorEq]at h<;>obtain⟨rfl,rfl⟩:=h<;>refine⟨_,λw=>?_,cg rfl⟩<;>
  simp[binOp,Op.intArith,Op.intDiv,Op.intBits,Op.intCmp,BEq.beq,bne]
 all_goals (intro e;exact absurd e hc)
theorem Ny{P:Program}{β:cu}{H:Hp}{op:BinOp}{t:TypeId}{k k':IntKind}{m n:Int}{c:Prop}{r:SV}
  (h:Gk op k m n=.q c r) (hc:c):∃z,(∀w,(binOp op t (.int k m) (.int k' n)).run P w=.ok z w)∧Den β H r z:=by
 cases op<;>simp only[Gk,dV.q.injEq,reduceCtorEq]at h<;>obtain⟨rfl,rfl⟩:=h<;>refine⟨_,λw=>?_,cg rfl⟩<;>
  (simp only[binOp,Op.shift];rw[if_neg (by omega)];rfl)
theorem bytes_beq(a b:ByteArray):(a.toList==b.toList)=decide (a=b):=by
 rw[ByteArray.toList_eq,ByteArray.toList_eq,Bool.eq_iff_iff];simp only[beq_iff_eq,decide_eq_true_eq];constructor
 ·intro h;cases a;cases b;simp only[Array.toList_inj]at h;rw[h]
 ·rintro rfl;rfl
theorem MJ{P:Program}{β:cu}{H:Hp}{op:BinOp}{t:TypeId}{a b:ByteArray}{c:Prop}{r:SV}
  (h:w6 op a b=.q c r) (hc:c):∃z,(∀w,(binOp op t (.string a) (.string b)).run P w=.ok z w)∧Den β H r z:=by
 cases op<;>simp only[w6,dV.q.injEq,reduceCtorEq]at h<;>obtain⟨rfl,rfl⟩:=h<;>refine⟨_,λw=>?_,cg rfl⟩<;>
  simp[binOp,Op.stringOp,bytes_beq]
 omega
theorem rA{P:Program}{w:World}{op:BinOp}{t:TypeId}{ox oy:Operand}{u v:Value}(h:u.oneCell'=true)(h':u≠.nilIface) :
  (eqGuard op t ox oy u v).run P w=.ok () w:=by
 unfold eqGuard;cases u<;>simp_all [awK]<;>(cases op<;>simp)
theorem sP{P:Program}{t e:TypeId}{s b:Nat}{z:List SV}(h:an P t=some ⟨.ptr e,s,b,z⟩):P.underlying t=some (.pointer (P.pointee t)):=by obtain⟨i,d,z',ht⟩:=aH h;have hk:=ht.k;have hu:=ht.under;cases d<;>simp[tk]at hk;rw[hu];simp[Program.pointee,hu]
theorem NZ{P:Program}{β:cu}{H:Hp}{op:BinOp}{t:TypeId}{x y:Option SV}{ox oy:Operand}{u v:Value}{c:Prop}{r:SV}
  (h:cE op (an P t) x y=.q c r) (hc:c) (hx:∀s,x=some s->Den β H s u) (hy:∀s,y=some s->Den β H s v) :
  ∃z,(∀w,(do eqGuard op t ox oy u v;binOp op t u v:Sem Value).run P w=.ok z w)∧Den β H r z:=by
 unfold cE at h;split at h
 ·rename_i k m k' n;have hu:=hx _ rfl;have hv:=hy _ rfl;simp only[Den]at hu hv;obtain⟨rfl, -⟩:=hu;obtain⟨rfl, -⟩:=hv;simp only[aw4,rA (P:=P) (op:=op) (t:=t) (ox:=ox) (oy:=oy) (v:=.int k' n) (u:=.int k m) rfl (by simp),aw5];split at h
  ·exact Ny h hc
  ·split at h
   ·rename_i hk;subst hk;exact Mp h hc
   ·cases h
 ·rename_i a b;have hu:=hx _ rfl;have hv:=hy _ rfl;simp only[Den]at hu hv;obtain⟨rfl, -⟩:=hu;obtain⟨rfl, -⟩:=hv;simp only[aw4,rA (P:=P) (op:=op) (t:=t) (ox:=ox) (oy:=oy) (v:=.string b) (u:=.string a) rfl (by simp),aw5];exact MJ h hc
 ·rename_i a b;have hu:=hx _ rfl;have hv:=hy _ rfl;simp only[Den]at hu hv;obtain⟨rfl, -⟩:=hu;obtain⟨rfl, -⟩:=hv;simp only[aw4,rA (P:=P) (op:=op) (t:=t) (ox:=ox) (oy:=oy) (v:=.bool b) (u:=.bool a) rfl (by simp),aw5];have hb:∀s b z,an P t=some ⟨.bool,s,b,z⟩->P.underlying t=some .bool:=λs b z aa=>by
   obtain⟨i,d,z',ht⟩:=aH aa;have hk:=ht.k;have hd:d=.bool:=by cases d<;>simp[tk]at hk;rfl
   rw[<-hd];exact ht.under
  split at h
  ·rename_i aa;simp only[dV.q.injEq]at h;obtain⟨-,rfl⟩:=h;exact⟨_,λw=>run_eql_bool w t a b (hb _ _ _ aa),cg rfl⟩
  ·rename_i aa;simp only[dV.q.injEq]at h;obtain⟨-,rfl⟩:=h;exact⟨_,λw=>run_neq_bool w t a b (hb _ _ _ aa),cg rfl⟩
  ·cases h
 ·have hu:=hx _ rfl;have hv:=hy _ rfl;simp only[Den]at hu hv;obtain⟨b,o,cs,v',rfl, -⟩:=hu;obtain⟨rfl, -⟩:=hv;simp only[aw4,rA (P:=P) (op:=op) (t:=t) (ox:=ox) (oy:=oy) (v:=.pointer none) (u:=.pointer (some ⟨b,_,none⟩)) rfl (by simp),aw5];split at h
  ·rename_i aa;simp only[dV.q.injEq]at h;obtain⟨-,rfl⟩:=h;exact⟨_,λw=>run_eql_pointer_nil w t _ (sP aa),cg rfl⟩
  ·rename_i aa;simp only[dV.q.injEq]at h;obtain⟨-,rfl⟩:=h;exact⟨_,λw=>run_neq_pointer_nil w t _ (sP aa),cg rfl⟩
  ·cases h
 ·have hu:=hx _ rfl;have hv:=hy _ rfl;simp only[Den]at hu hv;obtain⟨rfl, -⟩:=hu;obtain⟨rfl, -⟩:=hv;simp only[aw4,rA (P:=P) (op:=op) (t:=t) (ox:=ox) (oy:=oy) (v:=.pointer none) (u:=.pointer none) rfl (by simp),aw5];split at h
  ·rename_i aa;simp only[dV.q.injEq]at h;obtain⟨-,rfl⟩:=h;exact⟨_,λw=>run_eql_pointer_nil w t _ (sP aa),cg rfl⟩
  ·rename_i aa;simp only[dV.q.injEq]at h;obtain⟨-,rfl⟩:=h;exact⟨_,λw=>run_neq_pointer_nil w t _ (sP aa),cg rfl⟩
  ·cases h
 ·cases h
/-! ### Cells -/
theorem Addr.add_eq(b o n:Nat):(⟨b,o,none⟩:Addr).add n=⟨b,o+n,none⟩:=by
 unfold Addr.add;split
 ·rename_i h;simp[h]
 ·rfl
theorem cell_of{w:World}{b o:Nat}{cs:Array Value}{T:TypeId}{z:Nat × Nat}(h:w.heap[b]?=some (.cells cs T z)):w.cell? ⟨b,o,none⟩=cs[o]?:=by simp[World.cell?,h]
theorem run_loadCellsFrom{P:Program}{w:World}{b o:Nat}{cs:Array Value}{T:TypeId}{z:Nat × Nat}(h:w.heap[b]?=some (.cells cs T z)) :
  ∀(n i:Nat) (acc:Array Value) (l:List Value),l.length=n->(∀q,q<n->cs[o+i+q]?=l[q]?) ->
   (loadCellsFrom ⟨b,o,none⟩ i n acc).run P w=.ok (acc++l.toArray) w
 | 0,i,acc,l,hl,_=>by have:l=[]:=List.length_eq_zero_iff.1 hl;simp[loadCellsFrom,this]
 | n+1,i,acc,l,hl,hq=>by
  match l,hl with
  | v::l,hl =>
   have h0:cs[o+i]?=some v:=by simpa using hq 0 (by omega)
   have ih:=run_loadCellsFrom (P:=P) (o:=o) h n (i+1) (acc.push v) l (by simpa using hl) (λq af=>by have:=hq (q+1) (by omega);rw[show o+(i+1)+q=o+i+(q+1) from by omega,this];simp)
   simp only[loadCellsFrom,Addr.add_eq,aw4,run_load,cell_of h,h0,aw5,ih];simp
theorem run_loadCells{P:Program}{w:World}{b o:Nat}{cs:Array Value}{T:TypeId}{z:Nat × Nat}(h:w.heap[b]?=some (.cells cs T z))(l:List Value)
  (hq:∀q,q<l.length->cs[o+q]?=l[q]?):(loadCells ⟨b,o,none⟩ l.length).run P w=.ok l.toArray w:=by
 unfold loadCells;rw[run_loadCellsFrom h l.length 0 #[] l rfl (by simpa using hq)];simp
theorem jU{P:Program}{b:Nat}{T:TypeId}:∀(l:List Value) (w:World) (o i:Nat) (cs:Array Value),w.heap[b]?=some (.cells cs T (0,0))->o+i+l.length<=cs.size ->
  (∀v∈l,v.oneCell'=true)->∃w' ag,(storeCells ⟨b,o,none⟩ l i).run P w=.ok () w'∧Wr w b ag T w'∧ag.size=cs.size ∧
   ∀q,ag[q]?=if o+i<=q∧q<o+i+l.length then l[q - (o+i)]? else cs[q]?
 | [],w,o,i,cs,h,_,_=>⟨w,cs,by simp[storeCells],⟨rfl,rfl,rfl,rfl,h,λ_ _=>rfl⟩,rfl,λq=>by rw[if_neg (by simp)]⟩
 | v::l,w,o,i,cs,h,hs,hv=>by
  have aR:o+i<cs.size:=by simp only[awV]at hs;omega
  have hc:w.cell? ⟨b,o+i,none⟩=some cs[o+i]:=by rw[cell_of h];exact aw0 aR
  have ax:w.frozen? ⟨b,o+i,none⟩=false:=by simp[World.frozen?,h]
  have hh:(w.setCell ⟨b,o+i,none⟩ v).heap[b]?=some (.cells (cs.setIfInBounds (o+i) v) T (0,0)):=by simp only[World.setCell];rw[Array.getElem?_modify];simp[h]
  obtain⟨w',ag,h1,h2,h3,h4⟩:=jU (P:=P) (T:=T) l (w.setCell ⟨b,o+i,none⟩ v) o (i+1) _ hh (by simp at hs ⊢;omega) (λu hu=>hv u (by simp[hu]));refine⟨w',ag,?_,⟨h2.os,h2.tape,h2.output,by rw[h2.size];simp,h2.here,λb' hb=>?_⟩,by simpa using h3,λq=>?_⟩
  ·simp only[storeCells,Addr.add_eq,aw4];rw[run_store P w _ v .plain (hv v (by simp))];simp only[hc,ax,Bool.false_eq_true,if_false,aw5];exact h1
  ·rw[h2.there b' hb];exact Below.heap_setCell w ⟨b,o+i,none⟩ v b' hb
  ·rw[h4];simp only[awV];by_cases hq:q=o+i
   ·subst hq;rw[if_neg (by omega),if_pos (by omega)];simp[Array.getElem?_setIfInBounds_self_of_lt aR]
   ·rw[Array.getElem?_setIfInBounds_ne (Ne.symm hq)];by_cases af:o+(i+1)<=q∧q<o+(i+1)+l.length
    ·rw[if_pos af,if_pos (by omega),show q - (o+i)=(q - (o+(i+1)))+1 from by omega];simp
    ·rw[if_neg af,if_neg (by omega)]
theorem Den.ua{β:cu}{H:Hp}{x:SV}{v:Value}(h:Den β H x v)(hx:∀l,x≠.bM l):bN β H x.cells v.cells.toList:=by
 cases x
 case bM l=>exact absurd rfl (hx l)
 case agg l=>simp only[Den]at h;obtain⟨vs,rfl,h⟩:=h;simpa[SV.cells,awL]using h
 case val u =>
  simp only[Den]at h;obtain⟨rfl,h2⟩:=h;rw[eo h2];simp[SV.cells,bN,SV.one,h2,Den]
 all_goals
  rw[eo (Den.one h rfl)];simp only[SV.cells,bN];exact⟨_,[],by simp,rfl,h,rfl⟩
theorem bN.drop{β:cu}{H:Hp}:∀{l:List SV} {vs:List Value} (n:Nat),bN β H l vs->bN β H (l.drop n) (vs.drop n)
 | [],vs,n,h=>by simp only[bN]at h;simp[h,bN]
 | x::l,vs,0,h=>by simpa using h
 | x::l,vs,n+1,h=>by simp only[bN]at h;obtain⟨v,r,rfl,_,_,h4⟩:=h;simpa using h4.drop n
theorem bN.take{β:cu}{H:Hp}:∀{l:List SV} {vs:List Value} (n:Nat),bN β H l vs->bN β H (l.take n) (vs.take n)
 | [],vs,n,h=>by simp only[bN]at h;simp[h,bN]
 | x::l,vs,0,h=>by simp[bN]
 | x::l,vs,n+1,h=>by simp only[bN]at h;obtain⟨v,r,rfl,h2,h3,h4⟩:=h;simp only[List.take_succ_cons,bN];exact⟨v,_,rfl,h2,h3,h4.take n⟩
theorem bN.append{β:cu}{H:Hp}:∀{l l':List SV} {vs ah:List Value},bN β H l vs->bN β H l' ah->bN β H (l++l') (vs++ah)
 | [],l',vs,ah,h,h'=>by simp only[bN]at h;simpa[h]using h'
 | x::l,l',vs,ah,h,h'=>by simp only[bN,List.cons_append]at h ⊢;obtain⟨v,r,rfl,h2,h3,h4⟩:=h;exact⟨v,r++ah,by simp,h2,h3,h4.append h'⟩
theorem bN.Jq{β:cu}{H:Hp}:∀{l:List SV} {vs:List Value},bN β H l vs->∀v∈vs,v.oneCell'=true
 | [],vs,h,v,hv=>by simp only[bN]at h;simp[h]at hv
 | x::l,vs,h,v,hv=>by
  simp only[bN]at h;obtain⟨u,r,rfl,h2,h3,h4⟩:=h;rcases List.mem_cons.1 hv with rfl | hv
  ·exact h3.one h2
  ·exact h4.Jq v hv
def SV.isAgg:SV->Bool
 | .agg _=>true
 | _=>false
def SV.aW:SV->Bool
 | .bM _=>true
 | _=>false
def pg(ti:TI)(x:SV)(j:Nat):SV :=
 if j=0∧x.ir=ti.size∧x.isAgg=ti.k.isAgg then x else if ti.k.isAgg=true then .agg ((x.cells.drop j).take ti.size) else aM x.cells j
theorem xc{P:Program}{β:cu}{H:Hp}{t:TypeId}{ti:TI}(ht:an P t=some ti){b o j:Nat}{cs:Array Value}{x:SV}{v:Value}(hx:Den β H x v)(ay:x.aW=false)(hq:∀q,q<v.cells.size->cs[o+q]?=v.cells[q]?)(hj:j+ti.size<=x.ir) :
  ∃u,(∀w T z,w.heap[b]?=some (.cells cs T z)->(loadVar t ⟨b,o+j,none⟩).run P w=.ok u w)∧Den β H (pg ti x j) u:=by
 obtain⟨i,d,zv,ai⟩:=aH ht;have ac:∀l,x≠.bM l:=λl e=>by subst e;simp[SV.aW]at ay
 have wE:v.cells.size=x.ir:=(hx.q9).resolve_left λ⟨l,e⟩=>ac l e;have al:=hx.ua ac;unfold loadVar;simp only[aw4,ai.IU,aw5];by_cases ha:ti.k.isAgg=true
 ·simp only[ha,if_true,aw4,ai.fC,aw5];have hlen:((v.cells.toList.drop j).take ti.size).length=ti.size:=by simp;omega
  have ap:=λ(w:World) T z (h:w.heap[b]?=some (.cells cs T z))=>run_loadCells (P:=P) (o:=o+j) h ((v.cells.toList.drop j).take ti.size) (λq af=>by rw[hlen]at af;rw[List.getElem?_take_of_lt af,List.getElem?_drop,Nat.add_assoc,hq (j+q) (by omega)];simp)
  simp only[hlen]at ap;refine⟨.agg ((v.cells.toList.drop j).take ti.size).toArray,λw T z h=>by simp[ap w T z h],?_⟩;unfold pg;split
  ·rename_i hc;obtain⟨rfl,aq,aj⟩:=hc;rw[ha]at aj;cases x<;>simp[SV.isAgg]at aj;simp only[Den]at hx;obtain⟨vs,rfl,ae⟩:=hx;simp only[Den];refine⟨vs,?_,ae⟩;have:=ae.length;simp only[SV.ir]at aq;simp only[awL,List.drop_zero];rw[List.take_of_length_le (by omega)]
  ·simp only[Den];exact⟨_,rfl,(al.drop j).take ti.size⟩
 ·have am:ti.k.isAgg=false:=by simpa using ha
  have h1:ti.size=1:=by rw[ai.size];refine ai.one.resolve_left ?_;rw[<-uQ P,<-ai.k];exact ha
  have aR:j<v.cells.size:=by omega
  have hc:∀(w:World) T z,w.heap[b]?=some (.cells cs T z)->w.cell? ⟨b,o+j,none⟩=some v.cells[j]:=λw T z h=>by rw[cell_of h,hq j aR];exact aw0 aR
  refine⟨v.cells[j],λw T z h=>by simp only[am,Bool.false_eq_true,if_false,run_load,hc w T z h],?_⟩;obtain⟨u,ar,aE,ao⟩:=al.get (i:=j) (by rw[<-al.length];simpa using aR);have hu:v.cells[j]=u:=by
   have:v.cells.toList[j]?=some v.cells[j]:=by rw[aw1];exact aw0 aR
   rw[this]at ar;simpa using ar
  rw[hu];unfold pg;split
  ·rename_i hc;obtain⟨rfl,aq,aj⟩:=hc;rw[am]at aj;cases x
   case agg l=>simp[SV.isAgg]at aj
   case bM l=>exact absurd rfl (ac l)
   all_goals exact ao
  ·first
    | exact ao
    | (rw[if_neg (by simp[am])];exact ao)
end Go.Sv
namespace Go.Sv
open Go
def Iy(P:Program):List Field->Nat->Option (List TK)
 | [],_=>some []
 | f :: fs, k => if f.name ≠ "_" ∧ f.offset = k then
   match P.underlying f.type,Iy P fs (k+1)with
   | some .string,some r=>some (.str::r)
   | some .bool,some r=>some (.bool::r)
   | some (.int κ),some r=>some (.int κ::r)
   | _,_=>none
  else none
def J5(P:Program)(t:TypeId):Option (List TK) :=
 match P.underlying t with
 | some (.struct fs)=>if P.stoodInHeld t=false∧P.eqGuardType P.depth t=false∧fs.size<=100 then Iy P fs.toList 0 else none
 | _=>none
def eqV:TK->SV->SV->Option Bool
 | .str,.val (.string a),.val (.string b)=>some (decide (a=b))
 | .bool,.val (.bool a),.val (.bool b)=>some (a==b)
 | .int κ,.val (.int κ' a),.val (.int κ'' b)=>if κ'=κ∧κ''=κ then some (decide (a=b)) else none
 | _,_,_=>none
def Ar:List TK->List SV->List SV->Option Bool
 | [],[],[]=>some true
 | k::ks,x::a,y::b=>match eqV k x y,Ar ks a b with
  | some e,some r=>some (e&&r)
  | _,_=>none
 | _,_,_=>none
def DE(op:BinOp)(ks:Option (List TK))(a b:List SV):dV :=
 match op,ks with
 | .eql,some ks=>match Ar ks a b with
  | some e=>.q True (.val (.bool e))
  | none=>.stuck
 | .neq,some ks=>match Ar ks a b with
  | some e=>.q True (.val (.bool (!e)))
  | none=>.stuck
 | _,_=>.stuck
section
variable {P:Program} {β:cu} {H:Hp}
theorem Wc{k:TK}{x y:SV}{e:Bool}{f:TypeId}{d:Nat}{u v:Value}(h:eqV k x y=some e)(hx:Den β H x u)(hy:Den β H y v)
  (hf:(k=.str∧P.underlying f=some .string)∨(k=.bool∧P.underlying f=some .bool)∨(∃κ,k=.int κ∧P.underlying f=some (.int κ))) :
  ∀w,(Op.equalIn (d+1) f u v).run P w=.ok e w:=by
 intro w;unfold eqV at h;split at h
 ·rename_i a b;simp only[Den]at hx hy;obtain⟨rfl, -⟩:=hx;obtain⟨rfl, -⟩:=hy;simp only[awR]at h;subst h;rcases hf with⟨-,hu⟩ | ⟨hk, -⟩ | ⟨κ,hk, -⟩
  ·rw[run_equalIn_string w d f a b hu,bytes_beq]
  ·cases hk
  ·cases hk
 ·rename_i a b;simp only[Den]at hx hy;obtain⟨rfl, -⟩:=hx;obtain⟨rfl, -⟩:=hy;simp only[awR]at h;subst h;rcases hf with⟨hk, -⟩ | ⟨-,hu⟩ | ⟨κ,hk, -⟩
  ·cases hk
  ·exact run_equalIn_bool' w d f a b hu
  ·cases hk
 ·rename_i κ κ' a κ'' b;simp only[Den]at hx hy;obtain⟨rfl, -⟩:=hx;obtain⟨rfl, -⟩:=hy;split at h
  ·rename_i hk;obtain⟨rfl,rfl⟩:=hk;simp only[awR]at h;subst h;rcases hf with⟨hk, -⟩ | ⟨hk, -⟩ | ⟨κ,hk,hu⟩
   ·cases hk
   ·cases hk
   ·rw[run_equalIn_int w d f κ'' κ a b hu];rfl
  ·cases h
 ·cases h
theorem Mg{f:Field}{fs:List Field}{k:Nat}{ks:List TK}(h:Iy P (f::fs) k=some ks) :
  f.name ≠ "_" ∧ f.offset = k ∧ ∃ q r, ks = q :: r ∧ Iy P fs (k + 1) = some r ∧ P.plainKey f.type = true ∧
   ((q=.str∧P.underlying f.type=some .string)∨(q=.bool∧P.underlying f.type=some .bool)∨(∃κ,q=.int κ∧P.underlying f.type=some (.int κ))):=by
 unfold Iy at h;split at h
 ·rename_i hc;refine⟨hc.1,hc.2,?_⟩;split at h
  ·rename_i r hu hr;simp only[awR]at h;exact⟨_,r,h.symm,hr,by simp[Program.plainKey,hu],.inl ⟨rfl,hu⟩⟩
  ·rename_i r hu hr;simp only[awR]at h;exact⟨_,r,h.symm,hr,by simp[Program.plainKey,hu],.inr (.inl ⟨rfl,hu⟩)⟩
  ·rename_i κ r hu hr;simp only[awR]at h;exact⟨_,r,h.symm,hr,by simp[Program.plainKey,hu],.inr (.inr ⟨κ,rfl,hu⟩)⟩
  ·cases h
 ·cases h
theorem HD{d:Nat}{xs ys:Array Value}:∀{fs:List Field} {k:Nat} {ks:List TK} {a b:List SV} {e:Bool},Iy P fs k=some ks->Ar ks a b=some e->bN β H a (xs.toList.drop k)->bN β H b (ys.toList.drop k) ->
  ∀w,(Op.eqFields (d+1) xs ys fs).run P w=.ok e w
 | [],k,ks,a,b,e,hf,ha,hx,hy,w=>by
  simp only[Iy,awR]at hf;subst hf;unfold Ar at ha;split at ha
  ·simp only[awR]at ha;subst ha;simp[Op.eqFields]
  ·contradiction
  ·cases ha
 | f::fs,k,ks,a,b,e,hf,ha,hx,hy,w=>by
  obtain⟨hn,ho,q,r,rfl,hr,hp,hq⟩:=Mg hf;unfold Ar at ha;split at ha
  ·contradiction
  ·rename_i q' r' x a' y b' h1;simp only[aw2]at h1;obtain⟨rfl,rfl⟩:=h1;split at ha
   ·rename_i e1 e2 g1 g2;simp only[awR]at ha;simp only[bN]at hx hy;obtain⟨u,us,hu, -,az,au⟩:=hx;obtain⟨v,vs,hv, -,aA,av⟩:=hy;have dx:xs[k]?=some u∧us=xs.toList.drop (k+1):=by
     have aR:k<xs.toList.length:=by
      rcases Nat.lt_or_ge k xs.toList.length with h | h
      ·exact h
      ·rw[awX h]at hu;cases hu
     rw[awY aR]at hu;simp only[aw2]at hu;refine⟨?_,hu.2.symm⟩;rw[<-aw1,awZ aR,hu.1]
    have dy:ys[k]?=some v∧vs=ys.toList.drop (k+1):=by
     have aR:k<ys.toList.length:=by
      rcases Nat.lt_or_ge k ys.toList.length with h | h
      ·exact h
      ·rw[awX h]at hv;cases hv
     rw[awY aR]at hv;simp only[aw2]at hv;refine⟨?_,hv.2.symm⟩;rw[<-aw1,awZ aR,hv.1]
    rw[dx.2]at au;rw[dy.2]at av;unfold Op.eqFields;rw[if_pos hn,ho];simp only[aw4,run_part_plain w hp dx.1,run_part_plain w hp dy.1,aw5,Wc (P:=P) (d:=d) g1 az aA hq w];have ih:=HD (d:=d) hr g2 au av w;subst ha;cases e1 with
    | false=>simp
    | true=>simpa using ih
   ·cases ha
  ·cases ha
theorem Ik{op:BinOp}{t:TypeId}{a b:List SV}{ox oy:Operand}{u v:Value}{c:Prop}{r:SV}(h:DE op (J5 P t) a b=.q c r)(hx:Den β H (.agg a) u)(hy:Den β H (.agg b) v) :
  ∃z,(∀w,(do eqGuard op t ox oy u v;binOp op t u v:Sem Value).run P w=.ok z w)∧Den β H r z:=by
 simp only[Den]at hx hy;obtain⟨us,rfl,aB⟩:=hx;obtain⟨vs,rfl,ae⟩:=hy;have key:∀ks e,J5 P t=some ks->Ar ks a b=some e->P.eqGuardType P.depth t=false∧∀w,(Op.equalIn 10000 t (.agg us.toArray) (.agg vs.toArray)).run P w=.ok e w:=λks e h1 h2=>by
  unfold J5 at h1;split at h1
  ·rename_i fs hu;split at h1
   ·rename_i hc;have hF:P.fieldsOf t=fs:=by simp[Program.fieldsOf,hu]
    refine⟨hc.2.1,λw=>?_⟩;rw[run_equalIn_struct w 9999 t us.toArray vs.toArray (by rw[hF];exact hu) hc.1,hF];exact HD (d:=9998) h1 h2 (by simpa using aB) (by simpa using ae) w
   ·cases h1
  ·cases h1
 unfold DE at h;split at h
 ·rename_i ks hk;split at h
  ·rename_i e he;simp only[dV.q.injEq]at h;obtain⟨-,rfl⟩:=h;obtain⟨k1,k2⟩:=key ks e hk he;refine⟨.bool e,λw=>?_,by simp[Den,awK]⟩;simp only[aw4,run_eqGuard_agg w .eql t ox oy us.toArray vs.toArray k1,aw5,run_eql_struct,k2]
  ·cases h
 ·rename_i ks hk;split at h
  ·rename_i e he;simp only[dV.q.injEq]at h;obtain⟨-,rfl⟩:=h;obtain⟨k1,k2⟩:=key ks e hk he;refine⟨.bool (!e),λw=>?_,by simp[Den,awK]⟩;simp only[aw4,run_eqGuard_agg w .neq t ox oy us.toArray vs.toArray k1,aw5,run_neq_struct,k2]
  ·cases h
 ·cases h
end
end Go.Sv


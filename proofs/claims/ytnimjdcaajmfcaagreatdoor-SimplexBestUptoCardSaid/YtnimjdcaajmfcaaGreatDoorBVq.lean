/- A text of the prover's own. -/
import Derived.Laws.Pointers
import Derived.Test.YtnimjdcaajmfcaaGreatDoorBVm
import Derived.Laws.Small
import Derived.Laws.Strings
import Derived.ChangeKeysEq
open Go.Value renaming oneCell'->pe,cells->px
open List renaming length_cons->asw,drop_of_length_le->asz,drop_eq_getElem_cons->asA,getElem?_eq_getElem->asB
open Option.some renaming injEq->ass
open Array renaming getElem?_eq_getElem->asC,getElem?_toList->asD
open List.cons renaming injEq->asE
open BitVec renaming ofInt->p7
open Go.Sem renaming run_bind->av4
open Go.Result renaming andThen_ok->av5
namespace Go.Sv
open Go Go.RowKit
inductive TK where
 | int (k:IntKind)
 | bool
 | str
 | sl (e:TypeId)
 | st (fs:List (Nat × Nat × TypeId))
 | arr (n:Nat) (e:TypeId)
 | ptr (e:TypeId)
 | iface
 | mp (k e:TypeId)
 | other
structure TI where
 k:TK
 size:Nat
 bytes:Nat
 zero:List SV
def TK.isAgg:TK->Bool
 | .st _ | .arr _ _=>true
 | _=>false
def JK:TypeDesc->Bool
 | .struct _ | .array _ _=>true
 | _=>false
def Nu(P:Program)(t:TypeId):Nat:=((P.info? t).map (·.size)).getD 0
def tk(P:Program):TypeDesc->TK
 | .int k=>.int k
 | .bool=>.bool
 | .string=>.str
 | .slice e=>.sl e
 | .struct fs=>.st (fs.toList.map λf=>(f.offset,Nu P f.type,f.type))
 | .array n e=>.arr n e
 | .pointer e=>.ptr e
 | .interface _=>.iface
 | .map k e=>.mp k e
 | _=>.other
def EU(v:Value):SV:=.val v
def Cc:Value->Bool
 | .agg _=>true
 | _=>false
def an(P:Program)(t:TypeId):Option TI :=
 match P.info? t,P.underlying t with
 | some i,some d =>
  match i.zero with
  | some z=>if z.cells.toList.all pe&&z.cells.size==i.size&&(JK d||i.size==1)&&Cc z==JK d then some ⟨tk P d,i.size,i.bytes,z.cells.toList.map EU⟩ else none
  | none=>none
 | _,_=>none
theorem tJ(P:Program)(d:TypeDesc):(tk P d).isAgg=JK d:=by cases d<;>rfl
theorem zl{β:ca}{H:Hp}{v:Value}(h:v.oneCell'=true):Den β H (EU v) v∧(EU v).one=true:=by exact⟨by simp[EU,Den,h],by simp[EU,SV.one,h]⟩
structure uC(P:Program)(t:TypeId)(ti:TI)(i:TypeInfo)(d:TypeDesc)(z:Value):Prop where
 info:P.info? t=some i
 under:P.underlying t=some d
 hz:i.zero=some z
 cells:∀v∈z.cells.toList,v.oneCell'=true
 Qp:z.cells.size=i.size
 one:JK d=true∨i.size=1
 k:ti.k=tk P d
 size:ti.size=i.size
 bytes:ti.bytes=i.bytes
 zero:ti.zero=z.cells.toList.map EU
 shape:Cc z=JK d
theorem aF{P:Program}{t:TypeId}{ti:TI}(h:an P t=some ti):∃i d z,uC P t ti i d z:=by
 unfold an at h;split at h
 ·rename_i i d hi hd;split at h
  ·rename_i z hz;split at h
   ·rename_i hc;simp only[Bool.and_eq_true,Bool.or_eq_true,beq_iff_eq,List.all_eq_true]at hc;simp only[ass]at h;subst h;exact⟨i,d,z,hi,hd,hz,hc.1.1.1,hc.1.1.2,hc.1.2,rfl,rfl,rfl,rfl,hc.2⟩
   ·cases h
  ·cases h
 ·cases h
section runs
variable {P:Program} {t:TypeId} {ti:TI} {i:TypeInfo} {d:TypeDesc} {z:Value} {w:World}
theorem uC.xj(h:uC P t ti i d z):(typeInfo t).run P w=.ok i w:=by simp[typeInfo,h.info]
theorem uC.aO(h:uC P t ti i d z):(underlying t).run P w=.ok d w:=by simp[underlying,h.under]
theorem uC.kJ(h:uC P t ti i d z):(zeroValue t).run P w=.ok z w:=by simp[zeroValue,h.xj,h.hz]
theorem uC.ff(h:uC P t ti i d z):(sizeOf t).run P w=.ok ti.size w:=by simp[sizeOf,h.xj,h.size]
theorem uC.FE(h:uC P t ti i d z):(isAgg t).run P w=.ok ti.k.isAgg w:=by rw[h.k,tJ];cases d<;>simp[isAgg,h.aO,JK]
end runs
def TI.cR(ti:TI):SV:=if ti.k.isAgg then .agg ti.zero else aL ti.zero 0
theorem xt{β:ca}{H:Hp}:∀(l:List Value),(∀v∈l,v.oneCell'=true)->bE β H (l.map EU) l
 | [],_=>by simp[bE]
 | v::l,h=>by simp only[List.map_cons,bE];have:=zl (β:=β) (H:=H) (h v (by simp));exact⟨v,l,rfl,this.2,this.1,xt l λu hu=>h u (by simp[hu])⟩
theorem qu{P:Program}{t:TypeId}{ti:TI}{i:TypeInfo}{d:TypeDesc}{z:Value}(h:uC P t ti i d z)(β:ca)(H:Hp) :
  ∃v,Den β H ti.cR v∧v.cells=z.cells∧z.cells.size=ti.size:=by
 have hs:z.cells.size=ti.size:=by rw[h.size,h.Qp]
 unfold TI.cR;by_cases ha:ti.k.isAgg=true
 ·rw[if_pos ha];refine⟨.agg z.cells,?_,rfl,hs⟩;simp only[Den];exact⟨z.cells.toList,by simp,by rw[h.zero];exact xt _ h.cells⟩
 ·rw[if_neg ha];have h1:i.size=1:=h.one.resolve_left (by rw[<-tJ P,<-h.k];exact ha);have h2:z.cells.toList.length=1:=by simp[h.Qp,h1]
  obtain⟨v,hv⟩:∃v,z.cells.toList=[v]:=List.length_eq_one_iff.1 h2;have ab:=h.cells v (by simp[hv]);refine⟨v,?_,?_,hs⟩
  ·rw[h.zero,hv];exact(zl ab).1
  ·rw[dU ab];apply Array.ext';simp[hv]
theorem GM{P:Program}{t:TypeId}{ti:TI}{i:TypeInfo}{d:TypeDesc}{z:Value}(h:uC P t ti i d z)(β:ca)(H:Hp):Den β H ti.cR z:=by
 obtain⟨v,ab,ad,aC⟩:=qu h β H;have hz:=h.shape;rw[<-tJ P,<-h.k]at hz;unfold TI.cR at ab ⊢;by_cases ha:ti.k.isAgg=true
 ·rw[if_pos ha]at ab ⊢;rw[ha]at hz;simp only[Den]at ab;obtain⟨vs,rfl,ae⟩:=ab;cases z<;>simp[Cc]at hz;rename_i cs;simp only[px]at ad;subst ad;simp only[Den];exact⟨vs,rfl,ae⟩
 ·rw[if_neg ha]at ab ⊢;have hc:z.cells=#[z]:=by
   have:ti.k.isAgg=false:=by simpa using ha
   rw[this]at hz;cases z<;>simp_all [Cc,px]
  rw[hc]at ad;have ak:(aL ti.zero 0).one=true:=by rw[h.zero,hc];have aw:=h.cells z (by rw[hc];simp);simp[aL,EU,SV.one,aw]
  rw[dU (Den.one ab ak)]at ad;simp only[Array.mk.injEq,asE,and_true]at ad;rw[<-ad];exact ab
/-! ### Operands -/
def BG(v:Value):Option SV:=if v.oneCell'=true then some (.val v) else none
def ev(fr:List (Nat × SV)):Operand->Option SV
 | .tmp t=>get fr t
 | .const v=>BG v
 | .global g=>match gl g with
  | some x=>some (.dc x 0)
  | none=>some (.val (.pointer (some ⟨g,0,none⟩)))
 | .func f=>some (.val (.func (.func f) #[] #[]))
theorem BF{β:ca}{H:Hp}{n:Nat}{fr:List (Nat × SV)}{a:Act}{o:Operand}{x:SV}(hF:iM β H n fr a)(h:ev fr o=some x):Den β H x (a.eval o):=by
 cases o with
 | tmp t =>
  obtain⟨v,hv,hd⟩:=hF.2.2 t x h;simp only[Act.eval,Array.getD_eq_getD_getElem?,hv];exact hd
 | const v =>
  simp only[ev,BG]at h;split at h
  ·rename_i hv;simp only[ass]at h;subst h;exact(zl hv).1
  ·cases h
 | global g =>
  simp only[ev]at h;split at h
  ·rename_i y hy;simp only[ass]at h;subst h;obtain⟨v,h1,h2⟩:=hF.1.2.at_ g y hy;simp only[Den,Act.eval];exact⟨g,0,_,v,rfl,h2,h1,λi _=>by simp⟩
  ·simp only[ass]at h;subst h;simp[Den,Act.eval,pe]
 | func f=>simp only[ev,ass]at h;subst h;simp[Den,Act.eval,pe]
/-! ### Results of an operation -/
inductive dD where
 | stuck
 | q (c:Prop) (x:SV)
 | m (c:Prop) (M:aD) (x:Option SV)
abbrev SV.i64(n:Int):SV:=.val (.int .i64 n)
abbrev SV.bool(b:Bool):SV:=.val (.bool b)
def ir(op:BinOp)(k:IntKind)(m n:Int):dD :=
 match op with
 | .add=>.q True (.val (.int k (k.wrap (m+n))))
 | .sub=>.q True (.val (.int k (k.wrap (m - n))))
 | .mul=>.q True (.val (.int k (k.wrap (m*n))))
 | .quo=>.q (n≠0) (.val (.int k (k.wrap (m.tdiv n))))
 | .rem=>.q (n≠0) (.val (.int k (m.tmod n)))
 | .and=>.q True (.val (.int k (k.wrap (p7 k.bits m &&& p7 k.bits n).toNat)))
 | .or=>.q True (.val (.int k (k.wrap (p7 k.bits m ||| p7 k.bits n).toNat)))
 | .xor=>.q True (.val (.int k (k.wrap (p7 k.bits m ^^^ p7 k.bits n).toNat)))
 | .eql=>.q True (.bool (decide (m=n)))
 | .neq=>.q True (.bool (decide (m≠n)))
 | .lss=>.q True (.bool (decide (m<n)))
 | .leq=>.q True (.bool (decide (m<=n)))
 | .gtr=>.q True (.bool (decide (m > n)))
 | .geq=>.q True (.bool (decide (m ≥ n)))
 | _=>.stuck
def Dl(op:BinOp)(k:IntKind)(m n:Int):dD :=
 match op with
 | .shl=>.q (0<=n) (.val (.int k (k.wrap (m*2^(min n.toNat k.bits)))))
 | .shr=>.q (0<=n) (.val (.int k (m.fdiv (2^(min n.toNat k.bits)))))
 | _=>.stuck
def re:BinOp->Bool
 | .shl | .shr=>true
 | _=>false
def uO(op:BinOp)(a b:ByteArray):dD :=
 match op with
 | .add=>.q (a.size+b.size<=9223372036854775807) (.val (.string (a++b)))
 | .eql=>.q True (.bool (decide (a=b)))
 | .neq=>.q True (.bool (decide (a≠b)))
 | _=>.stuck
def cv(op:BinOp)(ti:Option TI):Option SV->Option SV->dD
 | some (.val (.int k m)),some (.val (.int k' n))=>if re op then Dl op k m n else if k=k' then ir op k m n else .stuck
 | some (.val (.string a)),some (.val (.string b))=>uO op a b
 | some (.val (.bool a)),some (.val (.bool b)) =>
  match op,ti with
  | .eql,some ⟨.bool,_,_,_⟩=>.q True (.bool (a==b))
  | .neq,some ⟨.bool,_,_,_⟩=>.q True (.bool (!(a==b)))
  | _,_=>.stuck
 | some (.dc _ _),some (.val (.pointer none)) =>
  match op,ti with
  | .eql,some ⟨.ptr _,_,_,_⟩=>.q True (.bool false)
  | .neq,some ⟨.ptr _,_,_,_⟩=>.q True (.bool true)
  | _,_=>.stuck
 | some (.val (.pointer none)),some (.val (.pointer none)) =>
  match op,ti with
  | .eql,some ⟨.ptr _,_,_,_⟩=>.q True (.bool true)
  | .neq,some ⟨.ptr _,_,_,_⟩=>.q True (.bool false)
  | _,_=>.stuck
 | _,_=>.stuck
theorem bQ{β:ca}{H:Hp}{v:Value}(h:v.oneCell'=true):Den β H (.val v) v:=by simp[Den,h]
theorem JP{P:Program}{β:ca}{H:Hp}{op:BinOp}{t:TypeId}{k:IntKind}{m n:Int}{c:Prop}{r:SV}
  (h:ir op k m n=.q c r) (hc:c):∃z,(∀w,(binOp op t (.int k m) (.int k n)).run P w=.ok z w)∧Den β H r z:=by
 cases op<;>simp only[ir,dD.q.injEq,reduceCtorEq]at h<;>obtain⟨rfl,rfl⟩:=h<;>refine⟨_,λw=>?_,bQ rfl⟩<;>
  simp[binOp,Op.intArith,Op.intDiv,Op.intBits,Op.intCmp,BEq.beq,bne]
 all_goals (intro e;exact absurd e hc)
theorem ML{P:Program}{β:ca}{H:Hp}{op:BinOp}{t:TypeId}{k k':IntKind}{m n:Int}{c:Prop}{r:SV}
  (h:Dl op k m n=.q c r) (hc:c):∃z,(∀w,(binOp op t (.int k m) (.int k' n)).run P w=.ok z w)∧Den β H r z:=by
 cases op<;>simp only[Dl,dD.q.injEq,reduceCtorEq]at h<;>obtain⟨rfl,rfl⟩:=h<;>refine⟨_,λw=>?_,bQ rfl⟩<;>
  (simp only[binOp,Op.shift];rw[if_neg (by omega)];rfl)
theorem bytes_beq(a b:ByteArray):(a.toList==b.toList)=decide (a=b):=by
 rw[ByteArray.toList_eq,ByteArray.toList_eq,Bool.eq_iff_iff];simp only[beq_iff_eq,decide_eq_true_eq];constructor
 ·intro h;cases a;cases b;simp only[Array.toList_inj]at h;rw[h]
 ·rintro rfl;rfl
theorem J5{P:Program}{β:ca}{H:Hp}{op:BinOp}{t:TypeId}{a b:ByteArray}{c:Prop}{r:SV}
  (h:uO op a b=.q c r) (hc:c):∃z,(∀w,(binOp op t (.string a) (.string b)).run P w=.ok z w)∧Den β H r z:=by
 cases op<;>simp only[uO,dD.q.injEq,reduceCtorEq]at h<;>obtain⟨rfl,rfl⟩:=h<;>refine⟨_,λw=>?_,bQ rfl⟩<;>
  simp[binOp,Op.stringOp,bytes_beq]
 omega
theorem o5{P:Program}{w:World}{op:BinOp}{t:TypeId}{ox oy:Operand}{u v:Value}(h:u.oneCell'=true)(h':u≠.nilIface) :
  (eqGuard op t ox oy u v).run P w=.ok () w:=by
 unfold eqGuard;cases u<;>simp_all [pe]<;>(cases op<;>simp)
theorem qQ{P:Program}{t e:TypeId}{s b:Nat}{z:List SV}(h:an P t=some ⟨.ptr e,s,b,z⟩):P.underlying t=some (.pointer (P.pointee t)):=by obtain⟨i,d,z',ht⟩:=aF h;have hk:=ht.k;have hu:=ht.under;cases d<;>simp[tk]at hk;rw[hu];simp[Program.pointee,hu]
theorem Lu{P:Program}{β:ca}{H:Hp}{op:BinOp}{t:TypeId}{x y:Option SV}{ox oy:Operand}{u v:Value}{c:Prop}{r:SV}
  (h:cv op (an P t) x y=.q c r) (hc:c) (hx:∀s,x=some s->Den β H s u) (hy:∀s,y=some s->Den β H s v) :
  ∃z,(∀w,(do eqGuard op t ox oy u v;binOp op t u v:Sem Value).run P w=.ok z w)∧Den β H r z:=by
 unfold cv at h;split at h
 ·rename_i k m k' n;have hu:=hx _ rfl;have hv:=hy _ rfl;simp only[Den]at hu hv;obtain⟨rfl, -⟩:=hu;obtain⟨rfl, -⟩:=hv;simp only[av4,o5 (P:=P) (op:=op) (t:=t) (ox:=ox) (oy:=oy) (v:=.int k' n) (u:=.int k m) rfl (by simp),av5];split at h
  ·exact ML h hc
  ·split at h
   ·rename_i hk;subst hk;exact JP h hc
   ·cases h
 ·rename_i a b;have hu:=hx _ rfl;have hv:=hy _ rfl;simp only[Den]at hu hv;obtain⟨rfl, -⟩:=hu;obtain⟨rfl, -⟩:=hv;simp only[av4,o5 (P:=P) (op:=op) (t:=t) (ox:=ox) (oy:=oy) (v:=.string b) (u:=.string a) rfl (by simp),av5];exact J5 h hc
 ·rename_i a b;have hu:=hx _ rfl;have hv:=hy _ rfl;simp only[Den]at hu hv;obtain⟨rfl, -⟩:=hu;obtain⟨rfl, -⟩:=hv;simp only[av4,o5 (P:=P) (op:=op) (t:=t) (ox:=ox) (oy:=oy) (v:=.bool b) (u:=.bool a) rfl (by simp),av5];have hb:∀s b z,an P t=some ⟨.bool,s,b,z⟩->P.underlying t=some .bool:=λs b z aa=>by
   obtain⟨i,d,z',ht⟩:=aF aa;have hk:=ht.k;have hd:d=.bool:=by cases d<;>simp[tk]at hk;rfl
   rw[<-hd];exact ht.under
  split at h
  ·rename_i aa;simp only[dD.q.injEq]at h;obtain⟨-,rfl⟩:=h;exact⟨_,λw=>run_eql_bool w t a b (hb _ _ _ aa),bQ rfl⟩
  ·rename_i aa;simp only[dD.q.injEq]at h;obtain⟨-,rfl⟩:=h;exact⟨_,λw=>run_neq_bool w t a b (hb _ _ _ aa),bQ rfl⟩
  ·cases h
 ·have hu:=hx _ rfl;have hv:=hy _ rfl;simp only[Den]at hu hv;obtain⟨b,o,cs,v',rfl, -⟩:=hu;obtain⟨rfl, -⟩:=hv;simp only[av4,o5 (P:=P) (op:=op) (t:=t) (ox:=ox) (oy:=oy) (v:=.pointer none) (u:=.pointer (some ⟨b,_,none⟩)) rfl (by simp),av5];split at h
  ·rename_i aa;simp only[dD.q.injEq]at h;obtain⟨-,rfl⟩:=h;exact⟨_,λw=>run_eql_pointer_nil w t _ (qQ aa),bQ rfl⟩
  ·rename_i aa;simp only[dD.q.injEq]at h;obtain⟨-,rfl⟩:=h;exact⟨_,λw=>run_neq_pointer_nil w t _ (qQ aa),bQ rfl⟩
  ·cases h
 ·have hu:=hx _ rfl;have hv:=hy _ rfl;simp only[Den]at hu hv;obtain⟨rfl, -⟩:=hu;obtain⟨rfl, -⟩:=hv;simp only[av4,o5 (P:=P) (op:=op) (t:=t) (ox:=ox) (oy:=oy) (v:=.pointer none) (u:=.pointer none) rfl (by simp),av5];split at h
  ·rename_i aa;simp only[dD.q.injEq]at h;obtain⟨-,rfl⟩:=h;exact⟨_,λw=>run_eql_pointer_nil w t _ (qQ aa),bQ rfl⟩
  ·rename_i aa;simp only[dD.q.injEq]at h;obtain⟨-,rfl⟩:=h;exact⟨_,λw=>run_neq_pointer_nil w t _ (qQ aa),bQ rfl⟩
  ·cases h
 ·cases h
/-! ### Cells -/
theorem Addr.add_eq(b o n:Nat):(⟨b,o,none⟩:Addr).add n=⟨b,o+n,none⟩:=by
 unfold Addr.add;split
 ·rename_i h;simp[h]
 ·rfl
theorem cell_of{w:World}{b o:Nat}{cs:Array Value}{T:TypeId}{z:Nat × Nat}(h:w.heap[b]?=some (.cells cs T z)):w.cell? ⟨b,o,none⟩=cs[o]?:=by simp[World.cell?,h]
theorem run_loadCellsFrom{P:Program}{w:World}{b o:Nat}{cs:Array Value}{T:TypeId}{z:Nat × Nat}(h:w.heap[b]?=some (.cells cs T z)) :
  ∀(n i:Nat) (acc:Array Value) (l:List Value),l.length=n->(∀q,q<n->cs[o+i+q]?=l[q]?) ->
   (loadCellsFrom ⟨b,o,none⟩ i n acc).run P w=.ok (acc++l.toArray) w
 | 0,i,acc,l,hl,_=>by have:l=[]:=List.length_eq_zero_iff.1 hl;simp[loadCellsFrom,this]
 | n+1,i,acc,l,hl,hq=>by
  match l,hl with
  | v::l,hl =>
   have h0:cs[o+i]?=some v:=by simpa using hq 0 (by omega)
   have ih:=run_loadCellsFrom (P:=P) (o:=o) h n (i+1) (acc.push v) l (by simpa using hl) (λq af=>by have:=hq (q+1) (by omega);rw[show o+(i+1)+q=o+i+(q+1) from by omega,this];simp)
   simp only[loadCellsFrom,Addr.add_eq,av4,run_load,cell_of h,h0,av5,ih];simp
theorem run_loadCells{P:Program}{w:World}{b o:Nat}{cs:Array Value}{T:TypeId}{z:Nat × Nat}(h:w.heap[b]?=some (.cells cs T z))(l:List Value)
  (hq:∀q,q<l.length->cs[o+q]?=l[q]?):(loadCells ⟨b,o,none⟩ l.length).run P w=.ok l.toArray w:=by
 unfold loadCells;rw[run_loadCellsFrom h l.length 0 #[] l rfl (by simpa using hq)];simp
theorem jf{P:Program}{b:Nat}{T:TypeId}:∀(l:List Value) (w:World) (o i:Nat) (cs:Array Value),w.heap[b]?=some (.cells cs T (0,0))->o+i+l.length<=cs.size ->
  (∀v∈l,v.oneCell'=true)->∃w' ag,(storeCells ⟨b,o,none⟩ l i).run P w=.ok () w'∧Wr w b ag T w'∧ag.size=cs.size ∧
   ∀q,ag[q]?=if o+i<=q∧q<o+i+l.length then l[q - (o+i)]? else cs[q]?
 | [],w,o,i,cs,h,_,_=>⟨w,cs,by simp[storeCells],⟨rfl,rfl,rfl,rfl,h,λ_ _=>rfl⟩,rfl,λq=>by rw[if_neg (by simp)]⟩
 | v::l,w,o,i,cs,h,hs,hv=>by
  have aP:o+i<cs.size:=by simp only[asw]at hs;omega
  have hc:w.cell? ⟨b,o+i,none⟩=some cs[o+i]:=by rw[cell_of h];exact asC aP
  have ax:w.frozen? ⟨b,o+i,none⟩=false:=by simp[World.frozen?,h]
  have hh:(w.setCell ⟨b,o+i,none⟩ v).heap[b]?=some (.cells (cs.setIfInBounds (o+i) v) T (0,0)):=by simp only[World.setCell];rw[Array.getElem?_modify];simp[h]
  obtain⟨w',ag,h1,h2,h3,h4⟩:=jf (P:=P) (T:=T) l (w.setCell ⟨b,o+i,none⟩ v) o (i+1) _ hh (by simp at hs ⊢;omega) (λu hu=>hv u (by simp[hu]));refine⟨w',ag,?_,⟨h2.os,h2.tape,h2.output,by rw[h2.size];simp,h2.here,λb' hb=>?_⟩,by simpa using h3,λq=>?_⟩
  ·simp only[storeCells,Addr.add_eq,av4];rw[run_store P w _ v .plain (hv v (by simp))];simp only[hc,ax,Bool.false_eq_true,if_false,av5];exact h1
  ·rw[h2.there b' hb];exact Below.heap_setCell w ⟨b,o+i,none⟩ v b' hb
  ·rw[h4];simp only[asw];by_cases hq:q=o+i
   ·subst hq;rw[if_neg (by omega),if_pos (by omega)];simp[Array.getElem?_setIfInBounds_self_of_lt aP]
   ·rw[Array.getElem?_setIfInBounds_ne (Ne.symm hq)];by_cases af:o+(i+1)<=q∧q<o+(i+1)+l.length
    ·rw[if_pos af,if_pos (by omega),show q - (o+i)=(q - (o+(i+1)))+1 from by omega];simp
    ·rw[if_neg af,if_neg (by omega)]
theorem Den.sa{β:ca}{H:Hp}{x:SV}{v:Value}(h:Den β H x v)(hx:∀l,x≠.bP l):bE β H x.cells v.cells.toList:=by
 cases x
 case bP l=>exact absurd rfl (hx l)
 case agg l=>simp only[Den]at h;obtain⟨vs,rfl,h⟩:=h;simpa[SV.cells,px]using h
 case val u =>
  simp only[Den]at h;obtain⟨rfl,h2⟩:=h;rw[dU h2];simp[SV.cells,bE,SV.one,h2,Den]
 all_goals
  rw[dU (Den.one h rfl)];simp only[SV.cells,bE];exact⟨_,[],by simp,rfl,h,rfl⟩
theorem bE.drop{β:ca}{H:Hp}:∀{l:List SV} {vs:List Value} (n:Nat),bE β H l vs->bE β H (l.drop n) (vs.drop n)
 | [],vs,n,h=>by simp only[bE]at h;simp[h,bE]
 | x::l,vs,0,h=>by simpa using h
 | x::l,vs,n+1,h=>by simp only[bE]at h;obtain⟨v,r,rfl,_,_,h4⟩:=h;simpa using h4.drop n
theorem bE.take{β:ca}{H:Hp}:∀{l:List SV} {vs:List Value} (n:Nat),bE β H l vs->bE β H (l.take n) (vs.take n)
 | [],vs,n,h=>by simp only[bE]at h;simp[h,bE]
 | x::l,vs,0,h=>by simp[bE]
 | x::l,vs,n+1,h=>by simp only[bE]at h;obtain⟨v,r,rfl,h2,h3,h4⟩:=h;simp only[List.take_succ_cons,bE];exact⟨v,_,rfl,h2,h3,h4.take n⟩
theorem bE.append{β:ca}{H:Hp}:∀{l l':List SV} {vs ah:List Value},bE β H l vs->bE β H l' ah->bE β H (l++l') (vs++ah)
 | [],l',vs,ah,h,h'=>by simp only[bE]at h;simpa[h]using h'
 | x::l,l',vs,ah,h,h'=>by simp only[bE,List.cons_append]at h ⊢;obtain⟨v,r,rfl,h2,h3,h4⟩:=h;exact⟨v,r++ah,by simp,h2,h3,h4.append h'⟩
theorem bE.FJ{β:ca}{H:Hp}:∀{l:List SV} {vs:List Value},bE β H l vs->∀v∈vs,v.oneCell'=true
 | [],vs,h,v,hv=>by simp only[bE]at h;simp[h]at hv
 | x::l,vs,h,v,hv=>by
  simp only[bE]at h;obtain⟨u,r,rfl,h2,h3,h4⟩:=h;rcases List.mem_cons.1 hv with rfl | hv
  ·exact h3.one h2
  ·exact h4.FJ v hv
def SV.isAgg:SV->Bool
 | .agg _=>true
 | _=>false
def SV.aV:SV->Bool
 | .bP _=>true
 | _=>false
def nR(ti:TI)(x:SV)(j:Nat):SV :=
 if j=0∧x.gJ=ti.size∧x.isAgg=ti.k.isAgg then x else if ti.k.isAgg=true then .agg ((x.cells.drop j).take ti.size) else aL x.cells j
theorem uA{P:Program}{β:ca}{H:Hp}{t:TypeId}{ti:TI}(ht:an P t=some ti){b o j:Nat}{cs:Array Value}{x:SV}{v:Value}(hx:Den β H x v)(ay:x.aV=false)(hq:∀q,q<v.cells.size->cs[o+q]?=v.cells[q]?)(hj:j+ti.size<=x.gJ) :
  ∃u,(∀w T z,w.heap[b]?=some (.cells cs T z)->(loadVar t ⟨b,o+j,none⟩).run P w=.ok u w)∧Den β H (nR ti x j) u:=by
 obtain⟨i,d,zv,ai⟩:=aF ht;have ac:∀l,x≠.bP l:=λl e=>by subst e;simp[SV.aV]at ay
 have uh:v.cells.size=x.gJ:=(hx.pO).resolve_left λ⟨l,e⟩=>ac l e;have al:=hx.sa ac;unfold loadVar;simp only[av4,ai.FE,av5];by_cases ha:ti.k.isAgg=true
 ·simp only[ha,if_true,av4,ai.ff,av5];have hlen:((v.cells.toList.drop j).take ti.size).length=ti.size:=by simp;omega
  have ap:=λ(w:World) T z (h:w.heap[b]?=some (.cells cs T z))=>run_loadCells (P:=P) (o:=o+j) h ((v.cells.toList.drop j).take ti.size) (λq af=>by rw[hlen]at af;rw[List.getElem?_take_of_lt af,List.getElem?_drop,Nat.add_assoc,hq (j+q) (by omega)];simp)
  simp only[hlen]at ap;refine⟨.agg ((v.cells.toList.drop j).take ti.size).toArray,λw T z h=>by simp[ap w T z h],?_⟩;unfold nR;split
  ·rename_i hc;obtain⟨rfl,aq,aj⟩:=hc;rw[ha]at aj;cases x<;>simp[SV.isAgg]at aj;simp only[Den]at hx;obtain⟨vs,rfl,ae⟩:=hx;simp only[Den];refine⟨vs,?_,ae⟩;have:=ae.length;simp only[SV.gJ]at aq;simp only[px,List.drop_zero];rw[List.take_of_length_le (by omega)]
  ·simp only[Den];exact⟨_,rfl,(al.drop j).take ti.size⟩
 ·have am:ti.k.isAgg=false:=by simpa using ha
  have h1:ti.size=1:=by rw[ai.size];refine ai.one.resolve_left ?_;rw[<-tJ P,<-ai.k];exact ha
  have aP:j<v.cells.size:=by omega
  have hc:∀(w:World) T z,w.heap[b]?=some (.cells cs T z)->w.cell? ⟨b,o+j,none⟩=some v.cells[j]:=λw T z h=>by rw[cell_of h,hq j aP];exact asC aP
  refine⟨v.cells[j],λw T z h=>by simp only[am,Bool.false_eq_true,if_false,run_load,hc w T z h],?_⟩;obtain⟨u,ar,aE,ao⟩:=al.get (i:=j) (by rw[<-al.length];simpa using aP);have hu:v.cells[j]=u:=by
   have:v.cells.toList[j]?=some v.cells[j]:=by rw[asD];exact asC aP
   rw[this]at ar;simpa using ar
  rw[hu];unfold nR;split
  ·rename_i hc;obtain⟨rfl,aq,aj⟩:=hc;rw[am]at aj;cases x
   case agg l=>simp[SV.isAgg]at aj
   case bP l=>exact absurd rfl (ac l)
   all_goals exact ao
  ·first
    | exact ao
    | (rw[if_neg (by simp[am])];exact ao)
end Go.Sv
namespace Go.Sv
open Go
def FO(P:Program):List Field->Nat->Option (List TK)
 | [],_=>some []
 | f :: fs, k => if f.name ≠ "_" ∧ f.offset = k then
   match P.underlying f.type,FO P fs (k+1)with
   | some .string,some r=>some (.str::r)
   | some .bool,some r=>some (.bool::r)
   | some (.int κ),some r=>some (.int κ::r)
   | _,_=>none
  else none
def IN(P:Program)(t:TypeId):Option (List TK) :=
 match P.underlying t with
 | some (.struct fs)=>if P.stoodInHeld t=false∧P.eqGuardType P.depth t=false∧fs.size<=100 then FO P fs.toList 0 else none
 | _=>none
def eqV:TK->SV->SV->Option Bool
 | .str,.val (.string a),.val (.string b)=>some (decide (a=b))
 | .bool,.val (.bool a),.val (.bool b)=>some (a==b)
 | .int κ,.val (.int κ' a),.val (.int κ'' b)=>if κ'=κ∧κ''=κ then some (decide (a=b)) else none
 | _,_,_=>none
def yB:List TK->List SV->List SV->Option Bool
 | [],[],[]=>some true
 | k::ks,x::a,y::b=>match eqV k x y,yB ks a b with
  | some e,some r=>some (e&&r)
  | _,_=>none
 | _,_,_=>none
def Cq(op:BinOp)(ks:Option (List TK))(a b:List SV):dD :=
 match op,ks with
 | .eql,some ks=>match yB ks a b with
  | some e=>.q True (.val (.bool e))
  | none=>.stuck
 | .neq,some ks=>match yB ks a b with
  | some e=>.q True (.val (.bool (!e)))
  | none=>.stuck
 | _,_=>.stuck
section
variable {P:Program} {β:ca} {H:Hp}
theorem Sc{k:TK}{x y:SV}{e:Bool}{f:TypeId}{d:Nat}{u v:Value}(h:eqV k x y=some e)(hx:Den β H x u)(hy:Den β H y v)
  (hf:(k=.str∧P.underlying f=some .string)∨(k=.bool∧P.underlying f=some .bool)∨(∃κ,k=.int κ∧P.underlying f=some (.int κ))) :
  ∀w,(Op.equalIn (d+1) f u v).run P w=.ok e w:=by
 intro w;unfold eqV at h;split at h
 ·rename_i a b;simp only[Den]at hx hy;obtain⟨rfl, -⟩:=hx;obtain⟨rfl, -⟩:=hy;simp only[ass]at h;subst h;rcases hf with⟨-,hu⟩ | ⟨hk, -⟩ | ⟨κ,hk, -⟩
  ·rw[run_equalIn_string w d f a b hu,bytes_beq]
  ·cases hk
  ·cases hk
 ·rename_i a b;simp only[Den]at hx hy;obtain⟨rfl, -⟩:=hx;obtain⟨rfl, -⟩:=hy;simp only[ass]at h;subst h;rcases hf with⟨hk, -⟩ | ⟨-,hu⟩ | ⟨κ,hk, -⟩
  ·cases hk
  ·exact run_equalIn_bool' w d f a b hu
  ·cases hk
 ·rename_i κ κ' a κ'' b;simp only[Den]at hx hy;obtain⟨rfl, -⟩:=hx;obtain⟨rfl, -⟩:=hy;split at h
  ·rename_i hk;obtain⟨rfl,rfl⟩:=hk;simp only[ass]at h;subst h;rcases hf with⟨hk, -⟩ | ⟨hk, -⟩ | ⟨κ,hk,hu⟩
   ·cases hk
   ·cases hk
   ·rw[run_equalIn_int w d f κ'' κ a b hu];rfl
  ·cases h
 ·cases h
theorem Jk{f:Field}{fs:List Field}{k:Nat}{ks:List TK}(h:FO P (f::fs) k=some ks) :
  f.name ≠ "_" ∧ f.offset = k ∧ ∃ q r, ks = q :: r ∧ FO P fs (k + 1) = some r ∧ P.plainKey f.type = true ∧
   ((q=.str∧P.underlying f.type=some .string)∨(q=.bool∧P.underlying f.type=some .bool)∨(∃κ,q=.int κ∧P.underlying f.type=some (.int κ))):=by
 unfold FO at h;split at h
 ·rename_i hc;refine⟨hc.1,hc.2,?_⟩;split at h
  ·rename_i r hu hr;simp only[ass]at h;exact⟨_,r,h.symm,hr,by simp[Program.plainKey,hu],.inl ⟨rfl,hu⟩⟩
  ·rename_i r hu hr;simp only[ass]at h;exact⟨_,r,h.symm,hr,by simp[Program.plainKey,hu],.inr (.inl ⟨rfl,hu⟩)⟩
  ·rename_i κ r hu hr;simp only[ass]at h;exact⟨_,r,h.symm,hr,by simp[Program.plainKey,hu],.inr (.inr ⟨κ,rfl,hu⟩)⟩
  ·cases h
 ·cases h
theorem EZ{d:Nat}{xs ys:Array Value}:∀{fs:List Field} {k:Nat} {ks:List TK} {a b:List SV} {e:Bool},FO P fs k=some ks->yB ks a b=some e->bE β H a (xs.toList.drop k)->bE β H b (ys.toList.drop k) ->
  ∀w,(Op.eqFields (d+1) xs ys fs).run P w=.ok e w
 | [],k,ks,a,b,e,hf,ha,hx,hy,w=>by
  simp only[FO,ass]at hf;subst hf;unfold yB at ha;split at ha
  ·simp only[ass]at ha;subst ha;simp[Op.eqFields]
  ·contradiction
  ·cases ha
 | f::fs,k,ks,a,b,e,hf,ha,hx,hy,w=>by
  obtain⟨hn,ho,q,r,rfl,hr,hp,hq⟩:=Jk hf;unfold yB at ha;split at ha
  ·contradiction
  ·rename_i q' r' x a' y b' h1;simp only[asE]at h1;obtain⟨rfl,rfl⟩:=h1;split at ha
   ·rename_i e1 e2 g1 g2;simp only[ass]at ha;simp only[bE]at hx hy;obtain⟨u,us,hu, -,az,au⟩:=hx;obtain⟨v,vs,hv, -,aA,av⟩:=hy;have dx:xs[k]?=some u∧us=xs.toList.drop (k+1):=by
     have aP:k<xs.toList.length:=by
      rcases Nat.lt_or_ge k xs.toList.length with h | h
      ·exact h
      ·rw[asz h]at hu;cases hu
     rw[asA aP]at hu;simp only[asE]at hu;refine⟨?_,hu.2.symm⟩;rw[<-asD,asB aP,hu.1]
    have dy:ys[k]?=some v∧vs=ys.toList.drop (k+1):=by
     have aP:k<ys.toList.length:=by
      rcases Nat.lt_or_ge k ys.toList.length with h | h
      ·exact h
      ·rw[asz h]at hv;cases hv
     rw[asA aP]at hv;simp only[asE]at hv;refine⟨?_,hv.2.symm⟩;rw[<-asD,asB aP,hv.1]
    rw[dx.2]at au;rw[dy.2]at av;unfold Op.eqFields;rw[if_pos hn,ho];simp only[av4,run_part_plain w hp dx.1,run_part_plain w hp dy.1,av5,Sc (P:=P) (d:=d) g1 az aA hq w];have ih:=EZ (d:=d) hr g2 au av w;subst ha;cases e1 with
    | false=>simp
    | true=>simpa using ih
   ·cases ha
  ·cases ha
theorem F8{op:BinOp}{t:TypeId}{a b:List SV}{ox oy:Operand}{u v:Value}{c:Prop}{r:SV}(h:Cq op (IN P t) a b=.q c r)(hx:Den β H (.agg a) u)(hy:Den β H (.agg b) v) :
  ∃z,(∀w,(do eqGuard op t ox oy u v;binOp op t u v:Sem Value).run P w=.ok z w)∧Den β H r z:=by
 simp only[Den]at hx hy;obtain⟨us,rfl,aB⟩:=hx;obtain⟨vs,rfl,ae⟩:=hy;have key:∀ks e,IN P t=some ks->yB ks a b=some e->P.eqGuardType P.depth t=false∧∀w,(Op.equalIn 10000 t (.agg us.toArray) (.agg vs.toArray)).run P w=.ok e w:=λks e h1 h2=>by
  unfold IN at h1;split at h1
  ·rename_i fs hu;split at h1
   ·rename_i hc;have hF:P.fieldsOf t=fs:=by simp[Program.fieldsOf,hu]
    refine⟨hc.2.1,λw=>?_⟩;rw[run_equalIn_struct w 9999 t us.toArray vs.toArray (by rw[hF];exact hu) hc.1,hF];exact EZ (d:=9998) h1 h2 (by simpa using aB) (by simpa using ae) w
   ·cases h1
  ·cases h1
 unfold Cq at h;split at h
 ·rename_i ks hk;split at h
  ·rename_i e he;simp only[dD.q.injEq]at h;obtain⟨-,rfl⟩:=h;obtain⟨k1,k2⟩:=key ks e hk he;refine⟨.bool e,λw=>?_,by simp[Den,pe]⟩;simp only[av4,run_eqGuard_agg w .eql t ox oy us.toArray vs.toArray k1,av5,run_eql_struct,k2]
  ·cases h
 ·rename_i ks hk;split at h
  ·rename_i e he;simp only[dD.q.injEq]at h;obtain⟨-,rfl⟩:=h;obtain⟨k1,k2⟩:=key ks e hk he;refine⟨.bool (!e),λw=>?_,by simp[Den,pe]⟩;simp only[av4,run_eqGuard_agg w .neq t ox oy us.toArray vs.toArray k1,av5,run_neq_struct,k2]
  ·cases h
 ·cases h
end
end Go.Sv


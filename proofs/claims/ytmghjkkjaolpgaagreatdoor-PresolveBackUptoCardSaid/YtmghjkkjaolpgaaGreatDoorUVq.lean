/- A text of the prover's own. -/
import Derived.Laws.Pointers
import Derived.Test.YtmghjkkjaolpgaaGreatDoorUVm
import Derived.Laws.Small
import Derived.Laws.Strings
import Derived.ChangeKeysEq
open List renaming length_cons→al4,drop_of_length_le→al6,drop_eq_getElem_cons→al7,getElem?_eq_getElem→al8
open Option.some renaming injEq→al0
open Array renaming getElem?_eq_getElem→al9,getElem?_toList→ama
open List.cons renaming injEq→amb
namespace Go.Sv
open Go Go.RowKit
inductive TK where
 | int (k:IntKind)
 | bool
 | str
 | sl (e:TypeId)
 | st (fs:List (Nat × Nat × TypeId))
 | arr (n:Nat) (e:TypeId)
 | ptr (e:TypeId)
 | iface
 | mp (k e:TypeId)
 | other
structure TI where
 k:TK
 size:Nat
 bytes:Nat
 zero:List SV
def TK.isAgg:TK→Bool
 | .st _ | .arr _ _=>true
 | _=>false
def FA:TypeDesc→Bool
 | .struct _ | .array _ _=>true
 | _=>false
def GV(P:Program)(t:TypeId):Nat:=((P.info? t).map (·.size)).getD 0
def tk(P:Program):TypeDesc→TK
 | .int k=>.int k
 | .bool=>.bool
 | .string=>.str
 | .slice e=>.sl e
 | .struct fs=>.st (fs.toList.map fun f=>(f.offset,GV P f.type,f.type))
 | .array n e=>.arr n e
 | .pointer e=>.ptr e
 | .interface _=>.iface
 | .map k e=>.mp k e
 | _=>.other
def BE(v:Value):SV:=.val v
def zC:Value→Bool
 | .agg _=>true
 | _=>false
def az(P:Program)(t:TypeId):Option TI :=
 match P.info? t,P.underlying t with
 | some i,some d =>
  match i.zero with
  | some z=>if z.cells.toList.all Value.oneCell'&&z.cells.size==i.size&&(FA d||i.size==1)&&zC z==FA d then some ⟨tk P d,i.size,i.bytes,z.cells.toList.map BE⟩ else none
  | none=>none
 | _,_=>none
theorem ri(P:Program)(d:TypeDesc):(tk P d).isAgg=FA d:=by cases d<;>rfl
theorem vv{β:bO}{H:Hp}{v:Value}(h:v.oneCell'=true):Den β H (BE v) v∧(BE v).one=true:=by
 exact⟨by simp[BE,Den,h],by simp[BE,SV.one,h]⟩
structure rV(P:Program)(t:TypeId)(ti:TI)(i:TypeInfo)(d:TypeDesc)(z:Value):Prop where
 info:P.info? t=some i
 under:P.underlying t=some d
 hz:i.zero=some z
 cells:∀v∈z.cells.toList,v.oneCell'=true
 Ms:z.cells.size=i.size
 one:FA d=true∨i.size=1
 k:ti.k=tk P d
 size:ti.size=i.size
 bytes:ti.bytes=i.bytes
 zero:ti.zero=z.cells.toList.map BE
 shape:zC z=FA d
theorem ay{P:Program}{t:TypeId}{ti:TI}(h:az P t=some ti):∃i d z,rV P t ti i d z:=by
 unfold az at h;split at h
 ·rename_i i d hi hd;split at h
  ·rename_i z hz;split at h
   ·rename_i hc;simp only[Bool.and_eq_true,Bool.or_eq_true,beq_iff_eq,List.all_eq_true]at hc;simp only[al0]at h;subst h;exact⟨i,d,z,hi,hd,hz,hc.1.1.1,hc.1.1.2,hc.1.2,rfl,rfl,rfl,rfl,hc.2⟩
   ·cases h
  ·cases h
 ·cases h
section runs
variable {P:Program} {t:TypeId} {ti:TI} {i:TypeInfo} {d:TypeDesc} {z:Value} {w:World}
theorem rV.uJ(h:rV P t ti i d z):(typeInfo t).run P w=.ok i w:=by simp[typeInfo,h.info]
theorem rV.aK(h:rV P t ti i d z):(underlying t).run P w=.ok d w:=by simp[underlying,h.under]
theorem rV.jY(h:rV P t ti i d z):(zeroValue t).run P w=.ok z w:=by simp[zeroValue,h.uJ,h.hz]
theorem rV.eK(h:rV P t ti i d z):(sizeOf t).run P w=.ok ti.size w:=by simp[sizeOf,h.uJ,h.size]
theorem rV.Cw(h:rV P t ti i d z):(isAgg t).run P w=.ok ti.k.isAgg w:=by
 rw[h.k,ri];cases d<;>simp[isAgg,h.aK,FA]
end runs
def TI.cK(ti:TI):SV:=if ti.k.isAgg then .agg ti.zero else aA ti.zero 0
theorem wC{β:bO}{H:Hp}:∀(l:List Value),(∀v∈l,v.oneCell'=true)→bh β H (l.map BE) l
 | [],_=>by simp[bh]
 | v::l,h=>by
  simp only[List.map_cons,bh];have:=vv (β:=β) (H:=H) (h v (by simp));exact⟨v,l,rfl,this.2,this.1,wC l fun u hu=>h u (by simp[hu])⟩
theorem oX{P:Program}{t:TypeId}{ti:TI}{i:TypeInfo}{d:TypeDesc}{z:Value}(h:rV P t ti i d z)(β:bO)(H:Hp) :
  ∃v,Den β H ti.cK v∧v.cells=z.cells∧z.cells.size=ti.size:=by
 have hs:z.cells.size=ti.size:=by rw[h.size,h.Ms]
 unfold TI.cK;by_cases ha:ti.k.isAgg=true
 ·rw[if_pos ha];refine⟨.agg z.cells,?_,rfl,hs⟩;simp only[Den];exact⟨z.cells.toList,by simp,by rw[h.zero];exact wC _ h.cells⟩
 ·rw[if_neg ha];have h1:i.size=1:=h.one.resolve_left (by rw[←ri P,←h.k];exact ha);have h2:z.cells.toList.length=1:=by simp[h.Ms,h1]
  obtain⟨v,hv⟩:∃v,z.cells.toList=[v]:=List.length_eq_one_iff.1 h2;have hv1:=h.cells v (by simp[hv]);refine⟨v,?_,?_,hs⟩
  ·rw[h.zero,hv];exact(vv hv1).1
  ·rw[dU hv1];apply Array.ext';simp[hv]
theorem Cx{P:Program}{t:TypeId}{ti:TI}{i:TypeInfo}{d:TypeDesc}{z:Value}(h:rV P t ti i d z)(β:bO)(H:Hp):Den β H ti.cK z:=by
 obtain⟨v,hv1,hv2,hv3⟩:=oX h β H;have hz:=h.shape;rw[←ri P,←h.k]at hz;unfold TI.cK at hv1 ⊢;by_cases ha:ti.k.isAgg=true
 ·rw[if_pos ha]at hv1 ⊢;rw[ha]at hz;simp only[Den]at hv1;obtain⟨vs,rfl,hvs⟩:=hv1;cases z<;>simp[zC]at hz;rename_i cs;simp only[Value.cells]at hv2;subst hv2;simp only[Den];exact⟨vs,rfl,hvs⟩
 ·rw[if_neg ha]at hv1 ⊢;have hc:z.cells=#[z]:=by
   have:ti.k.isAgg=false:=by simpa using ha
   rw[this]at hz;cases z<;>simp_all [zC,Value.cells]
  rw[hc]at hv2;have hone:(aA ti.zero 0).one=true:=by
   rw[h.zero,hc];have hz1:=h.cells z (by rw[hc];simp);simp[aA,BE,SV.one,hz1]
  rw[dU (Den.one hv1 hone)]at hv2;simp only[Array.mk.injEq,amb,and_true]at hv2;rw[←hv2];exact hv1
/-! ### Operands -/
def yQ(v:Value):Option SV:=if v.oneCell'=true then some (.val v) else none
def ev(fr:List (Nat × SV)):Operand→Option SV
 | .tmp t=>get fr t
 | .const v=>yQ v
 | .global g=>match gl g with
  | some x=>some (.bU x 0)
  | none=>some (.val (.pointer (some ⟨g,0,none⟩)))
 | .func f=>some (.val (.func (.func f) #[] #[]))
theorem yM{β:bO}{H:Hp}{n:Nat}{fr:List (Nat × SV)}{a:Act}{o:Operand}{x:SV}(hF:gI β H n fr a)(h:ev fr o=some x):Den β H x (a.eval o):=by
 cases o with
 | tmp t =>
  obtain⟨v,hv,hd⟩:=hF.2.2 t x h;simp only[Act.eval,Array.getD_eq_getD_getElem?,hv];exact hd
 | const v =>
  simp only[ev,yQ]at h;split at h
  ·rename_i hv;simp only[al0]at h;subst h;exact(vv hv).1
  ·cases h
 | global g =>
  simp only[ev]at h;split at h
  ·rename_i y hy;simp only[al0]at h;subst h;obtain⟨v,h1,h2⟩:=hF.1.2.at_ g y hy;simp only[Den,Act.eval];exact⟨g,0,_,v,rfl,h2,h1,fun i _=>by simp⟩
  ·simp only[al0]at h;subst h;simp[Den,Act.eval,Value.oneCell']
 | func f=>simp only[ev,al0]at h;subst h;simp[Den,Act.eval,Value.oneCell']
/-! ### Results of an operation -/
inductive dF where
 | stuck
 | q (c:Prop) (x:SV)
 | m (c:Prop) (M:aJ) (x:Option SV)
abbrev SV.i64(n:Int):SV:=.val (.int .i64 n)
abbrev SV.bool(b:Bool):SV:=.val (.bool b)
def gG(op:BinOp)(k:IntKind)(m n:Int):dF :=
 match op with
 | .add=>.q True (.val (.int k (k.wrap (m+n))))
 | .sub=>.q True (.val (.int k (k.wrap (m - n))))
 | .mul=>.q True (.val (.int k (k.wrap (m*n))))
 | .quo=>.q (n≠0) (.val (.int k (k.wrap (m.tdiv n))))
 | .rem=>.q (n≠0) (.val (.int k (m.tmod n)))
 | .and=>.q True (.val (.int k (k.wrap (BitVec.ofInt k.bits m &&& BitVec.ofInt k.bits n).toNat)))
 | .or=>.q True (.val (.int k (k.wrap (BitVec.ofInt k.bits m ||| BitVec.ofInt k.bits n).toNat)))
 | .xor=>.q True (.val (.int k (k.wrap (BitVec.ofInt k.bits m ^^^ BitVec.ofInt k.bits n).toNat)))
 | .eql=>.q True (.bool (decide (m=n)))
 | .neq=>.q True (.bool (decide (m≠n)))
 | .lss=>.q True (.bool (decide (m<n)))
 | .leq=>.q True (.bool (decide (m≤n)))
 | .gtr=>.q True (.bool (decide (m > n)))
 | .geq=>.q True (.bool (decide (m ≥ n)))
 | _=>.stuck
def Cf(op:BinOp)(k:IntKind)(m n:Int):dF :=
 match op with
 | .shl=>.q (0≤n) (.val (.int k (k.wrap (m*2^(min n.toNat k.bits)))))
 | .shr=>.q (0≤n) (.val (.int k (m.fdiv (2^(min n.toNat k.bits)))))
 | _=>.stuck
def o5:BinOp→Bool
 | .shl | .shr=>true
 | _=>false
def sE(op:BinOp)(a b:ByteArray):dF :=
 match op with
 | .add=>.q (a.size+b.size≤9223372036854775807) (.val (.string (a++b)))
 | .eql=>.q True (.bool (decide (a=b)))
 | .neq=>.q True (.bool (decide (a≠b)))
 | _=>.stuck
def bZ(op:BinOp)(ti:Option TI):Option SV→Option SV→dF
 | some (.val (.int k m)),some (.val (.int k' n))=>if o5 op then Cf op k m n else if k=k' then gG op k m n else .stuck
 | some (.val (.string a)),some (.val (.string b))=>sE op a b
 | some (.val (.bool a)),some (.val (.bool b)) =>
  match op,ti with
  | .eql,some ⟨.bool,_,_,_⟩=>.q True (.bool (a==b))
  | .neq,some ⟨.bool,_,_,_⟩=>.q True (.bool (!(a==b)))
  | _,_=>.stuck
 | some (.bU _ _),some (.val (.pointer none)) =>
  match op,ti with
  | .eql,some ⟨.ptr _,_,_,_⟩=>.q True (.bool false)
  | .neq,some ⟨.ptr _,_,_,_⟩=>.q True (.bool true)
  | _,_=>.stuck
 | some (.val (.pointer none)),some (.val (.pointer none)) =>
  match op,ti with
  | .eql,some ⟨.ptr _,_,_,_⟩=>.q True (.bool true)
  | .neq,some ⟨.ptr _,_,_,_⟩=>.q True (.bool false)
  | _,_=>.stuck
 | _,_=>.stuck
theorem bJ{β:bO}{H:Hp}{v:Value}(h:v.oneCell'=true):Den β H (.val v) v:=by simp[Den,h]
theorem FL{P:Program}{β:bO}{H:Hp}{op:BinOp}{t:TypeId}{k:IntKind}{m n:Int}{c:Prop}{r:SV}
  (h:gG op k m n=.q c r) (hc:c):∃z,(∀w,(binOp op t (.int k m) (.int k n)).run P w=.ok z w)∧Den β H r z:=by
 cases op<;>simp only[gG,dF.q.injEq,reduceCtorEq]at h<;>obtain⟨rfl,rfl⟩:=h<;>refine⟨_,fun w=>?_,bJ rfl⟩<;>
  simp[binOp,Op.intArith,Op.intDiv,Op.intBits,Op.intCmp,BEq.beq,bne]
 all_goals (intro e;exact absurd e hc)
theorem HR{P:Program}{β:bO}{H:Hp}{op:BinOp}{t:TypeId}{k k':IntKind}{m n:Int}{c:Prop}{r:SV}
  (h:Cf op k m n=.q c r) (hc:c):∃z,(∀w,(binOp op t (.int k m) (.int k' n)).run P w=.ok z w)∧Den β H r z:=by
 cases op<;>simp only[Cf,dF.q.injEq,reduceCtorEq]at h<;>obtain⟨rfl,rfl⟩:=h<;>refine⟨_,fun w=>?_,bJ rfl⟩<;>
  (simp only[binOp,Op.shift];rw[if_neg (by omega)];rfl)
theorem bytes_beq(a b:ByteArray):(a.toList==b.toList)=decide (a=b):=by
 rw[ByteArray.toList_eq,ByteArray.toList_eq,Bool.eq_iff_iff];simp only[beq_iff_eq,decide_eq_true_eq];constructor
 ·intro h;cases a;cases b;simp only[Array.toList_inj]at h;rw[h]
 ·rintro rfl;rfl
theorem FC{P:Program}{β:bO}{H:Hp}{op:BinOp}{t:TypeId}{a b:ByteArray}{c:Prop}{r:SV}
  (h:sE op a b=.q c r) (hc:c):∃z,(∀w,(binOp op t (.string a) (.string b)).run P w=.ok z w)∧Den β H r z:=by
 cases op<;>simp only[sE,dF.q.injEq,reduceCtorEq]at h<;>obtain⟨rfl,rfl⟩:=h<;>refine⟨_,fun w=>?_,bJ rfl⟩<;>
  simp[binOp,Op.stringOp,bytes_beq]
 omega
theorem nK{P:Program}{w:World}{op:BinOp}{t:TypeId}{ox oy:Operand}{u v:Value}(h:u.oneCell'=true)(h':u≠.nilIface) :
  (eqGuard op t ox oy u v).run P w=.ok () w:=by
 unfold eqGuard;cases u<;>simp_all [Value.oneCell']<;>(cases op<;>simp)
theorem oY{P:Program}{t e:TypeId}{s b:Nat}{z:List SV}(h:az P t=some ⟨.ptr e,s,b,z⟩):P.underlying t=some (.pointer (P.pointee t)):=by
 obtain⟨i,d,z',ht⟩:=ay h;have hk:=ht.k;have hu:=ht.under;cases d<;>simp[tk]at hk;rw[hu];simp[Program.pointee,hu]
theorem HH{P:Program}{β:bO}{H:Hp}{op:BinOp}{t:TypeId}{x y:Option SV}{ox oy:Operand}{u v:Value}{c:Prop}{r:SV}
  (h:bZ op (az P t) x y=.q c r) (hc:c) (hx:∀s,x=some s→Den β H s u) (hy:∀s,y=some s→Den β H s v) :
  ∃z,(∀w,(do eqGuard op t ox oy u v;binOp op t u v:Sem Value).run P w=.ok z w)∧Den β H r z:=by
 unfold bZ at h;split at h
 ·rename_i k m k' n;have hu:=hx _ rfl;have hv:=hy _ rfl;simp only[Den]at hu hv;obtain⟨rfl, -⟩:=hu;obtain⟨rfl, -⟩:=hv;simp only[Sem.run_bind,nK (P:=P) (op:=op) (t:=t) (ox:=ox) (oy:=oy) (v:=.int k' n) (u:=.int k m) rfl (by simp),Result.andThen_ok];split at h
  ·exact HR h hc
  ·split at h
   ·rename_i hk;subst hk;exact FL h hc
   ·cases h
 ·rename_i a b;have hu:=hx _ rfl;have hv:=hy _ rfl;simp only[Den]at hu hv;obtain⟨rfl, -⟩:=hu;obtain⟨rfl, -⟩:=hv;simp only[Sem.run_bind,nK (P:=P) (op:=op) (t:=t) (ox:=ox) (oy:=oy) (v:=.string b) (u:=.string a) rfl (by simp),Result.andThen_ok];exact FC h hc
 ·rename_i a b;have hu:=hx _ rfl;have hv:=hy _ rfl;simp only[Den]at hu hv;obtain⟨rfl, -⟩:=hu;obtain⟨rfl, -⟩:=hv;simp only[Sem.run_bind,nK (P:=P) (op:=op) (t:=t) (ox:=ox) (oy:=oy) (v:=.bool b) (u:=.bool a) rfl (by simp),Result.andThen_ok];have hb:∀s b z,az P t=some ⟨.bool,s,b,z⟩→P.underlying t=some .bool:=fun s b z hti=>by
   obtain⟨i,d,z',ht⟩:=ay hti;have hk:=ht.k;have hd:d=.bool:=by cases d<;>simp[tk]at hk;rfl
   rw[←hd];exact ht.under
  split at h
  ·rename_i hti;simp only[dF.q.injEq]at h;obtain⟨-,rfl⟩:=h;exact⟨_,fun w=>run_eql_bool w t a b (hb _ _ _ hti),bJ rfl⟩
  ·rename_i hti;simp only[dF.q.injEq]at h;obtain⟨-,rfl⟩:=h;exact⟨_,fun w=>run_neq_bool w t a b (hb _ _ _ hti),bJ rfl⟩
  ·cases h
 ·have hu:=hx _ rfl;have hv:=hy _ rfl;simp only[Den]at hu hv;obtain⟨b,o,cs,v',rfl, -⟩:=hu;obtain⟨rfl, -⟩:=hv;simp only[Sem.run_bind,nK (P:=P) (op:=op) (t:=t) (ox:=ox) (oy:=oy) (v:=.pointer none) (u:=.pointer (some ⟨b,_,none⟩)) rfl (by simp),Result.andThen_ok];split at h
  ·rename_i hti;simp only[dF.q.injEq]at h;obtain⟨-,rfl⟩:=h;exact⟨_,fun w=>run_eql_pointer_nil w t _ (oY hti),bJ rfl⟩
  ·rename_i hti;simp only[dF.q.injEq]at h;obtain⟨-,rfl⟩:=h;exact⟨_,fun w=>run_neq_pointer_nil w t _ (oY hti),bJ rfl⟩
  ·cases h
 ·have hu:=hx _ rfl;have hv:=hy _ rfl;simp only[Den]at hu hv;obtain⟨rfl, -⟩:=hu;obtain⟨rfl, -⟩:=hv;simp only[Sem.run_bind,nK (P:=P) (op:=op) (t:=t) (ox:=ox) (oy:=oy) (v:=.pointer none) (u:=.pointer none) rfl (by simp),Result.andThen_ok];split at h
  ·rename_i hti;simp only[dF.q.injEq]at h;obtain⟨-,rfl⟩:=h;exact⟨_,fun w=>run_eql_pointer_nil w t _ (oY hti),bJ rfl⟩
  ·rename_i hti;simp only[dF.q.injEq]at h;obtain⟨-,rfl⟩:=h;exact⟨_,fun w=>run_neq_pointer_nil w t _ (oY hti),bJ rfl⟩
  ·cases h
 ·cases h
/-! ### Cells -/
theorem Addr.add_eq(b o n:Nat):(⟨b,o,none⟩:Addr).add n=⟨b,o+n,none⟩:=by
 unfold Addr.add;split
 ·rename_i h;simp[h]
 ·rfl
theorem cell_of{w:World}{b o:Nat}{cs:Array Value}{T:TypeId}{z:Nat × Nat}(h:w.heap[b]?=some (.cells cs T z)):w.cell? ⟨b,o,none⟩=cs[o]?:=by
 simp[World.cell?,h]
theorem run_loadCellsFrom{P:Program}{w:World}{b o:Nat}{cs:Array Value}{T:TypeId}{z:Nat × Nat}(h:w.heap[b]?=some (.cells cs T z)) :
  ∀(n i:Nat) (acc:Array Value) (l:List Value),l.length=n→(∀q,q<n→cs[o+i+q]?=l[q]?) →
   (loadCellsFrom ⟨b,o,none⟩ i n acc).run P w=.ok (acc++l.toArray) w
 | 0,i,acc,l,hl,_=>by
  have:l=[]:=List.length_eq_zero_iff.1 hl;simp[loadCellsFrom,this]
 | n+1,i,acc,l,hl,hq=>by
  match l,hl with
  | v::l,hl =>
   have h0:cs[o+i]?=some v:=by simpa using hq 0 (by omega)
   have ih:=run_loadCellsFrom (P:=P) (o:=o) h n (i+1) (acc.push v) l (by simpa using hl) (fun q hq'=>by
    have:=hq (q+1) (by omega);rw[show o+(i+1)+q=o+i+(q+1) from by omega,this];simp)
   simp only[loadCellsFrom,Addr.add_eq,Sem.run_bind,run_load,cell_of h,h0,Result.andThen_ok,ih];simp
theorem run_loadCells{P:Program}{w:World}{b o:Nat}{cs:Array Value}{T:TypeId}{z:Nat × Nat}(h:w.heap[b]?=some (.cells cs T z))(l:List Value)
  (hq:∀q,q<l.length→cs[o+q]?=l[q]?):(loadCells ⟨b,o,none⟩ l.length).run P w=.ok l.toArray w:=by
 unfold loadCells;rw[run_loadCellsFrom h l.length 0 #[] l rfl (by simpa using hq)];simp
theorem iL{P:Program}{b:Nat}{T:TypeId}:∀(l:List Value) (w:World) (o i:Nat) (cs:Array Value),w.heap[b]?=some (.cells cs T (0,0))→o+i+l.length≤cs.size →
  (∀v∈l,v.oneCell'=true)→∃w' cs',(storeCells ⟨b,o,none⟩ l i).run P w=.ok () w'∧Wr w b cs' T w'∧cs'.size=cs.size ∧
   ∀q,cs'[q]?=if o+i≤q∧q<o+i+l.length then l[q - (o+i)]? else cs[q]?
 | [],w,o,i,cs,h,_,_=>⟨w,cs,by simp[storeCells],⟨rfl,rfl,rfl,rfl,h,fun _ _=>rfl⟩,rfl,fun q=>by rw[if_neg (by simp)]⟩
 | v::l,w,o,i,cs,h,hs,hv=>by
  have aF:o+i<cs.size:=by simp only[al4]at hs;omega
  have hc:w.cell? ⟨b,o+i,none⟩=some cs[o+i]:=by rw[cell_of h];exact al9 aF
  have hfz:w.frozen? ⟨b,o+i,none⟩=false:=by simp[World.frozen?,h]
  have hh:(w.setCell ⟨b,o+i,none⟩ v).heap[b]?=some (.cells (cs.setIfInBounds (o+i) v) T (0,0)):=by
   simp only[World.setCell];rw[Array.getElem?_modify];simp[h]
  obtain⟨w',cs',h1,h2,h3,h4⟩:=iL (P:=P) (T:=T) l (w.setCell ⟨b,o+i,none⟩ v) o (i+1) _ hh (by simp at hs ⊢;omega) (fun u hu=>hv u (by simp[hu]));refine⟨w',cs',?_,⟨h2.os,h2.tape,h2.output,by rw[h2.size];simp,h2.here,fun b' hb=>?_⟩,by simpa using h3,fun q=>?_⟩
  ·simp only[storeCells,Addr.add_eq,Sem.run_bind];rw[run_store P w _ v .plain (hv v (by simp))];simp only[hc,hfz,Bool.false_eq_true,if_false,Result.andThen_ok];exact h1
  ·rw[h2.there b' hb];exact Below.heap_setCell w ⟨b,o+i,none⟩ v b' hb
  ·rw[h4];simp only[al4];by_cases hq:q=o+i
   ·subst hq;rw[if_neg (by omega),if_pos (by omega)];simp[Array.getElem?_setIfInBounds_self_of_lt aF]
   ·rw[Array.getElem?_setIfInBounds_ne (Ne.symm hq)];by_cases hq':o+(i+1)≤q∧q<o+(i+1)+l.length
    ·rw[if_pos hq',if_pos (by omega),show q - (o+i)=(q - (o+(i+1)))+1 from by omega];simp
    ·rw[if_neg hq',if_neg (by omega)]
theorem Den.pE{β:bO}{H:Hp}{x:SV}{v:Value}(h:Den β H x v)(hx:∀l,x≠.bG l):bh β H x.cells v.cells.toList:=by
 cases x
 case bG l=>exact absurd rfl (hx l)
 case agg l=>simp only[Den]at h;obtain⟨vs,rfl,h⟩:=h;simpa[SV.cells,Value.cells]using h
 case val u =>
  simp only[Den]at h;obtain⟨rfl,h2⟩:=h;rw[dU h2];simp[SV.cells,bh,SV.one,h2,Den]
 all_goals
  rw[dU (Den.one h rfl)];simp only[SV.cells,bh];exact⟨_,[],by simp,rfl,h,rfl⟩
theorem bh.drop{β:bO}{H:Hp}:∀{l:List SV} {vs:List Value} (n:Nat),bh β H l vs→bh β H (l.drop n) (vs.drop n)
 | [],vs,n,h=>by simp only[bh]at h;simp[h,bh]
 | x::l,vs,0,h=>by simpa using h
 | x::l,vs,n+1,h=>by
  simp only[bh]at h;obtain⟨v,r,rfl,_,_,h4⟩:=h;simpa using h4.drop n
theorem bh.take{β:bO}{H:Hp}:∀{l:List SV} {vs:List Value} (n:Nat),bh β H l vs→bh β H (l.take n) (vs.take n)
 | [],vs,n,h=>by simp only[bh]at h;simp[h,bh]
 | x::l,vs,0,h=>by simp[bh]
 | x::l,vs,n+1,h=>by
  simp only[bh]at h;obtain⟨v,r,rfl,h2,h3,h4⟩:=h;simp only[List.take_succ_cons,bh];exact⟨v,_,rfl,h2,h3,h4.take n⟩
theorem bh.append{β:bO}{H:Hp}:∀{l l':List SV} {vs vs':List Value},bh β H l vs→bh β H l' vs'→bh β H (l++l') (vs++vs')
 | [],l',vs,vs',h,h'=>by simp only[bh]at h;simpa[h]using h'
 | x::l,l',vs,vs',h,h'=>by
  simp only[bh,List.cons_append]at h ⊢;obtain⟨v,r,rfl,h2,h3,h4⟩:=h;exact⟨v,r++vs',by simp,h2,h3,h4.append h'⟩
theorem bh.Dp{β:bO}{H:Hp}:∀{l:List SV} {vs:List Value},bh β H l vs→∀v∈vs,v.oneCell'=true
 | [],vs,h,v,hv=>by simp only[bh]at h;simp[h]at hv
 | x::l,vs,h,v,hv=>by
  simp only[bh]at h;obtain⟨u,r,rfl,h2,h3,h4⟩:=h;rcases List.mem_cons.1 hv with rfl | hv
  ·exact h3.one h2
  ·exact h4.Dp v hv
def SV.isAgg:SV→Bool
 | .agg _=>true
 | _=>false
def SV.aM:SV→Bool
 | .bG _=>true
 | _=>false
def mO(ti:TI)(x:SV)(j:Nat):SV :=
 if j=0∧x.fj=ti.size∧x.isAgg=ti.k.isAgg then x else if ti.k.isAgg=true then .agg ((x.cells.drop j).take ti.size) else aA x.cells j
theorem si{P:Program}{β:bO}{H:Hp}{t:TypeId}{ti:TI}(ht:az P t=some ti){b o j:Nat}{cs:Array Value}{x:SV}{v:Value}(hx:Den β H x v)(hnt:x.aM=false)(hq:∀q,q<v.cells.size→cs[o+q]?=v.cells[q]?)(hj:j+ti.size≤x.fj) :
  ∃u,(∀w T z,w.heap[b]?=some (.cells cs T z)→(loadVar t ⟨b,o+j,none⟩).run P w=.ok u w)∧Den β H (mO ti x j) u:=by
 obtain⟨i,d,zv,hty⟩:=ay ht;have hnt':∀l,x≠.bG l:=fun l e=>by subst e;simp[SV.aM]at hnt
 have pW:v.cells.size=x.fj:=(hx.nH).resolve_left fun⟨l,e⟩=>hnt' l e;have hcl:=hx.pE hnt';unfold loadVar;simp only[Sem.run_bind,hty.Cw,Result.andThen_ok];by_cases ha:ti.k.isAgg=true
 ·simp only[ha,if_true,Sem.run_bind,hty.eK,Result.andThen_ok];have hlen:((v.cells.toList.drop j).take ti.size).length=ti.size:=by simp;omega
  have hld:=fun(w:World) T z (h:w.heap[b]?=some (.cells cs T z))=>run_loadCells (P:=P) (o:=o+j) h ((v.cells.toList.drop j).take ti.size) (fun q hq'=>by
   rw[hlen]at hq';rw[List.getElem?_take_of_lt hq',List.getElem?_drop,Nat.add_assoc,hq (j+q) (by omega)];simp)
  simp only[hlen]at hld;refine⟨.agg ((v.cells.toList.drop j).take ti.size).toArray,fun w T z h=>by simp[hld w T z h],?_⟩;unfold mO;split
  ·rename_i hc;obtain⟨rfl,hc1,hc2⟩:=hc;rw[ha]at hc2;cases x<;>simp[SV.isAgg]at hc2;simp only[Den]at hx;obtain⟨vs,rfl,hvs⟩:=hx;simp only[Den];refine⟨vs,?_,hvs⟩;have:=hvs.length;simp only[SV.fj]at hc1;simp only[Value.cells,List.drop_zero];rw[List.take_of_length_le (by omega)]
  ·simp only[Den];exact⟨_,rfl,(hcl.drop j).take ti.size⟩
 ·have ha':ti.k.isAgg=false:=by simpa using ha
  have h1:ti.size=1:=by
   rw[hty.size];refine hty.one.resolve_left ?_;rw[←ri P,←hty.k];exact ha
  have aF:j<v.cells.size:=by omega
  have hc:∀(w:World) T z,w.heap[b]?=some (.cells cs T z)→w.cell? ⟨b,o+j,none⟩=some v.cells[j]:=fun w T z h=>by rw[cell_of h,hq j aF];exact al9 aF
  refine⟨v.cells[j],fun w T z h=>by simp only[ha',Bool.false_eq_true,if_false,run_load,hc w T z h],?_⟩;obtain⟨u,hu1,hu2,hu3⟩:=hcl.get (i:=j) (by rw[←hcl.length];simpa using aF);have hu:v.cells[j]=u:=by
   have:v.cells.toList[j]?=some v.cells[j]:=by rw[ama];exact al9 aF
   rw[this]at hu1;simpa using hu1
  rw[hu];unfold mO;split
  ·rename_i hc;obtain⟨rfl,hc1,hc2⟩:=hc;rw[ha']at hc2;cases x
   case agg l=>simp[SV.isAgg]at hc2
   case bG l=>exact absurd rfl (hnt' l)
   all_goals exact hu3
  ·first
    | exact hu3
    | (rw[if_neg (by simp[ha'])];exact hu3)
end Go.Sv
namespace Go.Sv
open Go
def Dt(P:Program):List Field→Nat→Option (List TK)
 | [],_=>some []
 | f :: fs, k => if f.name ≠ "_" ∧ f.offset = k then
   match P.underlying f.type,Dt P fs (k+1)with
   | some .string,some r=>some (.str::r)
   | some .bool,some r=>some (.bool::r)
   | some (.int κ),some r=>some (.int κ::r)
   | _,_=>none
  else none
def xO(P:Program)(t:TypeId):Option (List TK) :=
 match P.underlying t with
 | some (.struct fs)=>if P.stoodInHeld t=false∧P.eqGuardType P.depth t=false∧fs.size≤100 then Dt P fs.toList 0 else none
 | _=>none
def Z2:TK→SV→SV→Option Bool
 | .str,.val (.string a),.val (.string b)=>some (decide (a=b))
 | .bool,.val (.bool a),.val (.bool b)=>some (a==b)
 | .int κ,.val (.int κ' a),.val (.int κ'' b)=>if κ'=κ∧κ''=κ then some (decide (a=b)) else none
 | _,_,_=>none
def tE:List TK→List SV→List SV→Option Bool
 | [],[],[]=>some true
 | k::ks,x::a,y::b=>match Z2 k x y,tE ks a b with
  | some e,some r=>some (e&&r)
  | _,_=>none
 | _,_,_=>none
def qi(op:BinOp)(ks:Option (List TK))(a b:List SV):dF :=
 match op,ks with
 | .eql,some ks=>match tE ks a b with
  | some e=>.q True (.val (.bool e))
  | none=>.stuck
 | .neq,some ks=>match tE ks a b with
  | some e=>.q True (.val (.bool (!e)))
  | none=>.stuck
 | _,_=>.stuck
section
variable {P:Program} {β:bO} {H:Hp}
theorem NX{k:TK}{x y:SV}{e:Bool}{f:TypeId}{d:Nat}{u v:Value}(h:Z2 k x y=some e)(hx:Den β H x u)(hy:Den β H y v)
  (hf:(k=.str∧P.underlying f=some .string)∨(k=.bool∧P.underlying f=some .bool)∨(∃κ,k=.int κ∧P.underlying f=some (.int κ))) :
  ∀w,(Op.equalIn (d+1) f u v).run P w=.ok e w:=by
 intro w;unfold Z2 at h;split at h
 ·rename_i a b;simp only[Den]at hx hy;obtain⟨rfl, -⟩:=hx;obtain⟨rfl, -⟩:=hy;simp only[al0]at h;subst h;rcases hf with⟨-,hu⟩ | ⟨hk, -⟩ | ⟨κ,hk, -⟩
  ·rw[run_equalIn_string w d f a b hu,bytes_beq]
  ·cases hk
  ·cases hk
 ·rename_i a b;simp only[Den]at hx hy;obtain⟨rfl, -⟩:=hx;obtain⟨rfl, -⟩:=hy;simp only[al0]at h;subst h;rcases hf with⟨hk, -⟩ | ⟨-,hu⟩ | ⟨κ,hk, -⟩
  ·cases hk
  ·exact run_equalIn_bool' w d f a b hu
  ·cases hk
 ·rename_i κ κ' a κ'' b;simp only[Den]at hx hy;obtain⟨rfl, -⟩:=hx;obtain⟨rfl, -⟩:=hy;split at h
  ·rename_i hk;obtain⟨rfl,rfl⟩:=hk;simp only[al0]at h;subst h;rcases hf with⟨hk, -⟩ | ⟨hk, -⟩ | ⟨κ,hk,hu⟩
   ·cases hk
   ·cases hk
   ·rw[run_equalIn_int w d f κ'' κ a b hu];rfl
  ·cases h
 ·cases h
theorem Fi{f:Field}{fs:List Field}{k:Nat}{ks:List TK}(h:Dt P (f::fs) k=some ks) :
  f.name ≠ "_" ∧ f.offset = k ∧ ∃ q r, ks = q :: r ∧ Dt P fs (k + 1) = some r ∧ P.plainKey f.type = true ∧
   ((q=.str∧P.underlying f.type=some .string)∨(q=.bool∧P.underlying f.type=some .bool)∨(∃κ,q=.int κ∧P.underlying f.type=some (.int κ))):=by
 unfold Dt at h;split at h
 ·rename_i hc;refine⟨hc.1,hc.2,?_⟩;split at h
  ·rename_i r hu hr;simp only[al0]at h;exact⟨_,r,h.symm,hr,by simp[Program.plainKey,hu],.inl ⟨rfl,hu⟩⟩
  ·rename_i r hu hr;simp only[al0]at h;exact⟨_,r,h.symm,hr,by simp[Program.plainKey,hu],.inr (.inl ⟨rfl,hu⟩)⟩
  ·rename_i κ r hu hr;simp only[al0]at h;exact⟨_,r,h.symm,hr,by simp[Program.plainKey,hu],.inr (.inr ⟨κ,rfl,hu⟩)⟩
  ·cases h
 ·cases h
theorem AI{d:Nat}{xs ys:Array Value}:∀{fs:List Field} {k:Nat} {ks:List TK} {a b:List SV} {e:Bool},Dt P fs k=some ks→tE ks a b=some e→bh β H a (xs.toList.drop k)→bh β H b (ys.toList.drop k) →
  ∀w,(Op.eqFields (d+1) xs ys fs).run P w=.ok e w
 | [],k,ks,a,b,e,hf,ha,hx,hy,w=>by
  simp only[Dt,al0]at hf;subst hf;unfold tE at ha;split at ha
  ·simp only[al0]at ha;subst ha;simp[Op.eqFields]
  ·contradiction
  ·cases ha
 | f::fs,k,ks,a,b,e,hf,ha,hx,hy,w=>by
  obtain⟨hn,ho,q,r,rfl,hr,hp,hq⟩:=Fi hf;unfold tE at ha;split at ha
  ·contradiction
  ·rename_i q' r' x a' y b' h1;simp only[amb]at h1;obtain⟨rfl,rfl⟩:=h1;split at ha
   ·rename_i e1 e2 g1 g2;simp only[al0]at ha;simp only[bh]at hx hy;obtain⟨u,us,hu, -,hxu,hxr⟩:=hx;obtain⟨v,vs,hv, -,hyv,hyr⟩:=hy;have dx:xs[k]?=some u∧us=xs.toList.drop (k+1):=by
     have aF:k<xs.toList.length:=by
      rcases Nat.lt_or_ge k xs.toList.length with h | h
      ·exact h
      ·rw[al6 h]at hu;cases hu
     rw[al7 aF]at hu;simp only[amb]at hu;refine⟨?_,hu.2.symm⟩;rw[←ama,al8 aF,hu.1]
    have dy:ys[k]?=some v∧vs=ys.toList.drop (k+1):=by
     have aF:k<ys.toList.length:=by
      rcases Nat.lt_or_ge k ys.toList.length with h | h
      ·exact h
      ·rw[al6 h]at hv;cases hv
     rw[al7 aF]at hv;simp only[amb]at hv;refine⟨?_,hv.2.symm⟩;rw[←ama,al8 aF,hv.1]
    rw[dx.2]at hxr;rw[dy.2]at hyr;unfold Op.eqFields;rw[if_pos hn,ho];simp only[Sem.run_bind,run_part_plain w hp dx.1,run_part_plain w hp dy.1,Result.andThen_ok,NX (P:=P) (d:=d) g1 hxu hyv hq w];have ih:=AI (d:=d) hr g2 hxr hyr w;subst ha;cases e1 with
    | false=>simp
    | true=>simpa using ih
   ·cases ha
  ·cases ha
theorem Dh{op:BinOp}{t:TypeId}{a b:List SV}{ox oy:Operand}{u v:Value}{c:Prop}{r:SV}(h:qi op (xO P t) a b=.q c r)(hx:Den β H (.agg a) u)(hy:Den β H (.agg b) v) :
  ∃z,(∀w,(do eqGuard op t ox oy u v;binOp op t u v:Sem Value).run P w=.ok z w)∧Den β H r z:=by
 simp only[Den]at hx hy;obtain⟨us,rfl,hus⟩:=hx;obtain⟨vs,rfl,hvs⟩:=hy;have key:∀ks e,xO P t=some ks→tE ks a b=some e→P.eqGuardType P.depth t=false∧∀w,(Op.equalIn 10000 t (.agg us.toArray) (.agg vs.toArray)).run P w=.ok e w:=fun ks e h1 h2=>by
  unfold xO at h1;split at h1
  ·rename_i fs hu;split at h1
   ·rename_i hc;have hF:P.fieldsOf t=fs:=by simp[Program.fieldsOf,hu]
    refine⟨hc.2.1,fun w=>?_⟩;rw[run_equalIn_struct w 9999 t us.toArray vs.toArray (by rw[hF];exact hu) hc.1,hF];exact AI (d:=9998) h1 h2 (by simpa using hus) (by simpa using hvs) w
   ·cases h1
  ·cases h1
 unfold qi at h;split at h
 ·rename_i ks hk;split at h
  ·rename_i e he;simp only[dF.q.injEq]at h;obtain⟨-,rfl⟩:=h;obtain⟨k1,k2⟩:=key ks e hk he;refine⟨.bool e,fun w=>?_,by simp[Den,Value.oneCell']⟩;simp only[Sem.run_bind,run_eqGuard_agg w .eql t ox oy us.toArray vs.toArray k1,Result.andThen_ok,run_eql_struct,k2]
  ·cases h
 ·rename_i ks hk;split at h
  ·rename_i e he;simp only[dF.q.injEq]at h;obtain⟨-,rfl⟩:=h;obtain⟨k1,k2⟩:=key ks e hk he;refine⟨.bool (!e),fun w=>?_,by simp[Den,Value.oneCell']⟩;simp only[Sem.run_bind,run_eqGuard_agg w .neq t ox oy us.toArray vs.toArray k1,Result.andThen_ok,run_neq_struct,k2]
  ·cases h
 ·cases h
end
end Go.Sv


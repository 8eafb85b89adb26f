/- A text of the prover's own. -/
import Derived.Test.YtmghjkkjaolpgaaGreatDoorUVq
import Derived.Laws.BytesArg
import Derived.WideLaws
open Option.some renaming injEq→al0
open List renaming map_cons→amc,getElem?_take_of_lt→amd,getElem?_drop→ame,getElem?_map→amf,length_cons→al4,append_assoc→amg,getElem?_append_left→alX,getElem?_append_right→alY
open Nat renaming add_mul→alV,one_mul→alW,mul_le_mul_right→amh,mul_one→ami,add_assoc→amj,le_refl→amk
open Option renaming map_some→aml,map_none→amm,isSome_map→amn,bind_some→amo
open Array renaming getElem?_toList→ama,length_toList→amp,ext'→amq
namespace Go.Sv
open Go Go.RowKit
def ao:aJ→Nat→Option cx
 | [],_=>none
 | x::_,0=>x
 | _::l,n+1=>ao l n
def aN:aJ→Nat→Option cx→aJ
 | [],_,_=>[]
 | _::l,0,y=>y::l
 | x::l,n+1,y=>x::aN l n y
theorem aL{M:aJ}{k:Nat}{e:cx}(h:ao M k=some e):M[k]?=some (some e):=by
 induction M generalizing k with
 | nil=>simp[ao]at h
 | cons x l ih=>cases k with
  | zero=>simp only[ao]at h;simp[h]
  | succ k=>simpa using ih h
theorem ez(M:aJ)(k:Nat)(y:Option cx):aN M k y=M.set k y:=by
 induction M generalizing k with
 | nil=>rfl
 | cons x l ih=>cases k<;>simp[aN,ih]
def mW:List (Nat × Nat × TypeId)→Nat→Option (Nat × Nat × TypeId)
 | [],_=>none
 | x::_,0=>some x
 | _::l,n+1=>mW l n
theorem zF(l:List (Nat × Nat × TypeId))(n:Nat):mW l n=l[n]?:=by
 induction l generalizing n with
 | nil=>rfl
 | cons x l ih=>cases n<;>simp[mW,ih]
def eG(s:ByteArray)(i:Nat):UInt8:=s.data.getD i 0
def g9(M:aJ)(ti:Option TI)(x:Option SV):dF :=
 match ti,x with
 | some ti,some (.ptr k i j) =>
  match ao M k with
  | some e=>.q (i<e.es.length∧(aA e.es i).aM=false∧j+ti.size≤(aA e.es i).fj) (mO ti (aA e.es i) j)
  | none=>.stuck
 | some ti,some (.bU x j)=>.q (x.aM=false∧j+ti.size≤x.fj) (mO ti x j)
 | _,_=>.stuck
def fA(ti:Option TI)(x:Option SV)(f:Nat):dF :=
 match ti,x with
 | some ⟨.st fs,_,_,_⟩,some (.ptr k i j) =>
  match mW fs f with
  | some (off,sz,_)=>if sz=0 then .stuck else .q True (.ptr k i (j+off))
  | none=>.stuck
 | some ⟨.st fs,_,_,_⟩,some (.bU x j) =>
  match mW fs f with
  | some (off,sz,_)=>if sz=0 then .stuck else .q True (.bU x (j+off))
  | none=>.stuck
 | _,_=>.stuck
def zN(P:Program)(ti:Option TI)(x:Option SV)(f:Nat):dF :=
 match ti,x with
 | some ⟨.st fs,_,_,_⟩,some (.agg l) =>
  match mW fs f with
  | some (off,_,ft) =>
   match az P ft with
   | some tf=>if tf.k.isAgg=true then .q (off+tf.size≤l.length) (.agg ((l.drop off).take tf.size)) else .q (off<l.length) (aA l off)
   | none=>.stuck
  | none=>.stuck
 | _,_=>.stuck
def fu(P:Program)(M:aJ)(ti:Option TI)(x:Option SV)(i:Option SV):dF :=
 match ti,x,i with
 | some ⟨.sl el,_,_,_⟩,some (.ro es),some (.val (.int _ n)) =>
  match az P el with
  | some te=>.q (0≤n∧n<es.length∧(aA es n.toNat).fj=te.size∧(aA es n.toNat).aM=false) (.bU (aA es n.toNat) 0)
  | none=>.stuck
 | some ⟨.sl el,_,_,_⟩,some (.view k i0 m),some (.val (.int _ n)) =>
  match az P el,ao M k with
  | some te,some e=>if e.sz=te.size then .q (0≤n∧n<m) (.ptr k (i0+n.toNat) 0) else .stuck
  | _,_=>.stuck
 | _,_,_=>.stuck
def qD(ti:Option TI)(x:Option SV)(i:Option SV):dF :=
 match ti,x,i with
 | some ⟨.str,_,_,_⟩,some (.val (.string s)),some (.val (.int _ n))=>.q (0≤n∧n<s.size) (.val (.int .u8 (eG s n.toNat).toNat))
 | _,_,_=>.stuck
def fv(x:Option (Option SV))(d:Int):Option Int :=
 match x with
 | none=>some d
 | some (some (.val (.int _ n)))=>some n
 | _=>none
def jv(P:Program)(M:aJ)(ti:Option TI)(x:Option SV)(lo hi mx:Option (Option SV)):dF :=
 match ti,x with
 | some ⟨.str,_,_,_⟩,some (.val (.string s)) =>
  match mx,fv lo 0,fv hi s.size with
  | none,some l,some h=>.q (0≤l∧l≤h∧h≤s.size) (.val (.string (s.extract l.toNat h.toNat)))
  | _,_,_=>.stuck
 | some ⟨.sl el,_,_,_⟩,some (.ro es) =>
  match fv lo 0,fv hi es.length,az P el with
  | some l,some h,some te=>.q (0≤l∧l≤h∧h≤es.length∧(mx.isSome=true→fv mx 0=some h)∧(es≠[]→(aA es 0).fj=te.size∧(aA es 0).aM=false)) (.ro ((es.take h.toNat).drop l.toNat))
  | _,_,_=>.stuck
 | some ⟨.sl el,_,_,_⟩,some (.view k i n) =>
  match fv lo 0,fv hi n,az P el,ao M k with
  | some l,some h,some te,some e=>if e.sz=te.size then .q (0≤l∧l≤h∧h≤n∧(mx.isSome=true→fv mx 0=some h)) (.view k (i+l.toNat) (h.toNat - l.toNat)) else .stuck
  | _,_,_,_=>.stuck
 | _,_=>.stuck
def zx(ti tj:Option TI)(x:Option SV):dF :=
 match ti,tj,x with
 | some _,some ⟨.int k,_,_,_⟩,some (.val (.int _ n))=>.q True (.val (.int k (k.wrap n)))
 | _,_,_=>.stuck
def uK:SV→Int
 | .val (.int _ n)=>n
 | _=>0
def nN:SV→Bool
 | .val (.int .u8 _)=>true
 | _=>false
def strOf(es:List SV):ByteArray:=strOfNums (es.map uK)
def x8(M:aJ)(te:Option TI)(x:Option SV):dF :=
 match te,x with
 | some ⟨.int .u8,_,_,_⟩,some (.ro es)=>.q (es.all nN=true) (.val (.string (strOf es)))
 | some ⟨.int .u8,_,_,_⟩,some (.view k i n) =>
  match ao M k with
  | some e=>.q (e.sz=1∧i+n≤e.es.length∧((e.es.drop i).take n).all nN=true) (.val (.string (strOf ((e.es.drop i).take n))))
  | none=>.stuck
 | some ⟨.int .u8,_,_,_⟩,some (.val (.slice none 0 0))=>.q True (.val (.string (strOf [])))
 | _,_=>.stuck
def py(P:Program)(M:aJ)(ti tj:Option TI)(x:Option SV):dF :=
 match ti,tj with
 | some ⟨.sl el,_,_,_⟩,some ⟨.str,_,_,_⟩=>x8 M (az P el) x
 | ti,tj=>zx ti tj x
def jt(op:BinOp)(ti:Option TI)(x:Option SV):dF :=
 match ti,op,x with
 | some ⟨.iface,_,_,_⟩,.eql,some (.val .nilIface)=>.q True (.bool true)
 | some ⟨.iface,_,_,_⟩,.neq,some (.val .nilIface)=>.q True (.bool false)
 | some ⟨.iface,_,_,_⟩,.eql,some (.iw _ _)=>.q True (.bool false)
 | some ⟨.iface,_,_,_⟩,.neq,some (.iw _ _)=>.q True (.bool true)
 | some ⟨.iface,_,_,_⟩,.eql,some (.fp _ _)=>.q True (.bool false)
 | some ⟨.iface,_,_,_⟩,.neq,some (.fp _ _)=>.q True (.bool true)
 | _,_,_=>.stuck
def isNil:Operand→Bool
 | .const .nilIface=>true
 | _=>false
def mF(op:BinOp)(ti:Option TI)(x:Option SV)(oy:Operand)(y:Option SV):dF :=
 if isNil oy=true then jt op ti x else bZ op ti x y
def rU(P:Program)(op:BinOp)(t:TypeId)(x:Option SV)(oy:Operand)(y:Option SV):dF :=
 match x,y with
 | some (.agg a),some (.agg b)=>qi op (xO P t) a b
 | x,y=>mF op (az P t) x oy y
def GC(op:UnOp)(x:Option SV):dF :=
 match op,x with
 | .neg,some (.val (.int k n))=>.q True (.val (.int k (k.wrap (0 - n))))
 | .not,some (.val (.bool b))=>.q True (.bool (!b))
 | _,_=>.stuck
def wT(c x y:Option SV):dF :=
 match c with
 | some (.val (.bool true))=>match x with | some x=>.q True x | none=>.stuck
 | some (.val (.bool false))=>match y with | some y=>.q True y | none=>.stuck
 | _=>.stuck
def Be(x:Option SV):dF :=
 match x with
 | some (.ptr k i j)=>.q True (.ptr k i j)
 | some (.bU x j)=>.q True (.bU x j)
 | some (.iw t x)=>.q True (.iw t x)
 | _=>.stuck
def oM(x:Option SV)(i:Nat):dF :=
 match x with
 | some (.bG l)=>.q (i<l.length) (aA l i)
 | _=>.stuck
def m4(ti:Option TI)(x:Option SV):dF :=
 match ti,x with
 | some ⟨.sl _,_,_,_⟩,some (.val (.slice none 0 0))=>.q True (.i64 0)
 | some ⟨.sl _,_,_,_⟩,some (.ro es)=>.q True (.i64 es.length)
 | some ⟨.sl _,_,_,_⟩,some (.view _ _ n)=>.q True (.i64 n)
 | some ⟨.str,_,_,_⟩,some (.val (.string s))=>.q True (.i64 s.size)
 | _,_=>.stuck
def lQ(mx:Bool)(x y:Option SV):dF :=
 match x,y with
 | some (.val (.int k m)),some (.val (.int _ n))=>.q True (.val (.int k (if mx=true then(if n > m then n else m) else(if n<m then n else m))))
 | _,_=>.stuck
def um(ti:Option TI)(t:TypeId)(x:Option SV):dF :=
 match ti,x with
 | some ⟨.iface,_,_,_⟩,_=>.stuck
 | some _,some x=>.q True (.iw t x)
 | _,_=>.stuck
def jd(fs:List (Nat × Nat × TypeId)):List (Nat × Option SV)→List SV→Option (List SV)
 | [],acc=>some acc
 | (i,some x)::r,acc =>
  match mW fs i with
  | some (off,sz,_)=>if x.fj=sz∧x.aM=false∧off+sz≤acc.length then jd fs r (acc.take off++x.cells++acc.drop (off+sz)) else none
  | none=>none
 | (_,none)::_,_=>none
def ob(ti:Option TI)(parts:List (Nat × Option SV)):dF :=
 match ti with
 | some ⟨.st fs,_,_,zero⟩ =>
  if fs.all (fun f=>f.2.1 != 0)=true then
  match jd fs parts zero with
  | some l=>.q True (.agg l)
  | none=>.stuck
  else .stuck
 | _=>.stuck
def D9(ti:Option TI)(x:Option SV):dF :=
 match ti,x with
 | some ⟨.sl _,_,_,_⟩,some (.val (.slice none 0 0))=>.q True (.bG [])
 | some ⟨.sl _,_,_,_⟩,some (.view _ _ n)=>.q (n=0) (.bG [])
 | _,_=>.stuck
def oB(P:Program)(b:Builtin)(ts:Array TypeId)(xs:List (Option SV)):dF :=
 match b,xs with
 | .len,[x]=>m4 ((ts[0]?).bind (az P)) x
 | .clear,[x]=>D9 ((ts[0]?).bind (az P)) x
 | .max,[x,y]=>lQ true x y
 | .min,[x,y]=>lQ false x y
 | _,_=>.stuck
def rQ(fr:List (Nat × SV)):List Operand→Option (List SV)
 | []=>some []
 | o::r=>match ev fr o,rQ fr r with
  | some x,some l=>some (x::l)
  | _,_=>none
def KZ(f:FuncId)(l r:Option (List SV)):dF:=match l,r with
 | some l,some r=>.q True (.gA f l r)
 | _,_=>.stuck
def xA(P:Program)(M:aJ)(fr:List (Nat × SV))(o:Op):dF :=
 match o with
 | .move x | .assign x=>match ev fr x with | some x=>.q True x | none=>.stuck
 | .pick c a b=>wT (ev fr c) (ev fr a) (ev fr b)
 | .binOp op t x y _=>rU P op t (ev fr x) y (ev fr y)
 | .unOp op _ x=>GC op (ev fr x)
 | .convert s d x=>py P M (az P s) (az P d) (ev fr x)
 | .nilCheck x=>Be (ev fr x)
 | .extract x i=>oM (ev fr x) i
 | .field t x f=>zN P (az P t) (ev fr x) f
 | .fieldAddr t x f=>fA (az P t) (ev fr x) f
 | .indexAddr t x i=>fu P M (az P t) (ev fr x) (ev fr i)
 | .index t x i=>qD (az P t) (ev fr x) (ev fr i)
 | .load t a=>g9 M (az P t) (ev fr a)
 | .slice t x lo hi mx=>if(mx.isSome&&!hi.isSome)=true then .stuck else jv P M (az P t) (ev fr x) (lo.map (ev fr)) (hi.map (ev fr)) (mx.map (ev fr))
 | .makeInterface t x=>um (az P t) t (ev fr x)
 | .build t parts=>ob (az P t) (parts.toList.map fun p=>(p.1,ev fr p.2))
 | .call ⟨.builtin b,args,ts⟩=>oB P b ts (args.toList.map (ev fr))
 | .makeFunc (.func f) l r=>KZ f (rQ fr l.toList) (rQ fr r.toList)
 | _=>.stuck
theorem iJ{β:bO}{H:Hp}{n:Nat}{fr:List (Nat × SV)}{a:Act}(hF:gI β H n fr a)(o:Operand):∀s,ev fr o=some s→Den β H s (a.eval o):=fun _ h=>yM hF h
theorem jr{β:bO}{H:Hp}{n:Nat}{fr:List (Nat × SV)}{a:Act}(hF:gI β H n fr a):∀(l:List Operand) (xs:List SV),rQ fr l=some xs→bF β H xs (l.map a.eval)
 | [],xs,h=>by simp only[rQ,al0]at h;subst h;simp[bF]
 | o::r,xs,h=>by
  simp only[rQ]at h;split at h
  ·rename_i x l hx hl;simp only[al0]at h;subst h;simp only[amc,bF];exact⟨_,_,rfl,yM hF hx,jr hF r l hl⟩
  ·cases h
section
variable {P:Program} {C:Ctx} {β:bO} {H:Hp} {M:aJ} {w:World} {c:Prop} {r:SV}
theorem oR(hW:cv C β H M w){t:TypeId}{x:Option SV}{u:Value}(h:g9 M (az P t) x=.q c r)(hc:c)(hx:∀s,x=some s→Den β H s u) :
  ∃z,(∀w':World,(∀b o p,u=.pointer (some ⟨b,o,p⟩)→w'.heap[b]?=w.heap[b]?)→(Instr.loadAt t u).run P w'=.ok z w')∧Den β H r z:=by
 unfold g9 at h;split at h
 ·rename_i ti k i j hti;have hu:=hx _ rfl;simp only[Den]at hu;obtain⟨d,hd,rfl⟩:=hu;split at h
  ·rename_i e he;simp only[dF.q.injEq]at h;obtain⟨rfl,rfl⟩:=h;obtain⟨h1,h2,h3⟩:=hc;rcases hW.da k e (aL he)with⟨h4,_⟩ | ⟨d',cs,T,vs,h4,h5,h6,h7,h8,h9,h10, -⟩ | ⟨d',ms,h4,h5,h6,h7⟩
   rotate_left 2
   ·obtain⟨l,hl⟩:=h7.Fu i h1;rw[hl]at h2;simp[SV.aM]at h2
   ·rw[hd]at h4;simp at h4
   ·rw[hd]at h4;simp only[al0]at h4;subst h4;obtain⟨v,hv1,hv2,hv3⟩:=h8.get h1;have hlen:=h8.length;obtain⟨z,hz1,hz2⟩:=si (P:=P) hti (b:=d.b) (o:=i*d.sz) (j:=j) hv1 h2 (fun q hq=>by
     rw[hv2]at hq;rw[h5,h10 _ (by rw[hlen];calc i*e.sz+q<i*e.sz+e.sz:=by omega
       _=(i+1)*e.sz:=by rw[alV,alW]
       _≤e.es.length*e.sz:=amh _ h1)]
     exact hv3 q hq) h3
    exact⟨z,fun w' hw'=>by simp only[Instr.loadAt,Instr.sureAddr,Sem.run_bind,Sem.run_pure,Result.andThen_ok];exact hz1 w' _ _ ((hw' _ _ _ rfl).trans h6),hz2⟩
  ·cases h
 ·rename_i ti x j hti;have hu:=hx _ rfl;simp only[Den]at hu;obtain⟨b,o,cs,v,rfl,h2,h3,h4⟩:=hu;simp only[dF.q.injEq]at h;obtain⟨rfl,rfl⟩:=h;obtain⟨T,z,hb⟩:=hW.inv b cs h2;obtain⟨z,hz1,hz2⟩:=si (P:=P) hti (b:=b) (o:=o) (j:=j) (Den.up h3 (β':=β) (fun _ _ h=>by simp[lF]at h) (fun _ _ h=>h)) hc.1 h4 hc.2;exact⟨z,fun w' hw'=>by simp only[Instr.loadAt,Instr.sureAddr,Sem.run_bind,Sem.run_pure,Result.andThen_ok];exact hz1 w' _ _ ((hw' _ _ _ rfl).trans hb),hz2⟩
 ·cases h
theorem vL{P:Program}{β:bO}{H:Hp}{M:aJ}{c:Prop}{r:SV}{t:TypeId}{y:SV}{k:Nat}{u:Value}(h:g9 M (az P t) (some (.bU y k))=.q c r)(hc:c)(hx:Den β H (.bU y k) u) :
  ∃z,(∀w':World,(∀b cs,H b=some cs→∃T z,w'.heap[b]?=some (.cells cs T z))→(Instr.loadAt t u).run P w'=.ok z w')∧Den β H r z:=by
 unfold g9 at h;split at h
 ·rename_i hx';cases hx'
 ·rename_i ti x j hti he;cases he;simp only[Den]at hx;obtain⟨b,o,cs,v,rfl,h2,h3,h4⟩:=hx;simp only[dF.q.injEq]at h;obtain⟨rfl,rfl⟩:=h;obtain⟨z,hz1,hz2⟩:=si (P:=P) hti (b:=b) (o:=o) (j:=k) (Den.up h3 (β':=β) (fun _ _ h=>by simp[lF]at h) (fun _ _ h=>h)) hc.1 h4 hc.2;refine⟨z,fun w' hw'=>?_,hz2⟩;obtain⟨T,z',hb⟩:=hw' b cs h2;simp only[Instr.loadAt,Instr.sureAddr,Sem.run_bind,Sem.run_pure,Result.andThen_ok];exact hz1 w' _ _ hb
 ·cases h
theorem GQ{d:TypeDesc}{fs:List (Nat × Nat × TypeId)}(h:TK.st fs=tk P d):∃a,d=.struct a∧fs=a.toList.map fun f=>(f.offset,GV P f.type,f.type):=by
 cases d<;>simp[tk]at h;exact⟨_,rfl,h⟩
theorem ka{d:TypeDesc}{e:TypeId}(h:TK.sl e=tk P d):d=.slice e:=by
 cases d<;>simp[tk]at h;rw[h]
theorem wZ{d:TypeDesc}(h:TK.str=tk P d):d=.string:=by
 cases d<;>simp[tk]at h;rfl
theorem pJ{β:bO}{H:Hp}{s:Nat}:∀{es:List SV} {vs:List Value},aU β H s es vs→es.all nN=true→vs=(es.map uK).map (Value.int .u8)∧(es≠[]→s=1)
 | [],vs,h,_=>by simp only[aU]at h;simp[h]
 | x::es,vs,h,hb=>by
  simp only[aU]at h;obtain⟨v,r,rfl,h2,h3,h4⟩:=h;simp only[List.all_cons,Bool.and_eq_true]at hb;obtain⟨ih, -⟩:=pJ h4 hb.2;have hx:=hb.1;unfold nN at hx;split at hx
  ·rename_i n;simp only[Den]at h3;obtain⟨rfl, -⟩:=h3;simp only[Value.cells]at h2 ⊢;refine⟨?_,fun _=>by simpa using h2.symm⟩;rw[ih];simp[uK]
  ·cases hx
theorem tc{P:Program}{w:World}{src dst el:TypeId}{es:List SV}{b o c:Nat}{cs:Array Value}{T:TypeId}{z:Nat × Nat}(hs:P.underlying src=some (.slice el))(he:P.underlying el=some (.int .u8))(hd:P.underlying dst=some .string)
  (hb:w.heap[b]?=some (.cells cs T z)) (hq:∀i,i<es.length→cs[o+i]?=((es.map uK).map (Value.int .u8))[i]?) :
  (convert src dst (.slice (some ⟨b,o,none⟩) es.length c)).run P w=.ok (.string (strOf es)) w:=by
 refine run_convert_bytes_arg w src el hs he b o es.length c (es.map uK) (by simp) (fun i hi=>?_) dst hd;rw[cell_of hb,hq i hi];simp[hi]
theorem Ju(hW:cv C β H M w){src dst el:TypeId}{x:Option SV}{u:Value}(hs:P.underlying src=some (.slice el))(hd:P.underlying dst=some .string)(h:x8 M (az P el) x=.q c r)(hc:c)(hx:∀s,x=some s→Den β H s u) :
  ∃z,(convert src dst u).run P w=.ok z w∧Den β H r z∧((∀k i n,x≠some (.view k i n))→∀w':World,(∀b cs,H b=some cs→∃T z,w'.heap[b]?=some (.cells cs T z))→(convert src dst u).run P w'=.ok z w'):=by
 have hel:∀a b z,az P el=some ⟨.int .u8,a,b,z⟩→P.underlying el=some (.int .u8):=fun a b z hte=>by
  obtain⟨i1,d1,z1,ht1⟩:=ay hte;have hk:=ht1.k;have:d1=.int .u8:=by cases d1<;>simp[tk]at hk;rw[hk]
  rw[←this];exact ht1.under
 unfold x8 at h;split at h
 ·rename_i es hte;have he:=hel _ _ _ hte;have hu:=hx _ rfl;simp only[dF.q.injEq]at h;obtain⟨rfl,rfl⟩:=h;simp only[Den]at hu;rcases hu with⟨rfl,a0,c0,rfl⟩ | ⟨b,o,cp,s,cs,vs,rfl,h2,h3,h4,h5⟩
  ·have go:∀w':World,(convert src dst (.slice a0 0 c0)).run P w'=.ok (.string ByteArray.empty) w':=fun w'=>by
    rw[run_convert_bytes_string w' src dst el _ 0 c0 hs he hd];cases a0<;>simp[Conv.bytesToString,loadCells,loadCellsFrom]<;>rfl
   exact⟨_,go w,bJ rfl,fun _ w' _=>go w'⟩
  ·obtain⟨hvs,hs1⟩:=pJ h4 hc;have hq:∀i,i<es.length→cs[o+i]?=((es.map uK).map (Value.int .u8))[i]?:=fun i hi=>by
    rw[←hvs];exact h5 i (by rw[hvs];simpa using hi)
   have go:∀w':World,(∀b cs,H b=some cs→∃T z,w'.heap[b]?=some (.cells cs T z))→(convert src dst (.slice (some ⟨b,o,none⟩) es.length cp)).run P w'=.ok (.string (strOf es)) w':=fun w' hw'=>by
    obtain⟨T,z,hb⟩:=hw' b cs h3;exact tc hs he hd hb hq
   exact⟨_,go w hW.inv,bJ rfl,fun _=>go⟩
 ·rename_i k i n hte;have he:=hel _ _ _ hte;have hu:=hx _ rfl;split at h
  ·rename_i e hte';simp only[dF.q.injEq]at h;obtain⟨rfl,rfl⟩:=h;obtain⟨c1,c2,c3⟩:=hc;simp only[Den]at hu;rcases hu with⟨h1,rfl,rfl,rfl⟩ | ⟨d,cp,o,h1,h2,h3,h4,rfl⟩
   ·exact⟨_,run_convert_bytes_nil w src el hs he 0 0 dst hd,by rw[List.take_zero];exact bJ rfl,fun hn=>absurd rfl (hn _ _ _)⟩
   ·rcases hW.da k e (aL hte')with⟨g1,_⟩ | ⟨d',cs,T,vs,g1,g2,g3,g4,g5,g6,g7,g8⟩ | ⟨d',ms,g1,g2,g3,g4⟩
    rotate_left 2
    ·omega
    ·rw[h1]at g1;simp at g1
    ·rw[h1]at g1;simp only[al0]at g1;subst g1;have hlen:((e.es.drop i).take n).length=n:=by simp;omega
     have hden:=(g5.drop i).take n;rw[c1,ami,ami]at hden;obtain⟨hvs, -⟩:=pJ hden c3;have hvl:=g5.length;rw[c1,ami]at hvl;have:=tc (w:=w) (c:=cp) (o:=o) hs he hd g3 (es:=(e.es.drop i).take n) (fun j hj=>by
      rw[hlen]at hj;have ho:=h4 (by omega);rw[←hvs,ho,g2,c1,ami,amd hj,ame];exact g7 _ (by omega))
     rw[hlen]at this;exact⟨_,this,bJ rfl,fun hn=>absurd rfl (hn _ _ _)⟩
  ·cases h
 ·rename_i hte;have he:=hel _ _ _ hte;have hu:=hx _ rfl;simp only[Den]at hu;simp only[dF.q.injEq]at h;obtain⟨-,rfl⟩:=h;rw[hu.1];exact⟨_,run_convert_bytes_nil w src el hs he 0 0 dst hd,bJ rfl,fun _ w' _=>run_convert_bytes_nil w' src el hs he 0 0 dst hd⟩
 ·cases h
theorem CC{d:TypeDesc}{k:IntKind}(h:TK.int k=tk P d):d=.int k:=by
 cases d<;>simp[tk]at h;rw[h]
theorem pe{t:TypeId}(h:GV P t≠0):(sizeOf t).run P w=.ok (GV P t) w:=by
 unfold GV at h ⊢;cases hi:P.info? t with
 | none=>rw[hi]at h;simp at h
 | some i=>simp[sizeOf,typeInfo,hi]
theorem wj{t:TypeId}{f:Nat}{x:Option SV}{u:Value}(h:fA (az P t) x f=.q c r)(_:c)(hx:∀s,x=some s→Den β H s u) :
  ∃z,(∀w,(Instr.fieldAt t u f).run P w=.ok z w)∧Den β H r z:=by
 unfold fA at h;have key:∀fs sz e9 z off s ag (b o:Nat) (w:World),az P t=some ⟨.st fs,sz,e9,z⟩→mW fs f=some (off,s,ag)→s≠0 →
   (Instr.fieldAt t (.pointer (some ⟨b,o,none⟩)) f).run P w=.ok (.pointer (some ⟨b,o+off,none⟩)) w:=fun fs sz e9 z off s ag b o w hti hf hs=>by
  obtain⟨i,d,zv,ht⟩:=ay hti;obtain⟨a,rfl,rfl⟩:=GQ ht.k;rw[zF,amf]at hf;cases ha:a.toList[f]? with
  | none=>rw[ha]at hf;simp at hf
  | some fl =>
   rw[ha]at hf;simp only[aml,al0,Prod.mk.injEq]at hf;obtain⟨rfl,rfl, -⟩:=hf;have ha':a[f]?=some fl:=by rw[←ama];exact ha
   simp only[Instr.fieldAt,Sem.run_bind,ht.aK,Result.andThen_ok,ha',Instr.sureAddr,Sem.run_pure,fieldPlace,pe hs,if_neg hs,Addr.add_eq]
 split at h
 ·rename_i fs _ _ _ k i j hti;have hu:=hx _ rfl;simp only[Den]at hu;obtain⟨d,hd,rfl⟩:=hu;split at h
  ·rename_i off sz ag hf;split at h
   ·cases h
   ·rename_i hs;simp only[dF.q.injEq]at h;obtain⟨-,rfl⟩:=h;exact⟨_,fun w=>key _ _ _ _ _ _ _ _ _ w hti hf hs,by simp only[Den];exact⟨d,hd,by rw[amj]⟩⟩
  ·cases h
 ·rename_i fs _ _ _ x j hti;have hu:=hx _ rfl;simp only[Den]at hu;obtain⟨b,o,cs,v,rfl,h2,h3,h4⟩:=hu;split at h
  ·rename_i off sz ag hf;split at h
   ·cases h
   ·rename_i hs;simp only[dF.q.injEq]at h;obtain⟨-,rfl⟩:=h;exact⟨_,fun w=>key _ _ _ _ _ _ _ _ _ w hti hf hs,by simp only[Den];exact⟨b,o,cs,v,by rw[amj],h2,h3,h4⟩⟩
  ·cases h
 ·cases h
theorem Dq{t:TypeId}{f:Nat}{x:Option SV}{u:Value}(h:zN P (az P t) x f=.q c r)(hc:c)(hx:∀s,x=some s→Den β H s u) :
  ∃z,(∀w,(Instr.field t u f).run P w=.ok z w)∧Den β H r z:=by
 unfold zN at h;split at h
 ·rename_i fs sz' e9 z' l hti;have hu:=hx _ rfl;simp only[Den]at hu;obtain⟨vs,rfl,hvs⟩:=hu;split at h
  ·rename_i off sz ft hf;obtain⟨i,d,zv,ht⟩:=ay hti;obtain⟨a,rfl,rfl⟩:=GQ ht.k;rw[zF,amf]at hf;cases ha:a.toList[f]? with
   | none=>rw[ha]at hf;simp at hf
   | some fl =>
    rw[ha]at hf;simp only[aml,al0,Prod.mk.injEq]at hf;obtain⟨rfl,rfl,rfl⟩:=hf;have ha':a[f]?=some fl:=by rw[←ama];exact ha
    split at h
    ·rename_i tf htf;obtain⟨i2,d2,z2,ht2⟩:=ay htf;have hlen:=hvs.length;split at h
     ·rename_i hag;simp only[dF.q.injEq]at h;obtain⟨rfl,rfl⟩:=h;refine⟨_,fun w=>by simp[Instr.field,ht.aK,ha',asAgg,part,ht2.Cw,hag,ht2.eK];rfl,?_⟩;simp only[Den];refine⟨(vs.drop fl.offset).take tf.size,?_,(hvs.drop _).take _⟩;congr 1
     ·rename_i hag;simp only[dF.q.injEq]at h;obtain⟨rfl,rfl⟩:=h;obtain⟨v,hv1,_,hv3⟩:=hvs.get (i:=fl.offset) hc;refine⟨v,fun w=>?_,hv3⟩;simp[Instr.field,ht.aK,ha',asAgg,part,ht2.Cw,hag,hv1]
    ·cases h
  ·cases h
 ·cases h
theorem k6(k:IntKind)(n:Int):(asIntOf (.int k n)).run P w=.ok (k,n) w:=by simp[asIntOf]
theorem vj(hZ:∀k e d,M[k]?=some (some e)→β k=some (some d)→d.sz=e.sz∨(d.sz=1∧d.Gr=0)){t:TypeId}{x i:Option SV}{u v:Value}(h:fu P M (az P t) x i=.q c r)(hc:c)(hx:∀s,x=some s→Den β H s u)(hi:∀s,i=some s→Den β H s v) :
  ∃z,(∀w,(Instr.indexAt t u v).run P w=.ok z w)∧Den β H r z:=by
 unfold fu at h;split at h
 ·rename_i el _ _ _ es k n hti;have hv:=hi _ rfl;simp only[Den]at hv;obtain⟨rfl, -⟩:=hv;have hu:=hx _ rfl;obtain⟨ii,d,zv,ht⟩:=ay hti;obtain rfl:=ka ht.k;split at h
  ·rename_i te hte;obtain⟨i2,d2,z2,ht2⟩:=ay hte;simp only[dF.q.injEq]at h;obtain⟨rfl,rfl⟩:=h;obtain⟨h1,h2,h3,h4⟩:=hc;have aF:n.toNat<es.length:=by omega
   simp only[Den]at hu;rcases hu with⟨he, -⟩ | ⟨b,o,c',s,cs,vs,rfl,g2,g3,g4,g5⟩
   ·rw[he]at aF;simp at aF
   ·obtain⟨y,hy1,hy2,hy3⟩:=g4.get aF;have hs:s=te.size:=by
     rw[←h3,←hy2];exact(hy1.nH).resolve_left (fun⟨l,e⟩=>by rw[e]at h4;simp[SV.aM]at h4)
    refine⟨_,fun w=>by simp[Instr.indexAt,k6,ht.aK,h1,h2,ht2.eK,Addr.add_eq];rfl,?_⟩;simp only[Den];refine⟨b,o+n.toNat*te.size,cs,y,by simp,g3,hy1,fun q hq=>?_⟩;rw[hy2]at hq;have hl:=g4.length;rw[←hy3 q hq,←hs,amj];refine g5 _ ?_;rw[hl]
    calc n.toNat*s+q<n.toNat*s+s:=by omega
     _=(n.toNat+1)*s:=by rw[alV,alW]
     _≤es.length*s:=amh _ aF
  ·cases h
 ·rename_i el _ _ _ k i0 m k' n hti;have hv:=hi _ rfl;simp only[Den]at hv;obtain⟨rfl, -⟩:=hv;have hu:=hx _ rfl;obtain⟨ii,d,zv,ht⟩:=ay hti;obtain rfl:=ka ht.k;split at h
  ·rename_i te e hte he;obtain⟨i2,d2,z2,ht2⟩:=ay hte;split at h
   ·rename_i pW;simp only[dF.q.injEq]at h;obtain⟨rfl,rfl⟩:=h;obtain⟨h1,h2⟩:=hc;simp only[Den]at hu;rcases hu with⟨_,_,hm,_⟩ | ⟨d,c',o,g1,g2,g3,g4,rfl⟩
    ·omega
    ·have ho:=g4 (by omega);have hds:d.sz=te.size:=by
      rcases hZ k e d (aL he) g1 with h' | ⟨h',h''⟩
      ·exact h'.trans pW
      ·rw[h',h'']at g3;omega
     refine⟨_,fun w=>by simp[Instr.indexAt,k6,ht.aK,h1,h2,ht2.eK,Addr.add_eq];rfl,?_⟩;simp only[Den];exact⟨d,g1,by rw[ho,hds,alV];simp⟩
   ·cases h
  ·cases h
 ·cases h
theorem Dc{t:TypeId}{x i:Option SV}{u v:Value}(h:qD (az P t) x i=.q c r)(hc:c)(hx:∀s,x=some s→Den β H s u)(hi:∀s,i=some s→Den β H s v) :
  ∃z,(∀w,(Instr.index t u v).run P w=.ok z w)∧Den β H r z:=by
 unfold qD at h;split at h
 ·rename_i s k n hti;have hv:=hi _ rfl;simp only[Den]at hv;obtain⟨rfl, -⟩:=hv;have hu:=hx _ rfl;simp only[Den]at hu;obtain⟨rfl, -⟩:=hu;obtain⟨ii,d,zv,ht⟩:=ay hti;obtain rfl:=wZ ht.k;simp only[dF.q.injEq]at h;obtain⟨rfl,rfl⟩:=h;obtain⟨h1,h2⟩:=hc;have aF:n.toNat<s.size:=by omega
  have hg:s[n.toNat]?=some (eG s n.toNat):=by
   rw[getElem?_pos s n.toNat aF];congr 1;have hlt':n.toNat<s.data.size:=aF;simp only[eG,Array.getD_eq_getD_getElem?,Array.getElem?_eq_getElem hlt',Option.getD_some];rfl
  exact⟨_,fun w=>by simp[Instr.index,k6,ht.aK,h1,hg],bJ rfl⟩
 ·cases h
theorem kB{ρ:Operand→Value}{fr:List (Nat × SV)}(hρ:∀o s,ev fr o=some s→Den β H s (ρ o)){x:Option Operand}{d n:Int}(h:fv (x.map (ev fr)) d=some n) :
  (x=none∧n=d)∨∃o k,x=some o∧ρ o=.int k n:=by
 cases x with
 | none=>simp only[amm,fv,al0]at h;exact .inl ⟨rfl,h.symm⟩
 | some o =>
  right;simp only[aml]at h;unfold fv at h;split at h
  ·rename_i he;cases he
  ·rename_i k m he;simp only[al0]at he h;subst h;have:=hρ o _ he;simp only[Den]at this;exact⟨o,k,rfl,this.1⟩
  ·cases h
theorem run_sliceBound{v:Value}{k:IntKind}{n:Int}{y:Nat}{code:BoundsCode}(hv:v=.int k n)(h0:0≤n)(h1:n≤y):(Instr.sliceBound v y code).run P w=.ok n.toNat w:=by
 subst hv;simp[Instr.sliceBound,k6,h0,h1]
theorem fV{ρ:Operand→Value}{fr:List (Nat × SV)}(hρ:∀o s,ev fr o=some s→Den β H s (ρ o)){isSl:Bool}{lo hi mx:Option Operand}{len cap:Nat}{l h:Int}
  (hl:fv (lo.map (ev fr)) 0=some l) (hh:fv (hi.map (ev fr)) len=some h) (h0:0≤l) (h1:l≤h) (h2:h≤len) (h3:len≤cap)
  (hm:mx.isSome=true→fv (mx.map (ev fr)) 0=some h∧hi.isSome=true) :
  (Instr.sliceBounds isSl len cap (lo.map ρ) (hi.map ρ) (mx.map ρ)).run P w=.ok (l.toNat,h.toNat,if mx.isSome=true then h.toNat else cap) w:=by
 have eb:∀(o:Operand) (k:IntKind) (n:Int),ρ o=.int k n→0≤n→∀(y:Nat) (code:BoundsCode),n≤y→(Instr.sliceBound (ρ o) y code).run P w=.ok n.toNat w :=
  fun o k n ho hn y code hy=>run_sliceBound ho hn hy
 cases mx with
 | none =>
  rcases kB hρ hh with⟨rfl,rfl⟩ | ⟨o,k,rfl,ho⟩<;>rcases kB hρ hl with⟨rfl,rfl⟩ | ⟨o',k',rfl,ho'⟩
  ·simp[Instr.sliceBounds]
  ·have e2:=eb o' k' l ho' h0 len .sliceB (by omega);simp[Instr.sliceBounds,e2]
  ·have e1:=eb o k h ho (by omega) cap (if isSl then .sliceAcap else .sliceAlen) (by omega);simp only[Instr.sliceBounds,amm,aml,Sem.run_bind,Sem.run_pure,Result.andThen_ok,e1];simp
  ·have e1:=eb o k h ho (by omega) cap (if isSl then .sliceAcap else .sliceAlen) (by omega);have e2:=eb o' k' l ho' h0 h.toNat .sliceB (by omega);simp only[Instr.sliceBounds,amm,aml,Sem.run_bind,Sem.run_pure,Result.andThen_ok,e1];simp[e2]
 | some om =>
  obtain⟨hm1,hm2⟩:=hm rfl;rcases kB hρ hm1 with⟨e,_⟩ | ⟨om',km,e,hom⟩
  ·cases e
  ·simp only[al0]at e;subst e;have e0:=eb om km h hom (by omega) cap (if isSl then .slice3Acap else .slice3Alen) (by omega);rcases kB hρ hh with⟨rfl,rfl⟩ | ⟨o,k,rfl,ho⟩
   ·simp at hm2
   ·have e1:=eb o k h ho (by omega) h.toNat .slice3B (by omega);rcases kB hρ hl with⟨rfl,rfl⟩ | ⟨o',k',rfl,ho'⟩
    ·simp only[Instr.sliceBounds,amm,aml,Sem.run_bind,Sem.run_pure,Result.andThen_ok,e0,e1];simp
    ·have e2:=eb o' k' l ho' h0 h.toNat .slice3C (by omega);simp only[Instr.sliceBounds,aml,Sem.run_bind,Sem.run_pure,Result.andThen_ok,e0,e1];simp[e2]
theorem CG(hZ:∀k e d,M[k]?=some (some e)→β k=some (some d)→d.sz=e.sz∨(d.sz=1∧d.Gr=0)){ρ:Operand→Value}{fr:List (Nat × SV)}(hρ:∀o s,ev fr o=some s→Den β H s (ρ o)){t:TypeId}{x:Option SV}{lo hi mx:Option Operand}{u:Value}
  (h:jv P M (az P t) x (lo.map (ev fr)) (hi.map (ev fr)) (mx.map (ev fr))=.q c r) (hc:c) (hx:∀s,x=some s→Den β H s u) (hmh:mx.isSome=true→hi.isSome=true) :
  ∃z,(∀w,(Instr.sliceAt t u (lo.map ρ) (hi.map ρ) (mx.map ρ)).run P w=.ok z w)∧Den β H r z:=by
 unfold jv at h;split at h
 ·rename_i s hti;have hu:=hx _ rfl;simp only[Den]at hu;obtain⟨rfl, -⟩:=hu;obtain⟨ii,d,zv,ht⟩:=ay hti;obtain rfl:=wZ ht.k;split at h
  ·rename_i l hh hmx hl hhi;have hmx':mx=none:=by cases mx<;>simp at hmx;rfl
   subst hmx';simp only[dF.q.injEq]at h;obtain⟨rfl,rfl⟩:=h;obtain⟨h0,h1,h2⟩:=hc;have hsb:=fun(w:World)=>fV (P:=P) (w:=w) hρ (isSl:=false) (mx:=none) (cap:=s.size) hl hhi h0 h1 h2 (amk _) (by simp);simp only[amm]at hsb;exact⟨_,fun w=>by simp[Instr.sliceAt,Instr.slice,ht.aK,hsb],bJ rfl⟩
  ·cases h
 ·rename_i el _ _ _ es hti;have hu:=hx _ rfl;obtain⟨ii,d,zv,ht⟩:=ay hti;obtain rfl:=ka ht.k;split at h
  ·rename_i l hh te hl hhi hte;obtain⟨i2,d2,z2,ht2⟩:=ay hte;simp only[dF.q.injEq]at h;obtain⟨rfl,rfl⟩:=h;obtain⟨h0,h1,h2,h3,h4⟩:=hc;simp only[amn]at h3;simp only[Den]at hu;rcases hu with⟨rfl,a0,c',rfl⟩ | ⟨b,o,c',s,cs,vs,rfl,g2,g3,g4,g5⟩
   ·have hsb:=fun(w:World)=>fV (P:=P) (w:=w) hρ (isSl:=true) (mx:=mx) (len:=0) (cap:=c') hl hhi h0 h1 (by simpa using h2) (Nat.zero_le _) (fun hm=>⟨h3 hm,hmh hm⟩);simp at h2;have e1:hh.toNat=0:=by omega
    have e2:l.toNat=0:=by omega
    cases a0 with
    | none =>
     refine⟨_,fun w=>by simp[Instr.sliceAt,Instr.slice,ht.aK,hsb,ht2.eK];rfl,?_⟩;simp only[Den];left;simp[e1,e2]
    | some a0 =>
     refine⟨_,fun w=>by simp[Instr.sliceAt,Instr.slice,ht.aK,hsb,ht2.eK];rfl,?_⟩;simp only[Den];left;simp[e1,e2]
   ·have hsb:=fun(w:World)=>fV (P:=P) (w:=w) hρ (isSl:=true) (mx:=mx) (len:=es.length) (cap:=c') hl hhi h0 h1 h2 g2 (fun hm=>⟨h3 hm,hmh hm⟩);refine⟨_,fun w=>by simp[Instr.sliceAt,Instr.slice,ht.aK,hsb,ht2.eK];rfl,?_⟩;simp only[Den];right;have hlen:((es.take hh.toNat).drop l.toNat).length=hh.toNat - l.toNat:=by simp;omega
    by_cases hz:hh.toNat - l.toNat=0
    ·have hnil:(es.take hh.toNat).drop l.toNat=[]:=List.length_eq_zero_iff.1 (by rw[hlen,hz]);rw[hnil];generalize (if mx.isSome=true then hh.toNat else c')=cc;by_cases hcap:cc=l.toNat
     ·exact⟨b,o,cc - l.toNat,s,cs,[],by simp[hz,hcap],by simp,g3,by simp[aU],by simp⟩
     ·exact⟨b,o+l.toNat*te.size,cc - l.toNat,s,cs,[],by simp[hz,hcap,Addr.add_eq],by simp,g3,by simp[aU],by simp⟩
    ·have hne:es≠[]:=by intro e;subst e;simp at h2;omega
     obtain⟨g6,g7⟩:=h4 hne;have hs:s=te.size:=by
      obtain⟨y,hy1,hy2, -⟩:=g4.get (i:=0) (List.length_pos_iff.2 hne);rw[←g6,←hy2];exact(hy1.nH).resolve_left (fun⟨l,e⟩=>by rw[e]at g7;simp[SV.aM]at g7)
     have hcap:(if mx.isSome=true then hh.toNat else c')≠l.toNat:=by split<;>omega
     rw[if_neg hcap];refine⟨b,o+l.toNat*te.size,(if mx.isSome=true then hh.toNat else c') - l.toNat,s,cs,(vs.take (hh.toNat*s)).drop (l.toNat*s),by simp[hlen,Addr.add_eq],by rw[hlen];split<;>omega,g3,(g4.take _).drop _,fun i hi=>?_⟩;simp only[List.length_drop,List.length_take]at hi;rw[ame,amd (by omega),←hs,amj];exact g5 _ (by omega)
  ·cases h
 ·rename_i el _ _ _ k i n hti;have hu:=hx _ rfl;obtain⟨ii,d,zv,ht⟩:=ay hti;obtain rfl:=ka ht.k;split at h
  ·rename_i l hh te e hl hhi hte he;obtain⟨i2,d2,z2,ht2⟩:=ay hte;split at h
   ·rename_i pW;simp only[dF.q.injEq]at h;obtain⟨rfl,rfl⟩:=h;obtain⟨h0,h1,h2,h3⟩:=hc;simp only[amn]at h3;simp only[Den]at hu;rcases hu with⟨g1,rfl,rfl,rfl⟩ | ⟨d,c',o,g1,g2,g3,g4,rfl⟩
    ·have hsb:=fun(w:World)=>fV (P:=P) (w:=w) hρ (isSl:=true) (mx:=mx) (len:=0) (cap:=0) hl hhi h0 h1 (by simpa using h2) (amk _) (fun hm=>⟨h3 hm,hmh hm⟩);refine⟨_,fun w=>by simp[Instr.sliceAt,Instr.slice,ht.aK,hsb,ht2.eK];rfl,?_⟩;simp only[Den];left;simp at h2;have e1:hh.toNat=0:=by omega
     have e2:l.toNat=0:=by omega
     exact⟨g1,by simp[e2],by simp[e1],by simp[e1,e2]⟩
    ·have hsb:=fun(w:World)=>fV (P:=P) (w:=w) hρ (isSl:=true) (mx:=mx) (len:=n) (cap:=c') hl hhi h0 h1 h2 g2 (fun hm=>⟨h3 hm,hmh hm⟩);refine⟨_,fun w=>by simp[Instr.sliceAt,Instr.slice,ht.aK,hsb,ht2.eK];rfl,?_⟩;have hds:d.sz=te.size∨c'=0:=by
      rcases hZ k e d (aL he) g1 with h' | ⟨h',h''⟩
      ·exact .inl (h'.trans pW)
      ·rw[h',h'']at g3;exact .inr (by omega)
     simp only[Den];right;have hcap:(if mx.isSome=true then hh.toNat else c')≤c':=by split<;>omega
     have hmul:(i+l.toNat+((if mx.isSome=true then hh.toNat else c') - l.toNat))*d.sz≤d.Gr :=
      Nat.le_trans (amh _ (by split<;>omega)) g3
     have hge:hh.toNat≤(if mx.isSome=true then hh.toNat else c'):=by split<;>omega
     generalize (if mx.isSome=true then hh.toNat else c')=cc at hcap hmul hge ⊢;by_cases hz:cc=l.toNat
     ·exact⟨d,cc - l.toNat,o,g1,by omega,hmul,fun hne=>absurd (by omega) hne,by simp[hz]⟩
     ·refine⟨d,cc - l.toNat,o+l.toNat*te.size,g1,by omega,hmul,fun hne=>?_,by simp[hz,Addr.add_eq]⟩;rcases hds with hds | hds
      ·rw[g4 (by omega),hds,alV]
      ·exact absurd (by omega) hz
   ·cases h
  ·cases h
 ·cases h
theorem va(v:Value)(off:Nat):∀(l:List Value) (i:Nat) (cs:Array Value),(∀q,l[q]?=v.cells[i+q]?)→off+i+l.length≤cs.size →
  ∃r,(l.zipIdx i).foldl (fun cs (p:Value × Nat)=>cs.setIfInBounds (off+p.2) p.1) cs=r∧r.size=cs.size ∧
   ∀q,r[q]?=if off+i≤q∧q<off+i+l.length then l[q - (off+i)]? else cs[q]?
 | [],i,cs,_,_=>⟨cs,rfl,rfl,fun q=>by rw[if_neg (by simp)]⟩
 | x::l,i,cs,hl,hs=>by
  simp only[al4]at hs;obtain⟨r,h1,h2,h3⟩:=va v off l (i+1) (cs.setIfInBounds (off+i) x) (fun q=>by have:=hl (q+1);simp at this;rw[this];congr 1;omega) (by simp;omega);refine⟨r,by simp only[List.zipIdx_cons,List.foldl_cons];exact h1,by simpa using h2,fun q=>?_⟩;rw[h3];simp only[al4];by_cases hq:q=off+i
  ·subst hq;rw[if_neg (by omega),if_pos (by omega)];simp[Array.getElem?_setIfInBounds_self_of_lt (show off+i<cs.size by omega)]
  ·rw[Array.getElem?_setIfInBounds_ne (Ne.symm hq)];by_cases hq':off+(i+1)≤q∧q<off+(i+1)+l.length
   ·rw[if_pos hq',if_pos (by omega),show q - (off+i)=(q - (off+(i+1)))+1 from by omega];simp
   ·rw[if_neg hq',if_neg (by omega)]
theorem BZ(v:Value)(off:Nat)(cs:Array Value)(hs:off+v.cells.size≤cs.size) :
  (v.cells.zipIdx.foldl (fun cs (p:Value × Nat)=>cs.setIfInBounds (off+p.2) p.1) cs).toList=cs.toList.take off++v.cells.toList++cs.toList.drop (off+v.cells.size):=by
 obtain⟨r,h1,h2,h3⟩:=va v off v.cells.toList 0 cs (fun q=>by simp) (by simpa using hs);have e:v.cells.zipIdx.foldl (fun cs (p:Value × Nat)=>cs.setIfInBounds (off+p.2) p.1) cs=r:=by
  rw[←h1,←Array.foldl_toList];simp[Array.toList_zipIdx]
 rw[e];apply List.ext_getElem?;intro q;rw[ama,h3];simp only[Nat.add_zero,amp];by_cases hq:q<off
 ·rw[if_neg (by omega),amg,alX (by simp;omega),amd hq];simp
 ·rw[amg,alY (by simp;omega)];have hlen:(cs.toList.take off).length=off:=by simp;omega
  rw[hlen];by_cases hq2:q<off+v.cells.size
  ·rw[if_pos (by omega),alX (by simp;omega)]
  ·rw[if_neg (by omega),alY (by simp;omega)];simp only[amp,ame];rw[show off+v.cells.size+(q - off - v.cells.size)=q from by omega];simp
theorem xw{ρ:Operand→Value}{fr:List (Nat × SV)}(hρ:∀o s,ev fr o=some s→Den β H s (ρ o)){fs:List (Nat × Nat × TypeId)}{place:Nat→Option (Nat × Nat)}
  (hp:∀i off sz ft,mW fs i=some (off,sz,ft)→place i=some (off,sz)) :
  ∀(parts:List (Nat × Operand)) (acc:List SV) (cs:Array Value) (l:List SV),jd fs (parts.map fun p=>(p.1,ev fr p.2)) acc=some l→bh β H acc cs.toList →
   ∃cs',Instr.fill place cs (parts.map fun p=>(p.1,ρ p.2))=some cs'∧bh β H l cs'.toList
 | [],acc,cs,l,h,hd=>by
  simp only[List.map_nil,jd,al0]at h;subst h;exact⟨cs,by simp[Instr.fill],hd⟩
 | (i,o)::parts,acc,cs,l,h,hd=>by
  simp only[amc]at h ⊢;cases hx:ev fr o with
  | none=>rw[hx]at h;simp[jd]at h
  | some x =>
   rw[hx]at h;simp only[jd]at h;split at h
   ·rename_i off sz ft hf;split at h
    ·rename_i hc;obtain⟨h1,h2,h3⟩:=hc;have hdx:=hρ o x hx;have hnt:∀l,x≠.bG l:=fun l e=>by subst e;simp[SV.aM]at h2
     have pW:(ρ o).cells.size=x.fj:=hdx.nH.resolve_left fun⟨l,e⟩=>hnt l e;have hlen:=hd.length;have hcs:off+(ρ o).cells.size≤cs.size:=by rw[pW,h1];simp at hlen;omega
     have hfo:=BZ (ρ o) off cs hcs;obtain⟨cs',hc1,hc2⟩:=xw hρ hp parts _ ((ρ o).cells.zipIdx.foldl (fun cs (p:Value × Nat)=>cs.setIfInBounds (off+p.2) p.1) cs) l h (by
      rw[hfo,←h1,←pW];exact((hd.take off).append (hdx.pE hnt)).append (hd.drop _))
     refine⟨cs',?_,hc2⟩;simp only[Instr.fill,hp i off sz ft hf];rw[if_neg (by simp[pW,h1];omega)];exact hc1
    ·cases h
   ·cases h
theorem Cz{ρ:Operand→Value}{fr:List (Nat × SV)}(hρ:∀o s,ev fr o=some s→Den β H s (ρ o)){t:TypeId}{parts:Array (Nat × Operand)}
  (h:ob (az P t) (parts.toList.map fun p=>(p.1,ev fr p.2))=.q c r) :
  ∃z,(∀w,(Instr.build t (parts.map fun(i,x)=>(i,ρ x))).run P w=.ok z w)∧Den β H r z:=by
 unfold ob at h;split at h
 ·rename_i fs _ _ zero hti;split at h
  ·rename_i hall;split at h
   ·rename_i l hl;simp only[dF.q.injEq]at h;obtain⟨-,rfl⟩:=h;obtain⟨ii,d,zv,ht⟩:=ay hti;obtain⟨a,rfl,rfl⟩:=GQ ht.k;have hz:bh β H zero zv.cells.toList:=by
     have:=ht.zero;simp only at this;rw[this];exact wC _ ht.cells
    have hpl:∀(w:World) (l:List Field),(∀f∈l,GV P f.type≠0)→(l.mapM fun f=>Prod.mk f.offset <$> sizeOf f.type:Sem (List (Nat × Nat))).run P w=.ok (l.map fun f=>(f.offset,GV P f.type)) w:=by
     intro w l
     induction l with
     | nil=>intro _;simp
     | cons f l ih =>
      intro hall;have hs:=pe (P:=P) (w:=w) (hall f (by simp));have:=ih fun g hg=>hall g (by simp[hg]);simp[hs,this]
    have hpa:=fun(w:World)=>hpl w a.toList (fun f hf=>by
     simp only[List.all_eq_true,List.mem_map,bne_iff_ne,ne_eq]at hall;exact hall _ ⟨f,hf,rfl⟩)
    obtain⟨cs',hc1,hc2⟩:=xw hρ (place:=fun i=>(a.map fun f=>(f.offset,GV P f.type))[i]?) (fun i off sz ft hf=>by
     rw[zF,amf]at hf;rw[←ama,Array.toList_map,amf];cases hb:a.toList[i]? with
     | none=>rw[hb]at hf;simp at hf
     | some f =>
      rw[hb]at hf;simp only[aml,al0,Prod.mk.injEq]at hf ⊢;obtain⟨rfl,rfl, -⟩:=hf;exact⟨rfl,rfl⟩) parts.toList zero zv.cells l hl hz
    refine⟨.agg cs',fun w=>?_,by simp only[Den];exact⟨cs'.toList,by simp,hc2⟩⟩;have hmp:(parts.map fun(i,x)=>(i,ρ x)).toList=parts.toList.map fun p=>(p.1,ρ p.2):=by simp
    have hpa':∀w,(a.mapM fun f=>Prod.mk f.offset <$> sizeOf f.type:Sem (Array (Nat × Nat))).run P w=.ok (a.map fun f=>(f.offset,GV P f.type)) w:=by
     intro w;rw[Array.mapM_eq_mapM_toList];simp only[Sem.run_map,hpa,Result.andThen_ok];congr 1;apply amq;simp
    simp only[Instr.build,Sem.run_bind,ht.jY,ht.aK,Result.andThen_ok,hmp,bind_pure_comp,hpa',hc1,Sem.run_pure]
   ·cases h
  ·cases h
 ·cases h
theorem Dl{op:BinOp}{t:TypeId}{x:Option SV}{ox:Operand}{u:Value}(h:jt op (az P t) x=.q c r)(hx:∀s,x=some s→Den β H s u) :
  ∃z,(∀w,(do eqGuard op t ox (.const .nilIface) u .nilIface;binOp op t u .nilIface:Sem Value).run P w=.ok z w)∧Den β H r z:=by
 have hif:∀a b z,az P t=some ⟨.iface,a,b,z⟩→P.underlying t=some (.interface (P.methodsAt t)):=fun a b z hte=>by
  obtain⟨i1,d1,z1,ht1⟩:=ay hte;have hk:=ht1.k;have hu:=ht1.under;cases d1<;>simp[tk]at hk;rw[hu];simp[Program.methodsAt,hu]
 have nn:(eqGuard op t ox (.const .nilIface) .nilIface .nilIface)=pure ():=by cases op<;>cases ox<;>rfl
 have nh:∀q v,(eqGuard op t ox (.const .nilIface) (.iface q v) .nilIface)=pure ():=fun q v=>by cases op<;>rfl
 unfold jt at h;split at h
 ·rename_i hti;have ht:=hif _ _ _ hti;have hu:=hx _ rfl;simp only[Den]at hu;rw[hu.1];simp only[dF.q.injEq]at h;obtain⟨-,rfl⟩:=h;exact⟨.bool true,fun w=>by rw[nn];simp[run_eql_nil_nil w t ht],bJ rfl⟩
 ·rename_i hti;have ht:=hif _ _ _ hti;have hu:=hx _ rfl;simp only[Den]at hu;rw[hu.1];simp only[dF.q.injEq]at h;obtain⟨-,rfl⟩:=h;exact⟨.bool false,fun w=>by rw[nn];simp[run_neq_nil_nil w t ht],bJ rfl⟩
 ·rename_i hti;have ht:=hif _ _ _ hti;have hu:=hx _ rfl;simp only[Den]at hu;obtain⟨v,rfl,_⟩:=hu;simp only[dF.q.injEq]at h;obtain⟨-,rfl⟩:=h;exact⟨.bool false,fun w=>by rw[nh];simp[run_eql_held_nil w t _ _ ht],bJ rfl⟩
 ·rename_i hti;have ht:=hif _ _ _ hti;have hu:=hx _ rfl;simp only[Den]at hu;obtain⟨v,rfl,_⟩:=hu;simp only[dF.q.injEq]at h;obtain⟨-,rfl⟩:=h;exact⟨.bool true,fun w=>by rw[nh];simp[run_neq_held_nil w t _ _ ht],bJ rfl⟩
 ·rename_i hti;have ht:=hif _ _ _ hti;have hu:=hx _ rfl;simp only[Den]at hu;obtain⟨b,_,rfl⟩:=hu;simp only[dF.q.injEq]at h;obtain⟨-,rfl⟩:=h;exact⟨.bool false,fun w=>by rw[nh];simp[run_eql_held_nil w t _ _ ht],bJ rfl⟩
 ·rename_i hti;have ht:=hif _ _ _ hti;have hu:=hx _ rfl;simp only[Den]at hu;obtain⟨b,_,rfl⟩:=hu;simp only[dF.q.injEq]at h;obtain⟨-,rfl⟩:=h;exact⟨.bool true,fun w=>by rw[nh];simp[run_neq_held_nil w t _ _ ht],bJ rfl⟩
 ·cases h
theorem sB(hZ:∀k e d,M[k]?=some (some e)→β k=some (some d)→d.sz=e.sz∨(d.sz=1∧d.Gr=0)){n:Nat}{fr:List (Nat × SV)}{a:Act}(hF:gI β H n fr a){o:Oper}(h:xA P M fr o.op=.q c r)(hc:c)(hl:∀t x,o.op≠.load t x)(hcv:∀s d x,o.op=.convert s d x→∀el a b z,az P s≠some ⟨.sl el,a,b,z⟩) :
  ∃v,(∀w,(execOp a.eval o).run P w=.ok (.value v) w)∧Den β H r v:=by
 have hρ:=fun o=>iJ hF o;have lift:∀{s:Sem Value},(∃z,(∀w,s.run P w=.ok z w)∧Den β H r z)→∃v,(∀w,(do pure (Next.value (←s)):Sem Next).run P w=.ok (.value v) w)∧Den β H r v:=fun⟨z,h1,h2⟩=>⟨z,fun w=>by simp[h1],h2⟩
 obtain⟨dst,op,type,pos,after,guard⟩:=o;cases op<;>simp only[xA]at h<;>simp only[execOp]
 case move x =>
  split at h
  ·rename_i y hy;simp only[dF.q.injEq]at h;obtain⟨-,rfl⟩:=h;exact⟨_,fun _=>rfl,hρ x _ hy⟩
  ·cases h
 case assign x =>
  split at h
  ·rename_i y hy;simp only[dF.q.injEq]at h;obtain⟨-,rfl⟩:=h;exact⟨_,fun _=>rfl,hρ x _ hy⟩
  ·cases h
 case pick cd x y =>
  unfold wT at h;split at h
  ·rename_i hcd;have hu:=hρ cd _ hcd;simp only[Den]at hu;split at h
   ·rename_i s hs;simp only[dF.q.injEq]at h;obtain⟨-,rfl⟩:=h;exact⟨a.eval x,fun w=>by rw[hu.1];simp[asBool],hρ x _ hs⟩
   ·cases h
  ·rename_i hcd;have hu:=hρ cd _ hcd;simp only[Den]at hu;split at h
   ·rename_i s hs;simp only[dF.q.injEq]at h;obtain⟨-,rfl⟩:=h;exact⟨a.eval y,fun w=>by rw[hu.1];simp[asBool],hρ y _ hs⟩
   ·cases h
  ·cases h
 case binOp op t x y t' =>
  unfold rU at h;split at h
  ·rename_i a b hx hy;exact lift (Dh h (hρ x _ hx) (hρ y _ hy))
  ·unfold mF at h;split at h
   ·rename_i hy;have hy':y=.const .nilIface:=by
     unfold isNil at hy;split at hy
     ·rfl
     ·cases hy
    subst hy';exact lift (Dl h (hρ x))
   ·exact lift (HH h hc (hρ x) (hρ y))
 case unOp op t x =>
  unfold GC at h;split at h
  ·rename_i k m hx;have hu:=hρ x _ hx;simp only[Den]at hu;simp only[dF.q.injEq]at h;obtain⟨-,rfl⟩:=h;exact lift ⟨_,fun w=>by rw[hu.1];simp[Op.unary,Op.intArith],bJ rfl⟩
  ·rename_i b hx;have hu:=hρ x _ hx;simp only[Den]at hu;simp only[dF.q.injEq]at h;obtain⟨-,rfl⟩:=h;exact lift ⟨_,fun w=>by rw[hu.1];simp[Op.unary],bJ rfl⟩
  ·cases h
 case convert s d x =>
  unfold py at h;split at h
  ·rename_i hts _;exact absurd hts (hcv _ _ _ rfl _ _ _ _)
  unfold zx at h;split at h
  ·rename_i ti k _ _ _ k' m hti htj hx;have hu:=hρ x _ hx;simp only[Den]at hu;simp only[dF.q.injEq]at h;obtain⟨-,rfl⟩:=h;obtain⟨i1,d1,z1,ht1⟩:=ay htj;obtain⟨i2,d2,z2,ht2⟩:=ay hti;obtain rfl:=CC ht1.k;exact lift ⟨_,fun w=>by rw[hu.1];simp[convert,ht1.aK,ht2.aK,Conv.intToInt],bJ rfl⟩
  ·cases h
 case nilCheck x =>
  unfold Be at h;split at h
  ·rename_i k i j hx;have hu:=hρ x _ hx;simp only[dF.q.injEq]at h;obtain⟨-,rfl⟩:=h;have hu':=hu;simp only[Den]at hu;obtain⟨d,_,hu2⟩:=hu;rw[hu2]at hu' ⊢;exact⟨_,fun _=>rfl,hu'⟩
  ·rename_i y j hx;have hu:=hρ x _ hx;simp only[dF.q.injEq]at h;obtain⟨-,rfl⟩:=h;have hu':=hu;simp only[Den]at hu;obtain⟨b,o,cs,v,hu2,_⟩:=hu;rw[hu2]at hu' ⊢;exact⟨_,fun _=>rfl,hu'⟩
  ·rename_i t y hx;have hu:=hρ x _ hx;simp only[dF.q.injEq]at h;obtain⟨-,rfl⟩:=h;have hu':=hu;simp only[Den]at hu;obtain⟨v,hu2,_⟩:=hu;rw[hu2]at hu' ⊢;exact⟨_,fun _=>rfl,hu'⟩
  ·cases h
 case extract x i =>
  unfold oM at h;split at h
  ·rename_i l hx;have hu:=hρ x _ hx;simp only[Den]at hu;obtain⟨vs,hu1,hu2⟩:=hu;simp only[dF.q.injEq]at h;obtain⟨rfl,rfl⟩:=h;obtain⟨v,hv1,hv2⟩:=hu2.get hc;exact lift ⟨v,fun w=>by rw[hu1];simp[Instr.extract,hv1],hv2⟩
  ·cases h
 case field t x f=>exact lift (Dq h hc (hρ x))
 case fieldAddr t x f=>exact lift (wj h hc (hρ x))
 case indexAddr t x i=>exact lift (vj hZ h hc (hρ x) (hρ i))
 case index t x i=>exact lift (Dc h hc (hρ x) (hρ i))
 case load t x=>exact absurd rfl (hl t x)
 case slice t x lo hi mx =>
  split at h
  ·cases h
  ·rename_i hm;exact lift (CG hZ hρ h hc (hρ x) (fun h1=>by cases hi with | none=>simp[h1]at hm | some _=>rfl))
 case makeInterface t x =>
  unfold um at h;split at h
  ·cases h
  ·rename_i ti y hne hti hy;simp only[dF.q.injEq]at h;obtain⟨-,rfl⟩:=h;obtain⟨i1,d1,z1,ht1⟩:=ay hti;refine lift ⟨.iface t (a.eval x),fun w=>?_,by simp only[Den];exact⟨_,rfl,hρ x _ hy⟩⟩;simp only[Instr.makeInterface,Sem.run_bind,ht1.aK,Result.andThen_ok];cases d1<;>simp;obtain⟨k,s,b,z⟩:=ti;have:=ht1.k;simp[tk]at this;subst this;exact hne _ _ _ rfl
  ·cases h
 case build t parts=>exact lift (Cz hρ h)
 case call cl =>
  obtain⟨callee,args,ts⟩:=cl;cases callee with
  | builtin b =>
   change oB P b ts (args.toList.map (ev fr))=dF.q c r at h;simp only[resolve,Sem.run_bind,Sem.run_pure,Result.andThen_ok,invoke];have ext:∀{s:Sem Value},(∃z,(∀w,s.run P w=.ok z w)∧Den β H r z)→∃v,(∀w,(do pure (Next.value (←s)):Sem Next).run P w=.ok (.value v) w)∧Den β H r v:=fun⟨z,h1,h2⟩=>⟨z,fun w=>by simp[h1],h2⟩
   unfold oB at h;split at h
   ·rename_i x hxs;obtain⟨o,ho,rfl⟩:∃o,args.toList=[o]∧ev fr o=x:=by
     cases ha:args.toList with
     | nil=>rw[ha]at hxs;simp at hxs
     | cons o l=>cases l with
      | nil=>rw[ha]at hxs;exact⟨o,rfl,by simpa using hxs⟩
      | cons o' l=>rw[ha]at hxs;simp at hxs
    have harg:args=#[o]:=by apply amq;simpa using ho
    subst harg;simp only[builtin];refine ext ?_;unfold m4 at h;cases ht0:ts[0]? with
    | none=>rw[ht0]at h;simp at h
    | some t0 =>
     rw[ht0]at h;simp only[amo]at h;split at h
     ·rename_i hti hx;have hu:=hρ o _ hx;simp only[Den]at hu;simp only[dF.q.injEq]at h;obtain⟨-,rfl⟩:=h;obtain⟨i1,d1,z1,ht1⟩:=ay hti;obtain rfl:=ka ht1.k;exact⟨_,fun w=>by simp[Builtin.len_,ht0,hu.1,ht1.aK,goInt],bJ rfl⟩
     ·rename_i es hti hx;have hu:=hρ o _ hx;simp only[Den]at hu;simp only[dF.q.injEq]at h;obtain⟨-,rfl⟩:=h;obtain⟨i1,d1,z1,ht1⟩:=ay hti;obtain rfl:=ka ht1.k;rcases hu with⟨rfl,_,_,hu⟩ | ⟨b,o',c',s,cs,vs,hu,_⟩
      ·exact⟨_,fun w=>by simp[Builtin.len_,ht0,hu,ht1.aK,goInt],bJ rfl⟩
      ·exact⟨_,fun w=>by simp[Builtin.len_,ht0,hu,ht1.aK,goInt],bJ rfl⟩
     ·rename_i k i n hti hx;have hu:=hρ o _ hx;simp only[Den]at hu;simp only[dF.q.injEq]at h;obtain⟨-,rfl⟩:=h;obtain⟨i1,d1,z1,ht1⟩:=ay hti;obtain rfl:=ka ht1.k;rcases hu with⟨_,_,rfl,hu⟩ | ⟨d,c',o',_,_,_,_,hu⟩
      ·exact⟨_,fun w=>by simp[Builtin.len_,ht0,hu,ht1.aK,goInt],bJ rfl⟩
      ·exact⟨_,fun w=>by simp[Builtin.len_,ht0,hu,ht1.aK,goInt],bJ rfl⟩
     ·rename_i s hti hx;have hu:=hρ o _ hx;simp only[Den]at hu;simp only[dF.q.injEq]at h;obtain⟨-,rfl⟩:=h;obtain⟨i1,d1,z1,ht1⟩:=ay hti;obtain rfl:=wZ ht1.k;exact⟨_,fun w=>by simp[Builtin.len_,ht0,hu.1,ht1.aK,goInt],bJ rfl⟩
     ·cases h
   ·rename_i x hxs;obtain⟨o,ho,rfl⟩:∃o,args.toList=[o]∧ev fr o=x:=by
     cases ha:args.toList with
     | nil=>rw[ha]at hxs;simp at hxs
     | cons o l=>cases l with
      | nil=>rw[ha]at hxs;exact⟨o,rfl,by simpa using hxs⟩
      | cons o' l=>rw[ha]at hxs;simp at hxs
    have harg:args=#[o]:=by apply amq;simpa using ho
    subst harg;simp only[builtin];refine ext ?_;unfold D9 at h;cases ht0:ts[0]? with
    | none=>rw[ht0]at h;simp at h
    | some t0 =>
     rw[ht0]at h;simp only[amo]at h;split at h
     ·rename_i hti hx;have hu:=hρ o _ hx;simp only[Den]at hu;simp only[dF.q.injEq]at h;obtain⟨-,rfl⟩:=h;obtain⟨i1,d1,z1,ht1⟩:=ay hti;obtain rfl:=ka ht1.k;exact⟨.tuple #[],fun w=>by simp[Builtin.clear_,ht0,hu.1,ht1.aK],by simp only[Den];exact⟨[],rfl,by simp[bF]⟩⟩
     ·rename_i k i n hti hx;have hu:=hρ o _ hx;simp only[Den]at hu;simp only[dF.q.injEq]at h;obtain⟨rfl,rfl⟩:=h;subst hc;obtain⟨i1,d1,z1,ht1⟩:=ay hti;obtain rfl:=ka ht1.k;rcases hu with⟨_,_,_,hu⟩ | ⟨d,c',o',_,_,_,_,hu⟩
      ·exact⟨.tuple #[],fun w=>by simp[Builtin.clear_,ht0,hu,ht1.aK],by simp only[Den];exact⟨[],rfl,by simp[bF]⟩⟩
      ·exact⟨.tuple #[],fun w=>by simp[Builtin.clear_,ht0,hu,ht1.aK],by simp only[Den];exact⟨[],rfl,by simp[bF]⟩⟩
     ·cases h
   all_goals first
    | cases h
    | (
      rename_i x y hxs;obtain⟨o1,o2,ho,rfl,rfl⟩:∃o1 o2,args.toList=[o1,o2]∧ev fr o1=x∧ev fr o2=y:=by
       cases ha:args.toList with
       | nil=>rw[ha]at hxs;simp at hxs
       | cons o l=>cases l with
        | nil=>rw[ha]at hxs;simp at hxs
        | cons o' l=>cases l with
         | nil=>rw[ha]at hxs;simp at hxs;exact⟨o,o',rfl,hxs.1,hxs.2⟩
         | cons o'' l=>rw[ha]at hxs;simp at hxs
      have harg:args=#[o1,o2]:=by apply amq;simpa using ho
      subst harg;simp only[builtin];refine ext ?_;unfold lQ at h;split at h
      ·rename_i k m k' n hx hy;have hu:=hρ o1 _ hx;have hv:=hρ o2 _ hy;simp only[Den]at hu hv;simp only[dF.q.injEq]at h;obtain⟨-,rfl⟩:=h;exact⟨_,fun w=>by simp[Builtin.max_,Builtin.max2,Builtin.min_,Builtin.min2,hu.1,hv.1],bJ rfl⟩
      ·cases h)
  | value f=>cases h
  | invoke r m=>cases h
 case makeFunc fn l r' =>
  cases fn with
  | func f =>
   simp only at h;unfold KZ at h;split at h
   ·rename_i xs ys hxs hys;simp only[dF.q.injEq]at h;obtain⟨-,rfl⟩:=h;refine lift ⟨.func (.func f) (l.map a.eval) (r'.map a.eval),fun w=>rfl,?_⟩;simp only[Den];refine⟨_,_,?_,jr hF _ _ hxs,jr hF _ _ hys⟩;congr 1<;>(apply amq;simp)
   ·cases h
  | _=>cases h
 all_goals cases h
theorem cv.pW(hW:cv C β H M w):∀k e d,M[k]?=some (some e)→β k=some (some d)→d.sz=e.sz∨(d.sz=1∧d.Gr=0):=fun k e d hk hd=>by
 rcases hW.da k e hk with⟨h4,_⟩ | ⟨d',cs,T,vs,h4,h5,_⟩ | ⟨d',ms,h4,h5,_⟩
 ·rw[hd]at h4;simp at h4
 ·rw[hd]at h4;simp only[al0]at h4;subst h4;exact .inl h5
 ·rw[hd]at h4;simp only[al0]at h4;subst h4;exact .inr h5.2
theorem wL(hW:cv C β H M w){n:Nat}{fr:List (Nat × SV)}{a:Act}(hF:gI β H n fr a){s d:TypeId}{x:Operand}{el:TypeId}{a' b:Nat}{zz:List SV}{dst type pos after guard}(h:xA P M fr (.convert s d x)=.q c r)(hc:c)(hts:az P s=some ⟨.sl el,a',b,zz⟩) :
  ∃v,(execOp a.eval ⟨dst,.convert s d x,type,pos,after,guard⟩).run P w=.ok (.value v) w∧Den β H r v∧((∀k i n,ev fr x≠some (.view k i n))→∀w':World,(∀b cs,H b=some cs→∃T z,w'.heap[b]?=some (.cells cs T z))→(execOp a.eval ⟨dst,.convert s d x,type,pos,after,guard⟩).run P w'=.ok (.value v) w'):=by
 simp only[xA,hts]at h;unfold py at h;split at h
 ·rename_i el' _ _ _ _ _ _ he htd;simp only[al0,TI.mk.injEq,TK.sl.injEq]at he;obtain⟨rfl, -, -, -⟩:=he;obtain⟨i1,d1,z1,ht1⟩:=ay hts;obtain⟨i2,d2,z2,ht2⟩:=ay htd;obtain rfl:=ka ht1.k;obtain rfl:=wZ ht2.k;obtain⟨z,h1,h2,h3⟩:=Ju hW ht1.under ht2.under h hc (iJ hF x);exact⟨z,by simp[execOp,h1],h2,fun hn w' hw'=>by simp[execOp,h3 hn w' hw']⟩
 ·rename_i hno;unfold zx at h;split at h
  ·rename_i ti kk _ _ _ k' m hti htj hx;simp only[dF.q.injEq]at h;obtain⟨-,rfl⟩:=h;obtain⟨i1,d1,z1,ht1⟩:=ay hts;obtain⟨i2,d2,z2,ht2⟩:=ay htj;obtain rfl:=CC ht2.k;have hu:=iJ hF x _ hx;simp only[Den]at hu;exact⟨_,by rw[show execOp a.eval ⟨dst,.convert s d x,type,pos,after,guard⟩=(do pure (Next.value (←convert s d (a.eval x)))) from rfl,hu.1];simp[convert,ht1.aK,ht2.aK,Conv.intToInt],bJ rfl,fun _ w' _=>by
    rw[show execOp a.eval ⟨dst,.convert s d x,type,pos,after,guard⟩=(do pure (Next.value (←convert s d (a.eval x)))) from rfl,hu.1];simp[convert,ht1.aK,ht2.aK,Conv.intToInt]⟩
  ·cases h
theorem IB(hW:cv C β H M w){n:Nat}{fr:List (Nat × SV)}{a:Act}(hF:gI β H n fr a){o:Oper}(h:xA P M fr o.op=.q c r)(hc:c) :
  ∃v,(execOp a.eval o).run P w=.ok (.value v) w∧Den β H r v:=by
 by_cases hl:∃t x,o.op=.load t x
 ·obtain⟨t,x,ho⟩:=hl;obtain⟨dst,op,type,pos,after,guard⟩:=o;simp only at ho;subst ho;simp only[xA]at h;obtain⟨z,h1,h2⟩:=oR (P:=P) hW h hc (iJ hF x);exact⟨z,by simp[execOp,h1 w (fun _ _ _ _=>rfl)],h2⟩
 ·by_cases hcv:∃s d x el a b z,o.op=.convert s d x∧az P s=some ⟨.sl el,a,b,z⟩
  ·obtain⟨s,d,x,el,a',b,z,ho,hts⟩:=hcv;obtain⟨dst,op,type,pos,after,guard⟩:=o;simp only at ho;subst ho;obtain⟨v,h1,h2, -⟩:=wL hW hF h hc hts;exact⟨v,h1,h2⟩
  ·obtain⟨v,h1,h2⟩:=sB (P:=P) hW.pW hF h hc (fun t x e=>hl ⟨t,x,e⟩) (fun s d x e el a' b z e'=>hcv ⟨s,d,x,el,a',b,z,e,e'⟩);exact⟨v,h1 w,h2⟩
end
end Go.Sv


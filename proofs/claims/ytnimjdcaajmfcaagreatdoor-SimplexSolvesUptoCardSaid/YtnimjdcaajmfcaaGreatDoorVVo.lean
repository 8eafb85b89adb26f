/- A text of the prover's own. -/
import Derived.Test.YtnimjdcaajmfcaaGreatDoorVVq
import Derived.Laws.BytesArg
import Derived.WideLaws
open Option.some renaming injEq->awR
open List renaming map_cons->aw6,getElem?_take_of_lt->aw7,getElem?_drop->aw8,getElem?_map->aw9,length_cons->awV,append_assoc->axa,getElem?_append_left->awO,getElem?_append_right->awP
open Go.Instr renaming loadAt->axb,sureAddr->axc,fieldAt->axd,field->axe,indexAt->axf,index->axg,sliceBound->axh,sliceBounds->axi,sliceAt->axj,slice->axk,fill->axl,build->axm
open Nat renaming add_mul->awM,one_mul->awN,mul_le_mul_right->axn,mul_one->axo,add_assoc->axp,le_refl->axq
open Go.Sem renaming run_bind->aw4,run_pure->axr
open Go.Result renaming andThen_ok->aw5
open Option renaming map_some->axs,map_none->axt,isSome_map->axu,bind_some->axv
open Array renaming getElem?_toList->aw1,length_toList->axw,ext'->axx
open Go.Builtin renaming len_->axy,clear_->axz
namespace Go.Sv
open Go Go.RowKit
def aA:aC->Nat->Option cJ
 | [],_=>none
 | x::_,0=>x
 | _::l,n+1=>aA l n
def aX:aC->Nat->Option cJ->aC
 | [],_,_=>[]
 | _::l,0,y=>y::l
 | x::l,n+1,y=>x::aX l n y
theorem aU{M:aC}{k:Nat}{e:cJ}(h:aA M k=some e):M[k]?=some (some e):=by
 induction M generalizing k with
 | nil=>simp[aA]at h
 | cons x l ih=>cases k with
  | zero=>simp only[aA]at h;simp[h]
  | succ k=>simpa using ih h
theorem dL(M:aC)(k:Nat)(y:Option cJ):aX M k y=M.set k y:=by
 induction M generalizing k with
 | nil=>rfl
 | cons x l ih=>cases k<;>simp[aX,ih]
def qJ:List (Nat × Nat × TypeId)->Nat->Option (Nat × Nat × TypeId)
 | [],_=>none
 | x::_,0=>some x
 | _::l,n+1=>qJ l n
theorem DI(l:List (Nat × Nat × TypeId))(n:Nat):qJ l n=l[n]?:=by
 induction l generalizing n with
 | nil=>rfl
 | cons x l ih=>cases n<;>simp[qJ,ih]
def eL(s:ByteArray)(i:Nat):UInt8:=s.data.getD i 0
def jx(M:aC)(ti:Option TI)(x:Option SV):dV :=
 match ti,x with
 | some ti,some (.ptr k i j) =>
  match aA M k with
  | some e=>.q (i<e.es.length∧(aM e.es i).aW=false∧j+ti.size<=(aM e.es i).ir) (pg ti (aM e.es i) j)
  | none=>.stuck
 | some ti,some (.dG x j)=>.q (x.aW=false∧j+ti.size<=x.ir) (pg ti x j)
 | _,_=>.stuck
def gy(ti:Option TI)(x:Option SV)(f:Nat):dV :=
 match ti,x with
 | some ⟨.st fs,_,_,_⟩,some (.ptr k i j) =>
  match qJ fs f with
  | some (off,sz,_)=>if sz=0 then .stuck else .q True (.ptr k i (j+off))
  | none=>.stuck
 | some ⟨.st fs,_,_,_⟩,some (.dG x j) =>
  match qJ fs f with
  | some (off,sz,_)=>if sz=0 then .stuck else .q True (.dG x (j+off))
  | none=>.stuck
 | _,_=>.stuck
def DD(P:Program)(ti:Option TI)(x:Option SV)(f:Nat):dV :=
 match ti,x with
 | some ⟨.st fs,_,_,_⟩,some (.agg l) =>
  match qJ fs f with
  | some (off,_,ft) =>
   match an P ft with
   | some tf=>if tf.k.isAgg=true then .q (off+tf.size<=l.length) (.agg ((l.drop off).take tf.size)) else .q (off<l.length) (aM l off)
   | none=>.stuck
  | none=>.stuck
 | _,_=>.stuck
def gn(P:Program)(M:aC)(ti:Option TI)(x:Option SV)(i:Option SV):dV :=
 match ti,x,i with
 | some ⟨.sl el,_,_,_⟩,some (.ro es),some (.val (.int _ n)) =>
  match an P el with
  | some te=>.q (0<=n∧n<es.length∧(aM es n.toNat).ir=te.size∧(aM es n.toNat).aW=false) (.dG (aM es n.toNat) 0)
  | none=>.stuck
 | some ⟨.sl el,_,_,_⟩,some (.view k i0 m),some (.val (.int _ n)) =>
  match an P el,aA M k with
  | some te,some e=>if e.sz=te.size then .q (0<=n∧n<m) (.ptr k (i0+n.toNat) 0) else .stuck
  | _,_=>.stuck
 | _,_,_=>.stuck
def vz(ti:Option TI)(x:Option SV)(i:Option SV):dV :=
 match ti,x,i with
 | some ⟨.str,_,_,_⟩,some (.val (.string s)),some (.val (.int _ n))=>.q (0<=n∧n<s.size) (.val (.int .u8 (eL s n.toNat).toNat))
 | _,_,_=>.stuck
def gu(x:Option (Option SV))(d:Int):Option Int :=
 match x with
 | none=>some d
 | some (some (.val (.int _ n)))=>some n
 | _=>none
def kv(P:Program)(M:aC)(ti:Option TI)(x:Option SV)(lo hi mx:Option (Option SV)):dV :=
 match ti,x with
 | some ⟨.str,_,_,_⟩,some (.val (.string s)) =>
  match mx,gu lo 0,gu hi s.size with
  | none,some l,some h=>.q (0<=l∧l<=h∧h<=s.size) (.val (.string (s.extract l.toNat h.toNat)))
  | _,_,_=>.stuck
 | some ⟨.sl el,_,_,_⟩,some (.ro es) =>
  match gu lo 0,gu hi es.length,an P el with
  | some l,some h,some te=>.q (0<=l∧l<=h∧h<=es.length∧(mx.isSome=true->gu mx 0=some h)∧(es≠[]->(aM es 0).ir=te.size∧(aM es 0).aW=false)) (.ro ((es.take h.toNat).drop l.toNat))
  | _,_,_=>.stuck
 | some ⟨.sl el,_,_,_⟩,some (.view k i n) =>
  match gu lo 0,gu hi n,an P el,aA M k with
  | some l,some h,some te,some e=>if e.sz=te.size then .q (0<=l∧l<=h∧h<=n∧(mx.isSome=true->gu mx 0=some h)) (.view k (i+l.toNat) (h.toNat - l.toNat)) else .stuck
  | _,_,_,_=>.stuck
 | _,_=>.stuck
def EN(ti tj:Option TI)(x:Option SV):dV :=
 match ti,tj,x with
 | some _,some ⟨.int k,_,_,_⟩,some (.val (.int _ n))=>.q True (.val (.int k (k.wrap n)))
 | _,_,_=>.stuck
def Bv:SV->Int
 | .val (.int _ n)=>n
 | _=>0
def pf:SV->Bool
 | .val (.int .u8 _)=>true
 | _=>false
def strOf(es:List SV):ByteArray:=strOfNums (es.map Bv)
def C4(M:aC)(te:Option TI)(x:Option SV):dV :=
 match te,x with
 | some ⟨.int .u8,_,_,_⟩,some (.ro es)=>.q (es.all pf=true) (.val (.string (strOf es)))
 | some ⟨.int .u8,_,_,_⟩,some (.view k i n) =>
  match aA M k with
  | some e=>.q (e.sz=1∧i+n<=e.es.length∧((e.es.drop i).take n).all pf=true) (.val (.string (strOf ((e.es.drop i).take n))))
  | none=>.stuck
 | some ⟨.int .u8,_,_,_⟩,some (.val (.slice none 0 0))=>.q True (.val (.string (strOf [])))
 | _,_=>.stuck
def uj(P:Program)(M:aC)(ti tj:Option TI)(x:Option SV):dV :=
 match ti,tj with
 | some ⟨.sl el,_,_,_⟩,some ⟨.str,_,_,_⟩=>C4 M (an P el) x
 | ti,tj=>EN ti tj x
def kE(op:BinOp)(ti:Option TI)(x:Option SV):dV :=
 match ti,op,x with
 | some ⟨.iface,_,_,_⟩,.eql,some (.val .nilIface)=>.q True (.bool true)
 | some ⟨.iface,_,_,_⟩,.neq,some (.val .nilIface)=>.q True (.bool false)
 | some ⟨.iface,_,_,_⟩,.eql,some (.ju _ _)=>.q True (.bool false)
 | some ⟨.iface,_,_,_⟩,.neq,some (.ju _ _)=>.q True (.bool true)
 | some ⟨.iface,_,_,_⟩,.eql,some (.fT _ _)=>.q True (.bool false)
 | some ⟨.iface,_,_,_⟩,.neq,some (.fT _ _)=>.q True (.bool true)
 | _,_,_=>.stuck
def isNil:Operand->Bool
 | .const .nilIface=>true
 | _=>false
def pJ(op:BinOp)(ti:Option TI)(x:Option SV)(oy:Operand)(y:Option SV):dV :=
 if isNil oy=true then kE op ti x else cE op ti x y
def z8(P:Program)(op:BinOp)(t:TypeId)(x:Option SV)(oy:Operand)(y:Option SV):dV :=
 match x,y with
 | some (.agg a),some (.agg b)=>DE op (J5 P t) a b
 | x,y=>pJ op (an P t) x oy y
def ON(op:UnOp)(x:Option SV):dV :=
 match op,x with
 | .neg,some (.val (.int k n))=>.q True (.val (.int k (k.wrap (0 - n))))
 | .not,some (.val (.bool b))=>.q True (.bool (!b))
 | _,_=>.stuck
def zX(c x y:Option SV):dV :=
 match c with
 | some (.val (.bool true))=>match x with | some x=>.q True x | none=>.stuck
 | some (.val (.bool false))=>match y with | some y=>.q True y | none=>.stuck
 | _=>.stuck
def F6(x:Option SV):dV :=
 match x with
 | some (.ptr k i j)=>.q True (.ptr k i j)
 | some (.dG x j)=>.q True (.dG x j)
 | some (.ju t x)=>.q True (.ju t x)
 | _=>.stuck
def sI(x:Option SV)(i:Nat):dV :=
 match x with
 | some (.bM l)=>.q (i<l.length) (aM l i)
 | _=>.stuck
def qV(ti:Option TI)(x:Option SV):dV :=
 match ti,x with
 | some ⟨.sl _,_,_,_⟩,some (.val (.slice none 0 0))=>.q True (.i64 0)
 | some ⟨.sl _,_,_,_⟩,some (.ro es)=>.q True (.i64 es.length)
 | some ⟨.sl _,_,_,_⟩,some (.view _ _ n)=>.q True (.i64 n)
 | some ⟨.str,_,_,_⟩,some (.val (.string s))=>.q True (.i64 s.size)
 | _,_=>.stuck
def oX(mx:Bool)(x y:Option SV):dV :=
 match x,y with
 | some (.val (.int k m)),some (.val (.int _ n))=>.q True (.val (.int k (if mx=true then(if n > m then n else m) else(if n<m then n else m))))
 | _,_=>.stuck
def zl(ti:Option TI)(t:TypeId)(x:Option SV):dV :=
 match ti,x with
 | some ⟨.iface,_,_,_⟩,_=>.stuck
 | some _,some x=>.q True (.ju t x)
 | _,_=>.stuck
def j9(fs:List (Nat × Nat × TypeId)):List (Nat × Option SV)->List SV->Option (List SV)
 | [],acc=>some acc
 | (i,some x)::r,acc =>
  match qJ fs i with
  | some (off,sz,_)=>if x.ir=sz∧x.aW=false∧off+sz<=acc.length then j9 fs r (acc.take off++x.cells++acc.drop (off+sz)) else none
  | none=>none
 | (_,none)::_,_=>none
def rR(ti:Option TI)(parts:List (Nat × Option SV)):dV :=
 match ti with
 | some ⟨.st fs,_,_,zero⟩ =>
  if fs.all (λf=>f.2.1 != 0)=true then
  match j9 fs parts zero with
  | some l=>.q True (.agg l)
  | none=>.stuck
  else .stuck
 | _=>.stuck
def J1(ti:Option TI)(x:Option SV):dV :=
 match ti,x with
 | some ⟨.sl _,_,_,_⟩,some (.val (.slice none 0 0))=>.q True (.bM [])
 | some ⟨.sl _,_,_,_⟩,some (.view _ _ n)=>.q (n=0) (.bM [])
 | _,_=>.stuck
def sQ(P:Program)(b:Builtin)(ts:Array TypeId)(xs:List (Option SV)):dV :=
 match b,xs with
 | .len,[x]=>qV ((ts[0]?).bind (an P)) x
 | .clear,[x]=>J1 ((ts[0]?).bind (an P)) x
 | .max,[x,y]=>oX true x y
 | .min,[x,y]=>oX false x y
 | _,_=>.stuck
def BL(fr:List (Nat × SV)):List Operand->Option (List SV)
 | []=>some []
 | o::r=>match ev fr o,BL fr r with
  | some x,some l=>some (x::l)
  | _,_=>none
def SE(f:FuncId)(l r:Option (List SV)):dV:=match l,r with
 | some l,some r=>.q True (.j7 f l r)
 | _,_=>.stuck
def EZ(P:Program)(M:aC)(fr:List (Nat × SV))(o:Op):dV :=
 match o with
 | .move x | .assign x=>match ev fr x with | some x=>.q True x | none=>.stuck
 | .pick c a b=>zX (ev fr c) (ev fr a) (ev fr b)
 | .binOp op t x y _=>z8 P op t (ev fr x) y (ev fr y)
 | .unOp op _ x=>ON op (ev fr x)
 | .convert s d x=>uj P M (an P s) (an P d) (ev fr x)
 | .nilCheck x=>F6 (ev fr x)
 | .extract x i=>sI (ev fr x) i
 | .field t x f=>DD P (an P t) (ev fr x) f
 | .fieldAddr t x f=>gy (an P t) (ev fr x) f
 | .indexAddr t x i=>gn P M (an P t) (ev fr x) (ev fr i)
 | .index t x i=>vz (an P t) (ev fr x) (ev fr i)
 | .load t a=>jx M (an P t) (ev fr a)
 | .slice t x lo hi mx=>if(mx.isSome&&!hi.isSome)=true then .stuck else kv P M (an P t) (ev fr x) (lo.map (ev fr)) (hi.map (ev fr)) (mx.map (ev fr))
 | .makeInterface t x=>zl (an P t) t (ev fr x)
 | .build t parts=>rR (an P t) (parts.toList.map λp=>(p.1,ev fr p.2))
 | .call ⟨.builtin b,args,ts⟩=>sQ P b ts (args.toList.map (ev fr))
 | .makeFunc (.func f) l r=>SE f (BL fr l.toList) (BL fr r.toList)
 | _=>.stuck
theorem nG{β:cu}{H:Hp}{n:Nat}{fr:List (Nat × SV)}{a:Act}(hF:jl β H n fr a)(o:Operand):∀s,ev fr o=some s->Den β H s (a.eval o):=λ_ h=>Eu hF h
theorem m9{β:cu}{H:Hp}{n:Nat}{fr:List (Nat × SV)}{a:Act}(hF:jl β H n fr a):∀(l:List Operand) (xs:List SV),BL fr l=some xs->bZ β H xs (l.map a.eval)
 | [],xs,h=>by simp only[BL,awR]at h;subst h;simp[bZ]
 | o::r,xs,h=>by
  simp only[BL]at h;split at h
  ·rename_i x l hx hl;simp only[awR]at h;subst h;simp only[aw6,bZ];exact⟨_,_,rfl,Eu hF hx,m9 hF r l hl⟩
  ·cases h
section
variable {P:Program} {C:Ctx} {β:cu} {H:Hp} {M:aC} {w:World} {c:Prop} {r:SV}
theorem xk(hW:cM C β H M w){t:TypeId}{x:Option SV}{u:Value}(h:jx M (an P t) x=.q c r)(hc:c)(hx:∀s,x=some s->Den β H s u) :
  ∃z,(∀w':World,(∀b o p,u=.pointer (some ⟨b,o,p⟩)->w'.heap[b]?=w.heap[b]?)->(axb t u).run P w'=.ok z w')∧Den β H r z:=by
 unfold jx at h;split at h
 ·rename_i ti k i j aa;have hu:=hx _ rfl;simp only[Den]at hu;obtain⟨d,hd,rfl⟩:=hu;split at h
  ·rename_i e he;simp only[dV.q.injEq]at h;obtain⟨rfl,rfl⟩:=h;obtain⟨h1,h2,h3⟩:=hc;rcases hW.dF k e (aU he)with⟨h4,_⟩ | ⟨d',cs,T,vs,h4,h5,h6,h7,h8,h9,bb, -⟩ | ⟨d',ms,h4,h5,h6,h7⟩
   rotate_left 2
   ·obtain⟨l,hl⟩:=h7.LR i h1;rw[hl]at h2;simp[SV.aW]at h2
   ·rw[hd]at h4;simp at h4
   ·rw[hd]at h4;simp only[awR]at h4;subst h4;obtain⟨v,ay,aL,aN⟩:=h8.get h1;have hlen:=h8.length;obtain⟨z,az,aB⟩:=xc (P:=P) aa (b:=d.b) (o:=i*d.sz) (j:=j) ay h2 (λq hq=>by
     rw[aL]at hq;rw[h5,bb _ (by rw[hlen];calc i*e.sz+q<i*e.sz+e.sz:=by omega
       _=(i+1)*e.sz:=by rw[awM,awN]
       _<=e.es.length*e.sz:=axn _ h1)]
     exact aN q hq) h3
    exact⟨z,λw' al=>by simp only[axb,axc,aw4,axr,aw5];exact az w' _ _ ((al _ _ _ rfl).trans h6),aB⟩
  ·cases h
 ·rename_i ti x j aa;have hu:=hx _ rfl;simp only[Den]at hu;obtain⟨b,o,cs,v,rfl,h2,h3,h4⟩:=hu;simp only[dV.q.injEq]at h;obtain⟨rfl,rfl⟩:=h;obtain⟨T,z,hb⟩:=hW.inv b cs h2;obtain⟨z,az,aB⟩:=xc (P:=P) aa (b:=b) (o:=o) (j:=j) (Den.up h3 (β':=β) (λ_ _ h=>by simp[o4]at h) (λ_ _ h=>h)) hc.1 h4 hc.2;exact⟨z,λw' al=>by simp only[axb,axc,aw4,axr,aw5];exact az w' _ _ ((al _ _ _ rfl).trans hb),aB⟩
 ·cases h
theorem Jr{P:Program}{β:cu}{H:Hp}{M:aC}{c:Prop}{r:SV}{t:TypeId}{y:SV}{k:Nat}{u:Value}(h:jx M (an P t) (some (.dG y k))=.q c r)(hc:c)(hx:Den β H (.dG y k) u) :
  ∃z,(∀w':World,(∀b cs,H b=some cs->∃T z,w'.heap[b]?=some (.cells cs T z))->(axb t u).run P w'=.ok z w')∧Den β H r z:=by
 unfold jx at h;split at h
 ·rename_i bc;cases bc
 ·rename_i ti x j aa he;cases he;simp only[Den]at hx;obtain⟨b,o,cs,v,rfl,h2,h3,h4⟩:=hx;simp only[dV.q.injEq]at h;obtain⟨rfl,rfl⟩:=h;obtain⟨z,az,aB⟩:=xc (P:=P) aa (b:=b) (o:=o) (j:=k) (Den.up h3 (β':=β) (λ_ _ h=>by simp[o4]at h) (λ_ _ h=>h)) hc.1 h4 hc.2;refine⟨z,λw' al=>?_,aB⟩;obtain⟨T,z',hb⟩:=al b cs h2;simp only[axb,axc,aw4,axr,aw5];exact az w' _ _ hb
 ·cases h
theorem OW{d:TypeDesc}{fs:List (Nat × Nat × TypeId)}(h:TK.st fs=tk P d):∃a,d=.struct a∧fs=a.toList.map λf=>(f.offset,PO P f.type,f.type):=by cases d<;>simp[tk]at h;exact⟨_,rfl,h⟩
theorem mm{d:TypeDesc}{e:TypeId}(h:TK.sl e=tk P d):d=.slice e:=by cases d<;>simp[tk]at h;rw[h]
theorem Br{d:TypeDesc}(h:TK.str=tk P d):d=.string:=by cases d<;>simp[tk]at h;rfl
theorem tG{β:cu}{H:Hp}{s:Nat}:∀{es:List SV} {vs:List Value},ba β H s es vs->es.all pf=true->vs=(es.map Bv).map (Value.int .u8)∧(es≠[]->s=1)
 | [],vs,h,_=>by simp only[ba]at h;simp[h]
 | x::es,vs,h,hb=>by
  simp only[ba]at h;obtain⟨v,r,rfl,h2,h3,h4⟩:=h;simp only[List.all_cons,Bool.and_eq_true]at hb;obtain⟨ih, -⟩:=tG h4 hb.2;have hx:=hb.1;unfold pf at hx;split at hx
  ·rename_i n;simp only[Den]at h3;obtain⟨rfl, -⟩:=h3;simp only[Value.cells]at h2 ⊢;refine⟨?_,λ_=>by simpa using h2.symm⟩;rw[ih];simp[Bv]
  ·cases hx
theorem xQ{P:Program}{w:World}{src dst el:TypeId}{es:List SV}{b o c:Nat}{cs:Array Value}{T:TypeId}{z:Nat × Nat}(hs:P.underlying src=some (.slice el))(he:P.underlying el=some (.int .u8))(hd:P.underlying dst=some .string)
  (hb:w.heap[b]?=some (.cells cs T z)) (hq:∀i,i<es.length->cs[o+i]?=((es.map Bv).map (Value.int .u8))[i]?) :
  (convert src dst (.slice (some ⟨b,o,none⟩) es.length c)).run P w=.ok (.string (strOf es)) w:=by
 refine run_convert_bytes_arg w src el hs he b o es.length c (es.map Bv) (by simp) (λi hi=>?_) dst hd;rw[cell_of hb,hq i hi];simp[hi]
theorem Ot(hW:cM C β H M w){src dst el:TypeId}{x:Option SV}{u:Value}(hs:P.underlying src=some (.slice el))(hd:P.underlying dst=some .string)(h:C4 M (an P el) x=.q c r)(hc:c)(hx:∀s,x=some s->Den β H s u) :
  ∃z,(convert src dst u).run P w=.ok z w∧Den β H r z∧((∀k i n,x≠some (.view k i n))->∀w':World,(∀b cs,H b=some cs->∃T z,w'.heap[b]?=some (.cells cs T z))->(convert src dst u).run P w'=.ok z w'):=by
 have aO:∀a b z,an P el=some ⟨.int .u8,a,b,z⟩->P.underlying el=some (.int .u8):=λa b z ae=>by
  obtain⟨i1,d1,z1,ab⟩:=aH ae;have hk:=ab.k;have:d1=.int .u8:=by cases d1<;>simp[tk]at hk;rw[hk]
  rw[<-this];exact ab.under
 unfold C4 at h;split at h
 ·rename_i es ae;have he:=aO _ _ _ ae;have hu:=hx _ rfl;simp only[dV.q.injEq]at h;obtain⟨rfl,rfl⟩:=h;simp only[Den]at hu;rcases hu with⟨rfl,a0,c0,rfl⟩ | ⟨b,o,cp,s,cs,vs,rfl,h2,h3,h4,h5⟩
  ·have go:∀w':World,(convert src dst (.slice a0 0 c0)).run P w'=.ok (.string ByteArray.empty) w':=λw'=>by
    rw[run_convert_bytes_string w' src dst el _ 0 c0 hs he hd];cases a0<;>simp[Conv.bytesToString,loadCells,loadCellsFrom]<;>rfl
   exact⟨_,go w,cg rfl,λ_ w' _=>go w'⟩
  ·obtain⟨am,bu⟩:=tG h4 hc;have hq:∀i,i<es.length->cs[o+i]?=((es.map Bv).map (Value.int .u8))[i]?:=λi hi=>by
    rw[<-am];exact h5 i (by rw[am];simpa using hi)
   have go:∀w':World,(∀b cs,H b=some cs->∃T z,w'.heap[b]?=some (.cells cs T z))->(convert src dst (.slice (some ⟨b,o,none⟩) es.length cp)).run P w'=.ok (.string (strOf es)) w':=λw' al=>by obtain⟨T,z,hb⟩:=al b cs h3;exact xQ hs he hd hb hq
   exact⟨_,go w hW.inv,cg rfl,λ_=>go⟩
 ·rename_i k i n ae;have he:=aO _ _ _ ae;have hu:=hx _ rfl;split at h
  ·rename_i e aP;simp only[dV.q.injEq]at h;obtain⟨rfl,rfl⟩:=h;obtain⟨c1,c2,c3⟩:=hc;simp only[Den]at hu;rcases hu with⟨h1,rfl,rfl,rfl⟩ | ⟨d,cp,o,h1,h2,h3,h4,rfl⟩
   ·exact⟨_,run_convert_bytes_nil w src el hs he 0 0 dst hd,by rw[List.take_zero];exact cg rfl,λhn=>absurd rfl (hn _ _ _)⟩
   ·rcases hW.dF k e (aU aP)with⟨g1,_⟩ | ⟨d',cs,T,vs,g1,g2,g3,g4,g5,g6,g7,g8⟩ | ⟨d',ms,g1,g2,g3,g4⟩
    rotate_left 2
    ·omega
    ·rw[h1]at g1;simp at g1
    ·rw[h1]at g1;simp only[awR]at g1;subst g1;have hlen:((e.es.drop i).take n).length=n:=by simp;omega
     have aD:=(g5.drop i).take n;rw[c1,axo,axo]at aD;obtain⟨am, -⟩:=tG aD c3;have bd:=g5.length;rw[c1,axo]at bd;have:=xQ (w:=w) (c:=cp) (o:=o) hs he hd g3 (es:=(e.es.drop i).take n) (λj hj=>by rw[hlen]at hj;have ho:=h4 (by omega);rw[<-am,ho,g2,c1,axo,aw7 hj,aw8];exact g7 _ (by omega))
     rw[hlen]at this;exact⟨_,this,cg rfl,λhn=>absurd rfl (hn _ _ _)⟩
  ·cases h
 ·rename_i ae;have he:=aO _ _ _ ae;have hu:=hx _ rfl;simp only[Den]at hu;simp only[dV.q.injEq]at h;obtain⟨-,rfl⟩:=h;rw[hu.1];exact⟨_,run_convert_bytes_nil w src el hs he 0 0 dst hd,cg rfl,λ_ w' _=>run_convert_bytes_nil w' src el hs he 0 0 dst hd⟩
 ·cases h
theorem Jd{d:TypeDesc}{k:IntKind}(h:TK.int k=tk P d):d=.int k:=by cases d<;>simp[tk]at h;rw[h]
theorem tc{t:TypeId}(h:PO P t≠0):(sizeOf t).run P w=.ok (PO P t) w:=by
 unfold PO at h ⊢;cases hi:P.info? t with
 | none=>rw[hi]at h;simp at h
 | some i=>simp[sizeOf,typeInfo,hi]
theorem Bi{t:TypeId}{f:Nat}{x:Option SV}{u:Value}(h:gy (an P t) x f=.q c r)(_:c)(hx:∀s,x=some s->Den β H s u) :
  ∃z,(∀w,(axd t u f).run P w=.ok z w)∧Den β H r z:=by
 unfold gy at h;have key:∀fs sz aS z off s ag (b o:Nat) (w:World),an P t=some ⟨.st fs,sz,aS,z⟩->qJ fs f=some (off,s,ag)->s≠0 ->
   (axd t (.pointer (some ⟨b,o,none⟩)) f).run P w=.ok (.pointer (some ⟨b,o+off,none⟩)) w:=λfs sz aS z off s ag b o w aa hf hs=>by
  obtain⟨i,d,zv,ht⟩:=aH aa;obtain⟨a,rfl,rfl⟩:=OW ht.k;rw[DI,aw9]at hf;cases ha:a.toList[f]? with
  | none=>rw[ha]at hf;simp at hf
  | some fl =>
   rw[ha]at hf;simp only[axs,awR,Prod.mk.injEq]at hf;obtain⟨rfl,rfl, -⟩:=hf;have aE:a[f]?=some fl:=by rw[<-aw1];exact ha
   simp only[axd,aw4,ht.aQ,aw5,aE,axc,axr,fieldPlace,tc hs,if_neg hs,Addr.add_eq]
 split at h
 ·rename_i fs _ _ _ k i j aa;have hu:=hx _ rfl;simp only[Den]at hu;obtain⟨d,hd,rfl⟩:=hu;split at h
  ·rename_i off sz ag hf;split at h
   ·cases h
   ·rename_i hs;simp only[dV.q.injEq]at h;obtain⟨-,rfl⟩:=h;exact⟨_,λw=>key _ _ _ _ _ _ _ _ _ w aa hf hs,by simp only[Den];exact⟨d,hd,by rw[axp]⟩⟩
  ·cases h
 ·rename_i fs _ _ _ x j aa;have hu:=hx _ rfl;simp only[Den]at hu;obtain⟨b,o,cs,v,rfl,h2,h3,h4⟩:=hu;split at h
  ·rename_i off sz ag hf;split at h
   ·cases h
   ·rename_i hs;simp only[dV.q.injEq]at h;obtain⟨-,rfl⟩:=h;exact⟨_,λw=>key _ _ _ _ _ _ _ _ _ w aa hf hs,by simp only[Den];exact⟨b,o,cs,v,by rw[axp],h2,h3,h4⟩⟩
  ·cases h
 ·cases h
theorem IV{t:TypeId}{f:Nat}{x:Option SV}{u:Value}(h:DD P (an P t) x f=.q c r)(hc:c)(hx:∀s,x=some s->Den β H s u) :
  ∃z,(∀w,(axe t u f).run P w=.ok z w)∧Den β H r z:=by
 unfold DD at h;split at h
 ·rename_i fs bv aS z' l aa;have hu:=hx _ rfl;simp only[Den]at hu;obtain⟨vs,rfl,am⟩:=hu;split at h
  ·rename_i off sz ft hf;obtain⟨i,d,zv,ht⟩:=aH aa;obtain⟨a,rfl,rfl⟩:=OW ht.k;rw[DI,aw9]at hf;cases ha:a.toList[f]? with
   | none=>rw[ha]at hf;simp at hf
   | some fl =>
    rw[ha]at hf;simp only[axs,awR,Prod.mk.injEq]at hf;obtain⟨rfl,rfl,rfl⟩:=hf;have aE:a[f]?=some fl:=by rw[<-aw1];exact ha
    split at h
    ·rename_i tf be;obtain⟨i2,d2,z2,ad⟩:=aH be;have hlen:=am.length;split at h
     ·rename_i aT;simp only[dV.q.injEq]at h;obtain⟨rfl,rfl⟩:=h;refine⟨_,λw=>by simp[axe,ht.aQ,aE,asAgg,part,ad.IU,aT,ad.fC];rfl,?_⟩;simp only[Den];refine⟨(vs.drop fl.offset).take tf.size,?_,(am.drop _).take _⟩;congr 1
     ·rename_i aT;simp only[dV.q.injEq]at h;obtain⟨rfl,rfl⟩:=h;obtain⟨v,ay,_,aN⟩:=am.get (i:=fl.offset) hc;refine⟨v,λw=>?_,aN⟩;simp[axe,ht.aQ,aE,asAgg,part,ad.IU,aT,ay]
    ·cases h
  ·cases h
 ·cases h
theorem mY(k:IntKind)(n:Int):(asIntOf (.int k n)).run P w=.ok (k,n) w:=by simp[asIntOf]
theorem Ay(hZ:∀k e d,M[k]?=some (some e)->β k=some (some d)->d.sz=e.sz∨(d.sz=1∧d.Jn=0)){t:TypeId}{x i:Option SV}{u v:Value}(h:gn P M (an P t) x i=.q c r)(hc:c)(hx:∀s,x=some s->Den β H s u)(hi:∀s,i=some s->Den β H s v) :
  ∃z,(∀w,(axf t u v).run P w=.ok z w)∧Den β H r z:=by
 unfold gn at h;split at h
 ·rename_i el _ _ _ es k n aa;have hv:=hi _ rfl;simp only[Den]at hv;obtain⟨rfl, -⟩:=hv;have hu:=hx _ rfl;obtain⟨ii,d,zv,ht⟩:=aH aa;obtain rfl:=mm ht.k;split at h
  ·rename_i te ae;obtain⟨i2,d2,z2,ad⟩:=aH ae;simp only[dV.q.injEq]at h;obtain⟨rfl,rfl⟩:=h;obtain⟨h1,h2,h3,h4⟩:=hc;have aR:n.toNat<es.length:=by omega
   simp only[Den]at hu;rcases hu with⟨he, -⟩ | ⟨b,o,c',s,cs,vs,rfl,g2,g3,g4,g5⟩
   ·rw[he]at aR;simp at aR
   ·obtain⟨y,aF,aG,bf⟩:=g4.get aR;have hs:s=te.size:=by
     rw[<-h3,<-aG];exact(aF.q9).resolve_left (λ⟨l,e⟩=>by rw[e]at h4;simp[SV.aW]at h4)
    refine⟨_,λw=>by simp[axf,mY,ht.aQ,h1,h2,ad.fC,Addr.add_eq];rfl,?_⟩;simp only[Den];refine⟨b,o+n.toNat*te.size,cs,y,by simp,g3,aF,λq hq=>?_⟩;rw[aG]at hq;have hl:=g4.length;rw[<-bf q hq,<-hs,axp];refine g5 _ ?_;rw[hl]
    calc n.toNat*s+q<n.toNat*s+s:=by omega
     _=(n.toNat+1)*s:=by rw[awM,awN]
     _<=es.length*s:=axn _ aR
  ·cases h
 ·rename_i el _ _ _ k i0 m k' n aa;have hv:=hi _ rfl;simp only[Den]at hv;obtain⟨rfl, -⟩:=hv;have hu:=hx _ rfl;obtain⟨ii,d,zv,ht⟩:=aH aa;obtain rfl:=mm ht.k;split at h
  ·rename_i te e ae he;obtain⟨i2,d2,z2,ad⟩:=aH ae;split at h
   ·rename_i wE;simp only[dV.q.injEq]at h;obtain⟨rfl,rfl⟩:=h;obtain⟨h1,h2⟩:=hc;simp only[Den]at hu;rcases hu with⟨_,_,hm,_⟩ | ⟨d,c',o,g1,g2,g3,g4,rfl⟩
    ·omega
    ·have ho:=g4 (by omega);have aw:d.sz=te.size:=by
      rcases hZ k e d (aU he) g1 with h' | ⟨h',aV⟩
      ·exact h'.trans wE
      ·rw[h',aV]at g3;omega
     refine⟨_,λw=>by simp[axf,mY,ht.aQ,h1,h2,ad.fC,Addr.add_eq];rfl,?_⟩;simp only[Den];exact⟨d,g1,by rw[ho,aw,awM];simp⟩
   ·cases h
  ·cases h
 ·cases h
theorem Ji{t:TypeId}{x i:Option SV}{u v:Value}(h:vz (an P t) x i=.q c r)(hc:c)(hx:∀s,x=some s->Den β H s u)(hi:∀s,i=some s->Den β H s v) :
  ∃z,(∀w,(axg t u v).run P w=.ok z w)∧Den β H r z:=by
 unfold vz at h;split at h
 ·rename_i s k n aa;have hv:=hi _ rfl;simp only[Den]at hv;obtain⟨rfl, -⟩:=hv;have hu:=hx _ rfl;simp only[Den]at hu;obtain⟨rfl, -⟩:=hu;obtain⟨ii,d,zv,ht⟩:=aH aa;obtain rfl:=Br ht.k;simp only[dV.q.injEq]at h;obtain⟨rfl,rfl⟩:=h;obtain⟨h1,h2⟩:=hc;have aR:n.toNat<s.size:=by omega
  have hg:s[n.toNat]?=some (eL s n.toNat):=by rw[getElem?_pos s n.toNat aR];congr 1;have aY:n.toNat<s.data.size:=aR;simp only[eL,Array.getD_eq_getD_getElem?,Array.getElem?_eq_getElem aY,Option.getD_some];rfl
  exact⟨_,λw=>by simp[axg,mY,ht.aQ,h1,hg],cg rfl⟩
 ·cases h
theorem mC{ρ:Operand->Value}{fr:List (Nat × SV)}(hρ:∀o s,ev fr o=some s->Den β H s (ρ o)){x:Option Operand}{d n:Int}(h:gu (x.map (ev fr)) d=some n) :
  (x=none∧n=d)∨∃o k,x=some o∧ρ o=.int k n:=by
 cases x with
 | none=>simp only[axt,gu,awR]at h;exact .inl ⟨rfl,h.symm⟩
 | some o =>
  right;simp only[axs]at h;unfold gu at h;split at h
  ·rename_i he;cases he
  ·rename_i k m he;simp only[awR]at he h;subst h;have:=hρ o _ he;simp only[Den]at this;exact⟨o,k,rfl,this.1⟩
  ·cases h
theorem run_sliceBound{v:Value}{k:IntKind}{n:Int}{y:Nat}{code:BoundsCode}(hv:v=.int k n)(h0:0<=n)(h1:n<=y):(axh v y code).run P w=.ok n.toNat w:=by subst hv;simp[axh,mY,h0,h1]
theorem iE{ρ:Operand->Value}{fr:List (Nat × SV)}(hρ:∀o s,ev fr o=some s->Den β H s (ρ o)){isSl:Bool}{lo hi mx:Option Operand}{len cap:Nat}{l h:Int}
  (hl:gu (lo.map (ev fr)) 0=some l) (hh:gu (hi.map (ev fr)) len=some h) (h0:0<=l) (h1:l<=h) (h2:h<=len) (h3:len<=cap)
  (hm:mx.isSome=true->gu (mx.map (ev fr)) 0=some h∧hi.isSome=true) :
  (axi isSl len cap (lo.map ρ) (hi.map ρ) (mx.map ρ)).run P w=.ok (l.toNat,h.toNat,if mx.isSome=true then h.toNat else cap) w:=by
 have eb:∀(o:Operand) (k:IntKind) (n:Int),ρ o=.int k n->0<=n->∀(y:Nat) (code:BoundsCode),n<=y->(axh (ρ o) y code).run P w=.ok n.toNat w :=
  λo k n ho hn y code hy=>run_sliceBound ho hn hy
 cases mx with
 | none =>
  rcases mC hρ hh with⟨rfl,rfl⟩ | ⟨o,k,rfl,ho⟩<;>rcases mC hρ hl with⟨rfl,rfl⟩ | ⟨o',k',rfl,aI⟩
  ·simp[axi]
  ·have e2:=eb o' k' l aI h0 len .sliceB (by omega);simp[axi,e2]
  ·have e1:=eb o k h ho (by omega) cap (if isSl then .sliceAcap else .sliceAlen) (by omega);simp only[axi,axt,axs,aw4,axr,aw5,e1];simp
  ·have e1:=eb o k h ho (by omega) cap (if isSl then .sliceAcap else .sliceAlen) (by omega);have e2:=eb o' k' l aI h0 h.toNat .sliceB (by omega);simp only[axi,axt,axs,aw4,axr,aw5,e1];simp[e2]
 | some om =>
  obtain⟨bg,bh⟩:=hm rfl;rcases mC hρ bg with⟨e,_⟩ | ⟨bw,km,e,bi⟩
  ·cases e
  ·simp only[awR]at e;subst e;have e0:=eb om km h bi (by omega) cap (if isSl then .slice3Acap else .slice3Alen) (by omega);rcases mC hρ hh with⟨rfl,rfl⟩ | ⟨o,k,rfl,ho⟩
   ·simp at bh
   ·have e1:=eb o k h ho (by omega) h.toNat .slice3B (by omega);rcases mC hρ hl with⟨rfl,rfl⟩ | ⟨o',k',rfl,aI⟩
    ·simp only[axi,axt,axs,aw4,axr,aw5,e0,e1];simp
    ·have e2:=eb o' k' l aI h0 h.toNat .slice3C (by omega);simp only[axi,axs,aw4,axr,aw5,e0,e1];simp[e2]
theorem Ir(hZ:∀k e d,M[k]?=some (some e)->β k=some (some d)->d.sz=e.sz∨(d.sz=1∧d.Jn=0)){ρ:Operand->Value}{fr:List (Nat × SV)}(hρ:∀o s,ev fr o=some s->Den β H s (ρ o)){t:TypeId}{x:Option SV}{lo hi mx:Option Operand}{u:Value}
  (h:kv P M (an P t) x (lo.map (ev fr)) (hi.map (ev fr)) (mx.map (ev fr))=.q c r) (hc:c) (hx:∀s,x=some s->Den β H s u) (aJ:mx.isSome=true->hi.isSome=true) :
  ∃z,(∀w,(axj t u (lo.map ρ) (hi.map ρ) (mx.map ρ)).run P w=.ok z w)∧Den β H r z:=by
 unfold kv at h;split at h
 ·rename_i s aa;have hu:=hx _ rfl;simp only[Den]at hu;obtain⟨rfl, -⟩:=hu;obtain⟨ii,d,zv,ht⟩:=aH aa;obtain rfl:=Br ht.k;split at h
  ·rename_i l hh bj hl ap;have aZ:mx=none:=by cases mx<;>simp at bj;rfl
   subst aZ;simp only[dV.q.injEq]at h;obtain⟨rfl,rfl⟩:=h;obtain⟨h0,h1,h2⟩:=hc;have ai:=λ(w:World)=>iE (P:=P) (w:=w) hρ (isSl:=false) (mx:=none) (cap:=s.size) hl ap h0 h1 h2 (axq _) (by simp);simp only[axt]at ai;exact⟨_,λw=>by simp[axj,axk,ht.aQ,ai],cg rfl⟩
  ·cases h
 ·rename_i el _ _ _ es aa;have hu:=hx _ rfl;obtain⟨ii,d,zv,ht⟩:=aH aa;obtain rfl:=mm ht.k;split at h
  ·rename_i l hh te hl ap ae;obtain⟨i2,d2,z2,ad⟩:=aH ae;simp only[dV.q.injEq]at h;obtain⟨rfl,rfl⟩:=h;obtain⟨h0,h1,h2,h3,h4⟩:=hc;simp only[axu]at h3;simp only[Den]at hu;rcases hu with⟨rfl,a0,c',rfl⟩ | ⟨b,o,c',s,cs,vs,rfl,g2,g3,g4,g5⟩
   ·have ai:=λ(w:World)=>iE (P:=P) (w:=w) hρ (isSl:=true) (mx:=mx) (len:=0) (cap:=c') hl ap h0 h1 (by simpa using h2) (Nat.zero_le _) (λhm=>⟨h3 hm,aJ hm⟩);simp at h2;have e1:hh.toNat=0:=by omega
    have e2:l.toNat=0:=by omega
    cases a0 with
    | none =>
     refine⟨_,λw=>by simp[axj,axk,ht.aQ,ai,ad.fC];rfl,?_⟩;simp only[Den];left;simp[e1,e2]
    | some a0 =>
     refine⟨_,λw=>by simp[axj,axk,ht.aQ,ai,ad.fC];rfl,?_⟩;simp only[Den];left;simp[e1,e2]
   ·have ai:=λ(w:World)=>iE (P:=P) (w:=w) hρ (isSl:=true) (mx:=mx) (len:=es.length) (cap:=c') hl ap h0 h1 h2 g2 (λhm=>⟨h3 hm,aJ hm⟩);refine⟨_,λw=>by simp[axj,axk,ht.aQ,ai,ad.fC];rfl,?_⟩;simp only[Den];right;have hlen:((es.take hh.toNat).drop l.toNat).length=hh.toNat - l.toNat:=by simp;omega
    by_cases hz:hh.toNat - l.toNat=0
    ·have a1:(es.take hh.toNat).drop l.toNat=[]:=List.length_eq_zero_iff.1 (by rw[hlen,hz]);rw[a1];generalize (if mx.isSome=true then hh.toNat else c')=cc;by_cases ah:cc=l.toNat
     ·exact⟨b,o,cc - l.toNat,s,cs,[],by simp[hz,ah],by simp,g3,by simp[ba],by simp⟩
     ·exact⟨b,o+l.toNat*te.size,cc - l.toNat,s,cs,[],by simp[hz,ah,Addr.add_eq],by simp,g3,by simp[ba],by simp⟩
    ·have aq:es≠[]:=by intro e;subst e;simp at h2;omega
     obtain⟨g6,g7⟩:=h4 aq;have hs:s=te.size:=by obtain⟨y,aF,aG, -⟩:=g4.get (i:=0) (List.length_pos_iff.2 aq);rw[<-g6,<-aG];exact(aF.q9).resolve_left (λ⟨l,e⟩=>by rw[e]at g7;simp[SV.aW]at g7)
     have ah:(if mx.isSome=true then hh.toNat else c')≠l.toNat:=by split<;>omega
     rw[if_neg ah];refine⟨b,o+l.toNat*te.size,(if mx.isSome=true then hh.toNat else c') - l.toNat,s,cs,(vs.take (hh.toNat*s)).drop (l.toNat*s),by simp[hlen,Addr.add_eq],by rw[hlen];split<;>omega,g3,(g4.take _).drop _,λi hi=>?_⟩;simp only[List.length_drop,List.length_take]at hi;rw[aw8,aw7 (by omega),<-hs,axp];exact g5 _ (by omega)
  ·cases h
 ·rename_i el _ _ _ k i n aa;have hu:=hx _ rfl;obtain⟨ii,d,zv,ht⟩:=aH aa;obtain rfl:=mm ht.k;split at h
  ·rename_i l hh te e hl ap ae he;obtain⟨i2,d2,z2,ad⟩:=aH ae;split at h
   ·rename_i wE;simp only[dV.q.injEq]at h;obtain⟨rfl,rfl⟩:=h;obtain⟨h0,h1,h2,h3⟩:=hc;simp only[axu]at h3;simp only[Den]at hu;rcases hu with⟨g1,rfl,rfl,rfl⟩ | ⟨d,c',o,g1,g2,g3,g4,rfl⟩
    ·have ai:=λ(w:World)=>iE (P:=P) (w:=w) hρ (isSl:=true) (mx:=mx) (len:=0) (cap:=0) hl ap h0 h1 (by simpa using h2) (axq _) (λhm=>⟨h3 hm,aJ hm⟩);refine⟨_,λw=>by simp[axj,axk,ht.aQ,ai,ad.fC];rfl,?_⟩;simp only[Den];left;simp at h2;have e1:hh.toNat=0:=by omega
     have e2:l.toNat=0:=by omega
     exact⟨g1,by simp[e2],by simp[e1],by simp[e1,e2]⟩
    ·have ai:=λ(w:World)=>iE (P:=P) (w:=w) hρ (isSl:=true) (mx:=mx) (len:=n) (cap:=c') hl ap h0 h1 h2 g2 (λhm=>⟨h3 hm,aJ hm⟩);refine⟨_,λw=>by simp[axj,axk,ht.aQ,ai,ad.fC];rfl,?_⟩;have aw:d.sz=te.size∨c'=0:=by
      rcases hZ k e d (aU he) g1 with h' | ⟨h',aV⟩
      ·exact .inl (h'.trans wE)
      ·rw[h',aV]at g3;exact .inr (by omega)
     simp only[Den];right;have ah:(if mx.isSome=true then hh.toNat else c')<=c':=by split<;>omega
     have hmul:(i+l.toNat+((if mx.isSome=true then hh.toNat else c') - l.toNat))*d.sz<=d.Jn :=
      Nat.le_trans (axn _ (by split<;>omega)) g3
     have bk:hh.toNat<=(if mx.isSome=true then hh.toNat else c'):=by split<;>omega
     generalize (if mx.isSome=true then hh.toNat else c')=cc at ah hmul bk ⊢;by_cases hz:cc=l.toNat
     ·exact⟨d,cc - l.toNat,o,g1,by omega,hmul,λaq=>absurd (by omega) aq,by simp[hz]⟩
     ·refine⟨d,cc - l.toNat,o+l.toNat*te.size,g1,by omega,hmul,λaq=>?_,by simp[hz,Addr.add_eq]⟩;rcases aw with aw | aw
      ·rw[g4 (by omega),aw,awM]
      ·exact absurd (by omega) hz
   ·cases h
  ·cases h
 ·cases h
theorem As(v:Value)(off:Nat):∀(l:List Value) (i:Nat) (cs:Array Value),(∀q,l[q]?=v.cells[i+q]?)->off+i+l.length<=cs.size ->
  ∃r,(l.zipIdx i).foldl (λcs (p:Value × Nat)=>cs.setIfInBounds (off+p.2) p.1) cs=r∧r.size=cs.size ∧
   ∀q,r[q]?=if off+i<=q∧q<off+i+l.length then l[q - (off+i)]? else cs[q]?
 | [],i,cs,_,_=>⟨cs,rfl,rfl,λq=>by rw[if_neg (by simp)]⟩
 | x::l,i,cs,hl,hs=>by
  simp only[awV]at hs;obtain⟨r,h1,h2,h3⟩:=As v off l (i+1) (cs.setIfInBounds (off+i) x) (λq=>by have:=hl (q+1);simp at this;rw[this];congr 1;omega) (by simp;omega);refine⟨r,by simp only[List.zipIdx_cons,List.foldl_cons];exact h1,by simpa using h2,λq=>?_⟩;rw[h3];simp only[awV];by_cases hq:q=off+i
  ·subst hq;rw[if_neg (by omega),if_pos (by omega)];simp[Array.getElem?_setIfInBounds_self_of_lt (show off+i<cs.size by omega)]
  ·rw[Array.getElem?_setIfInBounds_ne (Ne.symm hq)];by_cases a7:off+(i+1)<=q∧q<off+(i+1)+l.length
   ·rw[if_pos a7,if_pos (by omega),show q - (off+i)=(q - (off+(i+1)))+1 from by omega];simp
   ·rw[if_neg a7,if_neg (by omega)]
theorem G0(v:Value)(off:Nat)(cs:Array Value)(hs:off+v.cells.size<=cs.size) :
  (v.cells.zipIdx.foldl (λcs (p:Value × Nat)=>cs.setIfInBounds (off+p.2) p.1) cs).toList=cs.toList.take off++v.cells.toList++cs.toList.drop (off+v.cells.size):=by
 obtain⟨r,h1,h2,h3⟩:=As v off v.cells.toList 0 cs (λq=>by simp) (by simpa using hs);have e:v.cells.zipIdx.foldl (λcs (p:Value × Nat)=>cs.setIfInBounds (off+p.2) p.1) cs=r:=by rw[<-h1,<-Array.foldl_toList];simp[Array.toList_zipIdx]
 rw[e];apply List.ext_getElem?;intro q;rw[aw1,h3];simp only[Nat.add_zero,axw];by_cases hq:q<off
 ·rw[if_neg (by omega),axa,awO (by simp;omega),aw7 hq];simp
 ·rw[axa,awP (by simp;omega)];have hlen:(cs.toList.take off).length=off:=by simp;omega
  rw[hlen];by_cases bx:q<off+v.cells.size
  ·rw[if_pos (by omega),awO (by simp;omega)]
  ·rw[if_neg (by omega),awP (by simp;omega)];simp only[axw,aw8];rw[show off+v.cells.size+(q - off - v.cells.size)=q from by omega];simp
theorem Df{ρ:Operand->Value}{fr:List (Nat × SV)}(hρ:∀o s,ev fr o=some s->Den β H s (ρ o)){fs:List (Nat × Nat × TypeId)}{place:Nat->Option (Nat × Nat)}
  (hp:∀i off sz ft,qJ fs i=some (off,sz,ft)->place i=some (off,sz)) :
  ∀(parts:List (Nat × Operand)) (acc:List SV) (cs:Array Value) (l:List SV),j9 fs (parts.map λp=>(p.1,ev fr p.2)) acc=some l->bN β H acc cs.toList ->
   ∃ar,axl place cs (parts.map λp=>(p.1,ρ p.2))=some ar∧bN β H l ar.toList
 | [],acc,cs,l,h,hd=>by simp only[List.map_nil,j9,awR]at h;subst h;exact⟨cs,by simp[axl],hd⟩
 | (i,o)::parts,acc,cs,l,h,hd=>by
  simp only[aw6]at h ⊢;cases hx:ev fr o with
  | none=>rw[hx]at h;simp[j9]at h
  | some x =>
   rw[hx]at h;simp only[j9]at h;split at h
   ·rename_i off sz ft hf;split at h
    ·rename_i hc;obtain⟨h1,h2,h3⟩:=hc;have a8:=hρ o x hx;have a9:∀l,x≠.bM l:=λl e=>by subst e;simp[SV.aW]at h2
     have wE:(ρ o).cells.size=x.ir:=a8.q9.resolve_left λ⟨l,e⟩=>a9 l e;have hlen:=hd.length;have bl:off+(ρ o).cells.size<=cs.size:=by rw[wE,h1];simp at hlen;omega
     have bm:=G0 (ρ o) off cs bl;obtain⟨ar,a2,a3⟩:=Df hρ hp parts _ ((ρ o).cells.zipIdx.foldl (λcs (p:Value × Nat)=>cs.setIfInBounds (off+p.2) p.1) cs) l h (by rw[bm,<-h1,<-wE];exact((hd.take off).append (a8.ua a9)).append (hd.drop _))
     refine⟨ar,?_,a3⟩;simp only[axl,hp i off sz ft hf];rw[if_neg (by simp[wE,h1];omega)];exact a2
    ·cases h
   ·cases h
theorem Ja{ρ:Operand->Value}{fr:List (Nat × SV)}(hρ:∀o s,ev fr o=some s->Den β H s (ρ o)){t:TypeId}{parts:Array (Nat × Operand)}
  (h:rR (an P t) (parts.toList.map λp=>(p.1,ev fr p.2))=.q c r) :
  ∃z,(∀w,(axm t (parts.map λ(i,x)=>(i,ρ x))).run P w=.ok z w)∧Den β H r z:=by
 unfold rR at h;split at h
 ·rename_i fs _ _ zero aa;split at h
  ·rename_i aj;split at h
   ·rename_i l hl;simp only[dV.q.injEq]at h;obtain⟨-,rfl⟩:=h;obtain⟨ii,d,zv,ht⟩:=aH aa;obtain⟨a,rfl,rfl⟩:=OW ht.k;have hz:bN β H zero zv.cells.toList:=by
     have:=ht.zero;simp only at this;rw[this];exact BB _ ht.cells
    have bn:∀(w:World) (l:List Field),(∀f∈l,PO P f.type≠0)->(l.mapM λf=>Prod.mk f.offset <$> sizeOf f.type:Sem (List (Nat × Nat))).run P w=.ok (l.map λf=>(f.offset,PO P f.type)) w:=by
     intro w l
     induction l with
     | nil=>intro _;simp
     | cons f l ih =>
      intro aj;have hs:=tc (P:=P) (w:=w) (aj f (by simp));have:=ih λg hg=>aj g (by simp[hg]);simp[hs,this]
    have bo:=λ(w:World)=>bn w a.toList (λf hf=>by simp only[List.all_eq_true,List.mem_map,bne_iff_ne,ne_eq]at aj;exact aj _ ⟨f,hf,rfl⟩)
    obtain⟨ar,a2,a3⟩:=Df hρ (place:=λi=>(a.map λf=>(f.offset,PO P f.type))[i]?) (λi off sz ft hf=>by
     rw[DI,aw9]at hf;rw[<-aw1,Array.toList_map,aw9];cases hb:a.toList[i]? with
     | none=>rw[hb]at hf;simp at hf
     | some f =>
      rw[hb]at hf;simp only[axs,awR,Prod.mk.injEq]at hf ⊢;obtain⟨rfl,rfl, -⟩:=hf;exact⟨rfl,rfl⟩) parts.toList zero zv.cells l hl hz
    refine⟨.agg ar,λw=>?_,by simp only[Den];exact⟨ar.toList,by simp,a3⟩⟩;have bp:(parts.map λ(i,x)=>(i,ρ x)).toList=parts.toList.map λp=>(p.1,ρ p.2):=by simp
    have a4:∀w,(a.mapM λf=>Prod.mk f.offset <$> sizeOf f.type:Sem (Array (Nat × Nat))).run P w=.ok (a.map λf=>(f.offset,PO P f.type)) w:=by intro w;rw[Array.mapM_eq_mapM_toList];simp only[Sem.run_map,bo,aw5];congr 1;apply axx;simp
    simp only[axm,aw4,ht.lE,ht.aQ,aw5,bp,bind_pure_comp,a4,a2,axr]
   ·cases h
  ·cases h
 ·cases h
theorem I6{op:BinOp}{t:TypeId}{x:Option SV}{ox:Operand}{u:Value}(h:kE op (an P t) x=.q c r)(hx:∀s,x=some s->Den β H s u) :
  ∃z,(∀w,(do eqGuard op t ox (.const .nilIface) u .nilIface;binOp op t u .nilIface:Sem Value).run P w=.ok z w)∧Den β H r z:=by
 have ax:∀a b z,an P t=some ⟨.iface,a,b,z⟩->P.underlying t=some (.interface (P.methodsAt t)):=λa b z ae=>by obtain⟨i1,d1,z1,ab⟩:=aH ae;have hk:=ab.k;have hu:=ab.under;cases d1<;>simp[tk]at hk;rw[hu];simp[Program.methodsAt,hu]
 have nn:(eqGuard op t ox (.const .nilIface) .nilIface .nilIface)=pure ():=by cases op<;>cases ox<;>rfl
 have nh:∀q v,(eqGuard op t ox (.const .nilIface) (.iface q v) .nilIface)=pure ():=λq v=>by cases op<;>rfl
 unfold kE at h;split at h
 ·rename_i aa;have ht:=ax _ _ _ aa;have hu:=hx _ rfl;simp only[Den]at hu;rw[hu.1];simp only[dV.q.injEq]at h;obtain⟨-,rfl⟩:=h;exact⟨.bool true,λw=>by rw[nn];simp[run_eql_nil_nil w t ht],cg rfl⟩
 ·rename_i aa;have ht:=ax _ _ _ aa;have hu:=hx _ rfl;simp only[Den]at hu;rw[hu.1];simp only[dV.q.injEq]at h;obtain⟨-,rfl⟩:=h;exact⟨.bool false,λw=>by rw[nn];simp[run_neq_nil_nil w t ht],cg rfl⟩
 ·rename_i aa;have ht:=ax _ _ _ aa;have hu:=hx _ rfl;simp only[Den]at hu;obtain⟨v,rfl,_⟩:=hu;simp only[dV.q.injEq]at h;obtain⟨-,rfl⟩:=h;exact⟨.bool false,λw=>by rw[nh];simp[run_eql_held_nil w t _ _ ht],cg rfl⟩
 ·rename_i aa;have ht:=ax _ _ _ aa;have hu:=hx _ rfl;simp only[Den]at hu;obtain⟨v,rfl,_⟩:=hu;simp only[dV.q.injEq]at h;obtain⟨-,rfl⟩:=h;exact⟨.bool true,λw=>by rw[nh];simp[run_neq_held_nil w t _ _ ht],cg rfl⟩
 ·rename_i aa;have ht:=ax _ _ _ aa;have hu:=hx _ rfl;simp only[Den]at hu;obtain⟨b,_,rfl⟩:=hu;simp only[dV.q.injEq]at h;obtain⟨-,rfl⟩:=h;exact⟨.bool false,λw=>by rw[nh];simp[run_eql_held_nil w t _ _ ht],cg rfl⟩
 ·rename_i aa;have ht:=ax _ _ _ aa;have hu:=hx _ rfl;simp only[Den]at hu;obtain⟨b,_,rfl⟩:=hu;simp only[dV.q.injEq]at h;obtain⟨-,rfl⟩:=h;exact⟨.bool true,λw=>by rw[nh];simp[run_neq_held_nil w t _ _ ht],cg rfl⟩
 ·cases h
theorem Cx(hZ:∀k e d,M[k]?=some (some e)->β k=some (some d)->d.sz=e.sz∨(d.sz=1∧d.Jn=0)){n:Nat}{fr:List (Nat × SV)}{a:Act}(hF:jl β H n fr a){o:Oper}(h:EZ P M fr o.op=.q c r)(hc:c)(hl:∀t x,o.op≠.load t x)(aK:∀s d x,o.op=.convert s d x->∀el a b z,an P s≠some ⟨.sl el,a,b,z⟩) :
  ∃v,(∀w,(execOp a.eval o).run P w=.ok (.value v) w)∧Den β H r v:=by
 have hρ:=λo=>nG hF o;have lift:∀{s:Sem Value},(∃z,(∀w,s.run P w=.ok z w)∧Den β H r z)->∃v,(∀w,(do pure (Next.value (<-s)):Sem Next).run P w=.ok (.value v) w)∧Den β H r v:=λ⟨z,h1,h2⟩=>⟨z,λw=>by simp[h1],h2⟩
 obtain⟨dst,op,type,pos,after,guard⟩:=o;cases op<;>simp only[EZ]at h<;>simp only[execOp]
 case move x =>
  split at h
  ·rename_i y hy;simp only[dV.q.injEq]at h;obtain⟨-,rfl⟩:=h;exact⟨_,λ_=>rfl,hρ x _ hy⟩
  ·cases h
 case assign x =>
  split at h
  ·rename_i y hy;simp only[dV.q.injEq]at h;obtain⟨-,rfl⟩:=h;exact⟨_,λ_=>rfl,hρ x _ hy⟩
  ·cases h
 case pick cd x y =>
  unfold zX at h;split at h
  ·rename_i a5;have hu:=hρ cd _ a5;simp only[Den]at hu;split at h
   ·rename_i s hs;simp only[dV.q.injEq]at h;obtain⟨-,rfl⟩:=h;exact⟨a.eval x,λw=>by rw[hu.1];simp[asBool],hρ x _ hs⟩
   ·cases h
  ·rename_i a5;have hu:=hρ cd _ a5;simp only[Den]at hu;split at h
   ·rename_i s hs;simp only[dV.q.injEq]at h;obtain⟨-,rfl⟩:=h;exact⟨a.eval y,λw=>by rw[hu.1];simp[asBool],hρ y _ hs⟩
   ·cases h
  ·cases h
 case binOp op t x y t' =>
  unfold z8 at h;split at h
  ·rename_i a b hx hy;exact lift (Ik h (hρ x _ hx) (hρ y _ hy))
  ·unfold pJ at h;split at h
   ·rename_i hy;have bq:y=.const .nilIface:=by
     unfold isNil at hy;split at hy
     ·rfl
     ·cases hy
    subst bq;exact lift (I6 h (hρ x))
   ·exact lift (NZ h hc (hρ x) (hρ y))
 case unOp op t x =>
  unfold ON at h;split at h
  ·rename_i k m hx;have hu:=hρ x _ hx;simp only[Den]at hu;simp only[dV.q.injEq]at h;obtain⟨-,rfl⟩:=h;exact lift ⟨_,λw=>by rw[hu.1];simp[Op.unary,Op.intArith],cg rfl⟩
  ·rename_i b hx;have hu:=hρ x _ hx;simp only[Den]at hu;simp only[dV.q.injEq]at h;obtain⟨-,rfl⟩:=h;exact lift ⟨_,λw=>by rw[hu.1];simp[Op.unary],cg rfl⟩
  ·cases h
 case convert s d x =>
  unfold uj at h;split at h
  ·rename_i au _;exact absurd au (aK _ _ _ rfl _ _ _ _)
  unfold EN at h;split at h
  ·rename_i ti k _ _ _ k' m aa a6 hx;have hu:=hρ x _ hx;simp only[Den]at hu;simp only[dV.q.injEq]at h;obtain⟨-,rfl⟩:=h;obtain⟨i1,d1,z1,ab⟩:=aH a6;obtain⟨i2,d2,z2,ad⟩:=aH aa;obtain rfl:=Jd ab.k;exact lift ⟨_,λw=>by rw[hu.1];simp[convert,ab.aQ,ad.aQ,Conv.intToInt],cg rfl⟩
  ·cases h
 case nilCheck x =>
  unfold F6 at h;split at h
  ·rename_i k i j hx;have hu:=hρ x _ hx;simp only[dV.q.injEq]at h;obtain⟨-,rfl⟩:=h;have ao:=hu;simp only[Den]at hu;obtain⟨d,_,av⟩:=hu;rw[av]at ao ⊢;exact⟨_,λ_=>rfl,ao⟩
  ·rename_i y j hx;have hu:=hρ x _ hx;simp only[dV.q.injEq]at h;obtain⟨-,rfl⟩:=h;have ao:=hu;simp only[Den]at hu;obtain⟨b,o,cs,v,av,_⟩:=hu;rw[av]at ao ⊢;exact⟨_,λ_=>rfl,ao⟩
  ·rename_i t y hx;have hu:=hρ x _ hx;simp only[dV.q.injEq]at h;obtain⟨-,rfl⟩:=h;have ao:=hu;simp only[Den]at hu;obtain⟨v,av,_⟩:=hu;rw[av]at ao ⊢;exact⟨_,λ_=>rfl,ao⟩
  ·cases h
 case extract x i =>
  unfold sI at h;split at h
  ·rename_i l hx;have hu:=hρ x _ hx;simp only[Den]at hu;obtain⟨vs,br,av⟩:=hu;simp only[dV.q.injEq]at h;obtain⟨rfl,rfl⟩:=h;obtain⟨v,ay,aL⟩:=av.get hc;exact lift ⟨v,λw=>by rw[br];simp[Instr.extract,ay],aL⟩
  ·cases h
 case field t x f=>exact lift (IV h hc (hρ x))
 case fieldAddr t x f=>exact lift (Bi h hc (hρ x))
 case indexAddr t x i=>exact lift (Ay hZ h hc (hρ x) (hρ i))
 case index t x i=>exact lift (Ji h hc (hρ x) (hρ i))
 case load t x=>exact absurd rfl (hl t x)
 case slice t x lo hi mx =>
  split at h
  ·cases h
  ·rename_i hm;exact lift (Ir hZ hρ h hc (hρ x) (λh1=>by cases hi with | none=>simp[h1]at hm | some _=>rfl))
 case makeInterface t x =>
  unfold zl at h;split at h
  ·cases h
  ·rename_i ti y aq aa hy;simp only[dV.q.injEq]at h;obtain⟨-,rfl⟩:=h;obtain⟨i1,d1,z1,ab⟩:=aH aa;refine lift ⟨.iface t (a.eval x),λw=>?_,by simp only[Den];exact⟨_,rfl,hρ x _ hy⟩⟩;simp only[Instr.makeInterface,aw4,ab.aQ,aw5];cases d1<;>simp;obtain⟨k,s,b,z⟩:=ti;have:=ab.k;simp[tk]at this;subst this;exact aq _ _ _ rfl
  ·cases h
 case build t parts=>exact lift (Ja hρ h)
 case call cl =>
  obtain⟨callee,args,ts⟩:=cl;cases callee with
  | builtin b =>
   change sQ P b ts (args.toList.map (ev fr))=dV.q c r at h;simp only[resolve,aw4,axr,aw5,invoke];have ext:∀{s:Sem Value},(∃z,(∀w,s.run P w=.ok z w)∧Den β H r z)->∃v,(∀w,(do pure (Next.value (<-s)):Sem Next).run P w=.ok (.value v) w)∧Den β H r v:=λ⟨z,h1,h2⟩=>⟨z,λw=>by simp[h1],h2⟩
   unfold sQ at h;split at h
   ·rename_i x ac;obtain⟨o,ho,rfl⟩:∃o,args.toList=[o]∧ev fr o=x:=by
     cases ha:args.toList with
     | nil=>rw[ha]at ac;simp at ac
     | cons o l=>cases l with
      | nil=>rw[ha]at ac;exact⟨o,rfl,by simpa using ac⟩
      | cons o' l=>rw[ha]at ac;simp at ac
    have ak:args=#[o]:=by apply axx;simpa using ho
    subst ak;simp only[builtin];refine ext ?_;unfold qV at h;cases af:ts[0]? with
    | none=>rw[af]at h;simp at h
    | some t0 =>
     rw[af]at h;simp only[axv]at h;split at h
     ·rename_i aa hx;have hu:=hρ o _ hx;simp only[Den]at hu;simp only[dV.q.injEq]at h;obtain⟨-,rfl⟩:=h;obtain⟨i1,d1,z1,ab⟩:=aH aa;obtain rfl:=mm ab.k;exact⟨_,λw=>by simp[axy,af,hu.1,ab.aQ,goInt],cg rfl⟩
     ·rename_i es aa hx;have hu:=hρ o _ hx;simp only[Den]at hu;simp only[dV.q.injEq]at h;obtain⟨-,rfl⟩:=h;obtain⟨i1,d1,z1,ab⟩:=aH aa;obtain rfl:=mm ab.k;rcases hu with⟨rfl,_,_,hu⟩ | ⟨b,o',c',s,cs,vs,hu,_⟩
      ·exact⟨_,λw=>by simp[axy,af,hu,ab.aQ,goInt],cg rfl⟩
      ·exact⟨_,λw=>by simp[axy,af,hu,ab.aQ,goInt],cg rfl⟩
     ·rename_i k i n aa hx;have hu:=hρ o _ hx;simp only[Den]at hu;simp only[dV.q.injEq]at h;obtain⟨-,rfl⟩:=h;obtain⟨i1,d1,z1,ab⟩:=aH aa;obtain rfl:=mm ab.k;rcases hu with⟨_,_,rfl,hu⟩ | ⟨d,c',o',_,_,_,_,hu⟩
      ·exact⟨_,λw=>by simp[axy,af,hu,ab.aQ,goInt],cg rfl⟩
      ·exact⟨_,λw=>by simp[axy,af,hu,ab.aQ,goInt],cg rfl⟩
     ·rename_i s aa hx;have hu:=hρ o _ hx;simp only[Den]at hu;simp only[dV.q.injEq]at h;obtain⟨-,rfl⟩:=h;obtain⟨i1,d1,z1,ab⟩:=aH aa;obtain rfl:=Br ab.k;exact⟨_,λw=>by simp[axy,af,hu.1,ab.aQ,goInt],cg rfl⟩
     ·cases h
   ·rename_i x ac;obtain⟨o,ho,rfl⟩:∃o,args.toList=[o]∧ev fr o=x:=by
     cases ha:args.toList with
     | nil=>rw[ha]at ac;simp at ac
     | cons o l=>cases l with
      | nil=>rw[ha]at ac;exact⟨o,rfl,by simpa using ac⟩
      | cons o' l=>rw[ha]at ac;simp at ac
    have ak:args=#[o]:=by apply axx;simpa using ho
    subst ak;simp only[builtin];refine ext ?_;unfold J1 at h;cases af:ts[0]? with
    | none=>rw[af]at h;simp at h
    | some t0 =>
     rw[af]at h;simp only[axv]at h;split at h
     ·rename_i aa hx;have hu:=hρ o _ hx;simp only[Den]at hu;simp only[dV.q.injEq]at h;obtain⟨-,rfl⟩:=h;obtain⟨i1,d1,z1,ab⟩:=aH aa;obtain rfl:=mm ab.k;exact⟨.tuple #[],λw=>by simp[axz,af,hu.1,ab.aQ],by simp only[Den];exact⟨[],rfl,by simp[bZ]⟩⟩
     ·rename_i k i n aa hx;have hu:=hρ o _ hx;simp only[Den]at hu;simp only[dV.q.injEq]at h;obtain⟨rfl,rfl⟩:=h;subst hc;obtain⟨i1,d1,z1,ab⟩:=aH aa;obtain rfl:=mm ab.k;rcases hu with⟨_,_,_,hu⟩ | ⟨d,c',o',_,_,_,_,hu⟩
      ·exact⟨.tuple #[],λw=>by simp[axz,af,hu,ab.aQ],by simp only[Den];exact⟨[],rfl,by simp[bZ]⟩⟩
      ·exact⟨.tuple #[],λw=>by simp[axz,af,hu,ab.aQ],by simp only[Den];exact⟨[],rfl,by simp[bZ]⟩⟩
     ·cases h
   all_goals first
    | cases h
    | (
      rename_i x y ac;obtain⟨o1,o2,ho,rfl,rfl⟩:∃o1 o2,args.toList=[o1,o2]∧ev fr o1=x∧ev fr o2=y:=by
       cases ha:args.toList with
       | nil=>rw[ha]at ac;simp at ac
       | cons o l=>cases l with
        | nil=>rw[ha]at ac;simp at ac
        | cons o' l=>cases l with
         | nil=>rw[ha]at ac;simp at ac;exact⟨o,o',rfl,ac.1,ac.2⟩
         | cons bz l=>rw[ha]at ac;simp at ac
      have ak:args=#[o1,o2]:=by apply axx;simpa using ho
      subst ak;simp only[builtin];refine ext ?_;unfold oX at h;split at h
      ·rename_i k m k' n hx hy;have hu:=hρ o1 _ hx;have hv:=hρ o2 _ hy;simp only[Den]at hu hv;simp only[dV.q.injEq]at h;obtain⟨-,rfl⟩:=h;exact⟨_,λw=>by simp[Builtin.max_,Builtin.max2,Builtin.min_,Builtin.min2,hu.1,hv.1],cg rfl⟩
      ·cases h)
  | value f=>cases h
  | invoke r m=>cases h
 case makeFunc fn l r' =>
  cases fn with
  | func f =>
   simp only at h;unfold SE at h;split at h
   ·rename_i xs ys ac bs;simp only[dV.q.injEq]at h;obtain⟨-,rfl⟩:=h;refine lift ⟨.func (.func f) (l.map a.eval) (r'.map a.eval),λw=>rfl,?_⟩;simp only[Den];refine⟨_,_,?_,m9 hF _ _ ac,m9 hF _ _ bs⟩;congr 1<;>(apply axx;simp)
   ·cases h
  | _=>cases h
 all_goals cases h
theorem cM.wE(hW:cM C β H M w):∀k e d,M[k]?=some (some e)->β k=some (some d)->d.sz=e.sz∨(d.sz=1∧d.Jn=0):=λk e d hk hd=>by
 rcases hW.dF k e hk with⟨h4,_⟩ | ⟨d',cs,T,vs,h4,h5,_⟩ | ⟨d',ms,h4,h5,_⟩
 ·rw[hd]at h4;simp at h4
 ·rw[hd]at h4;simp only[awR]at h4;subst h4;exact .inl h5
 ·rw[hd]at h4;simp only[awR]at h4;subst h4;exact .inr h5.2
theorem Hb(hW:cM C β H M w){n:Nat}{fr:List (Nat × SV)}{a:Act}(hF:jl β H n fr a){s d:TypeId}{x:Operand}{el:TypeId}{a' b:Nat}{zz:List SV}{dst type pos after guard}(h:EZ P M fr (.convert s d x)=.q c r)(hc:c)(au:an P s=some ⟨.sl el,a',b,zz⟩) :
  ∃v,(execOp a.eval ⟨dst,.convert s d x,type,pos,after,guard⟩).run P w=.ok (.value v) w∧Den β H r v∧((∀k i n,ev fr x≠some (.view k i n))->∀w':World,(∀b cs,H b=some cs->∃T z,w'.heap[b]?=some (.cells cs T z))->(execOp a.eval ⟨dst,.convert s d x,type,pos,after,guard⟩).run P w'=.ok (.value v) w'):=by
 simp only[EZ,au]at h;unfold uj at h;split at h
 ·rename_i bA _ _ _ _ _ _ he bt;simp only[awR,TI.mk.injEq,TK.sl.injEq]at he;obtain⟨rfl, -, -, -⟩:=he;obtain⟨i1,d1,z1,ab⟩:=aH au;obtain⟨i2,d2,z2,ad⟩:=aH bt;obtain rfl:=mm ab.k;obtain rfl:=Br ad.k;obtain⟨z,h1,h2,h3⟩:=Ot hW ab.under ad.under h hc (nG hF x);exact⟨z,by simp[execOp,h1],h2,λhn w' al=>by simp[execOp,h3 hn w' al]⟩
 ·rename_i bB;unfold EN at h;split at h
  ·rename_i ti kk _ _ _ k' m aa a6 hx;simp only[dV.q.injEq]at h;obtain⟨-,rfl⟩:=h;obtain⟨i1,d1,z1,ab⟩:=aH au;obtain⟨i2,d2,z2,ad⟩:=aH a6;obtain rfl:=Jd ad.k;have hu:=nG hF x _ hx;simp only[Den]at hu;exact⟨_,by rw[show execOp a.eval ⟨dst,.convert s d x,type,pos,after,guard⟩=(do pure (Next.value (<-convert s d (a.eval x)))) from rfl,hu.1];simp[convert,ab.aQ,ad.aQ,Conv.intToInt],cg rfl,λ_ w' _=>by rw[show execOp a.eval ⟨dst,.convert s d x,type,pos,after,guard⟩=(do pure (Next.value (<-convert s d (a.eval x)))) from rfl,hu.1];simp[convert,ab.aQ,ad.aQ,Conv.intToInt]⟩
  ·cases h
theorem Nm(hW:cM C β H M w){n:Nat}{fr:List (Nat × SV)}{a:Act}(hF:jl β H n fr a){o:Oper}(h:EZ P M fr o.op=.q c r)(hc:c) :
  ∃v,(execOp a.eval o).run P w=.ok (.value v) w∧Den β H r v:=by
 by_cases hl:∃t x,o.op=.load t x
 ·obtain⟨t,x,ho⟩:=hl;obtain⟨dst,op,type,pos,after,guard⟩:=o;simp only at ho;subst ho;simp only[EZ]at h;obtain⟨z,h1,h2⟩:=xk (P:=P) hW h hc (nG hF x);exact⟨z,by simp[execOp,h1 w (λ_ _ _ _=>rfl)],h2⟩
 ·by_cases aK:∃s d x el a b z,o.op=.convert s d x∧an P s=some ⟨.sl el,a,b,z⟩
  ·obtain⟨s,d,x,el,a',b,z,ho,au⟩:=aK;obtain⟨dst,op,type,pos,after,guard⟩:=o;simp only at ho;subst ho;obtain⟨v,h1,h2, -⟩:=Hb hW hF h hc au;exact⟨v,h1,h2⟩
  ·obtain⟨v,h1,h2⟩:=Cx (P:=P) hW.wE hF h hc (λt x e=>hl ⟨t,x,e⟩) (λs d x e el a' b z e'=>aK ⟨s,d,x,el,a',b,z,e,e'⟩);exact⟨v,h1 w,h2⟩
end
end Go.Sv


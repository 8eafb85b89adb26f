/- A text of the prover's own. -/
import Derived.Test.YtmghjkkjaolpgaaGreatDoorUVa
import Derived.MapKept
import Derived.Laws.StructEq
open Option.some renaming injEq→al0,inj→amD
open Nat renaming le_refl→amk,sub_zero→amE
open List renaming cons_append→amF,getElem?_cons_zero→amG,ext_getElem?→amr,getElem?_eq_some_iff→amH,getElem?_set_self→amv,getElem?_set_ne→amw
open Array renaming getElem?_toList→ama,ext'→amq,toList_modify→amI,toList_setIfInBounds→amJ,length_toList→amp,toList_push→amK
open Option renaming map_some→aml,getD_some→amL
namespace Go.Sv
open Go Go.RowKit
def Gv:Value→Value→Option Bool
 | .int k a,.int k' b=>if k=k' then some (decide (a=b)) else none
 | .string a,.string b=>some (decide (a=b))
 | .bool a,.bool b=>some (decide (a=b))
 | _,_=>none
def xk(ti:Option TI)(v:Value):Bool :=
 match ti,v with
 | some ⟨.int k,_,_,_⟩,.int k' _=>decide (k=k')
 | some ⟨.str,_,_,_⟩,.string _=>true
 | some ⟨.bool,_,_,_⟩,.bool _=>true
 | _,_=>false
def Ml(v:Value)(u:Value)(y:SV)(i:Nat)(r:Option (Option (Nat × SV))):Option (Option (Nat × SV)) :=
 match Gv v u with
 | some true=>some (some (i,y))
 | some false=>r
 | none=>none
def U1:SV→Option (Value × SV)
 | .bG [.val u,y]=>some (u,y)
 | _=>none
def fo(v:Value):List SV→Nat→Option (Option (Nat × SV))
 | [],_=>some none
 | x::l,i=>match U1 x with
  | some (u,y)=>Ml v u y i (fo v l (i+1))
  | none=>none
def adM(x y:SV):SV:=match x with
 | .bG [u,_]=>.bG [u,y]
 | x=>x
def two(ok:Bool)(y:SV)(b:Bool):SV:=if ok=true then .bG [y,.val (.bool b)] else y
def Ka(ok:Bool)(M:aJ)(te:TI)(r:Option (Option (Nat × SV))):cr:=match r with
 | some (some (_,y))=>.m True M [] (some (two ok y true))
 | some none=>.m True M [] (some (two ok te.cK false))
 | none=>.stuck
def RC(ok:Bool)(M:aJ)(tk':Option TI)(v:Value)(te:Option TI)(e:Option cx):cr:=match te,e with
 | some te,some e=>if e.sz=0∧xk tk' v=true then Ka ok M te (fo v e.es 0) else .stuck
 | _,_=>.stuck
def lkN(ok:Bool)(M:aJ)(tk':Option TI)(v:Value)(te:Option TI):cr:=match te with
 | some te=>if xk tk' v=true then .m True M [] (some (two ok te.cK false)) else .stuck
 | none=>.stuck
def j8(P:Program)(M:aJ)(ti:Option TI)(x i:Option SV)(ok:Bool):cr :=
 match ti,x,i with
 | some ⟨.mp kt et,_,_,_⟩,some (.mp k),some (.val v)=>RC ok M (az P kt) v (az P et) (ao M k)
 | some ⟨.mp kt et,_,_,_⟩,some (.val (.map none)),some (.val v)=>lkN ok M (az P kt) v (az P et)
 | _,_,_=>.stuck
def ID(M:aJ)(k:Nat)(es:List SV)(v:Value)(y:SV)(r:Option (Option (Nat × SV))):cr:=match r with
 | some (some (j,_))=>.m True (aN M k (some ⟨0,bD es j (.bG [.val v,y]),false⟩)) [] none
 | some none=>.m True (aN M k (some ⟨0,es++[.bG [.val v,y]],false⟩)) [] none
 | none=>.stuck
def RK(M:aJ)(k:Nat)(tk':Option TI)(v:Value)(y:SV)(e:Option cx):cr:=match e with
 | some e=>if e.sz=0∧e.fz=false∧xk tk' v=true then ID M k e.es v y (fo v e.es 0) else .stuck
 | none=>.stuck
def jF(P:Program)(M:aJ)(ti:Option TI)(m i x:Option SV):cr :=
 match ti,m,i,x with
 | some ⟨.mp kt _,_,_,_⟩,some (.mp k),some (.val v),some y=>RK M k (az P kt) v y (ao M k)
 | _,_,_,_=>.stuck
def enR(M:aJ)(k:Nat)(es:List SV)(v:Value)(te:TI)(r:Option (Option (Nat × SV))):cr:=match r with
 | some (some (j,y))=>.m True M [] (some (.bG [y,.val (.int .i64 (j:Nat))]))
 | some none=>.m True (aN M k (some ⟨0,es++[.bG [.val v,te.cK]],false⟩)) [] (some (.bG [te.cK,.val (.int .i64 es.length)]))
 | none=>.stuck
def enE(M:aJ)(k:Nat)(tk':Option TI)(v:Value)(te:Option TI)(e:Option cx):cr:=match te,e with
 | some te,some e=>if e.sz=0∧e.fz=false∧xk tk' v=true then enR M k e.es v te (fo v e.es 0) else .stuck
 | _,_=>.stuck
def kD(P:Program)(M:aJ)(ti:Option TI)(m i:Option SV):cr :=
 match ti,m,i with
 | some ⟨.mp kt et,_,_,_⟩,some (.mp k),some (.val v)=>enE M k (az P kt) v (az P et) (ao M k)
 | _,_,_=>.stuck
def esE(M:aJ)(k:Nat)(n:Int)(y:SV)(e:Option cx):cr:=match e with
 | some e=>if e.sz=0∧e.fz=false then .m (0≤n∧n<e.es.length) (aN M k (some ⟨0,bD e.es n.toNat (adM (aA e.es n.toNat) y),false⟩)) [] none else .stuck
 | none=>.stuck
def iD(M:aJ)(m s x:Option SV):cr :=
 match m,s,x with
 | some (.mp k),some (.val (.int _ n)),some y=>esE M k n y (ao M k)
 | _,_,_=>.stuck
def Sj(M:aJ)(e:Option cx):cr:=match e with
 | some e=>if e.sz=0 then .m True M [] (some (.val (.int .i64 e.es.length))) else .stuck
 | none=>.stuck
def fK(M:aJ)(ti:Option TI)(x:Option SV):cr :=
 match ti,x with
 | some ⟨.mp _ _,_,_,_⟩,some (.mp k)=>Sj M (ao M k)
 | some ⟨.mp _ _,_,_,_⟩,some (.val (.map none))=>.m True M [] (some (.val (.int .i64 0)))
 | _,_=>.stuck
def jq(M:aJ)(ti:Option TI)(x:Option (Option SV)):cr :=
 match ti,x with
 | some ⟨.mp _ _,_,_,_⟩,none=>.m True (M++[some ⟨0,[],false⟩]) [] (some (.mp M.length))
 | some ⟨.mp _ _,_,_,_⟩,some (some (.val (.int _ _)))=>.m True (M++[some ⟨0,[],false⟩]) [] (some (.mp M.length))
 | _,_=>.stuck
section
variable {P:Program} {C:Ctx} {β:bO} {H:Hp} {M:aJ} {w:World} {c:Prop}
theorem vz{d:TypeDesc}{k e:TypeId}(h:TK.mp k e=tk P d):d=.map k e:=by
 cases d<;>simp[tk]at h;rw[h.1,h.2]
theorem DF(a b:ByteArray):(a==b)=decide (a=b):=by
 rw[beq_toListBytes,bytes_beq]
theorem sk{α:Type}{l:List α}{j:Nat}{x:α}(f:α→α)(h:l[j]?=some x):l.modify j f=l.set j (f x):=by
 induction l generalizing j with
 | nil=>simp at h
 | cons y l ih=>cases j with
  | zero=>simp at h;simp[h]
  | succ j=>simp at h ⊢;exact ih h
theorem uo{kt:TypeId}{v:Value}(h:xk (az P kt) v=true):A0 v=true∧∃d,P.underlying kt=some d∧(∀u,Instr.sameNow d v u=Gv v u)∧∀(e:Bool) (n:Nat) (w:World),(Instr.checkKey e (n+1) kt v).run P w=.ok () w:=by
 unfold xk at h;split at h
 ·rename_i k _ _ _ k' a hti;obtain⟨i,d,z,ht⟩:=ay hti;obtain rfl:=CC ht.k;obtain rfl:k=k':=by simpa using h
  refine⟨rfl,_,ht.under,fun u=>?_,fun e n w=>?_⟩
  ·cases u<;>simp[Instr.sameNow,Gv,BEq.beq]
  ·simp[Instr.checkKey,ht.aK]
 ·rename_i _ _ _ a hti;obtain⟨i,d,z,ht⟩:=ay hti;obtain rfl:=wZ ht.k;refine⟨rfl,_,ht.under,fun u=>?_,fun e n w=>?_⟩
  ·cases u<;>simp[Instr.sameNow,Gv,DF]
  ·simp[Instr.checkKey,ht.aK]
 ·rename_i _ _ _ a hti;obtain⟨i,d,z,ht⟩:=ay hti;have:d=.bool:=by
   have hk:=ht.k;cases d<;>simp[tk]at hk;rfl
  subst this;refine⟨rfl,_,ht.under,fun u=>?_,fun e n w=>?_⟩
  ·cases u<;>simp[Instr.sameNow,Gv,BEq.beq]
  ·simp[Instr.checkKey,ht.aK]
 ·cases h
theorem Ix{v u:Value}(h:Gv v u=some true):v=u:=by
 unfold Gv at h;split at h
 ·split at h
  ·rename_i hk;simp at h;rw[hk,h]
  ·cases h
 ·simp at h;rw[h]
 ·simp at h;rw[h]
 ·cases h
theorem kr{d:TypeDesc}{v:Value}(hs:∀u,Instr.sameNow d v u=Gv v u):∀{es:List SV} {ms:List MapEntry} {n i:Nat} {r:Option (Nat × SV)},cH β H es ms n→fo v es i=some r →
  (r=none∧Instr.findNow d v ms i=some none) ∨
  (∃j y m,r=some (j,y)∧i≤j∧j<i+es.length∧Instr.findNow d v ms i=some (some (j,m.val))∧ms[j - i]?=some m∧m.key=v∧m.born=n+(j - i)∧Den β H y m.val)
 | [],ms,n,i,r,h,hf=>by
  simp only[cH]at h;subst h;simp only[fo,al0]at hf;exact .inl ⟨hf.symm,rfl⟩
 | x::es,ms,n,i,r,h,hf=>by
  simp only[cH]at h;obtain⟨key,y,m,q,rfl,rfl,h3,h4,h5,h6,h7⟩:=h;simp only[fo,U1,Ml]at hf;cases hq:Gv v key with
  | none=>rw[hq]at hf;cases hf
  | some b =>
   rw[hq]at hf;have hsn:Instr.sameNow d v m.key=some b:=by rw[hs,h3,hq]
   cases b with
   | true =>
    simp only[al0]at hf;refine .inr ⟨i,y,m,hf.symm,amk _,by simp,?_,by simp,by rw[h3,Ix hq],by simp[h5],h6⟩;simp[Instr.findNow,hsn]
   | false =>
    simp only at hf;have hfn:Instr.findNow d v (m::q) i=Instr.findNow d v q (i+1):=by simp[Instr.findNow,hsn]
    rcases kr hs h7 hf with⟨g1,g2⟩ | ⟨j,y',m',g1,g2,g3,g4,g5,g6,g7,g8⟩
    ·exact .inl ⟨g1,by rw[hfn];exact g2⟩
    ·refine .inr ⟨j,y',m',g1,by omega,by simp;omega,by rw[hfn];exact g4,?_,g6,by omega,g8⟩;rw[show j - i=(j - (i+1))+1 by omega];simpa using g5
theorem cH.append{es:List SV}{ms:List MapEntry}{n:Nat}(h:cH β H es ms n){v:Value}{y:SV}{m:MapEntry}(hm:m.key=v)(hv:A0 v=true)(hb:m.born=n+es.length)(hy:Den β H y m.val):cH β H (es++[.bG [.val v,y]]) (ms++[m]) n:=by
 induction es generalizing ms n with
 | nil =>
  simp only[cH]at h;subst h;simp only[List.nil_append,cH];exact⟨v,y,m,[],rfl,rfl,hm,hv,by simpa using hb,hy,rfl⟩
 | cons x es ih =>
  simp only[cH]at h;obtain⟨key,y',m',q,rfl,rfl,h3,h4,h5,h6,h7⟩:=h;simp only[amF,cH];exact⟨key,y',m',q++[m],rfl,rfl,h3,h4,h5,h6,ih h7 (by rw[hb];simp;omega)⟩
theorem cH.set{es:List SV}{ms:List MapEntry}{n j:Nat}(h:cH β H es ms n){v:Value}{y:SV}{m m':MapEntry}(hj:ms[j]?=some m)(hm:m'.key=v)(hv:A0 v=true)(hb:m'.born=m.born)(hy:Den β H y m'.val):cH β H (bD es j (.bG [.val v,y])) (ms.set j m') n:=by
 induction es generalizing ms n j with
 | nil =>
  simp only[cH]at h;subst h;simp at hj
 | cons x es ih =>
  simp only[cH]at h;obtain⟨key,y',m0,q,rfl,rfl,h3,h4,h5,h6,h7⟩:=h;cases j with
  | zero =>
   simp only[amG,al0]at hj;subst hj;simp only[bD,List.set_cons_zero,cH];exact⟨v,y,m',q,rfl,rfl,hm,hv,by rw[hb,h5],hy,h7⟩
  | succ j =>
   simp only[bD,List.set_cons_succ,cH];exact⟨key,y',m0,_,rfl,rfl,h3,h4,h5,h6,ih h7 (by simpa using hj)⟩
theorem cH.born{es:List SV}{ms:List MapEntry}{n:Nat}(h:cH β H es ms n){j:Nat}{m:MapEntry}(hj:ms[j]?=some m):m.born=n+j:=by
 induction es generalizing ms n j with
 | nil=>simp only[cH]at h;subst h;simp at hj
 | cons x es ih =>
  simp only[cH]at h;obtain⟨key,y',m0,q,rfl,rfl,h3,h4,h5,h6,h7⟩:=h;cases j with
  | zero=>simp only[amG,al0]at hj;subst hj;simp[h5]
  | succ j=>have:=ih h7 (j:=j) (by simpa using hj);omega
theorem cH.at_{es:List SV}{ms:List MapEntry}{n:Nat}(h:cH β H es ms n){j:Nat}(hj:j<es.length):∃v y m,aA es j=.bG [.val v,y]∧ms[j]?=some m∧m.key=v∧A0 v=true∧Den β H y m.val:=by
 induction es generalizing ms n j with
 | nil=>simp at hj
 | cons x es ih =>
  simp only[cH]at h;obtain⟨key,y',m0,q,rfl,rfl,h3,h4,h5,h6,h7⟩:=h;cases j with
  | zero=>exact⟨key,y',m0,rfl,rfl,h3,h4,h6⟩
  | succ j=>simpa[aA]using ih h7 (j:=j) (by simpa using hj)
theorem Bn(hW:cv C β H M w){k:Nat}{e:cx}{u:Value}(he:ao M k=some e)(hz:e.sz=0)(hu:Den β H (.mp k) u) :
  ∃d ms,β k=some (some d)∧(e.sz=0∧d.sz=1∧d.Gr=0)∧u=.map (some d.b)∧w.heap[d.b]?=some (.map ms ms.size)∧cH β H e.es ms.toList 0:=by
 simp only[Den]at hu;obtain⟨d,h1,h2,rfl⟩:=hu;rcases hW.da k e (aL he)with⟨g1,_⟩ | ⟨d',cs,T,vs,g1,g2,_⟩ | ⟨d',ms,g1,g2,g3,g4⟩
 ·rw[h1]at g1;simp at g1
 ·rw[h1]at g1;simp only[al0]at g1;subst g1;omega
 ·rw[h1]at g1;simp only[al0]at g1;subst g1;exact⟨d,ms,h1,g2,rfl,g3,g4⟩
theorem zH{β:bO}{H:Hp}{y:SV}{v:Value}(h:Den β H y v)(ok b:Bool):Den β H (two ok y b) (if ok then .tuple #[v,.bool b] else v):=by
 unfold two;cases ok with
 | false=>simpa using h
 | true =>
  simp only[if_true,Den];refine⟨[v,.bool b],rfl,?_⟩;simp only[bF,Den];exact⟨v,_,rfl,h,_,_,rfl,⟨rfl,rfl⟩,rfl⟩
theorem run_findKey{kt:TypeId}{d:TypeDesc}{v:Value}{ms:List MapEntry}{r:Option (Nat × Value)}(hu:P.underlying kt=some d)(h:Instr.findNow d v ms 0=some r):(Instr.findKey kt v ms).run P w=.ok r w:=by
 simp[Instr.findKey,underlying,hu,h]
theorem BR(hW:cv C β H M w){t:TypeId}{x i:Option SV}{ok:Bool}{u v:Value}{M':aJ}{pk:List Nat}{r:Option SV}(h:j8 P M (az P t) x i ok=.m c M' pk r)(hx:∀s,x=some s→Den β H s u)(hi:∀s,i=some s→Den β H s v) :
  pk=[]∧M'=M∧∃y z,r=some y∧(Instr.lookup t u v ok).run P w=.ok z w∧Den β H y z:=by
 unfold j8 at h;split at h
 ·rename_i kt et _ _ _ k v' hti;obtain⟨i0,d0,z0,ht⟩:=ay hti;obtain rfl:=vz ht.k;have hv:=hi _ rfl;simp only[Den]at hv;obtain⟨rfl, -⟩:=hv;unfold RC at h;split at h
  ·rename_i te e hte he;obtain⟨ie,de,ze,hye⟩:=ay hte;split at h
   ·rename_i hc;obtain⟨d,ms,g1,g2,rfl,g3,g4⟩:=Bn hW he hc.1 (hx _ rfl);obtain⟨k1,dk,k2,k3,k4⟩:=uo hc.2;unfold Ka at h;split at h
    ·rename_i j y hr;simp only[cr.m.injEq]at h;obtain⟨-,rfl,rfl,rfl⟩:=h;rcases kr k3 g4 hr with⟨e1, -⟩ | ⟨j',y',m,e1,e2,e3,e4,e5,e6,e7,e8⟩
     ·cases e1
     ·simp only[al0,Prod.mk.injEq]at e1;obtain⟨rfl,rfl⟩:=e1;refine⟨rfl,rfl,_,_,rfl,?_,zH e8 ok true⟩;simp only[Instr.lookup,Sem.run_bind,ht.aK,Result.andThen_ok,MapKept.run_getObj_map g3,Sem.run_pure,k4,run_findKey k2 e4]
    ·rename_i hr;simp only[cr.m.injEq]at h;obtain⟨-,rfl,rfl,rfl⟩:=h;rcases kr k3 g4 hr with⟨-,e1⟩ | ⟨j',y',m,e1,_⟩
     ·refine⟨rfl,rfl,_,_,rfl,?_,zH (Cx hye β H) ok false⟩;simp only[Instr.lookup,Sem.run_bind,ht.aK,Result.andThen_ok,MapKept.run_getObj_map g3,Sem.run_pure,k4,run_findKey k2 e1,hye.jY]
     ·cases e1
    ·cases h
   ·cases h
  ·cases h
 ·rename_i kt et _ _ _ v' hti;obtain⟨i0,d0,z0,ht⟩:=ay hti;obtain rfl:=vz ht.k;have hv:=hi _ rfl;have hu:=hx _ rfl;simp only[Den]at hv hu;obtain⟨rfl, -⟩:=hv;obtain⟨rfl, -⟩:=hu;unfold lkN at h;split at h
  ·rename_i te hte;obtain⟨ie,de,ze,hye⟩:=ay hte;split at h
   ·rename_i hc;obtain⟨k1,dk,k2,k3,k4⟩:=uo hc;simp only[cr.m.injEq]at h;obtain⟨-,rfl,rfl,rfl⟩:=h;refine⟨rfl,rfl,_,_,rfl,?_,zH (Cx hye β H) ok false⟩;simp only[Instr.lookup,Sem.run_bind,ht.aK,Result.andThen_ok,Sem.run_pure,k4,run_findKey k2 (show Instr.findNow dk _ [] 0=some none from rfl),hye.jY]
   ·cases h
  ·cases h
 ·cases h
theorem vT{b:Nat}{o:Obj}{ms:Array MapEntry}(hb:w.heap[b]?=some o):WrM w b ms { w with heap:=w.heap.setIfInBounds b (.map ms ms.size) } where
 os:=rfl
 tape:=rfl
 output:=rfl
 size:=by simp
 here:=by
  have:=gn hb;simp[this]
 there b' h:=by simp[Array.getElem?_setIfInBounds_ne (Ne.symm h)]
theorem xb{v:Value}(h:A0 v=true)(n:Nat):Instr.sameBits n v v=true:=by
 cases v<;>simp[A0]at h<;>cases n<;>simp[Instr.sameBits,DF]
theorem yb{v:Value}(h:A0 v=true):(Instr.keyThatStays v v).run P w=.ok v w:=by
 simp[Instr.keyThatStays,xb h]
theorem tr(hW:cv C β H M w){t:TypeId}{m i x:Option SV}{u v z:Value}{M':aJ}{pk:List Nat}{r:Option SV}(h:jF P M (az P t) m i x=.m c M' pk r)(hm:∀s,m=some s→Den β H s u)(hi:∀s,i=some s→Den β H s v)(hx:∀s,x=some s→Den β H s z) :
  pk=[]∧r=none∧∃w',(Instr.mapUpdate t u v z).run P w=.ok () w'∧cv C β H M' w'∧w'.heap.size=w.heap.size∧∀b,(∀k d,m=some (.mp k)→β k=some (some d)→b≠d.b)→w'.heap[b]?=w.heap[b]?:=by
 unfold jF at h;split at h
 ·rename_i kt et _ _ _ k v' y hti;obtain⟨i0,d0,z0,ht⟩:=ay hti;obtain rfl:=vz ht.k;have hv:=hi _ rfl;have hz:=hx _ rfl;simp only[Den]at hv;obtain⟨rfl, -⟩:=hv;unfold RK at h;split at h
  ·rename_i e he;split at h
   ·rename_i hc;obtain⟨d,ms,g1,g2,rfl,g3,g4⟩:=Bn hW he hc.1 (hm _ rfl);obtain⟨k1,dk,k2,k3,k4⟩:=uo hc.2.2;unfold ID at h;split at h
    ·rename_i j y0 hr;simp only[cr.m.injEq]at h;obtain⟨-,rfl,rfl,rfl⟩:=h;rcases kr k3 g4 hr with⟨e1, -⟩ | ⟨j',y',m',e1,e2,e3,e4,e5,e6,e7,e8⟩
     ·cases e1
     ·simp only[al0,Prod.mk.injEq]at e1;obtain⟨rfl,rfl⟩:=e1;rw[amE]at e5;have e5':ms[j]?=some m':=by rw[←ama];exact e5
      have hjl:j<ms.size:=(Array.getElem?_eq_some_iff.1 e5').1;have hmod:ms.modify j (fun e=>{ e with key:=v,val:=z })=ms.setIfInBounds j { m' with key:=v,val:=z }:=by
       apply amq;simp only[amI,amJ];rw[sk _ e5]
      have hw:=vT (w:=w) (b:=d.b) (ms:=ms.modify j (fun e=>{ e with key:=v,val:=z })) g3;refine⟨rfl,rfl,_,?_,?_,hw.size,fun b hb=>hw.there b (hb k d rfl g1)⟩
      ·simp only[Instr.mapUpdate,Sem.run_bind,ht.aK,Result.andThen_ok,MapKept.run_getObj_map g3,k4,run_findKey k2 e4,e5',aml,amL,e6,yb k1];rw[MapKept.run_setObj_map _ g3];simp
      ·rw[ez];have:=hW.n7 (es:=bD e.es j (.bG [.val v,y])) (aL he) hc.2.1 g1 g2 hw (by
        rw[hmod,amJ];exact g4.set e5 rfl k1 rfl hz)
       rw[hc.1]at this;exact this
    ·rename_i hr;simp only[cr.m.injEq]at h;obtain⟨-,rfl,rfl,rfl⟩:=h;rcases kr k3 g4 hr with⟨-,e1⟩ | ⟨j',y',m',e1,_⟩
     ·have hw:=vT (w:=w) (b:=d.b) (ms:=ms.push { key:=v,val:=z,born:=ms.size }) g3;refine⟨rfl,rfl,_,?_,?_,hw.size,fun b hb=>hw.there b (hb k d rfl g1)⟩
      ·simp only[Instr.mapUpdate,Sem.run_bind,ht.aK,Result.andThen_ok,MapKept.run_getObj_map g3,k4,run_findKey k2 e1];rw[MapKept.run_setObj_map _ g3];simp
      ·rw[ez];have hl:=g4.length;simp only[amp]at hl;have:=hW.n7 (es:=e.es++[.bG [.val v,y]]) (aL he) hc.2.1 g1 g2 hw (by
        rw[amK];exact g4.append rfl k1 (by simp[hl]) hz)
       rw[hc.1]at this;exact this
     ·cases e1
    ·cases h
   ·cases h
  ·cases h
 ·cases h
theorem xo(hW:cv C β H M w){t:TypeId}{m i:Option SV}{u v:Value}{M':aJ}{pk:List Nat}{r:Option SV}(h:kD P M (az P t) m i=.m c M' pk r)(hm:∀s,m=some s→Den β H s u)(hi:∀s,i=some s→Den β H s v) :
  pk=[]∧∃x z w',r=some x∧(Instr.mapEntry t u v).run P w=.ok z w'∧cv C β H M' w'∧Den β H x z∧w'.heap.size=w.heap.size∧∀b,(∀k d,m=some (.mp k)→β k=some (some d)→b≠d.b)→w'.heap[b]?=w.heap[b]?:=by
 unfold kD at h;split at h
 ·rename_i kt et _ _ _ k v' hti;obtain⟨i0,d0,z0,ht⟩:=ay hti;obtain rfl:=vz ht.k;have hv:=hi _ rfl;simp only[Den]at hv;obtain⟨rfl, -⟩:=hv;unfold enE at h;split at h
  ·rename_i te e hte he;obtain⟨ie,de,ze,hye⟩:=ay hte;split at h
   ·rename_i hc;obtain⟨d,ms,g1,g2,rfl,g3,g4⟩:=Bn hW he hc.1 (hm _ rfl);obtain⟨k1,dk,k2,k3,k4⟩:=uo hc.2.2;have hpair:∀{y:SV} {z:Value} {q:Nat},Den β H y z→Den β H (.bG [y,.val (.int .i64 (q:Nat))]) (.tuple #[z,goInt q]):=fun{y z q} hy=>by
     simp only[Den];refine⟨[z,goInt q],rfl,?_⟩;simp only[bF,Den];exact⟨z,_,rfl,hy,_,_,rfl,⟨rfl,rfl⟩,rfl⟩
    unfold enR at h;split at h
    ·rename_i j y0 hr;simp only[cr.m.injEq]at h;obtain⟨-,rfl,rfl,rfl⟩:=h;rcases kr k3 g4 hr with⟨e1, -⟩ | ⟨j',y',m',e1,e2,e3,e4,e5,e6,e7,e8⟩
     ·cases e1
     ·simp only[al0,Prod.mk.injEq]at e1;obtain⟨rfl,rfl⟩:=e1;rw[amE]at e5 e7;rw[Nat.zero_add]at e7;have e5':ms[j]?=some m':=by rw[←ama];exact e5
      have hmod:ms.modify j (fun e=>{ e with key:=v })=ms:=by
       apply amq;simp only[amI];rw[sk _ e5];apply amr;intro q;by_cases hq:j=q
       ·subst hq;have hjl:j<ms.toList.length:=(amH.1 e5).1;show(ms.toList.set j _)[j]?=_;rw[amv hjl,e5,←e6]
       ·show(ms.toList.set j _)[q]?=_;rw[amw hq]
      have hw:=vT (w:=w) (b:=d.b) (ms:=ms) g3;refine⟨rfl,_,_,_,rfl,?_,?_,hpair e8,hw.size,fun b hb=>hw.there b (hb k d rfl g1)⟩
      ·simp only[Instr.mapEntry,Sem.run_bind,ht.aK,Result.andThen_ok,MapKept.run_getObj_map g3,k4,run_findKey k2 e4,e5',aml,amL,e6,yb k1,hmod];rw[MapKept.run_setObj_map _ g3];simp[e7]
      ·have:=hW.n7 (es:=e.es) (aL he) hc.2.1 g1 g2 hw g4;have hM:M.set k (some ⟨e.sz,e.es,false⟩)=M:=by
        have he':=aL he;apply amr;intro q;by_cases hq:k=q
        ·subst hq;rw[amv (amH.1 he').1,he'];obtain⟨a,b,f⟩:=e;have:=hc.2.1;simp only at this;rw[this]
        ·rw[amw hq]
       rw[hM]at this;exact this
    ·rename_i hr;simp only[cr.m.injEq]at h;obtain⟨-,rfl,rfl,rfl⟩:=h;rcases kr k3 g4 hr with⟨-,e1⟩ | ⟨j',y',m',e1,_⟩
     ·have hw:=vT (w:=w) (b:=d.b) (ms:=ms.push { key:=v,val:=ze,born:=ms.size }) g3;have hl:=g4.length;simp only[amp]at hl;have hzd:=Cx hye β H;refine⟨rfl,_,_,_,rfl,?_,?_,by rw[←hl];exact hpair hzd,hw.size,fun b hb=>hw.there b (hb k d rfl g1)⟩
      ·simp only[Instr.mapEntry,Sem.run_bind,ht.aK,Result.andThen_ok,MapKept.run_getObj_map g3,k4,run_findKey k2 e1,hye.jY];rw[MapKept.run_setObj_map _ g3];simp
      ·rw[ez];have:=hW.n7 (es:=e.es++[.bG [.val v,te.cK]]) (aL he) hc.2.1 g1 g2 hw (by
        rw[amK];exact g4.append rfl k1 (by simp[hl]) hzd)
       rw[hc.1]at this;exact this
     ·cases e1
    ·cases h
   ·cases h
  ·cases h
 ·cases h
theorem tQ(hW:cv C β H M w){t:TypeId}{m s x:Option SV}{u v z:Value}{M':aJ}{pk:List Nat}{r:Option SV}(h:iD M m s x=.m c M' pk r)(hc:c)(hm:∀s,m=some s→Den β H s u)(hi:∀q,s=some q→Den β H q v)(hx:∀s,x=some s→Den β H s z) :
  pk=[]∧r=none∧∃w',(Instr.entryStore t u v z).run P w=.ok () w'∧cv C β H M' w'∧w'.heap.size=w.heap.size∧∀b,(∀k d,m=some (.mp k)→β k=some (some d)→b≠d.b)→w'.heap[b]?=w.heap[b]?:=by
 unfold iD at h;split at h
 ·rename_i k kk n y;have hv:=hi _ rfl;have hz:=hx _ rfl;simp only[Den]at hv;obtain⟨rfl, -⟩:=hv;unfold esE at h;split at h
  ·rename_i e he;split at h
   ·rename_i hcc;simp only[cr.m.injEq]at h;obtain⟨rfl,rfl,rfl,rfl⟩:=h;obtain⟨c1,c2⟩:=hc;obtain⟨d,ms,g1,g2,rfl,g3,g4⟩:=Bn hW he hcc.1 (hm _ rfl);obtain⟨q,rfl⟩:∃q:Nat,n=q:=⟨n.toNat,by omega⟩;simp only[Int.toNat_natCast]at *;have hq:q<e.es.length:=by omega
    obtain⟨v0,y0,m0,a1,a2,a3,a4,a5⟩:=g4.at_ hq;have hl:=g4.length;simp only[amp]at hl;have hfi:ms.findIdx? (fun e=>(e.born:Int)==(q:Int))=some q:=by
     rw[Array.findIdx?_eq_some_iff_getElem];refine⟨by omega,?_,fun j hj=>?_⟩
     ·have hb:=g4.born a2;have:ms[q]'(by omega)=m0:=by
       have:ms[q]?=some m0:=by rw[←ama];exact a2
       rw[Array.getElem?_eq_getElem (by omega)]at this;exact amD this
      rw[this,hb];simp
     ·have hjs:j<ms.size:=by omega
      have hb:=g4.born (j:=j) (m:=ms[j]) (by simp[hjs]);rw[hb];simp;omega
    have hmod:ms.modify q (fun e=>{ e with val:=z })=ms.setIfInBounds q { m0 with val:=z }:=by
     apply amq;simp only[amI,amJ];rw[sk _ a2]
    have hw:=vT (w:=w) (b:=d.b) (ms:=ms.modify q (fun e=>{ e with val:=z })) g3;refine⟨trivial,trivial,_,?_,?_,hw.size,fun b hb=>hw.there b (hb k d rfl g1)⟩
    ·simp only[Instr.entryStore,Sem.run_bind,MapKept.run_getObj_map g3,Result.andThen_ok,asInt,asIntOf,Sem.run_pure,hfi];rw[MapKept.run_setObj_map _ g3];simp
    ·rw[ez,a1];have:=hW.n7 (es:=bD e.es q (.bG [.val v0,y])) (aL he) hcc.2 g1 g2 hw (by
      rw[hmod,amJ];exact g4.set a2 a3 a4 rfl hz)
     rw[hcc.1]at this;exact this
   ·cases h
  ·cases h
 ·cases h
theorem Ap(hW:cv C β H M w){t:TypeId}{ts:Array TypeId}{ty:TypeId}{x:Option SV}{u:Value}{M':aJ}{pk:List Nat}{r:Option SV}(h0:ts[0]?=some t)(h:fK M (az P t) x=.m c M' pk r)(hx:∀s,x=some s→Den β H s u) :
  pk=[]∧M'=M∧∃y z,r=some y∧(Builtin.len_ ts ty #[u]).run P w=.ok z w∧Den β H y z:=by
 unfold fK at h;split at h
 ·rename_i kt et _ _ _ k hti;obtain⟨i0,d0,z0,ht⟩:=ay hti;obtain rfl:=vz ht.k;unfold Sj at h;split at h
  ·rename_i e he;split at h
   ·rename_i hc;simp only[cr.m.injEq]at h;obtain⟨-,rfl,rfl,rfl⟩:=h;obtain⟨d,ms,g1,g2,rfl,g3,g4⟩:=Bn hW he hc (hx _ rfl);have hl:=g4.length;simp only[amp]at hl;refine⟨rfl,rfl,_,goInt ms.size,rfl,?_,by rw[hl];exact bJ rfl⟩;simp[Builtin.len_,h0,ht.aK,MapKept.run_getObj_map g3]
   ·cases h
  ·cases h
 ·rename_i kt et _ _ _ hti;obtain⟨i0,d0,z0,ht⟩:=ay hti;obtain rfl:=vz ht.k;have hu:=hx _ rfl;simp only[Den]at hu;obtain⟨rfl, -⟩:=hu;simp only[cr.m.injEq]at h;obtain⟨-,rfl,rfl,rfl⟩:=h;refine⟨rfl,rfl,_,.int .i64 0,rfl,by simp[Builtin.len_,h0,ht.aK,goInt],?_⟩;simp only[Den];exact⟨trivial,rfl⟩
 ·cases h
theorem zS(hW:cv C β H M w){t:TypeId}{o:Option Operand}{ρ:Operand→Value}{fr:List (Nat × SV)}(hρ:∀o s,ev fr o=some s→Den β H s (ρ o)){M':aJ}{pk:List Nat}{r:Option SV}(h:jq M (az P t) (o.map (ev fr))=.m c M' pk r) :
  pk=[]∧∃bd x,r=some x∧(Instr.makeMap t (o.map ρ)).run P w=.ok (.map (some w.heap.size)) (w.alloc (.map #[] 0))∧cv C (β.dT M.length (some bd)) H M' (w.alloc (.map #[] 0))∧Den (β.dT M.length (some bd)) H x (.map (some w.heap.size)):=by
 have hden:Den (β.dT M.length (some ⟨w.heap.size,0,1⟩)) H (.mp M.length) (.map (some w.heap.size)):=by
  simp only[Den];exact⟨_,by simp[bO.dT];rfl,rfl,rfl⟩
 unfold jq at h;split at h
 ·rename_i kt et _ _ _ hti ho;simp only[cr.m.injEq]at h;obtain⟨-,rfl,rfl,rfl⟩:=h;cases o with
  | some o=>cases ho
  | none=>exact⟨rfl,_,_,rfl,by simp[Instr.makeMap,run_newObj,World.alloc_eq],hW.allocMap,hden⟩
 ·rename_i kt et _ _ _ k n hti ho;obtain⟨i0,d0,z0,ht⟩:=ay hti;obtain rfl:=vz ht.k;simp only[cr.m.injEq]at h;obtain⟨-,rfl,rfl,rfl⟩:=h;cases o with
  | none=>cases ho
  | some o =>
   simp only[aml,al0]at ho;have:=hρ o _ ho;simp only[Den]at this;exact⟨rfl,_,_,rfl,by simp[Instr.makeMap,ht.aK,asInt,asIntOf,run_newObj,World.alloc_eq,this.1],hW.allocMap,hden⟩
 ·cases h
end
end Go.Sv
namespace Go.Sv
open Go Go.RowKit
structure St where
 n:Nat
 fr:List (Nat × SV)
 M:aJ
abbrev aV:=Exit→St→Prop
def JO(C:Ctx)(st:St)(a:Act)(w:World):Prop:=∃β H,gI β H st.n st.fr a∧cv C β H st.M w
def QQ(C:Ctx)(Q:aV):Exit→Act→World→Prop:=fun e a w=>∃st,Q e st∧JO C st a w
def ae(P:Program)(C:Ctx)(c:Code)(st:St)(Q:aV):Prop:=∀a w,JO C st a w→c.wp P (QQ C Q) a w
def r5(P:Program)(C:Ctx)(all:Array Oper)(ops:List Oper)(st:St)(Q:aV):Prop:=∀a w,JO C st a w→wpList P all (QQ C Q) ops a w
mutual
def SV.ks:SV→List Nat
 | .ptr k _ _=>[k]
 | .view k _ _=>[k]
 | .agg l=>SV.qk l
 | .bG l=>SV.qk l
 | .iw _ x=>x.ks
 | .gA _ l r=>SV.qk l++SV.qk r
 | .mp k=>[k]
 | _=>[]
def SV.qk:List SV→List Nat
 | []=>[]
 | x::l=>x.ks++SV.qk l
end
def dH(P:Program)(C:Ctx)(f:FuncId)(args:List SV)(M:aJ)(W:Option (List Nat))(K:aJ→List Nat→SV→Prop):Prop :=
 ∀β H w vals,bF β H args vals→cv C β H M w→Calls P f vals.toArray w fun e w' =>
  ∃β' H' M' v x pk,e=.returned v∧Den β' H' x v∧cv C β' H' M' w'∧(∀k d,k∉pk→β k=some d→β' k=some d)∧(∀b cs,H b=some cs→H' b=some cs)∧K M' pk x ∧
  w.heap.size≤w'.heap.size∧∀ks,W=some ks→pk=[]∧∀b,b<w.heap.size→(∀k∈ks,∀d,β k=some (some d)→b≠d.b)→w'.heap[b]?=w.heap[b]?
def sS(d:Option Nat)(n:Nat):Prop:=match d with
 | some t=>t<n
 | none=>True
def dd(d:Option Nat)(x:Option SV)(fr:List (Nat × SV)):List (Nat × SV) :=
 match d,x with
 | some t,some x=>(t,x)::fr
 | some t,none=>del fr t
 | none,_=>fr
def al(P:Program)(f:FuncId):Prop:=∀(args:Array Value) (w:World),(callFunc f args).run P w=.ok (.enter f args) w
def forget(pk:List Nat):List (Nat × SV)→List (Nat × SV)
 | []=>[]
 | (t,x)::r=>if(pk.all fun k=>!x.bC k)=true then(t,x)::forget pk r else del (forget pk r) t
theorem mN{pk:List Nat}:∀{fr:List (Nat × SV)} {t:Nat} {x:SV},get (forget pk fr) t=some x→get fr t=some x∧∀k∈pk,x.bC k=false
 | [],t,x,h=>by simp[forget,get]at h
 | (s,y)::r,t,x,h=>by
  simp only[forget]at h;split at h
  ·rename_i hall;simp only[get]at h ⊢;split at h
   ·rename_i e;simp only[al0]at h;subst h;refine⟨by simp[e],fun k hk=>?_⟩;simp only[List.all_eq_true]at hall;simpa using hall k hk
   ·rename_i e;obtain⟨h1,h2⟩:=mN h;exact⟨by rw[if_neg e];exact h1,h2⟩
  ·obtain⟨e,h⟩:=iZ h;obtain⟨h1,h2⟩:=mN h;exact⟨by simp only[get];rw[if_neg (Ne.symm e)];exact h1,h2⟩
theorem gI.forget{β β':bO}{H H':Hp}{n:Nat}{fr:List (Nat × SV)}{a:Act}(hF:gI β H n fr a){pk:List Nat}(hb:∀k d,k∉pk→β k=some d→β' k=some d)(hH:∀b cs,H b=some cs→H' b=some cs) :
  gI β' H' n (Sv.forget pk fr) a:=by
 refine⟨⟨hF.1.1,hF.1.2.mono hH⟩,hF.2.1,fun t x hg=>?_⟩;obtain⟨g1,g2⟩:=mN hg;obtain⟨v,hv,hden⟩:=hF.2.2 t x g1;exact⟨v,hv,Den.mono hH x v (fun j d hj hjd=>hb j d (fun e=>by rw[g2 j e]at hj;cases hj) hjd) hden⟩
def CD(P:Program)(fx:List Nat)(M:aJ)(fr:List (Nat × SV))(o:Op):cr :=
 match o with
 | .store t x y=>mH M (az P t) (ev fr x) (ev fr y)
 | .alloc t=>ow M (az P t)
 | .box t x=>xY M (az P t) (ev fr x)
 | .buildSlice t len parts=>fG P M (az P t) len (parts.toList.map fun p=>(p.1,ev fr p.2))
 | .makeSlice t l c=>fZ P M (az P t) (ev fr l) (ev fr c)
 | .call ⟨.builtin .append,args,ts⟩ =>
  match args.toList with
  | [b,x]=>gX P fx M ((ts[0]?).bind (az P)) ((ts[1]?).bind (az P)) (ev fr b) (ev fr x)
  | _=>.stuck
 | .call ⟨.builtin .copy,args,ts⟩ =>
  match args.toList with
  | [b,x]=>yB P M ((ts[0]?).bind (az P)) (ev fr b) (ev fr x)
  | _=>.stuck
 | .lookup t x i ok=>j8 P M (az P t) (ev fr x) (ev fr i) ok
 | .mapUpdate t m i x=>jF P M (az P t) (ev fr m) (ev fr i) (ev fr x)
 | .insert t m i x=>jF P M (az P t) (ev fr m) (ev fr i) (ev fr x)
 | .mapEntry t m i=>kD P M (az P t) (ev fr m) (ev fr i)
 | .entryStore _ m s x=>iD M (ev fr m) (ev fr s) (ev fr x)
 | .makeMap t n=>jq M (az P t) (n.map (ev fr))
 | .call ⟨.builtin .len,args,ts⟩ =>
  match args.toList with
  | [x]=>fK M ((ts[0]?).bind (az P)) (ev fr x)
  | _=>.stuck
 | _=>.stuck
def cE(P:Program)(C:Ctx)(W:Option (List Nat))(o:Oper)(st:St)(next nextJ:St→Prop):Prop :=
 match xA P st.M st.fr o.op with
 | .q c x=>c∧sS o.dst st.n∧next ⟨st.n,dd o.dst (some x) st.fr,st.M⟩
 | _ =>
  match CD P C.fx st.M st.fr o.op with
  | .m c M' pk x=>c∧sS o.dst st.n∧next ⟨st.n,dd o.dst x (forget pk st.fr),M'⟩
  | .stuck =>
   match o.op with
   | .call ⟨.value (.func f),args,_⟩ =>
    match rQ st.fr args.toList with
    | some xs=>al P f∧sS o.dst st.n∧dH P C f xs st.M W fun M' pk x=>nextJ ⟨st.n,dd o.dst (some x) (forget pk st.fr),M'⟩
    | none=>False
   | .call ⟨.value (.tmp t),args,_⟩ =>
    match get st.fr t,rQ st.fr args.toList with
    | some (.gA f l r),some xs=>al P f∧sS o.dst st.n∧dH P C f (l++xs++r) st.M W fun M' pk x=>nextJ ⟨st.n,dd o.dst (some x) (forget pk st.fr),M'⟩
    | _,_=>False
   | _=>False
def m6(all:Array Oper)(j:Nat):Option Nat:=(all[j]?).bind (·.dst)
def fc(n:Nat)(d:Option Nat)(fr:List (Nat × SV)):List (Nat × SV) :=
 match d with
 | some t=>if t<n then(t,.bG [])::fr else del fr t
 | none=>fr
theorem gI.fc{β:bO}{H:Hp}{n:Nat}{fr:List (Nat × SV)}{a:Act}(h:gI β H n fr a)(d:Option Nat):gI β H n (Sv.fc n d fr) (a.put d undef):=by
 cases d with
 | none=>exact h
 | some t =>
  simp only[Sv.fc];split
  ·rename_i ht;exact h.put ht (by simp only[Den];exact⟨[],rfl,by simp only[bF]⟩)
  ·exact h.skip t undef
theorem wR{β:bO}{H:Hp}{v:Value}(h:Den β H (.bG []) v):v=.tuple #[]:=by
 simp only[Den,bF]at h;obtain⟨vs,h1,h2⟩:=h;subst h2;exact h1
def fI(P:Program)(C:Ctx)(all:Array Oper):List Oper→St→aV→aV→Prop
 | [],st,Q,_=>Q .normal st
 | o::rest,st,Q,QJ =>
  match o.guard with
  | none=>cE P C none o st (fun st'=>fI P C all rest st' Q QJ) (fun st'=>fI P C all rest st' QJ QJ)
  | some (j,b) =>
   match m6 all j with
   | some t =>
    match get st.fr t with
    | some (.val (.bool c)) =>
     (c=b→cE P C none o ⟨st.n,(t,.val (.bool b))::st.fr,st.M⟩ (fun st'=>fI P C all rest st' Q QJ) (fun st'=>fI P C all rest st' QJ QJ)) ∧
     (c=!b→fI P C all rest ⟨st.n,fc st.n o.dst ((t,.val (.bool (!b)))::st.fr),st.M⟩ Q QJ)
    | some (.bG [])=>fI P C all rest ⟨st.n,fc st.n o.dst st.fr,st.M⟩ Q QJ
    | _=>False
   | none=>False
theorem gI.dd{β:bO}{H:Hp}{n:Nat}{fr:List (Nat × SV)}{a:Act}(h:gI β H n fr a){d:Option Nat}{x:SV}{v:Value}(ht:sS d n)(hx:Den β H x v) :
  gI β H n (dd d (some x) fr) (a.put d v):=by
 cases d with
 | none=>exact h
 | some t=>exact h.put ht hx
theorem gI.KH{β:bO}{H:Hp}{n:Nat}{fr:List (Nat × SV)}{a:Act}(h:gI β H n fr a)(d:Option Nat)(v:Value) :
  gI β H n (Sv.dd d none fr) (a.put d v):=by
 cases d with
 | none=>exact h
 | some t=>exact h.skip t v
theorem dm(fr:List (Nat × SV)):forget [] fr=fr:=by
 induction fr with
 | nil=>rfl
 | cons p r ih=>obtain⟨t,x⟩:=p;simp[forget,ih]
def DV(x:Option SV):List Nat:=match x with
 | some (.mp k)=>[k]
 | _=>[]
def zb(fr:List (Nat × SV))(o:Op):List Nat :=
 match o with
 | .store _ x _=>match ev fr x with
  | some (.ptr k _ _)=>[k]
  | _=>[]
 | .call ⟨.builtin .append,args,_⟩=>match args.toList with
  | [b,_]=>match ev fr b with
   | some (.view k _ _)=>[k]
   | _=>[]
  | _=>[]
 | .call ⟨.builtin .copy,args,_⟩=>match args.toList with
  | [b,_]=>match ev fr b with
   | some (.view k _ _)=>[k]
   | _=>[]
  | _=>[]
 | .mapUpdate _ m _ _=>DV (ev fr m)
 | .insert _ m _ _=>DV (ev fr m)
 | .mapEntry _ m _=>DV (ev fr m)
 | .entryStore _ m _ _=>DV (ev fr m)
 | _=>[]
theorem GL{P:Program}{C:Ctx}{β:bO}{H:Hp}{M:aJ}{w:World}(hW:cv C β H M w){n:Nat}{fr:List (Nat × SV)}{a:Act}(hF:gI β H n fr a){o:Oper}{c:Prop}{M':aJ}{pk:List Nat}{x:Option SV}
  (h:CD P C.fx M fr o.op=.m c M' pk x) (hc:c) (hd:sS o.dst n) :
  ∃nx v w' β',(execOp a.eval o).run P w=.ok nx w'∧(nx=.value v∨(nx=.skip∧v=undef))∧cv C β' H M' w'∧gI β' H n (dd o.dst x (forget pk fr)) (a.put o.dst v) ∧
   (∀j d,j∉pk→β j=some d→β' j=some d)∧w.heap.size≤w'.heap.size∧∀b,b<w.heap.size→(∀k∈zb fr o.op,∀d,β k=some (some d)→b≠d.b)→w'.heap[b]?=w.heap[b]?:=by
 have hρ:=fun o=>iJ hF o;obtain⟨dst,op,type,pos,after,guard⟩:=o;simp only at h hd ⊢;have new:∀{x:SV} {z:Value} {o:Obj} {bd:Bd} {s:Sem Value} {ks:List Nat},pk=[]→s.run P w=.ok z (w.alloc o)→cv C (β.dT M.length (some bd)) H M' (w.alloc o)→Den (β.dT M.length (some bd)) H x z →
   ∃nx v w' β',(do pure (Next.value (←s)):Sem Next).run P w=.ok nx w'∧(nx=.value v∨(nx=.skip∧v=undef))∧cv C β' H M' w'∧gI β' H n (dd dst (some x) (forget pk fr)) (a.put dst v) ∧
   (∀j d,j∉pk→β j=some d→β' j=some d)∧w.heap.size≤w'.heap.size∧∀b,b<w.heap.size→(∀k∈ks,∀d,β k=some (some d)→b≠d.b)→w'.heap[b]?=w.heap[b]?:=fun{x z o bd s ks} hpk hs hw' hx=>by
  subst hpk;refine⟨.value z,z,_,_,by simp[hs],.inl rfl,hw',?_,fun j d _ hj=>fS hW _ j d hj,by simp,fun b hb _=>heap_alloc_old hb⟩;rw[dm];exact(hF.mono (fS hW _) (fun _ _ h=>h)).dd hd hx
 unfold CD at h;split at h
 ·rename_i t x' y;obtain⟨rfl,rfl,w',h1,h2,h3,h4⟩:=Dg (P:=P) hW h hc (hρ x') (hρ y);refine⟨.skip,undef,w',β,by simp[execOp,h1],.inr ⟨rfl,rfl⟩,h2,?_,fun _ _ _ h=>h,by rw[h3];exact amk _,fun b hb hk=>h4 b (fun k i j d he=>hk k (by simp[zb,he]) d)⟩;rw[dm];exact hF.KH dst undef
 ·rename_i t;obtain⟨hp,y,d,rfl,h1,bd,h2,h3⟩:=CO hW h;simp only[execOp];exact new hp h1 h2 h3
 ·rename_i t x';obtain⟨hp,y,d,rfl,h1,bd,h2,h3⟩:=JI hW h hc (hρ x');simp only[execOp];exact new hp h1 h2 h3
 ·rename_i t len parts;obtain⟨hp,y,d,T,rfl,h1,bd,h2,h3⟩:=tG hW hρ h;simp only[execOp];exact new hp h1 h2 h3
 ·rename_i t l cp;obtain⟨hp,y,d,T,z,rfl,h1,bd,h2,h3⟩:=wI hW h hc (hρ l) (hρ cp);simp only[execOp];exact new hp h1 h2 h3
 ·rename_i args ts;split at h
  ·rename_i b x' hargs;obtain⟨k,y,z,w',β',rfl,rfl,h1,h2,h3,h4,h5,h6⟩:=BW (ty:=type) hW h hc (hρ b) (hρ x');have harg:args=#[b,x']:=by apply amq;simpa using hargs
   subst harg;have hkw:∀j,[k]=[j]→∀d,β j=some (some d)→j∈zb fr (.call ⟨.builtin .append,#[b,x'],ts⟩):=fun j hj d hd=>by
    simp only[List.cons.injEq,and_true]at hj;subst hj;unfold gX j7 at h;split at h
    ·rename_i hb;split at h
     ·split at h
      ·simp only[cr.m.injEq,List.cons.injEq,and_true]at h;simp[zb,hb,h.2.2.1]
      ·cases h
     ·cases h
    ·split at h
     ·split at h
      ·simp only[cr.m.injEq,List.cons.injEq,and_true]at h;rw[←h.2.2.1,B0,hW.fresh _ (amk _)]at hd;cases hd
      ·cases h
     ·cases h
    ·cases h
   refine⟨.value z,z,w',β',?_,.inl rfl,h2,?_,fun j d hj=>h4 j d (by simpa using hj),h5,fun c' hc' hk=>h6 c' hc' (fun d hd=>hk k (hkw k rfl d hd) d hd)⟩
   ·simp only[execOp,resolve,Sem.run_bind,Sem.run_pure,Result.andThen_ok,invoke,builtin];simp[h1]
   ·refine gI.dd ?_ hd h3;refine⟨hF.1,hF.2.1,fun t x hg=>?_⟩;obtain⟨g1,g2⟩:=mN hg;obtain⟨v,hv,hden⟩:=hF.2.2 t x g1;exact⟨v,hv,Den.mono (fun _ _ h=>h) x v (fun j d hj hjd=>h4 j d (fun e=>by subst e;rw[g2 j (by simp)]at hj;cases hj) hjd) hden⟩
  ·cases h
 ·rename_i args ts;split at h
  ·rename_i b x' hargs;obtain⟨k,i0,n0,y,z,w',rfl,hbk,rfl,h1,h2,h3,h4,h5⟩:=E3 (ty:=type) hW h hc (hρ b) (hρ x');have harg:args=#[b,x']:=by apply amq;simpa using hargs
   subst harg;refine⟨.value z,z,w',β,?_,.inl rfl,h2,?_,fun _ _ _ h=>h,by rw[h4];exact amk _,fun c' hc' hk=>h5 c' hc' (fun d hd=>hk k (by simp[zb,hbk]) d hd)⟩
   ·simp only[execOp,resolve,Sem.run_bind,Sem.run_pure,Result.andThen_ok,invoke,builtin];simp[h1]
   ·rw[dm];exact hF.dd hd h3
  ·cases h
 ·rename_i t x i ok;obtain⟨rfl,rfl,y,z,rfl,h1,h2⟩:=BR hW h (hρ x) (hρ i);refine⟨.value z,z,w,β,by simp[execOp,h1],.inl rfl,hW,?_,fun _ _ _ h=>h,amk _,fun _ _ _=>rfl⟩;rw[dm];exact hF.dd hd h2
 ·rename_i t m i x;obtain⟨rfl,rfl,w',h1,h2,h3,h4⟩:=tr hW h (hρ m) (hρ i) (hρ x);refine⟨.skip,undef,w',β,by simp[execOp,h1],.inr ⟨rfl,rfl⟩,h2,?_,fun _ _ _ h=>h,by rw[h3];exact amk _,fun b hb hk=>h4 b (fun k d he=>hk k (by simp[zb,DV,he]) d)⟩;rw[dm];exact hF.KH dst undef
 ·rename_i t m i x;obtain⟨rfl,rfl,w',h1,h2,h3,h4⟩:=tr hW h (hρ m) (hρ i) (hρ x);refine⟨.skip,undef,w',β,by simp[execOp,h1],.inr ⟨rfl,rfl⟩,h2,?_,fun _ _ _ h=>h,by rw[h3];exact amk _,fun b hb hk=>h4 b (fun k d he=>hk k (by simp[zb,DV,he]) d)⟩;rw[dm];exact hF.KH dst undef
 ·rename_i t m i;obtain⟨rfl,y,z,w',rfl,h1,h2,h3,h4,h5⟩:=xo hW h (hρ m) (hρ i);refine⟨.value z,z,w',β,by simp[execOp,h1],.inl rfl,h2,?_,fun _ _ _ h=>h,by rw[h4];exact amk _,fun b hb hk=>h5 b (fun k d he=>hk k (by simp[zb,DV,he]) d)⟩;rw[dm];exact hF.dd hd h3
 ·rename_i t m s x;obtain⟨rfl,rfl,w',h1,h2,h3,h4⟩:=tQ (P:=P) (t:=t) hW h hc (hρ m) (hρ s) (hρ x);refine⟨.skip,undef,w',β,by simp[execOp,h1],.inr ⟨rfl,rfl⟩,h2,?_,fun _ _ _ h=>h,by rw[h3];exact amk _,fun b hb hk=>h4 b (fun k d he=>hk k (by simp[zb,DV,he]) d)⟩;rw[dm];exact hF.KH dst undef
 ·rename_i t o;obtain⟨hp,bd,x,rfl,h1,h2,h3⟩:=zS (P:=P) hW hρ h;simp only[execOp];exact new hp h1 h2 h3
 ·rename_i args ts;split at h
  ·rename_i x hargs;have harg:args=#[x]:=by apply amq;simpa using hargs
   subst harg;cases ht0:ts[0]? with
   | none=>rw[ht0]at h;simp[fK]at h
   | some t0 =>
    rw[ht0]at h;obtain⟨rfl,rfl,y,z,rfl,h1,h2⟩:=Ap (ty:=type) hW ht0 h (hρ x);refine⟨.value z,z,w,β,?_,.inl rfl,hW,?_,fun _ _ _ h=>h,amk _,fun _ _ _=>rfl⟩
    ·simp only[execOp,resolve,Sem.run_bind,Sem.run_pure,Result.andThen_ok,invoke,builtin];simp[h1]
    ·rw[dm];exact hF.dd hd h2
  ·cases h
 ·cases h
theorem gf{β:bO}{H:Hp}:∀{l l':List SV} {vs vs':List Value},bF β H l vs→bF β H l' vs'→bF β H (l++l') (vs++vs')
 | [],l',vs,vs',h,h'=>by simp only[bF]at h;simpa[h]using h'
 | x::l,l',vs,vs',h,h'=>by
  simp only[bF]at h;obtain⟨v,r,rfl,h1,h2⟩:=h;simp only[amF,bF];exact⟨v,r++vs',rfl,h1,gf h2 h'⟩
theorem EF{P:Program}{C:Ctx}{all:Array Oper}{rest:List Oper}{o:Oper}{st:St}{QJ:aV}{next nextJ:St→Prop}(hn:∀st',next st'→r5 P C all rest st' QJ)
  (hnJ:∀st',nextJ st'→r5 P C all rest st' QJ) (h:cE P C none o st next nextJ) {a:Act} {w:World} (hs:JO C st a w):o.wp P a w (wpList P all (QQ C QJ) rest) (QQ C QJ):=by
 obtain⟨β,H,hF,hW⟩:=hs;unfold cE at h;split at h
 ·rename_i c x hq;obtain⟨hc,hd,hnx⟩:=h;obtain⟨v,h1,h2⟩:=IB hW hF hq hc;simp only[Oper.wp,h1,Oper.upon];exact hn _ hnx _ _ ⟨β,H,hF.dd hd h2,hW⟩
 ·split at h
  ·rename_i c M' pk x hm;obtain⟨hc,hd,hnx⟩:=h;obtain⟨nx,v,w',β',h1,h2,h3,h4, -, -, -⟩:=GL hW hF hm hc hd;simp only[Oper.wp,h1];rcases h2 with rfl | ⟨rfl,rfl⟩
   ·simp only[Oper.upon];exact hn _ hnx _ _ ⟨β',H,h4,h3⟩
   ·simp only[Oper.upon];exact hn _ hnx _ _ ⟨β',H,h4,h3⟩
  ·split at h
   ·rename_i f args ts hop;split at h
    ·rename_i xs hxs;obtain⟨hf,hd,hcall⟩:=h;have hrun:(execOp a.eval o).run P w=.ok (.enter f (args.map a.eval)) w:=by
      obtain⟨dst,op,type,pos,after,guard⟩:=o;simp only at hop;subst hop;simp only[execOp,resolve,Act.eval,Deferred.ofValue,Sem.run_bind,Sem.run_pure,Result.andThen_ok,invoke];simpa using hf (args.map a.eval) w
     simp only[Oper.wp,hrun,Oper.upon];have hvals:=jr hF _ _ hxs;have:=hcall β H w _ hvals hW;rw[show(args.toList.map a.eval).toArray=args.map a.eval from by apply amq;simp]at this;refine Calls.mono this ?_;rintro e w' ⟨β',H',M',v,x,pk,rfl,g1,g2,g3,g4,g5, -⟩;exact hnJ _ g5 _ _ ⟨β',H',(hF.forget g3 g4).dd hd g1,g2⟩
    ·exact h.elim
   ·rename_i t args ts hop;split at h
    ·rename_i f l r xs hfn hxs;obtain⟨hf,hd,hcall⟩:=h;obtain⟨vf,hv,hden⟩:=hF.2.2 t _ hfn;simp only[Den]at hden;obtain⟨vl,vr,rfl,hdl,hdr⟩:=hden;have hgv:a.eval (.tmp t)=.func (.func f) vl.toArray vr.toArray:=by
      simp only[Act.eval,Array.getD_eq_getD_getElem?,hv];rfl
     have hrun:(execOp a.eval o).run P w=.ok (.enter f (vl.toArray++args.map a.eval++vr.toArray)) w:=by
      obtain⟨dst,op,type,pos,after,guard⟩:=o;simp only at hop;subst hop;simp only[execOp,resolve,hgv,Deferred.ofValue,Sem.run_bind,Sem.run_pure,Result.andThen_ok,invoke];simpa using hf (vl.toArray++args.map a.eval++vr.toArray) w
     simp only[Oper.wp,hrun,Oper.upon];have hvals:=gf (gf hdl (jr hF _ _ hxs)) hdr;have:=hcall β H w _ hvals hW;rw[show(vl++args.toList.map a.eval++vr).toArray=vl.toArray++args.map a.eval++vr.toArray from by apply amq;simp]at this;refine Calls.mono this ?_;rintro e w' ⟨β',H',M',v,x,pk,rfl,g1,g2,g3,g4,g5, -⟩;exact hnJ _ g5 _ _ ⟨β',H',(hF.forget g3 g4).dd hd g1,g2⟩
    ·exact h.elim
   ·exact h.elim
theorem jC{P:Program}{C:Ctx}{all:Array Oper}:∀(ops:List Oper) (st:St) {Q QJ R:aV},(∀e st,Q e st→R e st)→(∀e st,QJ e st→R e st)→fI P C all ops st Q QJ→r5 P C all ops st R
 | [],st,Q,QJ,R,hQ,hJ,h=>fun a w hs=>wpList_nil ⟨st,hQ _ _ h,hs⟩
 | o::rest,st,Q,QJ,R,hQ,hJ,h=>fun a w hs=>by
  simp only[fI]at h;split at h
  ·rename_i hg;unfold wpList;rw[if_pos (by simp[Region.wanted,hg])];exact .inl (EF (fun st' h'=>jC rest st' hQ hJ h') (fun st' h'=>jC rest st' hJ hJ h') h hs)
  ·rename_i j b hg;split at h
   ·rename_i t ht;split at h
    ·rename_i c hc;obtain⟨β,H,hF,hW⟩:=hs;obtain⟨v,hv,hden⟩:=hF.2.2 t _ hc;simp only[Den]at hden;obtain⟨rfl, -⟩:=hden;have hy:yielded all a.tmps j=some c:=by
      unfold yielded;simp only[m6]at ht;rw[ht];simp[hv]
     have hsub:∀b',c=b'→gI β H st.n ((t,.val (.bool b'))::st.fr) a:=fun b' hb=>by
      subst hb;refine hF.sub fun t' x' hg'=>?_;simp only[get]at hg';split at hg'
      ·rename_i e;subst e;simp only[al0]at hg';subst hg';exact hc
      ·exact hg'
     unfold wpList;by_cases hcb:c=b
     ·rw[if_pos (by simp[Region.wanted,hg,hy,hcb])];exact .inl (EF (fun st' h'=>jC rest st' hQ hJ h') (fun st' h'=>jC rest st' hJ hJ h') (h.1 hcb) ⟨β,H,hsub b hcb,hW⟩)
     ·rw[if_neg (by simp[Region.wanted,hg,hy,hcb])];have hcb':c=!b:=by cases c<;>cases b<;>simp_all
      exact jC rest _ hQ hJ (h.2 hcb') _ _ ⟨β,H,(hsub _ hcb').fc o.dst,hW⟩
    ·rename_i hc;obtain⟨β,H,hF,hW⟩:=hs;obtain⟨v,hv,hden⟩:=hF.2.2 t _ hc;obtain rfl:=wR hden;have hy:yielded all a.tmps j=none:=by
      unfold yielded;simp only[m6]at ht;rw[ht];simp[hv]
     unfold wpList;rw[if_neg (by simp[Region.wanted,hg,hy])];exact jC rest _ hQ hJ h _ _ ⟨β,H,hF.fc o.dst,hW⟩
    ·exact h.elim
   ·exact h.elim
def CZ(id:Nat)(Q:aV):aV:=fun e st=>match e with
 | .exit id'=>if id'=id then Q .normal st else Q (.exit id') st
 | e=>Q e st
def qE(Q1:St→Prop)(Q:aV):aV:=fun e st=>match e with
 | .normal=>Q1 st
 | e=>Q e st
def vc(P:Program)(C:Ctx):Code→St→aV→aV→Prop
 | .skip,st,Q,_=>Q .normal st
 | .seq x y,st,Q,QJ=>vc P C x st (qE (fun st'=>vc P C y st' Q QJ) Q) (qE (fun st'=>vc P C y st' QJ QJ) QJ)
 | .cond c x y,st,Q,QJ =>
  match ev st.fr c with
  | some (.val (.bool b))=>(b=true→vc P C x st Q QJ)∧(b=false→vc P C y st Q QJ)
  | _=>False
 | .block id c,st,Q,QJ=>vc P C c st (CZ id Q) (CZ id QJ)
 | .exit id,st,Q,_=>Q (.exit id) st
 | .ret,st,Q,_=>Q .ret st
 | .region _ ops false,st,Q,QJ=>fI P C ops ops.toList st Q QJ
 | c,st,_,QJ=>ae P C c st QJ
theorem LM{C:Ctx}{Q Q':aV}(h:∀e st,Q e st→Q' e st):∀e a w,QQ C Q e a w→QQ C Q' e a w:=fun e _ _ ⟨st,h1,h2⟩=>⟨st,h e st h1,h2⟩
theorem ae.mono{P:Program}{C:Ctx}{c:Code}{st:St}{Q Q':aV}(h:ae P C c st Q)(hq:∀e st,Q e st→Q' e st):ae P C c st Q' :=
 fun a w hs=>wp_mono (h a w hs) (LM hq)
theorem BT{id:Nat}{Q R:aV}(h:∀e st,Q e st→R e st):∀e st,CZ id Q e st→CZ id R e st:=fun e st h'=>by
 cases e<;>simp only[CZ]at h' ⊢<;>first | exact h _ _ h' | (split at h'<;>rename_i e<;>first | (rw[if_pos e];exact h _ _ h') | (rw[if_neg e];exact h _ _ h'))
theorem lN{P:Program}{C:Ctx}:∀(c:Code) (st:St) {Q QJ R:aV},(∀e st,Q e st→R e st)→(∀e st,QJ e st→R e st)→vc P C c st Q QJ→ae P C c st R
 | .skip,st,Q,QJ,R,hQ,hJ,h=>fun a w hs=>wp_skip ⟨st,hQ _ _ h,hs⟩
 | .seq x y,st,Q,QJ,R,hQ,hJ,h=>by
  have h1:=lN x st (R:=qE (fun st'=>ae P C y st' R) R) (fun e st' h'=>by
   cases e<;>simp only[qE]at h' ⊢<;>first | exact hQ _ _ h' | exact lN y st' hQ hJ h') (fun e st' h'=>by
   cases e<;>simp only[qE]at h' ⊢<;>first | exact hJ _ _ h' | exact lN y st' hJ hJ h') h
  intro a w hs;refine wp_seq (wp_mono (h1 a w hs) ?_);rintro e a' w' ⟨st',h2,h3⟩;cases e<;>simp only[qE,Exit.then]at h2 ⊢<;>first | exact h2 a' w' h3 | exact⟨st',h2,h3⟩
 | .cond c x y,st,Q,QJ,R,hQ,hJ,h=>by
  simp only[vc]at h;split at h
  ·rename_i b hb;rintro a w ⟨β,H,hF,hW⟩;have hden:=yM hF hb;simp only[Den]at hden;refine wp_cond_split hden.1 (fun ht=>lN x st hQ hJ (h.1 ht) a w ⟨β,H,hF,hW⟩) (fun hf=>lN y st hQ hJ (h.2 hf) a w ⟨β,H,hF,hW⟩)
  ·exact h.elim
 | .block id c,st,Q,QJ,R,hQ,hJ,h=>by
  have h1:=lN c st (R:=CZ id R) (BT hQ) (BT hJ) h;intro a w hs;refine wp_block (wp_mono (h1 a w hs) ?_);rintro e a' w' ⟨st',h2,h3⟩;cases e<;>simp only[CZ,Exit.inBlock]at h2 ⊢<;>first | exact⟨st',h2,h3⟩ | (split at h2<;>rename_i e<;>first | (rw[if_pos e];exact⟨st',h2,h3⟩) | (rw[if_neg e];exact⟨st',h2,h3⟩))
 | .exit id,st,Q,QJ,R,hQ,hJ,h=>fun a w hs=>wp_exit ⟨st,hQ _ _ h,hs⟩
 | .ret,st,Q,QJ,R,hQ,hJ,h=>fun a w hs=>wp_ret ⟨st,hQ _ _ h,hs⟩
 | .region id ops false,st,Q,QJ,R,hQ,hJ,h=>fun a w hs=>wp_region_list (jC ops.toList st hQ hJ h a w hs)
 | .region id ops true,st,Q,QJ,R,hQ,hJ,h=>h.mono hJ
 | .loop c,st,Q,QJ,R,hQ,hJ,h=>h.mono hJ
 | .rangeFunc ..,st,Q,QJ,R,hQ,hJ,h=>h.mono hJ
 | .scope c,st,Q,QJ,R,hQ,hJ,h=>h.mono hJ
 | .label l,st,Q,QJ,R,hQ,hJ,h=>h.mono hJ
 | .goto l,st,Q,QJ,R,hQ,hJ,h=>h.mono hJ
 | .refuse s,st,Q,QJ,R,hQ,hJ,h=>h.mono hJ
end Go.Sv


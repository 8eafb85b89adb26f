/- A text of the prover's own. -/
import Derived.Test.YtnimjdcaajmfcaaGreatDoorBVa
import Derived.MapKept
import Derived.Laws.StructEq
open Go.Instr renaming sameNow->awx,checkKey->awy,findNow->awz,findKey->awA,lookup->awB,sameBits->awC,keyThatStays->awD,mapUpdate->awE,mapEntry->awF,entryStore->awG,makeMap->awH
open Option.some renaming injEq->ass,inj->as6
open Nat renaming le_refl->asN,sub_zero->as7
open List renaming cons_append->as8,getElem?_cons_zero->as9,ext_getElem?->asU,getElem?_eq_some_iff->ata,getElem?_set_self->asY,getElem?_set_ne->asZ
open Go.Sem renaming run_bind->av4,run_pure->awi
open Go.Result renaming andThen_ok->av5
open Go.MapKept renaming run_getObj_map->awI,run_setObj_map->awJ
open Array renaming getElem?_toList->asD,ext'->asT,toList_modify->atb,toList_setIfInBounds->atc,length_toList->asS,toList_push->atd
open Option renaming map_some->asO,getD_some->ate
open Go.Oper renaming wp->awK,upon->awL
open Go.Region renaming wanted->awM
namespace Go.Sv
open Go Go.RowKit
def NT:Value->Value->Option Bool
 | .int k a,.int k' b=>if k=k' then some (decide (a=b)) else none
 | .string a,.string b=>some (decide (a=b))
 | .bool a,.bool b=>some (decide (a=b))
 | _,_=>none
def CM(ti:Option TI)(v:Value):Bool :=
 match ti,v with
 | some ⟨.int k,_,_,_⟩,.int k' _=>decide (k=k')
 | some ⟨.str,_,_,_⟩,.string _=>true
 | some ⟨.bool,_,_,_⟩,.bool _=>true
 | _,_=>false
def kgo(v:Value)(u:Value)(y:SV)(i:Nat)(r:Option (Option (Nat × SV))):Option (Option (Nat × SV)) :=
 match NT v u with
 | some true=>some (some (i,y))
 | some false=>r
 | none=>none
def ab5:SV->Option (Value × SV)
 | .bP [.val u,y]=>some (u,y)
 | _=>none
def lJ(v:Value):List SV->Nat->Option (Option (Nat × SV))
 | [],_=>some none
 | x::l,i=>match ab5 x with
  | some (u,y)=>kgo v u y i (lJ v l (i+1))
  | none=>none
def akr(x y:SV):SV:=match x with
 | .bP [u,_]=>.bP [u,y]
 | x=>x
def two(ok:Bool)(y:SV)(b:Bool):SV:=if ok=true then .bP [y,.val (.bool b)] else y
def Ue(ok:Bool)(M:aD)(te:TI)(r:Option (Option (Nat × SV))):cB:=match r with
 | some (some (_,y))=>.m True M [] (some (two ok y true))
 | some none=>.m True M [] (some (two ok te.cR false))
 | none=>.stuck
def VI(ok:Bool)(M:aD)(al:Option TI)(v:Value)(te:Option TI)(e:Option cz):cB:=match te,e with
 | some te,some e=>if e.sz=0∧CM al v=true then Ue ok M te (lJ v e.es 0) else .stuck
 | _,_=>.stuck
def lkN(ok:Bool)(M:aD)(al:Option TI)(v:Value)(te:Option TI):cB:=match te with
 | some te=>if CM al v=true then .m True M [] (some (two ok te.cR false)) else .stuck
 | none=>.stuck
def lH(P:Program)(M:aD)(ti:Option TI)(x i:Option SV)(ok:Bool):cB :=
 match ti,x,i with
 | some ⟨.mp kt et,_,_,_⟩,some (.mp k),some (.val v)=>VI ok M (an P kt) v (an P et) (aA M k)
 | some ⟨.mp kt et,_,_,_⟩,some (.val (.map none)),some (.val v)=>lkN ok M (an P kt) v (an P et)
 | _,_,_=>.stuck
def WW(M:aD)(k:Nat)(es:List SV)(v:Value)(y:SV)(r:Option (Option (Nat × SV))):cB:=match r with
 | some (some (j,_))=>.m True (aX M k (some ⟨0,cZ es j (.bP [.val v,y]),false⟩)) [] none
 | some none=>.m True (aX M k (some ⟨0,es++[.bP [.val v,y]],false⟩)) [] none
 | none=>.stuck
def V7(M:aD)(k:Nat)(al:Option TI)(v:Value)(y:SV)(e:Option cz):cB:=match e with
 | some e=>if e.sz=0∧e.fz=false∧CM al v=true then WW M k e.es v y (lJ v e.es 0) else .stuck
 | none=>.stuck
def j9(P:Program)(M:aD)(ti:Option TI)(m i x:Option SV):cB :=
 match ti,m,i,x with
 | some ⟨.mp kt _,_,_,_⟩,some (.mp k),some (.val v),some y=>V7 M k (an P kt) v y (aA M k)
 | _,_,_,_=>.stuck
def enR(M:aD)(k:Nat)(es:List SV)(v:Value)(te:TI)(r:Option (Option (Nat × SV))):cB:=match r with
 | some (some (j,y))=>.m True M [] (some (.bP [y,.val (.int .i64 (j:Nat))]))
 | some none=>.m True (aX M k (some ⟨0,es++[.bP [.val v,te.cR]],false⟩)) [] (some (.bP [te.cR,.val (.int .i64 es.length)]))
 | none=>.stuck
def enE(M:aD)(k:Nat)(al:Option TI)(v:Value)(te:Option TI)(e:Option cz):cB:=match te,e with
 | some te,some e=>if e.sz=0∧e.fz=false∧CM al v=true then enR M k e.es v te (lJ v e.es 0) else .stuck
 | _,_=>.stuck
def lE(P:Program)(M:aD)(ti:Option TI)(m i:Option SV):cB :=
 match ti,m,i with
 | some ⟨.mp kt et,_,_,_⟩,some (.mp k),some (.val v)=>enE M k (an P kt) v (an P et) (aA M k)
 | _,_,_=>.stuck
def esE(M:aD)(k:Nat)(n:Int)(y:SV)(e:Option cz):cB:=match e with
 | some e=>if e.sz=0∧e.fz=false then .m (0<=n∧n<e.es.length) (aX M k (some ⟨0,cZ e.es n.toNat (akr (aL e.es n.toNat) y),false⟩)) [] none else .stuck
 | none=>.stuck
def jn(M:aD)(m s x:Option SV):cB :=
 match m,s,x with
 | some (.mp k),some (.val (.int _ n)),some y=>esE M k n y (aA M k)
 | _,_,_=>.stuck
def Vg(M:aD)(e:Option cz):cB:=match e with
 | some e=>if e.sz=0 then .m True M [] (some (.val (.int .i64 e.es.length))) else .stuck
 | none=>.stuck
def fW(M:aD)(ti:Option TI)(x:Option SV):cB :=
 match ti,x with
 | some ⟨.mp _ _,_,_,_⟩,some (.mp k)=>Vg M (aA M k)
 | some ⟨.mp _ _,_,_,_⟩,some (.val (.map none))=>.m True M [] (some (.val (.int .i64 0)))
 | _,_=>.stuck
def jB(M:aD)(ti:Option TI)(x:Option (Option SV)):cB :=
 match ti,x with
 | some ⟨.mp _ _,_,_,_⟩,none=>.m True (M++[some ⟨0,[],false⟩]) [] (some (.mp M.length))
 | some ⟨.mp _ _,_,_,_⟩,some (some (.val (.int _ _)))=>.m True (M++[some ⟨0,[],false⟩]) [] (some (.mp M.length))
 | _,_=>.stuck
section
variable {P:Program} {C:Ctx} {β:ca} {H:Hp} {M:aD} {w:World} {c:Prop}
theorem xN{d:TypeDesc}{k e:TypeId}(h:TK.mp k e=tk P d):d=.map k e:=by cases d<;>simp[tk]at h;rw[h.1,h.2]
theorem IW(a b:ByteArray):(a==b)=decide (a=b):=by rw[beq_toListBytes,bytes_beq]
theorem uL{α:Type}{l:List α}{j:Nat}{x:α}(f:α->α)(h:l[j]?=some x):l.modify j f=l.set j (f x):=by
 induction l generalizing j with
 | nil=>simp at h
 | cons y l ih=>cases j with
  | zero=>simp at h;simp[h]
  | succ j=>simp at h ⊢;exact ih h
theorem xi{kt:TypeId}{v:Value}(h:CM (an P kt) v=true):EW v=true∧∃d,P.underlying kt=some d∧(∀u,awx d v u=NT v u)∧∀(e:Bool) (n:Nat) (w:World),(awy e (n+1) kt v).run P w=.ok () w:=by
 unfold CM at h;split at h
 ·rename_i k _ _ _ k' a ac;obtain⟨i,d,z,ht⟩:=aF ac;obtain rfl:=GA ht.k;obtain rfl:k=k':=by simpa using h
  refine⟨rfl,_,ht.under,λu=>?_,λe n w=>?_⟩
  ·cases u<;>simp[awx,NT,BEq.beq]
  ·simp[awy,ht.aO]
 ·rename_i _ _ _ a ac;obtain⟨i,d,z,ht⟩:=aF ac;obtain rfl:=x7 ht.k;refine⟨rfl,_,ht.under,λu=>?_,λe n w=>?_⟩
  ·cases u<;>simp[awx,NT,IW]
  ·simp[awy,ht.aO]
 ·rename_i _ _ _ a ac;obtain⟨i,d,z,ht⟩:=aF ac;have:d=.bool:=by
   have hk:=ht.k;cases d<;>simp[tk]at hk;rfl
  subst this;refine⟨rfl,_,ht.under,λu=>?_,λe n w=>?_⟩
  ·cases u<;>simp[awx,NT,BEq.beq]
  ·simp[awy,ht.aO]
 ·cases h
theorem Kz{v u:Value}(h:NT v u=some true):v=u:=by
 unfold NT at h;split at h
 ·split at h
  ·rename_i hk;simp at h;rw[hk,h]
  ·cases h
 ·simp at h;rw[h]
 ·simp at h;rw[h]
 ·cases h
theorem lK{d:TypeDesc}{v:Value}(hs:∀u,awx d v u=NT v u):∀{es:List SV} {ms:List MapEntry} {n i:Nat} {r:Option (Nat × SV)},cN β H es ms n->lJ v es i=some r ->
  (r=none∧awz d v ms i=some none) ∨
  (∃j y m,r=some (j,y)∧i<=j∧j<i+es.length∧awz d v ms i=some (some (j,m.val))∧ms[j - i]?=some m∧m.key=v∧m.born=n+(j - i)∧Den β H y m.val)
 | [],ms,n,i,r,h,hf=>by simp only[cN]at h;subst h;simp only[lJ,ass]at hf;exact .inl ⟨hf.symm,rfl⟩
 | x::es,ms,n,i,r,h,hf=>by
  simp only[cN]at h;obtain⟨key,y,m,q,rfl,rfl,h3,h4,h5,h6,h7⟩:=h;simp only[lJ,ab5,kgo]at hf;cases hq:NT v key with
  | none=>rw[hq]at hf;cases hf
  | some b =>
   rw[hq]at hf;have aM:awx d v m.key=some b:=by rw[hs,h3,hq]
   cases b with
   | true =>
    simp only[ass]at hf;refine .inr ⟨i,y,m,hf.symm,asN _,by simp,?_,by simp,by rw[h3,Kz hq],by simp[h5],h6⟩;simp[awz,aM]
   | false =>
    simp only at hf;have az:awz d v (m::q) i=awz d v q (i+1):=by simp[awz,aM]
    rcases lK hs h7 hf with⟨g1,g2⟩ | ⟨j,y',m',g1,g2,g3,g4,g5,g6,g7,g8⟩
    ·exact .inl ⟨g1,by rw[az];exact g2⟩
    ·refine .inr ⟨j,y',m',g1,by omega,by simp;omega,by rw[az];exact g4,?_,g6,by omega,g8⟩;rw[show j - i=(j - (i+1))+1 by omega];simpa using g5
theorem cN.append{es:List SV}{ms:List MapEntry}{n:Nat}(h:cN β H es ms n){v:Value}{y:SV}{m:MapEntry}(hm:m.key=v)(hv:EW v=true)(hb:m.born=n+es.length)(hy:Den β H y m.val):cN β H (es++[.bP [.val v,y]]) (ms++[m]) n:=by
 induction es generalizing ms n with
 | nil =>
  simp only[cN]at h;subst h;simp only[List.nil_append,cN];exact⟨v,y,m,[],rfl,rfl,hm,hv,by simpa using hb,hy,rfl⟩
 | cons x es ih =>
  simp only[cN]at h;obtain⟨key,y',m',q,rfl,rfl,h3,h4,h5,h6,h7⟩:=h;simp only[as8,cN];exact⟨key,y',m',q++[m],rfl,rfl,h3,h4,h5,h6,ih h7 (by rw[hb];simp;omega)⟩
theorem cN.set{es:List SV}{ms:List MapEntry}{n j:Nat}(h:cN β H es ms n){v:Value}{y:SV}{m m':MapEntry}(hj:ms[j]?=some m)(hm:m'.key=v)(hv:EW v=true)(hb:m'.born=m.born)(hy:Den β H y m'.val):cN β H (cZ es j (.bP [.val v,y])) (ms.set j m') n:=by
 induction es generalizing ms n j with
 | nil =>
  simp only[cN]at h;subst h;simp at hj
 | cons x es ih =>
  simp only[cN]at h;obtain⟨key,y',m0,q,rfl,rfl,h3,h4,h5,h6,h7⟩:=h;cases j with
  | zero =>
   simp only[as9,ass]at hj;subst hj;simp only[cZ,List.set_cons_zero,cN];exact⟨v,y,m',q,rfl,rfl,hm,hv,by rw[hb,h5],hy,h7⟩
  | succ j =>
   simp only[cZ,List.set_cons_succ,cN];exact⟨key,y',m0,_,rfl,rfl,h3,h4,h5,h6,ih h7 (by simpa using hj)⟩
theorem cN.born{es:List SV}{ms:List MapEntry}{n:Nat}(h:cN β H es ms n){j:Nat}{m:MapEntry}(hj:ms[j]?=some m):m.born=n+j:=by
 induction es generalizing ms n j with
 | nil=>simp only[cN]at h;subst h;simp at hj
 | cons x es ih =>
  simp only[cN]at h;obtain⟨key,y',m0,q,rfl,rfl,h3,h4,h5,h6,h7⟩:=h;cases j with
  | zero=>simp only[as9,ass]at hj;subst hj;simp[h5]
  | succ j=>have:=ih h7 (j:=j) (by simpa using hj);omega
theorem cN.at_{es:List SV}{ms:List MapEntry}{n:Nat}(h:cN β H es ms n){j:Nat}(hj:j<es.length):∃v y m,aL es j=.bP [.val v,y]∧ms[j]?=some m∧m.key=v∧EW v=true∧Den β H y m.val:=by
 induction es generalizing ms n j with
 | nil=>simp at hj
 | cons x es ih =>
  simp only[cN]at h;obtain⟨key,y',m0,q,rfl,rfl,h3,h4,h5,h6,h7⟩:=h;cases j with
  | zero=>exact⟨key,y',m0,rfl,rfl,h3,h4,h6⟩
  | succ j=>simpa[aL]using ih h7 (j:=j) (by simpa using hj)
theorem DB(hW:cJ C β H M w){k:Nat}{e:cz}{u:Value}(he:aA M k=some e)(hz:e.sz=0)(hu:Den β H (.mp k) u) :
  ∃d ms,β k=some (some d)∧(e.sz=0∧d.sz=1∧d.FM=0)∧u=.map (some d.b)∧w.heap[d.b]?=some (.map ms ms.size)∧cN β H e.es ms.toList 0:=by
 simp only[Den]at hu;obtain⟨d,h1,h2,rfl⟩:=hu;rcases hW.dt k e (aT he)with⟨g1,_⟩ | ⟨d',cs,T,vs,g1,g2,_⟩ | ⟨d',ms,g1,g2,g3,g4⟩
 ·rw[h1]at g1;simp at g1
 ·rw[h1]at g1;simp only[ass]at g1;subst g1;omega
 ·rw[h1]at g1;simp only[ass]at g1;subst g1;exact⟨d,ms,h1,g2,rfl,g3,g4⟩
theorem BT{β:ca}{H:Hp}{y:SV}{v:Value}(h:Den β H y v)(ok b:Bool):Den β H (two ok y b) (if ok then .tuple #[v,.bool b] else v):=by
 unfold two;cases ok with
 | false=>simpa using h
 | true =>
  simp only[if_true,Den];refine⟨[v,.bool b],rfl,?_⟩;simp only[bY,Den];exact⟨v,_,rfl,h,_,_,rfl,⟨rfl,rfl⟩,rfl⟩
theorem run_findKey{kt:TypeId}{d:TypeDesc}{v:Value}{ms:List MapEntry}{r:Option (Nat × Value)}(hu:P.underlying kt=some d)(h:awz d v ms 0=some r):(awA kt v ms).run P w=.ok r w:=by simp[awA,underlying,hu,h]
theorem D5(hW:cJ C β H M w){t:TypeId}{x i:Option SV}{ok:Bool}{u v:Value}{M':aD}{pk:List Nat}{r:Option SV}(h:lH P M (an P t) x i ok=.m c M' pk r)(hx:∀s,x=some s->Den β H s u)(hi:∀s,i=some s->Den β H s v) :
  pk=[]∧M'=M∧∃y z,r=some y∧(awB t u v ok).run P w=.ok z w∧Den β H y z:=by
 unfold lH at h;split at h
 ·rename_i kt et _ _ _ k v' ac;obtain⟨i0,d0,z0,ht⟩:=aF ac;obtain rfl:=xN ht.k;have hv:=hi _ rfl;simp only[Den]at hv;obtain⟨rfl, -⟩:=hv;unfold VI at h;split at h
  ·rename_i te e ao he;obtain⟨ie,de,ze,aj⟩:=aF ao;split at h
   ·rename_i hc;obtain⟨d,ms,g1,g2,rfl,g3,g4⟩:=DB hW he hc.1 (hx _ rfl);obtain⟨k1,dk,k2,k3,k4⟩:=xi hc.2;unfold Ue at h;split at h
    ·rename_i j y hr;simp only[cB.m.injEq]at h;obtain⟨-,rfl,rfl,rfl⟩:=h;rcases lK k3 g4 hr with⟨e1, -⟩ | ⟨j',y',m,e1,e2,e3,e4,e5,e6,e7,e8⟩
     ·cases e1
     ·simp only[ass,Prod.mk.injEq]at e1;obtain⟨rfl,rfl⟩:=e1;refine⟨rfl,rfl,_,_,rfl,?_,BT e8 ok true⟩;simp only[awB,av4,ht.aO,av5,awI g3,awi,k4,run_findKey k2 e4]
    ·rename_i hr;simp only[cB.m.injEq]at h;obtain⟨-,rfl,rfl,rfl⟩:=h;rcases lK k3 g4 hr with⟨-,e1⟩ | ⟨j',y',m,e1,_⟩
     ·refine⟨rfl,rfl,_,_,rfl,?_,BT (GM aj β H) ok false⟩;simp only[awB,av4,ht.aO,av5,awI g3,awi,k4,run_findKey k2 e1,aj.kJ]
     ·cases e1
    ·cases h
   ·cases h
  ·cases h
 ·rename_i kt et _ _ _ v' ac;obtain⟨i0,d0,z0,ht⟩:=aF ac;obtain rfl:=xN ht.k;have hv:=hi _ rfl;have hu:=hx _ rfl;simp only[Den]at hv hu;obtain⟨rfl, -⟩:=hv;obtain⟨rfl, -⟩:=hu;unfold lkN at h;split at h
  ·rename_i te ao;obtain⟨ie,de,ze,aj⟩:=aF ao;split at h
   ·rename_i hc;obtain⟨k1,dk,k2,k3,k4⟩:=xi hc;simp only[cB.m.injEq]at h;obtain⟨-,rfl,rfl,rfl⟩:=h;refine⟨rfl,rfl,_,_,rfl,?_,BT (GM aj β H) ok false⟩;simp only[awB,av4,ht.aO,av5,awi,k4,run_findKey k2 (show awz dk _ [] 0=some none from rfl),aj.kJ]
   ·cases h
  ·cases h
 ·cases h
theorem y4{b:Nat}{o:Obj}{ms:Array MapEntry}(hb:w.heap[b]?=some o):WrM w b ms { w with heap:=w.heap.setIfInBounds b (.map ms ms.size) } where
 os:=rfl
 tape:=rfl
 output:=rfl
 size:=by simp
 here:=by have:=jq hb;simp[this]
 there b' h:=by simp[Array.getElem?_setIfInBounds_ne (Ne.symm h)]
theorem zT{v:Value}(h:EW v=true)(n:Nat):awC n v v=true:=by cases v<;>simp[EW]at h<;>cases n<;>simp[awC,IW]
theorem Aw{v:Value}(h:EW v=true):(awD v v).run P w=.ok v w:=by simp[awD,zT h]
theorem vR(hW:cJ C β H M w){t:TypeId}{m i x:Option SV}{u v z:Value}{M':aD}{pk:List Nat}{r:Option SV}(h:j9 P M (an P t) m i x=.m c M' pk r)(hm:∀s,m=some s->Den β H s u)(hi:∀s,i=some s->Den β H s v)(hx:∀s,x=some s->Den β H s z) :
  pk=[]∧r=none∧∃w',(awE t u v z).run P w=.ok () w'∧cJ C β H M' w'∧w'.heap.size=w.heap.size∧∀b,(∀k d,m=some (.mp k)->β k=some (some d)->b≠d.b)->w'.heap[b]?=w.heap[b]?:=by
 unfold j9 at h;split at h
 ·rename_i kt et _ _ _ k v' y ac;obtain⟨i0,d0,z0,ht⟩:=aF ac;obtain rfl:=xN ht.k;have hv:=hi _ rfl;have hz:=hx _ rfl;simp only[Den]at hv;obtain⟨rfl, -⟩:=hv;unfold V7 at h;split at h
  ·rename_i e he;split at h
   ·rename_i hc;obtain⟨d,ms,g1,g2,rfl,g3,g4⟩:=DB hW he hc.1 (hm _ rfl);obtain⟨k1,dk,k2,k3,k4⟩:=xi hc.2.2;unfold WW at h;split at h
    ·rename_i j y0 hr;simp only[cB.m.injEq]at h;obtain⟨-,rfl,rfl,rfl⟩:=h;rcases lK k3 g4 hr with⟨e1, -⟩ | ⟨j',y',m',e1,e2,e3,e4,e5,e6,e7,e8⟩
     ·cases e1
     ·simp only[ass,Prod.mk.injEq]at e1;obtain⟨rfl,rfl⟩:=e1;rw[as7]at e5;have aB:ms[j]?=some m':=by rw[<-asD];exact e5
      have aN:j<ms.size:=(Array.getElem?_eq_some_iff.1 aB).1;have af:ms.modify j (λe=>{ e with key:=v,val:=z })=ms.setIfInBounds j { m' with key:=v,val:=z }:=by apply asT;simp only[atb,atc];rw[uL _ e5]
      have hw:=y4 (w:=w) (b:=d.b) (ms:=ms.modify j (λe=>{ e with key:=v,val:=z })) g3;refine⟨rfl,rfl,_,?_,?_,hw.size,λb hb=>hw.there b (hb k d rfl g1)⟩
      ·simp only[awE,av4,ht.aO,av5,awI g3,k4,run_findKey k2 e4,aB,asO,ate,e6,Aw k1];rw[awJ _ g3];simp
      ·rw[dI];have:=hW.pC (es:=cZ e.es j (.bP [.val v,y])) (aT he) hc.2.1 g1 g2 hw (by
        rw[af,atc];exact g4.set e5 rfl k1 rfl hz)
       rw[hc.1]at this;exact this
    ·rename_i hr;simp only[cB.m.injEq]at h;obtain⟨-,rfl,rfl,rfl⟩:=h;rcases lK k3 g4 hr with⟨-,e1⟩ | ⟨j',y',m',e1,_⟩
     ·have hw:=y4 (w:=w) (b:=d.b) (ms:=ms.push { key:=v,val:=z,born:=ms.size }) g3;refine⟨rfl,rfl,_,?_,?_,hw.size,λb hb=>hw.there b (hb k d rfl g1)⟩
      ·simp only[awE,av4,ht.aO,av5,awI g3,k4,run_findKey k2 e1];rw[awJ _ g3];simp
      ·rw[dI];have hl:=g4.length;simp only[asS]at hl;have:=hW.pC (es:=e.es++[.bP [.val v,y]]) (aT he) hc.2.1 g1 g2 hw (by
        rw[atd];exact g4.append rfl k1 (by simp[hl]) hz)
       rw[hc.1]at this;exact this
     ·cases e1
    ·cases h
   ·cases h
  ·cases h
 ·cases h
theorem Ab(hW:cJ C β H M w){t:TypeId}{m i:Option SV}{u v:Value}{M':aD}{pk:List Nat}{r:Option SV}(h:lE P M (an P t) m i=.m c M' pk r)(hm:∀s,m=some s->Den β H s u)(hi:∀s,i=some s->Den β H s v) :
  pk=[]∧∃x z w',r=some x∧(awF t u v).run P w=.ok z w'∧cJ C β H M' w'∧Den β H x z∧w'.heap.size=w.heap.size∧∀b,(∀k d,m=some (.mp k)->β k=some (some d)->b≠d.b)->w'.heap[b]?=w.heap[b]?:=by
 unfold lE at h;split at h
 ·rename_i kt et _ _ _ k v' ac;obtain⟨i0,d0,z0,ht⟩:=aF ac;obtain rfl:=xN ht.k;have hv:=hi _ rfl;simp only[Den]at hv;obtain⟨rfl, -⟩:=hv;unfold enE at h;split at h
  ·rename_i te e ao he;obtain⟨ie,de,ze,aj⟩:=aF ao;split at h
   ·rename_i hc;obtain⟨d,ms,g1,g2,rfl,g3,g4⟩:=DB hW he hc.1 (hm _ rfl);obtain⟨k1,dk,k2,k3,k4⟩:=xi hc.2.2;have ak:∀{y:SV} {z:Value} {q:Nat},Den β H y z->Den β H (.bP [y,.val (.int .i64 (q:Nat))]) (.tuple #[z,goInt q]):=λ{y z q} hy=>by
     simp only[Den];refine⟨[z,goInt q],rfl,?_⟩;simp only[bY,Den];exact⟨z,_,rfl,hy,_,_,rfl,⟨rfl,rfl⟩,rfl⟩
    unfold enR at h;split at h
    ·rename_i j y0 hr;simp only[cB.m.injEq]at h;obtain⟨-,rfl,rfl,rfl⟩:=h;rcases lK k3 g4 hr with⟨e1, -⟩ | ⟨j',y',m',e1,e2,e3,e4,e5,e6,e7,e8⟩
     ·cases e1
     ·simp only[ass,Prod.mk.injEq]at e1;obtain⟨rfl,rfl⟩:=e1;rw[as7]at e5 e7;rw[Nat.zero_add]at e7;have aB:ms[j]?=some m':=by rw[<-asD];exact e5
      have af:ms.modify j (λe=>{ e with key:=v })=ms:=by
       apply asT;simp only[atb];rw[uL _ e5];apply asU;intro q;by_cases hq:j=q
       ·subst hq;have aN:j<ms.toList.length:=(ata.1 e5).1;show(ms.toList.set j _)[j]?=_;rw[asY aN,e5,<-e6]
       ·show(ms.toList.set j _)[q]?=_;rw[asZ hq]
      have hw:=y4 (w:=w) (b:=d.b) (ms:=ms) g3;refine⟨rfl,_,_,_,rfl,?_,?_,ak e8,hw.size,λb hb=>hw.there b (hb k d rfl g1)⟩
      ·simp only[awF,av4,ht.aO,av5,awI g3,k4,run_findKey k2 e4,aB,asO,ate,e6,Aw k1,af];rw[awJ _ g3];simp[e7]
      ·have:=hW.pC (es:=e.es) (aT he) hc.2.1 g1 g2 hw g4;have hM:M.set k (some ⟨e.sz,e.es,false⟩)=M:=by
        have aP:=aT he;apply asU;intro q;by_cases hq:k=q
        ·subst hq;rw[asY (ata.1 aP).1,aP];obtain⟨a,b,f⟩:=e;have:=hc.2.1;simp only at this;rw[this]
        ·rw[asZ hq]
       rw[hM]at this;exact this
    ·rename_i hr;simp only[cB.m.injEq]at h;obtain⟨-,rfl,rfl,rfl⟩:=h;rcases lK k3 g4 hr with⟨-,e1⟩ | ⟨j',y',m',e1,_⟩
     ·have hw:=y4 (w:=w) (b:=d.b) (ms:=ms.push { key:=v,val:=ze,born:=ms.size }) g3;have hl:=g4.length;simp only[asS]at hl;have aQ:=GM aj β H;refine⟨rfl,_,_,_,rfl,?_,?_,by rw[<-hl];exact ak aQ,hw.size,λb hb=>hw.there b (hb k d rfl g1)⟩
      ·simp only[awF,av4,ht.aO,av5,awI g3,k4,run_findKey k2 e1,aj.kJ];rw[awJ _ g3];simp
      ·rw[dI];have:=hW.pC (es:=e.es++[.bP [.val v,te.cR]]) (aT he) hc.2.1 g1 g2 hw (by
        rw[atd];exact g4.append rfl k1 (by simp[hl]) aQ)
       rw[hc.1]at this;exact this
     ·cases e1
    ·cases h
   ·cases h
  ·cases h
 ·cases h
theorem wB(hW:cJ C β H M w){t:TypeId}{m s x:Option SV}{u v z:Value}{M':aD}{pk:List Nat}{r:Option SV}(h:jn M m s x=.m c M' pk r)(hc:c)(hm:∀s,m=some s->Den β H s u)(hi:∀q,s=some q->Den β H q v)(hx:∀s,x=some s->Den β H s z) :
  pk=[]∧r=none∧∃w',(awG t u v z).run P w=.ok () w'∧cJ C β H M' w'∧w'.heap.size=w.heap.size∧∀b,(∀k d,m=some (.mp k)->β k=some (some d)->b≠d.b)->w'.heap[b]?=w.heap[b]?:=by
 unfold jn at h;split at h
 ·rename_i k kk n y;have hv:=hi _ rfl;have hz:=hx _ rfl;simp only[Den]at hv;obtain⟨rfl, -⟩:=hv;unfold esE at h;split at h
  ·rename_i e he;split at h
   ·rename_i aG;simp only[cB.m.injEq]at h;obtain⟨rfl,rfl,rfl,rfl⟩:=h;obtain⟨c1,c2⟩:=hc;obtain⟨d,ms,g1,g2,rfl,g3,g4⟩:=DB hW he aG.1 (hm _ rfl);obtain⟨q,rfl⟩:∃q:Nat,n=q:=⟨n.toNat,by omega⟩;simp only[Int.toNat_natCast]at *;have hq:q<e.es.length:=by omega
    obtain⟨v0,y0,m0,a1,a2,a3,a4,a5⟩:=g4.at_ hq;have hl:=g4.length;simp only[asS]at hl;have aU:ms.findIdx? (λe=>(e.born:Int)==(q:Int))=some q:=by
     rw[Array.findIdx?_eq_some_iff_getElem];refine⟨by omega,?_,λj hj=>?_⟩
     ·have hb:=g4.born a2;have:ms[q]'(by omega)=m0:=by
       have:ms[q]?=some m0:=by rw[<-asD];exact a2
       rw[Array.getElem?_eq_getElem (by omega)]at this;exact as6 this
      rw[this,hb];simp
     ·have aV:j<ms.size:=by omega
      have hb:=g4.born (j:=j) (m:=ms[j]) (by simp[aV]);rw[hb];simp;omega
    have af:ms.modify q (λe=>{ e with val:=z })=ms.setIfInBounds q { m0 with val:=z }:=by apply asT;simp only[atb,atc];rw[uL _ a2]
    have hw:=y4 (w:=w) (b:=d.b) (ms:=ms.modify q (λe=>{ e with val:=z })) g3;refine⟨trivial,trivial,_,?_,?_,hw.size,λb hb=>hw.there b (hb k d rfl g1)⟩
    ·simp only[awG,av4,awI g3,av5,asInt,asIntOf,awi,aU];rw[awJ _ g3];simp
    ·rw[dI,a1];have:=hW.pC (es:=cZ e.es q (.bP [.val v0,y])) (aT he) aG.2 g1 g2 hw (by
      rw[af,atc];exact g4.set a2 a3 a4 rfl hz)
     rw[aG.1]at this;exact this
   ·cases h
  ·cases h
 ·cases h
theorem D7(hW:cJ C β H M w){t:TypeId}{ts:Array TypeId}{ty:TypeId}{x:Option SV}{u:Value}{M':aD}{pk:List Nat}{r:Option SV}(h0:ts[0]?=some t)(h:fW M (an P t) x=.m c M' pk r)(hx:∀s,x=some s->Den β H s u) :
  pk=[]∧M'=M∧∃y z,r=some y∧(Builtin.len_ ts ty #[u]).run P w=.ok z w∧Den β H y z:=by
 unfold fW at h;split at h
 ·rename_i kt et _ _ _ k ac;obtain⟨i0,d0,z0,ht⟩:=aF ac;obtain rfl:=xN ht.k;unfold Vg at h;split at h
  ·rename_i e he;split at h
   ·rename_i hc;simp only[cB.m.injEq]at h;obtain⟨-,rfl,rfl,rfl⟩:=h;obtain⟨d,ms,g1,g2,rfl,g3,g4⟩:=DB hW he hc (hx _ rfl);have hl:=g4.length;simp only[asS]at hl;refine⟨rfl,rfl,_,goInt ms.size,rfl,?_,by rw[hl];exact bQ rfl⟩;simp[Builtin.len_,h0,ht.aO,awI g3]
   ·cases h
  ·cases h
 ·rename_i kt et _ _ _ ac;obtain⟨i0,d0,z0,ht⟩:=aF ac;obtain rfl:=xN ht.k;have hu:=hx _ rfl;simp only[Den]at hu;obtain⟨rfl, -⟩:=hu;simp only[cB.m.injEq]at h;obtain⟨-,rfl,rfl,rfl⟩:=h;refine⟨rfl,rfl,_,.int .i64 0,rfl,by simp[Builtin.len_,h0,ht.aO,goInt],?_⟩;simp only[Den];exact⟨trivial,rfl⟩
 ·cases h
theorem BZ(hW:cJ C β H M w){t:TypeId}{o:Option Operand}{ρ:Operand->Value}{fr:List (Nat × SV)}(hρ:∀o s,ev fr o=some s->Den β H s (ρ o)){M':aD}{pk:List Nat}{r:Option SV}(h:jB M (an P t) (o.map (ev fr))=.m c M' pk r) :
  pk=[]∧∃bd x,r=some x∧(awH t (o.map ρ)).run P w=.ok (.map (some w.heap.size)) (w.alloc (.map #[] 0))∧cJ C (β.ef M.length (some bd)) H M' (w.alloc (.map #[] 0))∧Den (β.ef M.length (some bd)) H x (.map (some w.heap.size)):=by
 have ab:Den (β.ef M.length (some ⟨w.heap.size,0,1⟩)) H (.mp M.length) (.map (some w.heap.size)):=by simp only[Den];exact⟨_,by simp[ca.ef];rfl,rfl,rfl⟩
 unfold jB at h;split at h
 ·rename_i kt et _ _ _ ac ho;simp only[cB.m.injEq]at h;obtain⟨-,rfl,rfl,rfl⟩:=h;cases o with
  | some o=>cases ho
  | none=>exact⟨rfl,_,_,rfl,by simp[awH,run_newObj,World.alloc_eq],hW.allocMap,ab⟩
 ·rename_i kt et _ _ _ k n ac ho;obtain⟨i0,d0,z0,ht⟩:=aF ac;obtain rfl:=xN ht.k;simp only[cB.m.injEq]at h;obtain⟨-,rfl,rfl,rfl⟩:=h;cases o with
  | none=>cases ho
  | some o =>
   simp only[asO,ass]at ho;have:=hρ o _ ho;simp only[Den]at this;exact⟨rfl,_,_,rfl,by simp[awH,ht.aO,asInt,asIntOf,run_newObj,World.alloc_eq,this.1],hW.allocMap,ab⟩
 ·cases h
end
end Go.Sv
namespace Go.Sv
open Go Go.RowKit
structure St where
 n:Nat
 fr:List (Nat × SV)
 M:aD
abbrev bf:=Exit->St->Prop
def OY(C:Ctx)(st:St)(a:Act)(w:World):Prop:=∃β H,iM β H st.n st.fr a∧cJ C β H st.M w
def QQ(C:Ctx)(Q:bf):Exit->Act->World->Prop:=λe a w=>∃st,Q e st∧OY C st a w
def aa(P:Program)(C:Ctx)(c:Code)(st:St)(Q:bf):Prop:=∀a w,OY C st a w->c.wp P (QQ C Q) a w
def tA(P:Program)(C:Ctx)(all:Array Oper)(ops:List Oper)(st:St)(Q:bf):Prop:=∀a w,OY C st a w->wpList P all (QQ C Q) ops a w
mutual
def SV.ks:SV->List Nat
 | .ptr k _ _=>[k]
 | .view k _ _=>[k]
 | .agg l=>SV.uB l
 | .bP l=>SV.uB l
 | .iT _ x=>x.ks
 | .jw _ l r=>SV.uB l++SV.uB r
 | .mp k=>[k]
 | _=>[]
def SV.uB:List SV->List Nat
 | []=>[]
 | x::l=>x.ks++SV.uB l
end
def dN(P:Program)(C:Ctx)(f:FuncId)(args:List SV)(M:aD)(W:Option (List Nat))(K:aD->List Nat->SV->Prop):Prop :=
 ∀β H w ap,bY β H args ap->cJ C β H M w->Calls P f ap.toArray w λe w' =>
  ∃β' H' M' v x pk,e=.returned v∧Den β' H' x v∧cJ C β' H' M' w'∧(∀k d,k∉pk->β k=some d->β' k=some d)∧(∀b cs,H b=some cs->H' b=some cs)∧K M' pk x ∧
  w.heap.size<=w'.heap.size∧∀ks,W=some ks->pk=[]∧∀b,b<w.heap.size->(∀k∈ks,∀d,β k=some (some d)->b≠d.b)->w'.heap[b]?=w.heap[b]?
def zO(d:Option Nat)(n:Nat):Prop:=match d with
 | some t=>t<n
 | none=>True
def eI(d:Option Nat)(x:Option SV)(fr:List (Nat × SV)):List (Nat × SV) :=
 match d,x with
 | some t,some x=>(t,x)::fr
 | some t,none=>del fr t
 | none,_=>fr
def av(P:Program)(f:FuncId):Prop:=∀(args:Array Value) (w:World),(callFunc f args).run P w=.ok (.enter f args) w
def forget(pk:List Nat):List (Nat × SV)->List (Nat × SV)
 | []=>[]
 | (t,x)::r=>if(pk.all λk=>!x.cj k)=true then(t,x)::forget pk r else del (forget pk r) t
theorem oI{pk:List Nat}:∀{fr:List (Nat × SV)} {t:Nat} {x:SV},get (forget pk fr) t=some x->get fr t=some x∧∀k∈pk,x.cj k=false
 | [],t,x,h=>by simp[forget,get]at h
 | (s,y)::r,t,x,h=>by
  simp only[forget]at h;split at h
  ·rename_i aq;simp only[get]at h ⊢;split at h
   ·rename_i e;simp only[ass]at h;subst h;refine⟨by simp[e],λk hk=>?_⟩;simp only[List.all_eq_true]at aq;simpa using aq k hk
   ·rename_i e;obtain⟨h1,h2⟩:=oI h;exact⟨by rw[if_neg e];exact h1,h2⟩
  ·obtain⟨e,h⟩:=lF h;obtain⟨h1,h2⟩:=oI h;exact⟨by simp only[get];rw[if_neg (Ne.symm e)];exact h1,h2⟩
theorem iM.forget{β β':ca}{H H':Hp}{n:Nat}{fr:List (Nat × SV)}{a:Act}(hF:iM β H n fr a){pk:List Nat}(hb:∀k d,k∉pk->β k=some d->β' k=some d)(hH:∀b cs,H b=some cs->H' b=some cs) :
  iM β' H' n (Sv.forget pk fr) a:=by
 refine⟨⟨hF.1.1,hF.1.2.mono hH⟩,hF.2.1,λt x hg=>?_⟩;obtain⟨g1,g2⟩:=oI hg;obtain⟨v,hv,ab⟩:=hF.2.2 t x g1;exact⟨v,hv,Den.mono hH x v (λj d hj aH=>hb j d (λe=>by rw[g2 j e]at hj;cases hj) aH) ab⟩
def FY(P:Program)(fx:List Nat)(M:aD)(fr:List (Nat × SV))(o:Op):cB :=
 match o with
 | .store t x y=>ow M (an P t) (ev fr x) (ev fr y)
 | .alloc t=>qG M (an P t)
 | .box t x=>A0 M (an P t) (ev fr x)
 | .buildSlice t len parts=>fP P M (an P t) len (parts.toList.map λp=>(p.1,ev fr p.2))
 | .makeSlice t l c=>gQ P M (an P t) (ev fr l) (ev fr c)
 | .call ⟨.builtin .append,args,ts⟩ =>
  match args.toList with
  | [b,x]=>iD P fx M ((ts[0]?).bind (an P)) ((ts[1]?).bind (an P)) (ev fr b) (ev fr x)
  | _=>.stuck
 | .call ⟨.builtin .copy,args,ts⟩ =>
  match args.toList with
  | [b,x]=>B3 P M ((ts[0]?).bind (an P)) (ev fr b) (ev fr x)
  | _=>.stuck
 | .lookup t x i ok=>lH P M (an P t) (ev fr x) (ev fr i) ok
 | .mapUpdate t m i x=>j9 P M (an P t) (ev fr m) (ev fr i) (ev fr x)
 | .insert t m i x=>j9 P M (an P t) (ev fr m) (ev fr i) (ev fr x)
 | .mapEntry t m i=>lE P M (an P t) (ev fr m) (ev fr i)
 | .entryStore _ m s x=>jn M (ev fr m) (ev fr s) (ev fr x)
 | .makeMap t n=>jB M (an P t) (n.map (ev fr))
 | .call ⟨.builtin .len,args,ts⟩ =>
  match args.toList with
  | [x]=>fW M ((ts[0]?).bind (an P)) (ev fr x)
  | _=>.stuck
 | _=>.stuck
def cH(P:Program)(C:Ctx)(W:Option (List Nat))(o:Oper)(st:St)(next ad:St->Prop):Prop :=
 match C1 P st.M st.fr o.op with
 | .q c x=>c∧zO o.dst st.n∧next ⟨st.n,eI o.dst (some x) st.fr,st.M⟩
 | _ =>
  match FY P C.fx st.M st.fr o.op with
  | .m c M' pk x=>c∧zO o.dst st.n∧next ⟨st.n,eI o.dst x (forget pk st.fr),M'⟩
  | .stuck =>
   match o.op with
   | .call ⟨.value (.func f),args,_⟩ =>
    match zE st.fr args.toList with
    | some xs=>av P f∧zO o.dst st.n∧dN P C f xs st.M W λM' pk x=>ad ⟨st.n,eI o.dst (some x) (forget pk st.fr),M'⟩
    | none=>False
   | .call ⟨.value (.tmp t),args,_⟩ =>
    match get st.fr t,zE st.fr args.toList with
    | some (.jw f l r),some xs=>av P f∧zO o.dst st.n∧dN P C f (l++xs++r) st.M W λM' pk x=>ad ⟨st.n,eI o.dst (some x) (forget pk st.fr),M'⟩
    | _,_=>False
   | _=>False
def pD(all:Array Oper)(j:Nat):Option Nat:=(all[j]?).bind (·.dst)
def fp(n:Nat)(d:Option Nat)(fr:List (Nat × SV)):List (Nat × SV) :=
 match d with
 | some t=>if t<n then(t,.bP [])::fr else del fr t
 | none=>fr
theorem iM.fp{β:ca}{H:Hp}{n:Nat}{fr:List (Nat × SV)}{a:Act}(h:iM β H n fr a)(d:Option Nat):iM β H n (Sv.fp n d fr) (a.put d undef):=by
 cases d with
 | none=>exact h
 | some t =>
  simp only[Sv.fp];split
  ·rename_i ht;exact h.put ht (by simp only[Den];exact⟨[],rfl,by simp only[bY]⟩)
  ·exact h.skip t undef
theorem zf{β:ca}{H:Hp}{v:Value}(h:Den β H (.bP []) v):v=.tuple #[]:=by simp only[Den,bY]at h;obtain⟨vs,h1,h2⟩:=h;subst h2;exact h1
def fX(P:Program)(C:Ctx)(all:Array Oper):List Oper->St->bf->bf->Prop
 | [],st,Q,_=>Q .normal st
 | o::rest,st,Q,QJ =>
  match o.guard with
  | none=>cH P C none o st (λst'=>fX P C all rest st' Q QJ) (λst'=>fX P C all rest st' QJ QJ)
  | some (j,b) =>
   match pD all j with
   | some t =>
    match get st.fr t with
    | some (.val (.bool c)) =>
     (c=b->cH P C none o ⟨st.n,(t,.val (.bool b))::st.fr,st.M⟩ (λst'=>fX P C all rest st' Q QJ) (λst'=>fX P C all rest st' QJ QJ)) ∧
     (c=!b->fX P C all rest ⟨st.n,fp st.n o.dst ((t,.val (.bool (!b)))::st.fr),st.M⟩ Q QJ)
    | some (.bP [])=>fX P C all rest ⟨st.n,fp st.n o.dst st.fr,st.M⟩ Q QJ
    | _=>False
   | none=>False
theorem iM.eI{β:ca}{H:Hp}{n:Nat}{fr:List (Nat × SV)}{a:Act}(h:iM β H n fr a){d:Option Nat}{x:SV}{v:Value}(ht:zO d n)(hx:Den β H x v) :
  iM β H n (eI d (some x) fr) (a.put d v):=by
 cases d with
 | none=>exact h
 | some t=>exact h.put ht hx
theorem iM.Pd{β:ca}{H:Hp}{n:Nat}{fr:List (Nat × SV)}{a:Act}(h:iM β H n fr a)(d:Option Nat)(v:Value) :
  iM β H n (Sv.eI d none fr) (a.put d v):=by
 cases d with
 | none=>exact h
 | some t=>exact h.skip t v
theorem dq(fr:List (Nat × SV)):forget [] fr=fr:=by
 induction fr with
 | nil=>rfl
 | cons p r ih=>obtain⟨t,x⟩:=p;simp[forget,ih]
def Kl(x:Option SV):List Nat:=match x with
 | some (.mp k)=>[k]
 | _=>[]
def Bz(fr:List (Nat × SV))(o:Op):List Nat :=
 match o with
 | .store _ x _=>match ev fr x with
  | some (.ptr k _ _)=>[k]
  | _=>[]
 | .call ⟨.builtin .append,args,_⟩=>match args.toList with
  | [b,_]=>match ev fr b with
   | some (.view k _ _)=>[k]
   | _=>[]
  | _=>[]
 | .call ⟨.builtin .copy,args,_⟩=>match args.toList with
  | [b,_]=>match ev fr b with
   | some (.view k _ _)=>[k]
   | _=>[]
  | _=>[]
 | .mapUpdate _ m _ _=>Kl (ev fr m)
 | .insert _ m _ _=>Kl (ev fr m)
 | .mapEntry _ m _=>Kl (ev fr m)
 | .entryStore _ m _ _=>Kl (ev fr m)
 | _=>[]
theorem Mk{P:Program}{C:Ctx}{β:ca}{H:Hp}{M:aD}{w:World}(hW:cJ C β H M w){n:Nat}{fr:List (Nat × SV)}{a:Act}(hF:iM β H n fr a){o:Oper}{c:Prop}{M':aD}{pk:List Nat}{x:Option SV}
  (h:FY P C.fx M fr o.op=.m c M' pk x) (hc:c) (hd:zO o.dst n) :
  ∃nx v w' β',(execOp a.eval o).run P w=.ok nx w'∧(nx=.value v∨(nx=.skip∧v=undef))∧cJ C β' H M' w'∧iM β' H n (eI o.dst x (forget pk fr)) (a.put o.dst v) ∧
   (∀j d,j∉pk->β j=some d->β' j=some d)∧w.heap.size<=w'.heap.size∧∀b,b<w.heap.size->(∀k∈Bz fr o.op,∀d,β k=some (some d)->b≠d.b)->w'.heap[b]?=w.heap[b]?:=by
 have hρ:=λo=>mw hF o;obtain⟨dst,op,type,pos,after,guard⟩:=o;simp only at h hd ⊢;have new:∀{x:SV} {z:Value} {o:Obj} {bd:Bd} {s:Sem Value} {ks:List Nat},pk=[]->s.run P w=.ok z (w.alloc o)->cJ C (β.ef M.length (some bd)) H M' (w.alloc o)->Den (β.ef M.length (some bd)) H x z ->
   ∃nx v w' β',(do pure (Next.value (<-s)):Sem Next).run P w=.ok nx w'∧(nx=.value v∨(nx=.skip∧v=undef))∧cJ C β' H M' w'∧iM β' H n (eI dst (some x) (forget pk fr)) (a.put dst v) ∧
   (∀j d,j∉pk->β j=some d->β' j=some d)∧w.heap.size<=w'.heap.size∧∀b,b<w.heap.size->(∀k∈ks,∀d,β k=some (some d)->b≠d.b)->w'.heap[b]?=w.heap[b]?:=λ{x z o bd s ks} aW hs aY hx=>by
  subst aW;refine⟨.value z,z,_,_,by simp[hs],.inl rfl,aY,?_,λj d _ hj=>ik hW _ j d hj,by simp,λb hb _=>heap_alloc_old hb⟩;rw[dq];exact(hF.mono (ik hW _) (λ_ _ h=>h)).eI hd hx
 unfold FY at h;split at h
 ·rename_i t x' y;obtain⟨rfl,rfl,w',h1,h2,h3,h4⟩:=Ga (P:=P) hW h hc (hρ x') (hρ y);refine⟨.skip,undef,w',β,by simp[execOp,h1],.inr ⟨rfl,rfl⟩,h2,?_,λ_ _ _ h=>h,by rw[h3];exact asN _,λb hb hk=>h4 b (λk i j d he=>hk k (by simp[Bz,he]) d)⟩;rw[dq];exact hF.Pd dst undef
 ·rename_i t;obtain⟨hp,y,d,rfl,h1,bd,h2,h3⟩:=Gl hW h;simp only[execOp];exact new hp h1 h2 h3
 ·rename_i t x';obtain⟨hp,y,d,rfl,h1,bd,h2,h3⟩:=Lx hW h hc (hρ x');simp only[execOp];exact new hp h1 h2 h3
 ·rename_i t len parts;obtain⟨hp,y,d,T,rfl,h1,bd,h2,h3⟩:=wC hW hρ h;simp only[execOp];exact new hp h1 h2 h3
 ·rename_i t l cp;obtain⟨hp,y,d,T,z,rfl,h1,bd,h2,h3⟩:=y8 hW h hc (hρ l) (hρ cp);simp only[execOp];exact new hp h1 h2 h3
 ·rename_i args ts;split at h
  ·rename_i b x' ae;obtain⟨k,y,z,w',β',rfl,rfl,h1,h2,h3,h4,h5,h6⟩:=EO (ty:=type) hW h hc (hρ b) (hρ x');have ag:args=#[b,x']:=by apply asT;simpa using ae
   subst ag;have aZ:∀j,[k]=[j]->∀d,β j=some (some d)->j∈Bz fr (.call ⟨.builtin .append,#[b,x'],ts⟩):=λj hj d hd=>by
    simp only[List.cons.injEq,and_true]at hj;subst hj;unfold iD kM at h;split at h
    ·rename_i hb;split at h
     ·split at h
      ·simp only[cB.m.injEq,List.cons.injEq,and_true]at h;simp[Bz,hb,h.2.2.1]
      ·cases h
     ·cases h
    ·split at h
     ·split at h
      ·simp only[cB.m.injEq,List.cons.injEq,and_true]at h;rw[<-h.2.2.1,DW,hW.fresh _ (asN _)]at hd;cases hd
      ·cases h
     ·cases h
    ·cases h
   refine⟨.value z,z,w',β',?_,.inl rfl,h2,?_,λj d hj=>h4 j d (by simpa using hj),h5,λc' aI hk=>h6 c' aI (λd hd=>hk k (aZ k rfl d hd) d hd)⟩
   ·simp only[execOp,resolve,av4,awi,av5,invoke,builtin];simp[h1]
   ·refine iM.eI ?_ hd h3;refine⟨hF.1,hF.2.1,λt x hg=>?_⟩;obtain⟨g1,g2⟩:=oI hg;obtain⟨v,hv,ab⟩:=hF.2.2 t x g1;exact⟨v,hv,Den.mono (λ_ _ h=>h) x v (λj d hj aH=>h4 j d (λe=>by subst e;rw[g2 j (by simp)]at hj;cases hj) aH) ab⟩
  ·cases h
 ·rename_i args ts;split at h
  ·rename_i b x' ae;obtain⟨k,i0,n0,y,z,w',rfl,a0,rfl,h1,h2,h3,h4,h5⟩:=I5 (ty:=type) hW h hc (hρ b) (hρ x');have ag:args=#[b,x']:=by apply asT;simpa using ae
   subst ag;refine⟨.value z,z,w',β,?_,.inl rfl,h2,?_,λ_ _ _ h=>h,by rw[h4];exact asN _,λc' aI hk=>h5 c' aI (λd hd=>hk k (by simp[Bz,a0]) d hd)⟩
   ·simp only[execOp,resolve,av4,awi,av5,invoke,builtin];simp[h1]
   ·rw[dq];exact hF.eI hd h3
  ·cases h
 ·rename_i t x i ok;obtain⟨rfl,rfl,y,z,rfl,h1,h2⟩:=D5 hW h (hρ x) (hρ i);refine⟨.value z,z,w,β,by simp[execOp,h1],.inl rfl,hW,?_,λ_ _ _ h=>h,asN _,λ_ _ _=>rfl⟩;rw[dq];exact hF.eI hd h2
 ·rename_i t m i x;obtain⟨rfl,rfl,w',h1,h2,h3,h4⟩:=vR hW h (hρ m) (hρ i) (hρ x);refine⟨.skip,undef,w',β,by simp[execOp,h1],.inr ⟨rfl,rfl⟩,h2,?_,λ_ _ _ h=>h,by rw[h3];exact asN _,λb hb hk=>h4 b (λk d he=>hk k (by simp[Bz,Kl,he]) d)⟩;rw[dq];exact hF.Pd dst undef
 ·rename_i t m i x;obtain⟨rfl,rfl,w',h1,h2,h3,h4⟩:=vR hW h (hρ m) (hρ i) (hρ x);refine⟨.skip,undef,w',β,by simp[execOp,h1],.inr ⟨rfl,rfl⟩,h2,?_,λ_ _ _ h=>h,by rw[h3];exact asN _,λb hb hk=>h4 b (λk d he=>hk k (by simp[Bz,Kl,he]) d)⟩;rw[dq];exact hF.Pd dst undef
 ·rename_i t m i;obtain⟨rfl,y,z,w',rfl,h1,h2,h3,h4,h5⟩:=Ab hW h (hρ m) (hρ i);refine⟨.value z,z,w',β,by simp[execOp,h1],.inl rfl,h2,?_,λ_ _ _ h=>h,by rw[h4];exact asN _,λb hb hk=>h5 b (λk d he=>hk k (by simp[Bz,Kl,he]) d)⟩;rw[dq];exact hF.eI hd h3
 ·rename_i t m s x;obtain⟨rfl,rfl,w',h1,h2,h3,h4⟩:=wB (P:=P) (t:=t) hW h hc (hρ m) (hρ s) (hρ x);refine⟨.skip,undef,w',β,by simp[execOp,h1],.inr ⟨rfl,rfl⟩,h2,?_,λ_ _ _ h=>h,by rw[h3];exact asN _,λb hb hk=>h4 b (λk d he=>hk k (by simp[Bz,Kl,he]) d)⟩;rw[dq];exact hF.Pd dst undef
 ·rename_i t o;obtain⟨hp,bd,x,rfl,h1,h2,h3⟩:=BZ (P:=P) hW hρ h;simp only[execOp];exact new hp h1 h2 h3
 ·rename_i args ts;split at h
  ·rename_i x ae;have ag:args=#[x]:=by apply asT;simpa using ae
   subst ag;cases aJ:ts[0]? with
   | none=>rw[aJ]at h;simp[fW]at h
   | some t0 =>
    rw[aJ]at h;obtain⟨rfl,rfl,y,z,rfl,h1,h2⟩:=D7 (ty:=type) hW aJ h (hρ x);refine⟨.value z,z,w,β,?_,.inl rfl,hW,?_,λ_ _ _ h=>h,asN _,λ_ _ _=>rfl⟩
    ·simp only[execOp,resolve,av4,awi,av5,invoke,builtin];simp[h1]
    ·rw[dq];exact hF.eI hd h2
  ·cases h
 ·cases h
theorem j7{β:ca}{H:Hp}:∀{l l':List SV} {vs ar:List Value},bY β H l vs->bY β H l' ar->bY β H (l++l') (vs++ar)
 | [],l',vs,ar,h,h'=>by simp only[bY]at h;simpa[h]using h'
 | x::l,l',vs,ar,h,h'=>by simp only[bY]at h;obtain⟨v,r,rfl,h1,h2⟩:=h;simp only[as8,bY];exact⟨v,r++ar,rfl,h1,j7 h2 h'⟩
theorem Iw{P:Program}{C:Ctx}{all:Array Oper}{rest:List Oper}{o:Oper}{st:St}{QJ:bf}{next ad:St->Prop}(hn:∀st',next st'->tA P C all rest st' QJ)
  (aR:∀st',ad st'->tA P C all rest st' QJ) (h:cH P C none o st next ad) {a:Act} {w:World} (hs:OY C st a w):o.wp P a w (wpList P all (QQ C QJ) rest) (QQ C QJ):=by
 obtain⟨β,H,hF,hW⟩:=hs;unfold cH at h;split at h
 ·rename_i c x hq;obtain⟨hc,hd,aC⟩:=h;obtain⟨v,h1,h2⟩:=LM hW hF hq hc;simp only[awK,h1,awL];exact hn _ aC _ _ ⟨β,H,hF.eI hd h2,hW⟩
 ·split at h
  ·rename_i c M' pk x hm;obtain⟨hc,hd,aC⟩:=h;obtain⟨nx,v,w',β',h1,h2,h3,h4, -, -, -⟩:=Mk hW hF hm hc hd;simp only[awK,h1];rcases h2 with rfl | ⟨rfl,rfl⟩
   ·simp only[awL];exact hn _ aC _ _ ⟨β',H,h4,h3⟩
   ·simp only[awL];exact hn _ aC _ _ ⟨β',H,h4,h3⟩
  ·split at h
   ·rename_i f args ts au;split at h
    ·rename_i xs aK;obtain⟨hf,hd,ah⟩:=h;have am:(execOp a.eval o).run P w=.ok (.enter f (args.map a.eval)) w:=by
      obtain⟨dst,op,type,pos,after,guard⟩:=o;simp only at au;subst au;simp only[execOp,resolve,Act.eval,Deferred.ofValue,av4,awi,av5,invoke];simpa using hf (args.map a.eval) w
     simp only[awK,am,awL];have ai:=mz hF _ _ aK;have:=ah β H w _ ai hW;rw[show(args.toList.map a.eval).toArray=args.map a.eval from by apply asT;simp]at this;refine Calls.mono this ?_;rintro e w' ⟨β',H',M',v,x,pk,rfl,g1,g2,g3,g4,g5, -⟩;exact aR _ g5 _ _ ⟨β',H',(hF.forget g3 g4).eI hd g1,g2⟩
    ·exact h.elim
   ·rename_i t args ts au;split at h
    ·rename_i f l r xs az aK;obtain⟨hf,hd,ah⟩:=h;obtain⟨vf,hv,ab⟩:=hF.2.2 t _ az;simp only[Den]at ab;obtain⟨vl,vr,rfl,a6,a7⟩:=ab;have a8:a.eval (.tmp t)=.func (.func f) vl.toArray vr.toArray:=by
      simp only[Act.eval,Array.getD_eq_getD_getElem?,hv];rfl
     have am:(execOp a.eval o).run P w=.ok (.enter f (vl.toArray++args.map a.eval++vr.toArray)) w:=by obtain⟨dst,op,type,pos,after,guard⟩:=o;simp only at au;subst au;simp only[execOp,resolve,a8,Deferred.ofValue,av4,awi,av5,invoke];simpa using hf (vl.toArray++args.map a.eval++vr.toArray) w
     simp only[awK,am,awL];have ai:=j7 (j7 a6 (mz hF _ _ aK)) a7;have:=ah β H w _ ai hW;rw[show(vl++args.toList.map a.eval++vr).toArray=vl.toArray++args.map a.eval++vr.toArray from by apply asT;simp]at this;refine Calls.mono this ?_;rintro e w' ⟨β',H',M',v,x,pk,rfl,g1,g2,g3,g4,g5, -⟩;exact aR _ g5 _ _ ⟨β',H',(hF.forget g3 g4).eI hd g1,g2⟩
    ·exact h.elim
   ·exact h.elim
theorem jV{P:Program}{C:Ctx}{all:Array Oper}:∀(ops:List Oper) (st:St) {Q QJ R:bf},(∀e st,Q e st->R e st)->(∀e st,QJ e st->R e st)->fX P C all ops st Q QJ->tA P C all ops st R
 | [],st,Q,QJ,R,hQ,hJ,h=>λa w hs=>wpList_nil ⟨st,hQ _ _ h,hs⟩
 | o::rest,st,Q,QJ,R,hQ,hJ,h=>λa w hs=>by
  simp only[fX]at h;split at h
  ·rename_i hg;unfold wpList;rw[if_pos (by simp[awM,hg])];exact .inl (Iw (λst' h'=>jV rest st' hQ hJ h') (λst' h'=>jV rest st' hJ hJ h') h hs)
  ·rename_i j b hg;split at h
   ·rename_i t ht;split at h
    ·rename_i c hc;obtain⟨β,H,hF,hW⟩:=hs;obtain⟨v,hv,ab⟩:=hF.2.2 t _ hc;simp only[Den]at ab;obtain⟨rfl, -⟩:=ab;have hy:yielded all a.tmps j=some c:=by
      unfold yielded;simp only[pD]at ht;rw[ht];simp[hv]
     have aw:∀b',c=b'->iM β H st.n ((t,.val (.bool b'))::st.fr) a:=λb' hb=>by
      subst hb;refine hF.sub λt' x' ax=>?_;simp only[get]at ax;split at ax
      ·rename_i e;subst e;simp only[ass]at ax;subst ax;exact hc
      ·exact ax
     unfold wpList;by_cases aE:c=b
     ·rw[if_pos (by simp[awM,hg,hy,aE])];exact .inl (Iw (λst' h'=>jV rest st' hQ hJ h') (λst' h'=>jV rest st' hJ hJ h') (h.1 aE) ⟨β,H,aw b aE,hW⟩)
     ·rw[if_neg (by simp[awM,hg,hy,aE])];have ay:c=!b:=by cases c<;>cases b<;>simp_all
      exact jV rest _ hQ hJ (h.2 ay) _ _ ⟨β,H,(aw _ ay).fp o.dst,hW⟩
    ·rename_i hc;obtain⟨β,H,hF,hW⟩:=hs;obtain⟨v,hv,ab⟩:=hF.2.2 t _ hc;obtain rfl:=zf ab;have hy:yielded all a.tmps j=none:=by
      unfold yielded;simp only[pD]at ht;rw[ht];simp[hv]
     unfold wpList;rw[if_neg (by simp[awM,hg,hy])];exact jV rest _ hQ hJ h _ _ ⟨β,H,hF.fp o.dst,hW⟩
    ·exact h.elim
   ·exact h.elim
def I7(id:Nat)(Q:bf):bf:=λe st=>match e with
 | .exit aS=>if aS=id then Q .normal st else Q (.exit aS) st
 | e=>Q e st
def sY(Q1:St->Prop)(Q:bf):bf:=λe st=>match e with
 | .normal=>Q1 st
 | e=>Q e st
def vc(P:Program)(C:Ctx):Code->St->bf->bf->Prop
 | .skip,st,Q,_=>Q .normal st
 | .seq x y,st,Q,QJ=>vc P C x st (sY (λst'=>vc P C y st' Q QJ) Q) (sY (λst'=>vc P C y st' QJ QJ) QJ)
 | .cond c x y,st,Q,QJ =>
  match ev st.fr c with
  | some (.val (.bool b))=>(b=true->vc P C x st Q QJ)∧(b=false->vc P C y st Q QJ)
  | _=>False
 | .block id c,st,Q,QJ=>vc P C c st (I7 id Q) (I7 id QJ)
 | .exit id,st,Q,_=>Q (.exit id) st
 | .ret,st,Q,_=>Q .ret st
 | .region _ ops false,st,Q,QJ=>fX P C ops ops.toList st Q QJ
 | c,st,_,QJ=>aa P C c st QJ
theorem Ph{C:Ctx}{Q Q':bf}(h:∀e st,Q e st->Q' e st):∀e a w,QQ C Q e a w->QQ C Q' e a w:=λe _ _ ⟨st,h1,h2⟩=>⟨st,h e st h1,h2⟩
theorem aa.mono{P:Program}{C:Ctx}{c:Code}{st:St}{Q Q':bf}(h:aa P C c st Q)(hq:∀e st,Q e st->Q' e st):aa P C c st Q' :=
 λa w hs=>wp_mono (h a w hs) (Ph hq)
theorem C9{id:Nat}{Q R:bf}(h:∀e st,Q e st->R e st):∀e st,I7 id Q e st->I7 id R e st:=λe st h'=>by cases e<;>simp only[I7]at h' ⊢<;>first | exact h _ _ h' | (split at h'<;>rename_i e<;>first | (rw[if_pos e];exact h _ _ h') | (rw[if_neg e];exact h _ _ h'))
theorem mO{P:Program}{C:Ctx}:∀(c:Code) (st:St) {Q QJ R:bf},(∀e st,Q e st->R e st)->(∀e st,QJ e st->R e st)->vc P C c st Q QJ->aa P C c st R
 | .skip,st,Q,QJ,R,hQ,hJ,h=>λa w hs=>wp_skip ⟨st,hQ _ _ h,hs⟩
 | .seq x y,st,Q,QJ,R,hQ,hJ,h=>by
  have h1:=mO x st (R:=sY (λst'=>aa P C y st' R) R) (λe st' h'=>by
   cases e<;>simp only[sY]at h' ⊢<;>first | exact hQ _ _ h' | exact mO y st' hQ hJ h') (λe st' h'=>by
   cases e<;>simp only[sY]at h' ⊢<;>first | exact hJ _ _ h' | exact mO y st' hJ hJ h') h
  intro a w hs;refine wp_seq (wp_mono (h1 a w hs) ?_);rintro e a' w' ⟨st',h2,h3⟩;cases e<;>simp only[sY,Exit.then]at h2 ⊢<;>first | exact h2 a' w' h3 | exact⟨st',h2,h3⟩
 | .cond c x y,st,Q,QJ,R,hQ,hJ,h=>by
  simp only[vc]at h;split at h
  ·rename_i b hb;rintro a w ⟨β,H,hF,hW⟩;have ab:=BF hF hb;simp only[Den]at ab;refine wp_cond_split ab.1 (λht=>mO x st hQ hJ (h.1 ht) a w ⟨β,H,hF,hW⟩) (λhf=>mO y st hQ hJ (h.2 hf) a w ⟨β,H,hF,hW⟩)
  ·exact h.elim
 | .block id c,st,Q,QJ,R,hQ,hJ,h=>by have h1:=mO c st (R:=I7 id R) (C9 hQ) (C9 hJ) h;intro a w hs;refine wp_block (wp_mono (h1 a w hs) ?_);rintro e a' w' ⟨st',h2,h3⟩;cases e<;>simp only[I7,Exit.inBlock]at h2 ⊢<;>first | exact⟨st',h2,h3⟩ | (split at h2<;>rename_i e<;>first | (rw[if_pos e];exact⟨st',h2,h3⟩) | (rw[if_neg e];exact⟨st',h2,h3⟩))
 | .exit id,st,Q,QJ,R,hQ,hJ,h=>λa w hs=>wp_exit ⟨st,hQ _ _ h,hs⟩
 | .ret,st,Q,QJ,R,hQ,hJ,h=>λa w hs=>wp_ret ⟨st,hQ _ _ h,hs⟩
 | .region id ops false,st,Q,QJ,R,hQ,hJ,h=>λa w hs=>wp_region_list (jV ops.toList st hQ hJ h a w hs)
 | .region id ops true,st,Q,QJ,R,hQ,hJ,h=>h.mono hJ
 | .loop c,st,Q,QJ,R,hQ,hJ,h=>h.mono hJ
 | .rangeFunc ..,st,Q,QJ,R,hQ,hJ,h=>h.mono hJ
 | .scope c,st,Q,QJ,R,hQ,hJ,h=>h.mono hJ
 | .label l,st,Q,QJ,R,hQ,hJ,h=>h.mono hJ
 | .goto l,st,Q,QJ,R,hQ,hJ,h=>h.mono hJ
 | .refuse s,st,Q,QJ,R,hQ,hJ,h=>h.mono hJ
end Go.Sv


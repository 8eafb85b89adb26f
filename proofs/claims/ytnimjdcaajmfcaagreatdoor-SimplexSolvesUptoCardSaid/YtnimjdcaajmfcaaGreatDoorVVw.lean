/- A text of the prover's own. -/
import Derived.Test.YtnimjdcaajmfcaaGreatDoorVVa
import Derived.MapKept
import Derived.Laws.StructEq
open Go.Instr renaming sameNow->axY,checkKey->axZ,findNow->ax0,findKey->ax1,lookup->ax2,sameBits->ax3,keyThatStays->ax4,mapUpdate->ax5,mapEntry->ax6,entryStore->ax7,makeMap->ax8
open Option.some renaming injEq->awR,inj->ax9
open Nat renaming le_refl->axq,sub_zero->aya
open List renaming cons_append->ayb,getElem?_cons_zero->ayc,ext_getElem?->axA,getElem?_eq_some_iff->ayd,getElem?_set_self->axP,getElem?_set_ne->axQ
open Go.Sem renaming run_bind->aw4,run_pure->axr
open Go.Result renaming andThen_ok->aw5
open Go.MapKept renaming run_getObj_map->aye,run_setObj_map->ayf
open Array renaming getElem?_toList->aw1,ext'->axx,toList_modify->ayg,toList_setIfInBounds->ayh,length_toList->axw,toList_push->ayi
open Option renaming map_some->axs,getD_some->ayj
open Go.Oper renaming wp->ayk,upon->ayl
open Go.Region renaming wanted->aym
namespace Go.Sv
open Go Go.RowKit
def QL:Value->Value->Option Bool
 | .int k a,.int k' b=>if k=k' then some (decide (a=b)) else none
 | .string a,.string b=>some (decide (a=b))
 | .bool a,.bool b=>some (decide (a=b))
 | _,_=>none
def D3(ti:Option TI)(v:Value):Bool :=
 match ti,v with
 | some ⟨.int k,_,_,_⟩,.int k' _=>decide (k=k')
 | some ⟨.str,_,_,_⟩,.string _=>true
 | some ⟨.bool,_,_,_⟩,.bool _=>true
 | _,_=>false
def kgo(v:Value)(u:Value)(y:SV)(i:Nat)(r:Option (Option (Nat × SV))):Option (Option (Nat × SV)) :=
 match QL v u with
 | some true=>some (some (i,y))
 | some false=>r
 | none=>none
def aat:SV->Option (Value × SV)
 | .bM [.val u,y]=>some (u,y)
 | _=>none
def mD(v:Value):List SV->Nat->Option (Option (Nat × SV))
 | [],_=>some none
 | x::l,i=>match aat x with
  | some (u,y)=>kgo v u y i (mD v l (i+1))
  | none=>none
def aks(x y:SV):SV:=match x with
 | .bM [u,_]=>.bM [u,y]
 | x=>x
def two(ok:Bool)(y:SV)(b:Bool):SV:=if ok=true then .bM [y,.val (.bool b)] else y
def U2(ok:Bool)(M:aC)(te:TI)(r:Option (Option (Nat × SV))):cK:=match r with
 | some (some (_,y))=>.m True M [] (some (two ok y true))
 | some none=>.m True M [] (some (two ok te.dm false))
 | none=>.stuck
def ZY(ok:Bool)(M:aC)(al:Option TI)(v:Value)(te:Option TI)(e:Option cJ):cK:=match te,e with
 | some te,some e=>if e.sz=0∧D3 al v=true then U2 ok M te (mD v e.es 0) else .stuck
 | _,_=>.stuck
def lkN(ok:Bool)(M:aC)(al:Option TI)(v:Value)(te:Option TI):cK:=match te with
 | some te=>if D3 al v=true then .m True M [] (some (two ok te.dm false)) else .stuck
 | none=>.stuck
def mc(P:Program)(M:aC)(ti:Option TI)(x i:Option SV)(ok:Bool):cK :=
 match ti,x,i with
 | some ⟨.mp kt et,_,_,_⟩,some (.mp k),some (.val v)=>ZY ok M (an P kt) v (an P et) (aA M k)
 | some ⟨.mp kt et,_,_,_⟩,some (.val (.map none)),some (.val v)=>lkN ok M (an P kt) v (an P et)
 | _,_,_=>.stuck
def Y9(M:aC)(k:Nat)(es:List SV)(v:Value)(y:SV)(r:Option (Option (Nat × SV))):cK:=match r with
 | some (some (j,_))=>.m True (aX M k (some ⟨0,da es j (.bM [.val v,y]),false⟩)) [] none
 | some none=>.m True (aX M k (some ⟨0,es++[.bM [.val v,y]],false⟩)) [] none
 | none=>.stuck
def Y6(M:aC)(k:Nat)(al:Option TI)(v:Value)(y:SV)(e:Option cJ):cK:=match e with
 | some e=>if e.sz=0∧e.fz=false∧D3 al v=true then Y9 M k e.es v y (mD v e.es 0) else .stuck
 | none=>.stuck
def kO(P:Program)(M:aC)(ti:Option TI)(m i x:Option SV):cK :=
 match ti,m,i,x with
 | some ⟨.mp kt _,_,_,_⟩,some (.mp k),some (.val v),some y=>Y6 M k (an P kt) v y (aA M k)
 | _,_,_,_=>.stuck
def enR(M:aC)(k:Nat)(es:List SV)(v:Value)(te:TI)(r:Option (Option (Nat × SV))):cK:=match r with
 | some (some (j,y))=>.m True M [] (some (.bM [y,.val (.int .i64 (j:Nat))]))
 | some none=>.m True (aX M k (some ⟨0,es++[.bM [.val v,te.dm]],false⟩)) [] (some (.bM [te.dm,.val (.int .i64 es.length)]))
 | none=>.stuck
def enE(M:aC)(k:Nat)(al:Option TI)(v:Value)(te:Option TI)(e:Option cJ):cK:=match te,e with
 | some te,some e=>if e.sz=0∧e.fz=false∧D3 al v=true then enR M k e.es v te (mD v e.es 0) else .stuck
 | _,_=>.stuck
def mB(P:Program)(M:aC)(ti:Option TI)(m i:Option SV):cK :=
 match ti,m,i with
 | some ⟨.mp kt et,_,_,_⟩,some (.mp k),some (.val v)=>enE M k (an P kt) v (an P et) (aA M k)
 | _,_,_=>.stuck
def esE(M:aC)(k:Nat)(n:Int)(y:SV)(e:Option cJ):cK:=match e with
 | some e=>if e.sz=0∧e.fz=false then .m (0<=n∧n<e.es.length) (aX M k (some ⟨0,da e.es n.toNat (aks (aM e.es n.toNat) y),false⟩)) [] none else .stuck
 | none=>.stuck
def jP(M:aC)(m s x:Option SV):cK :=
 match m,s,x with
 | some (.mp k),some (.val (.int _ n)),some y=>esE M k n y (aA M k)
 | _,_,_=>.stuck
def YS(M:aC)(e:Option cJ):cK:=match e with
 | some e=>if e.sz=0 then .m True M [] (some (.val (.int .i64 e.es.length))) else .stuck
 | none=>.stuck
def gQ(M:aC)(ti:Option TI)(x:Option SV):cK :=
 match ti,x with
 | some ⟨.mp _ _,_,_,_⟩,some (.mp k)=>YS M (aA M k)
 | some ⟨.mp _ _,_,_,_⟩,some (.val (.map none))=>.m True M [] (some (.val (.int .i64 0)))
 | _,_=>.stuck
def ki(M:aC)(ti:Option TI)(x:Option (Option SV)):cK :=
 match ti,x with
 | some ⟨.mp _ _,_,_,_⟩,none=>.m True (M++[some ⟨0,[],false⟩]) [] (some (.mp M.length))
 | some ⟨.mp _ _,_,_,_⟩,some (some (.val (.int _ _)))=>.m True (M++[some ⟨0,[],false⟩]) [] (some (.mp M.length))
 | _,_=>.stuck
section
variable {P:Program} {C:Ctx} {β:cu} {H:Hp} {M:aC} {w:World} {c:Prop}
theorem zT{d:TypeDesc}{k e:TypeId}(h:TK.mp k e=tk P d):d=.map k e:=by cases d<;>simp[tk]at h;rw[h.1,h.2]
theorem Jz(a b:ByteArray):(a==b)=decide (a=b):=by rw[beq_toListBytes,bytes_beq]
theorem xi{α:Type}{l:List α}{j:Nat}{x:α}(f:α->α)(h:l[j]?=some x):l.modify j f=l.set j (f x):=by
 induction l generalizing j with
 | nil=>simp at h
 | cons y l ih=>cases j with
  | zero=>simp at h;simp[h]
  | succ j=>simp at h ⊢;exact ih h
theorem zu{kt:TypeId}{v:Value}(h:D3 (an P kt) v=true):Ga v=true∧∃d,P.underlying kt=some d∧(∀u,axY d v u=QL v u)∧∀(e:Bool) (n:Nat) (w:World),(axZ e (n+1) kt v).run P w=.ok () w:=by
 unfold D3 at h;split at h
 ·rename_i k _ _ _ k' a ac;obtain⟨i,d,z,ht⟩:=aH ac;obtain rfl:=Jd ht.k;obtain rfl:k=k':=by simpa using h
  refine⟨rfl,_,ht.under,λu=>?_,λe n w=>?_⟩
  ·cases u<;>simp[axY,QL,BEq.beq]
  ·simp[axZ,ht.aQ]
 ·rename_i _ _ _ a ac;obtain⟨i,d,z,ht⟩:=aH ac;obtain rfl:=Br ht.k;refine⟨rfl,_,ht.under,λu=>?_,λe n w=>?_⟩
  ·cases u<;>simp[axY,QL,Jz]
  ·simp[axZ,ht.aQ]
 ·rename_i _ _ _ a ac;obtain⟨i,d,z,ht⟩:=aH ac;have:d=.bool:=by
   have hk:=ht.k;cases d<;>simp[tk]at hk;rfl
  subst this;refine⟨rfl,_,ht.under,λu=>?_,λe n w=>?_⟩
  ·cases u<;>simp[axY,QL,BEq.beq]
  ·simp[axZ,ht.aQ]
 ·cases h
theorem Pp{v u:Value}(h:QL v u=some true):v=u:=by
 unfold QL at h;split at h
 ·split at h
  ·rename_i hk;simp at h;rw[hk,h]
  ·cases h
 ·simp at h;rw[h]
 ·simp at h;rw[h]
 ·cases h
theorem l8{d:TypeDesc}{v:Value}(hs:∀u,axY d v u=QL v u):∀{es:List SV} {ms:List MapEntry} {n i:Nat} {r:Option (Nat × SV)},cS β H es ms n->mD v es i=some r ->
  (r=none∧ax0 d v ms i=some none) ∨
  (∃j y m,r=some (j,y)∧i<=j∧j<i+es.length∧ax0 d v ms i=some (some (j,m.val))∧ms[j - i]?=some m∧m.key=v∧m.born=n+(j - i)∧Den β H y m.val)
 | [],ms,n,i,r,h,hf=>by simp only[cS]at h;subst h;simp only[mD,awR]at hf;exact .inl ⟨hf.symm,rfl⟩
 | x::es,ms,n,i,r,h,hf=>by
  simp only[cS]at h;obtain⟨key,y,m,q,rfl,rfl,h3,h4,h5,h6,h7⟩:=h;simp only[mD,aat,kgo]at hf;cases hq:QL v key with
  | none=>rw[hq]at hf;cases hf
  | some b =>
   rw[hq]at hf;have aL:axY d v m.key=some b:=by rw[hs,h3,hq]
   cases b with
   | true =>
    simp only[awR]at hf;refine .inr ⟨i,y,m,hf.symm,axq _,by simp,?_,by simp,by rw[h3,Pp hq],by simp[h5],h6⟩;simp[ax0,aL]
   | false =>
    simp only at hf;have az:ax0 d v (m::q) i=ax0 d v q (i+1):=by simp[ax0,aL]
    rcases l8 hs h7 hf with⟨g1,g2⟩ | ⟨j,y',m',g1,g2,g3,g4,g5,g6,g7,g8⟩
    ·exact .inl ⟨g1,by rw[az];exact g2⟩
    ·refine .inr ⟨j,y',m',g1,by omega,by simp;omega,by rw[az];exact g4,?_,g6,by omega,g8⟩;rw[show j - i=(j - (i+1))+1 by omega];simpa using g5
theorem cS.append{es:List SV}{ms:List MapEntry}{n:Nat}(h:cS β H es ms n){v:Value}{y:SV}{m:MapEntry}(hm:m.key=v)(hv:Ga v=true)(hb:m.born=n+es.length)(hy:Den β H y m.val):cS β H (es++[.bM [.val v,y]]) (ms++[m]) n:=by
 induction es generalizing ms n with
 | nil =>
  simp only[cS]at h;subst h;simp only[List.nil_append,cS];exact⟨v,y,m,[],rfl,rfl,hm,hv,by simpa using hb,hy,rfl⟩
 | cons x es ih =>
  simp only[cS]at h;obtain⟨key,y',m',q,rfl,rfl,h3,h4,h5,h6,h7⟩:=h;simp only[ayb,cS];exact⟨key,y',m',q++[m],rfl,rfl,h3,h4,h5,h6,ih h7 (by rw[hb];simp;omega)⟩
theorem cS.set{es:List SV}{ms:List MapEntry}{n j:Nat}(h:cS β H es ms n){v:Value}{y:SV}{m m':MapEntry}(hj:ms[j]?=some m)(hm:m'.key=v)(hv:Ga v=true)(hb:m'.born=m.born)(hy:Den β H y m'.val):cS β H (da es j (.bM [.val v,y])) (ms.set j m') n:=by
 induction es generalizing ms n j with
 | nil =>
  simp only[cS]at h;subst h;simp at hj
 | cons x es ih =>
  simp only[cS]at h;obtain⟨key,y',m0,q,rfl,rfl,h3,h4,h5,h6,h7⟩:=h;cases j with
  | zero =>
   simp only[ayc,awR]at hj;subst hj;simp only[da,List.set_cons_zero,cS];exact⟨v,y,m',q,rfl,rfl,hm,hv,by rw[hb,h5],hy,h7⟩
  | succ j =>
   simp only[da,List.set_cons_succ,cS];exact⟨key,y',m0,_,rfl,rfl,h3,h4,h5,h6,ih h7 (by simpa using hj)⟩
theorem cS.born{es:List SV}{ms:List MapEntry}{n:Nat}(h:cS β H es ms n){j:Nat}{m:MapEntry}(hj:ms[j]?=some m):m.born=n+j:=by
 induction es generalizing ms n j with
 | nil=>simp only[cS]at h;subst h;simp at hj
 | cons x es ih =>
  simp only[cS]at h;obtain⟨key,y',m0,q,rfl,rfl,h3,h4,h5,h6,h7⟩:=h;cases j with
  | zero=>simp only[ayc,awR]at hj;subst hj;simp[h5]
  | succ j=>have:=ih h7 (j:=j) (by simpa using hj);omega
theorem cS.at_{es:List SV}{ms:List MapEntry}{n:Nat}(h:cS β H es ms n){j:Nat}(hj:j<es.length):∃v y m,aM es j=.bM [.val v,y]∧ms[j]?=some m∧m.key=v∧Ga v=true∧Den β H y m.val:=by
 induction es generalizing ms n j with
 | nil=>simp at hj
 | cons x es ih =>
  simp only[cS]at h;obtain⟨key,y',m0,q,rfl,rfl,h3,h4,h5,h6,h7⟩:=h;cases j with
  | zero=>exact⟨key,y',m0,rfl,rfl,h3,h4,h6⟩
  | succ j=>simpa[aM]using ih h7 (j:=j) (by simpa using hj)
theorem Gc(hW:cM C β H M w){k:Nat}{e:cJ}{u:Value}(he:aA M k=some e)(hz:e.sz=0)(hu:Den β H (.mp k) u) :
  ∃d ms,β k=some (some d)∧(e.sz=0∧d.sz=1∧d.Jn=0)∧u=.map (some d.b)∧w.heap[d.b]?=some (.map ms ms.size)∧cS β H e.es ms.toList 0:=by
 simp only[Den]at hu;obtain⟨d,h1,h2,rfl⟩:=hu;rcases hW.dF k e (aU he)with⟨g1,_⟩ | ⟨d',cs,T,vs,g1,g2,_⟩ | ⟨d',ms,g1,g2,g3,g4⟩
 ·rw[h1]at g1;simp at g1
 ·rw[h1]at g1;simp only[awR]at g1;subst g1;omega
 ·rw[h1]at g1;simp only[awR]at g1;subst g1;exact⟨d,ms,h1,g2,rfl,g3,g4⟩
theorem Dx{β:cu}{H:Hp}{y:SV}{v:Value}(h:Den β H y v)(ok b:Bool):Den β H (two ok y b) (if ok then .tuple #[v,.bool b] else v):=by
 unfold two;cases ok with
 | false=>simpa using h
 | true =>
  simp only[if_true,Den];refine⟨[v,.bool b],rfl,?_⟩;simp only[bZ,Den];exact⟨v,_,rfl,h,_,_,rfl,⟨rfl,rfl⟩,rfl⟩
theorem run_findKey{kt:TypeId}{d:TypeDesc}{v:Value}{ms:List MapEntry}{r:Option (Nat × Value)}(hu:P.underlying kt=some d)(h:ax0 d v ms 0=some r):(ax1 kt v ms).run P w=.ok r w:=by simp[ax1,underlying,hu,h]
theorem F7(hW:cM C β H M w){t:TypeId}{x i:Option SV}{ok:Bool}{u v:Value}{M':aC}{pk:List Nat}{r:Option SV}(h:mc P M (an P t) x i ok=.m c M' pk r)(hx:∀s,x=some s->Den β H s u)(hi:∀s,i=some s->Den β H s v) :
  pk=[]∧M'=M∧∃y z,r=some y∧(ax2 t u v ok).run P w=.ok z w∧Den β H y z:=by
 unfold mc at h;split at h
 ·rename_i kt et _ _ _ k v' ac;obtain⟨i0,d0,z0,ht⟩:=aH ac;obtain rfl:=zT ht.k;have hv:=hi _ rfl;simp only[Den]at hv;obtain⟨rfl, -⟩:=hv;unfold ZY at h;split at h
  ·rename_i te e ao he;obtain⟨ie,de,ze,aj⟩:=aH ao;split at h
   ·rename_i hc;obtain⟨d,ms,g1,g2,rfl,g3,g4⟩:=Gc hW he hc.1 (hx _ rfl);obtain⟨k1,dk,k2,k3,k4⟩:=zu hc.2;unfold U2 at h;split at h
    ·rename_i j y hr;simp only[cK.m.injEq]at h;obtain⟨-,rfl,rfl,rfl⟩:=h;rcases l8 k3 g4 hr with⟨e1, -⟩ | ⟨j',y',m,e1,e2,e3,e4,e5,e6,e7,e8⟩
     ·cases e1
     ·simp only[awR,Prod.mk.injEq]at e1;obtain⟨rfl,rfl⟩:=e1;refine⟨rfl,rfl,_,_,rfl,?_,Dx e8 ok true⟩;simp only[ax2,aw4,ht.aQ,aw5,aye g3,axr,k4,run_findKey k2 e4]
    ·rename_i hr;simp only[cK.m.injEq]at h;obtain⟨-,rfl,rfl,rfl⟩:=h;rcases l8 k3 g4 hr with⟨-,e1⟩ | ⟨j',y',m,e1,_⟩
     ·refine⟨rfl,rfl,_,_,rfl,?_,Dx (H6 aj β H) ok false⟩;simp only[ax2,aw4,ht.aQ,aw5,aye g3,axr,k4,run_findKey k2 e1,aj.lE]
     ·cases e1
    ·cases h
   ·cases h
  ·cases h
 ·rename_i kt et _ _ _ v' ac;obtain⟨i0,d0,z0,ht⟩:=aH ac;obtain rfl:=zT ht.k;have hv:=hi _ rfl;have hu:=hx _ rfl;simp only[Den]at hv hu;obtain⟨rfl, -⟩:=hv;obtain⟨rfl, -⟩:=hu;unfold lkN at h;split at h
  ·rename_i te ao;obtain⟨ie,de,ze,aj⟩:=aH ao;split at h
   ·rename_i hc;obtain⟨k1,dk,k2,k3,k4⟩:=zu hc;simp only[cK.m.injEq]at h;obtain⟨-,rfl,rfl,rfl⟩:=h;refine⟨rfl,rfl,_,_,rfl,?_,Dx (H6 aj β H) ok false⟩;simp only[ax2,aw4,ht.aQ,aw5,axr,k4,run_findKey k2 (show ax0 dk _ [] 0=some none from rfl),aj.lE]
   ·cases h
  ·cases h
 ·cases h
theorem Az{b:Nat}{o:Obj}{ms:Array MapEntry}(hb:w.heap[b]?=some o):WrM w b ms { w with heap:=w.heap.setIfInBounds b (.map ms ms.size) } where
 os:=rfl
 tape:=rfl
 output:=rfl
 size:=by simp
 here:=by have:=iL hb;simp[this]
 there b' h:=by simp[Array.getElem?_setIfInBounds_ne (Ne.symm h)]
theorem B7{v:Value}(h:Ga v=true)(n:Nat):ax3 n v v=true:=by cases v<;>simp[Ga]at h<;>cases n<;>simp[ax3,Jz]
theorem De{v:Value}(h:Ga v=true):(ax4 v v).run P w=.ok v w:=by simp[ax4,B7 h]
theorem x8(hW:cM C β H M w){t:TypeId}{m i x:Option SV}{u v z:Value}{M':aC}{pk:List Nat}{r:Option SV}(h:kO P M (an P t) m i x=.m c M' pk r)(hm:∀s,m=some s->Den β H s u)(hi:∀s,i=some s->Den β H s v)(hx:∀s,x=some s->Den β H s z) :
  pk=[]∧r=none∧∃w',(ax5 t u v z).run P w=.ok () w'∧cM C β H M' w'∧w'.heap.size=w.heap.size∧∀b,(∀k d,m=some (.mp k)->β k=some (some d)->b≠d.b)->w'.heap[b]?=w.heap[b]?:=by
 unfold kO at h;split at h
 ·rename_i kt et _ _ _ k v' y ac;obtain⟨i0,d0,z0,ht⟩:=aH ac;obtain rfl:=zT ht.k;have hv:=hi _ rfl;have hz:=hx _ rfl;simp only[Den]at hv;obtain⟨rfl, -⟩:=hv;unfold Y6 at h;split at h
  ·rename_i e he;split at h
   ·rename_i hc;obtain⟨d,ms,g1,g2,rfl,g3,g4⟩:=Gc hW he hc.1 (hm _ rfl);obtain⟨k1,dk,k2,k3,k4⟩:=zu hc.2.2;unfold Y9 at h;split at h
    ·rename_i j y0 hr;simp only[cK.m.injEq]at h;obtain⟨-,rfl,rfl,rfl⟩:=h;rcases l8 k3 g4 hr with⟨e1, -⟩ | ⟨j',y',m',e1,e2,e3,e4,e5,e6,e7,e8⟩
     ·cases e1
     ·simp only[awR,Prod.mk.injEq]at e1;obtain⟨rfl,rfl⟩:=e1;rw[aya]at e5;have aB:ms[j]?=some m':=by rw[<-aw1];exact e5
      have aN:j<ms.size:=(Array.getElem?_eq_some_iff.1 aB).1;have af:ms.modify j (λe=>{ e with key:=v,val:=z })=ms.setIfInBounds j { m' with key:=v,val:=z }:=by apply axx;simp only[ayg,ayh];rw[xi _ e5]
      have hw:=Az (w:=w) (b:=d.b) (ms:=ms.modify j (λe=>{ e with key:=v,val:=z })) g3;refine⟨rfl,rfl,_,?_,?_,hw.size,λb hb=>hw.there b (hb k d rfl g1)⟩
      ·simp only[ax5,aw4,ht.aQ,aw5,aye g3,k4,run_findKey k2 e4,aB,axs,ayj,e6,De k1];rw[ayf _ g3];simp
      ·rw[dL];have:=hW.rm (es:=da e.es j (.bM [.val v,y])) (aU he) hc.2.1 g1 g2 hw (by
        rw[af,ayh];exact g4.set e5 rfl k1 rfl hz)
       rw[hc.1]at this;exact this
    ·rename_i hr;simp only[cK.m.injEq]at h;obtain⟨-,rfl,rfl,rfl⟩:=h;rcases l8 k3 g4 hr with⟨-,e1⟩ | ⟨j',y',m',e1,_⟩
     ·have hw:=Az (w:=w) (b:=d.b) (ms:=ms.push { key:=v,val:=z,born:=ms.size }) g3;refine⟨rfl,rfl,_,?_,?_,hw.size,λb hb=>hw.there b (hb k d rfl g1)⟩
      ·simp only[ax5,aw4,ht.aQ,aw5,aye g3,k4,run_findKey k2 e1];rw[ayf _ g3];simp
      ·rw[dL];have hl:=g4.length;simp only[axw]at hl;have:=hW.rm (es:=e.es++[.bM [.val v,y]]) (aU he) hc.2.1 g1 g2 hw (by
        rw[ayi];exact g4.append rfl k1 (by simp[hl]) hz)
       rw[hc.1]at this;exact this
     ·cases e1
    ·cases h
   ·cases h
  ·cases h
 ·cases h
theorem BR(hW:cM C β H M w){t:TypeId}{m i:Option SV}{u v:Value}{M':aC}{pk:List Nat}{r:Option SV}(h:mB P M (an P t) m i=.m c M' pk r)(hm:∀s,m=some s->Den β H s u)(hi:∀s,i=some s->Den β H s v) :
  pk=[]∧∃x z w',r=some x∧(ax6 t u v).run P w=.ok z w'∧cM C β H M' w'∧Den β H x z∧w'.heap.size=w.heap.size∧∀b,(∀k d,m=some (.mp k)->β k=some (some d)->b≠d.b)->w'.heap[b]?=w.heap[b]?:=by
 unfold mB at h;split at h
 ·rename_i kt et _ _ _ k v' ac;obtain⟨i0,d0,z0,ht⟩:=aH ac;obtain rfl:=zT ht.k;have hv:=hi _ rfl;simp only[Den]at hv;obtain⟨rfl, -⟩:=hv;unfold enE at h;split at h
  ·rename_i te e ao he;obtain⟨ie,de,ze,aj⟩:=aH ao;split at h
   ·rename_i hc;obtain⟨d,ms,g1,g2,rfl,g3,g4⟩:=Gc hW he hc.1 (hm _ rfl);obtain⟨k1,dk,k2,k3,k4⟩:=zu hc.2.2;have ak:∀{y:SV} {z:Value} {q:Nat},Den β H y z->Den β H (.bM [y,.val (.int .i64 (q:Nat))]) (.tuple #[z,goInt q]):=λ{y z q} hy=>by
     simp only[Den];refine⟨[z,goInt q],rfl,?_⟩;simp only[bZ,Den];exact⟨z,_,rfl,hy,_,_,rfl,⟨rfl,rfl⟩,rfl⟩
    unfold enR at h;split at h
    ·rename_i j y0 hr;simp only[cK.m.injEq]at h;obtain⟨-,rfl,rfl,rfl⟩:=h;rcases l8 k3 g4 hr with⟨e1, -⟩ | ⟨j',y',m',e1,e2,e3,e4,e5,e6,e7,e8⟩
     ·cases e1
     ·simp only[awR,Prod.mk.injEq]at e1;obtain⟨rfl,rfl⟩:=e1;rw[aya]at e5 e7;rw[Nat.zero_add]at e7;have aB:ms[j]?=some m':=by rw[<-aw1];exact e5
      have af:ms.modify j (λe=>{ e with key:=v })=ms:=by
       apply axx;simp only[ayg];rw[xi _ e5];apply axA;intro q;by_cases hq:j=q
       ·subst hq;have aN:j<ms.toList.length:=(ayd.1 e5).1;show(ms.toList.set j _)[j]?=_;rw[axP aN,e5,<-e6]
       ·show(ms.toList.set j _)[q]?=_;rw[axQ hq]
      have hw:=Az (w:=w) (b:=d.b) (ms:=ms) g3;refine⟨rfl,_,_,_,rfl,?_,?_,ak e8,hw.size,λb hb=>hw.there b (hb k d rfl g1)⟩
      ·simp only[ax6,aw4,ht.aQ,aw5,aye g3,k4,run_findKey k2 e4,aB,axs,ayj,e6,De k1,af];rw[ayf _ g3];simp[e7]
      ·have:=hW.rm (es:=e.es) (aU he) hc.2.1 g1 g2 hw g4;have hM:M.set k (some ⟨e.sz,e.es,false⟩)=M:=by
        have aO:=aU he;apply axA;intro q;by_cases hq:k=q
        ·subst hq;rw[axP (ayd.1 aO).1,aO];obtain⟨a,b,f⟩:=e;have:=hc.2.1;simp only at this;rw[this]
        ·rw[axQ hq]
       rw[hM]at this;exact this
    ·rename_i hr;simp only[cK.m.injEq]at h;obtain⟨-,rfl,rfl,rfl⟩:=h;rcases l8 k3 g4 hr with⟨-,e1⟩ | ⟨j',y',m',e1,_⟩
     ·have hw:=Az (w:=w) (b:=d.b) (ms:=ms.push { key:=v,val:=ze,born:=ms.size }) g3;have hl:=g4.length;simp only[axw]at hl;have aP:=H6 aj β H;refine⟨rfl,_,_,_,rfl,?_,?_,by rw[<-hl];exact ak aP,hw.size,λb hb=>hw.there b (hb k d rfl g1)⟩
      ·simp only[ax6,aw4,ht.aQ,aw5,aye g3,k4,run_findKey k2 e1,aj.lE];rw[ayf _ g3];simp
      ·rw[dL];have:=hW.rm (es:=e.es++[.bM [.val v,te.dm]]) (aU he) hc.2.1 g1 g2 hw (by
        rw[ayi];exact g4.append rfl k1 (by simp[hl]) aP)
       rw[hc.1]at this;exact this
     ·cases e1
    ·cases h
   ·cases h
  ·cases h
 ·cases h
theorem yJ(hW:cM C β H M w){t:TypeId}{m s x:Option SV}{u v z:Value}{M':aC}{pk:List Nat}{r:Option SV}(h:jP M m s x=.m c M' pk r)(hc:c)(hm:∀s,m=some s->Den β H s u)(hi:∀q,s=some q->Den β H q v)(hx:∀s,x=some s->Den β H s z) :
  pk=[]∧r=none∧∃w',(ax7 t u v z).run P w=.ok () w'∧cM C β H M' w'∧w'.heap.size=w.heap.size∧∀b,(∀k d,m=some (.mp k)->β k=some (some d)->b≠d.b)->w'.heap[b]?=w.heap[b]?:=by
 unfold jP at h;split at h
 ·rename_i k kk n y;have hv:=hi _ rfl;have hz:=hx _ rfl;simp only[Den]at hv;obtain⟨rfl, -⟩:=hv;unfold esE at h;split at h
  ·rename_i e he;split at h
   ·rename_i aF;simp only[cK.m.injEq]at h;obtain⟨rfl,rfl,rfl,rfl⟩:=h;obtain⟨c1,c2⟩:=hc;obtain⟨d,ms,g1,g2,rfl,g3,g4⟩:=Gc hW he aF.1 (hm _ rfl);obtain⟨q,rfl⟩:∃q:Nat,n=q:=⟨n.toNat,by omega⟩;simp only[Int.toNat_natCast]at *;have hq:q<e.es.length:=by omega
    obtain⟨v0,y0,m0,a1,a2,a3,a4,a5⟩:=g4.at_ hq;have hl:=g4.length;simp only[axw]at hl;have aT:ms.findIdx? (λe=>(e.born:Int)==(q:Int))=some q:=by
     rw[Array.findIdx?_eq_some_iff_getElem];refine⟨by omega,?_,λj hj=>?_⟩
     ·have hb:=g4.born a2;have:ms[q]'(by omega)=m0:=by
       have:ms[q]?=some m0:=by rw[<-aw1];exact a2
       rw[Array.getElem?_eq_getElem (by omega)]at this;exact ax9 this
      rw[this,hb];simp
     ·have aV:j<ms.size:=by omega
      have hb:=g4.born (j:=j) (m:=ms[j]) (by simp[aV]);rw[hb];simp;omega
    have af:ms.modify q (λe=>{ e with val:=z })=ms.setIfInBounds q { m0 with val:=z }:=by apply axx;simp only[ayg,ayh];rw[xi _ a2]
    have hw:=Az (w:=w) (b:=d.b) (ms:=ms.modify q (λe=>{ e with val:=z })) g3;refine⟨trivial,trivial,_,?_,?_,hw.size,λb hb=>hw.there b (hb k d rfl g1)⟩
    ·simp only[ax7,aw4,aye g3,aw5,asInt,asIntOf,axr,aT];rw[ayf _ g3];simp
    ·rw[dL,a1];have:=hW.rm (es:=da e.es q (.bM [.val v0,y])) (aU he) aF.2 g1 g2 hw (by
      rw[af,ayh];exact g4.set a2 a3 a4 rfl hz)
     rw[aF.1]at this;exact this
   ·cases h
  ·cases h
 ·cases h
theorem HA(hW:cM C β H M w){t:TypeId}{ts:Array TypeId}{ty:TypeId}{x:Option SV}{u:Value}{M':aC}{pk:List Nat}{r:Option SV}(h0:ts[0]?=some t)(h:gQ M (an P t) x=.m c M' pk r)(hx:∀s,x=some s->Den β H s u) :
  pk=[]∧M'=M∧∃y z,r=some y∧(Builtin.len_ ts ty #[u]).run P w=.ok z w∧Den β H y z:=by
 unfold gQ at h;split at h
 ·rename_i kt et _ _ _ k ac;obtain⟨i0,d0,z0,ht⟩:=aH ac;obtain rfl:=zT ht.k;unfold YS at h;split at h
  ·rename_i e he;split at h
   ·rename_i hc;simp only[cK.m.injEq]at h;obtain⟨-,rfl,rfl,rfl⟩:=h;obtain⟨d,ms,g1,g2,rfl,g3,g4⟩:=Gc hW he hc (hx _ rfl);have hl:=g4.length;simp only[axw]at hl;refine⟨rfl,rfl,_,goInt ms.size,rfl,?_,by rw[hl];exact cg rfl⟩;simp[Builtin.len_,h0,ht.aQ,aye g3]
   ·cases h
  ·cases h
 ·rename_i kt et _ _ _ ac;obtain⟨i0,d0,z0,ht⟩:=aH ac;obtain rfl:=zT ht.k;have hu:=hx _ rfl;simp only[Den]at hu;obtain⟨rfl, -⟩:=hu;simp only[cK.m.injEq]at h;obtain⟨-,rfl,rfl,rfl⟩:=h;refine⟨rfl,rfl,_,.int .i64 0,rfl,by simp[Builtin.len_,h0,ht.aQ,goInt],?_⟩;simp only[Den];exact⟨trivial,rfl⟩
 ·cases h
theorem DC(hW:cM C β H M w){t:TypeId}{o:Option Operand}{ρ:Operand->Value}{fr:List (Nat × SV)}(hρ:∀o s,ev fr o=some s->Den β H s (ρ o)){M':aC}{pk:List Nat}{r:Option SV}(h:ki M (an P t) (o.map (ev fr))=.m c M' pk r) :
  pk=[]∧∃bd x,r=some x∧(ax8 t (o.map ρ)).run P w=.ok (.map (some w.heap.size)) (w.alloc (.map #[] 0))∧cM C (β.eK M.length (some bd)) H M' (w.alloc (.map #[] 0))∧Den (β.eK M.length (some bd)) H x (.map (some w.heap.size)):=by
 have ab:Den (β.eK M.length (some ⟨w.heap.size,0,1⟩)) H (.mp M.length) (.map (some w.heap.size)):=by simp only[Den];exact⟨_,by simp[cu.eK];rfl,rfl,rfl⟩
 unfold ki at h;split at h
 ·rename_i kt et _ _ _ ac ho;simp only[cK.m.injEq]at h;obtain⟨-,rfl,rfl,rfl⟩:=h;cases o with
  | some o=>cases ho
  | none=>exact⟨rfl,_,_,rfl,by simp[ax8,run_newObj,World.alloc_eq],hW.allocMap,ab⟩
 ·rename_i kt et _ _ _ k n ac ho;obtain⟨i0,d0,z0,ht⟩:=aH ac;obtain rfl:=zT ht.k;simp only[cK.m.injEq]at h;obtain⟨-,rfl,rfl,rfl⟩:=h;cases o with
  | none=>cases ho
  | some o =>
   simp only[axs,awR]at ho;have:=hρ o _ ho;simp only[Den]at this;exact⟨rfl,_,_,rfl,by simp[ax8,ht.aQ,asInt,asIntOf,run_newObj,World.alloc_eq,this.1],hW.allocMap,ab⟩
 ·cases h
end
end Go.Sv
namespace Go.Sv
open Go Go.RowKit
structure St where
 n:Nat
 fr:List (Nat × SV)
 M:aC
abbrev bf:=Exit->St->Prop
def Sc(C:Ctx)(st:St)(a:Act)(w:World):Prop:=∃β H,jl β H st.n st.fr a∧cM C β H st.M w
def QQ(C:Ctx)(Q:bf):Exit->Act->World->Prop:=λe a w=>∃st,Q e st∧Sc C st a w
def aa(P:Program)(C:Ctx)(c:Code)(st:St)(Q:bf):Prop:=∀a w,Sc C st a w->c.wp P (QQ C Q) a w
def u6(P:Program)(C:Ctx)(all:Array Oper)(ops:List Oper)(st:St)(Q:bf):Prop:=∀a w,Sc C st a w->wpList P all (QQ C Q) ops a w
mutual
def SV.ks:SV->List Nat
 | .ptr k _ _=>[k]
 | .view k _ _=>[k]
 | .agg l=>SV.uM l
 | .bM l=>SV.uM l
 | .ju _ x=>x.ks
 | .j7 _ l r=>SV.uM l++SV.uM r
 | .mp k=>[k]
 | _=>[]
def SV.uM:List SV->List Nat
 | []=>[]
 | x::l=>x.ks++SV.uM l
end
def dK(P:Program)(C:Ctx)(f:FuncId)(args:List SV)(M:aC)(W:Option (List Nat))(K:aC->List Nat->SV->Prop):Prop :=
 ∀β H w ap,bZ β H args ap->cM C β H M w->Calls P f ap.toArray w λe w' =>
  ∃β' H' M' v x pk,e=.returned v∧Den β' H' x v∧cM C β' H' M' w'∧(∀k d,k∉pk->β k=some d->β' k=some d)∧(∀b cs,H b=some cs->H' b=some cs)∧K M' pk x ∧
  w.heap.size<=w'.heap.size∧∀ks,W=some ks->pk=[]∧∀b,b<w.heap.size->(∀k∈ks,∀d,β k=some (some d)->b≠d.b)->w'.heap[b]?=w.heap[b]?
def BV(d:Option Nat)(n:Nat):Prop:=match d with
 | some t=>t<n
 | none=>True
def fg(d:Option Nat)(x:Option SV)(fr:List (Nat × SV)):List (Nat × SV) :=
 match d,x with
 | some t,some x=>(t,x)::fr
 | some t,none=>del fr t
 | none,_=>fr
def au(P:Program)(f:FuncId):Prop:=∀(args:Array Value) (w:World),(callFunc f args).run P w=.ok (.enter f args) w
def forget(pk:List Nat):List (Nat × SV)->List (Nat × SV)
 | []=>[]
 | (t,x)::r=>if(pk.all λk=>!x.cD k)=true then(t,x)::forget pk r else del (forget pk r) t
theorem pc{pk:List Nat}:∀{fr:List (Nat × SV)} {t:Nat} {x:SV},get (forget pk fr) t=some x->get fr t=some x∧∀k∈pk,x.cD k=false
 | [],t,x,h=>by simp[forget,get]at h
 | (s,y)::r,t,x,h=>by
  simp only[forget]at h;split at h
  ·rename_i aq;simp only[get]at h ⊢;split at h
   ·rename_i e;simp only[awR]at h;subst h;refine⟨by simp[e],λk hk=>?_⟩;simp only[List.all_eq_true]at aq;simpa using aq k hk
   ·rename_i e;obtain⟨h1,h2⟩:=pc h;exact⟨by rw[if_neg e];exact h1,h2⟩
  ·obtain⟨e,h⟩:=mO h;obtain⟨h1,h2⟩:=pc h;exact⟨by simp only[get];rw[if_neg (Ne.symm e)];exact h1,h2⟩
theorem jl.forget{β β':cu}{H H':Hp}{n:Nat}{fr:List (Nat × SV)}{a:Act}(hF:jl β H n fr a){pk:List Nat}(hb:∀k d,k∉pk->β k=some d->β' k=some d)(hH:∀b cs,H b=some cs->H' b=some cs) :
  jl β' H' n (Sv.forget pk fr) a:=by
 refine⟨⟨hF.1.1,hF.1.2.mono hH⟩,hF.2.1,λt x hg=>?_⟩;obtain⟨g1,g2⟩:=pc hg;obtain⟨v,hv,ab⟩:=hF.2.2 t x g1;exact⟨v,hv,Den.mono hH x v (λj d hj aG=>hb j d (λe=>by rw[g2 j e]at hj;cases hj) aG) ab⟩
def HO(P:Program)(fx:List Nat)(M:aC)(fr:List (Nat × SV))(o:Op):cK :=
 match o with
 | .store t x y=>pE M (an P t) (ev fr x) (ev fr y)
 | .alloc t=>sK M (an P t)
 | .box t x=>Db M (an P t) (ev fr x)
 | .buildSlice t len parts=>gI P M (an P t) len (parts.toList.map λp=>(p.1,ev fr p.2))
 | .makeSlice t l c=>iA P M (an P t) (ev fr l) (ev fr c)
 | .call ⟨.builtin .append,args,ts⟩ =>
  match args.toList with
  | [b,x]=>jf P fx M ((ts[0]?).bind (an P)) ((ts[1]?).bind (an P)) (ev fr b) (ev fr x)
  | _=>.stuck
 | .call ⟨.builtin .copy,args,ts⟩ =>
  match args.toList with
  | [b,x]=>D4 P M ((ts[0]?).bind (an P)) (ev fr b) (ev fr x)
  | _=>.stuck
 | .lookup t x i ok=>mc P M (an P t) (ev fr x) (ev fr i) ok
 | .mapUpdate t m i x=>kO P M (an P t) (ev fr m) (ev fr i) (ev fr x)
 | .insert t m i x=>kO P M (an P t) (ev fr m) (ev fr i) (ev fr x)
 | .mapEntry t m i=>mB P M (an P t) (ev fr m) (ev fr i)
 | .entryStore _ m s x=>jP M (ev fr m) (ev fr s) (ev fr x)
 | .makeMap t n=>ki M (an P t) (n.map (ev fr))
 | .call ⟨.builtin .len,args,ts⟩ =>
  match args.toList with
  | [x]=>gQ M ((ts[0]?).bind (an P)) (ev fr x)
  | _=>.stuck
 | _=>.stuck
def cO(P:Program)(C:Ctx)(W:Option (List Nat))(o:Oper)(st:St)(next ad:St->Prop):Prop :=
 match EZ P st.M st.fr o.op with
 | .q c x=>c∧BV o.dst st.n∧next ⟨st.n,fg o.dst (some x) st.fr,st.M⟩
 | _ =>
  match HO P C.fx st.M st.fr o.op with
  | .m c M' pk x=>c∧BV o.dst st.n∧next ⟨st.n,fg o.dst x (forget pk st.fr),M'⟩
  | .stuck =>
   match o.op with
   | .call ⟨.value (.func f),args,_⟩ =>
    match BL st.fr args.toList with
    | some xs=>au P f∧BV o.dst st.n∧dK P C f xs st.M W λM' pk x=>ad ⟨st.n,fg o.dst (some x) (forget pk st.fr),M'⟩
    | none=>False
   | .call ⟨.value (.tmp t),args,_⟩ =>
    match get st.fr t,BL st.fr args.toList with
    | some (.j7 f l r),some xs=>au P f∧BV o.dst st.n∧dK P C f (l++xs++r) st.M W λM' pk x=>ad ⟨st.n,fg o.dst (some x) (forget pk st.fr),M'⟩
    | _,_=>False
   | _=>False
def rK(all:Array Oper)(j:Nat):Option Nat:=(all[j]?).bind (·.dst)
def fO(n:Nat)(d:Option Nat)(fr:List (Nat × SV)):List (Nat × SV) :=
 match d with
 | some t=>if t<n then(t,.bM [])::fr else del fr t
 | none=>fr
theorem jl.fO{β:cu}{H:Hp}{n:Nat}{fr:List (Nat × SV)}{a:Act}(h:jl β H n fr a)(d:Option Nat):jl β H n (Sv.fO n d fr) (a.put d undef):=by
 cases d with
 | none=>exact h
 | some t =>
  simp only[Sv.fO];split
  ·rename_i ht;exact h.put ht (by simp only[Den];exact⟨[],rfl,by simp only[bZ]⟩)
  ·exact h.skip t undef
theorem z9{β:cu}{H:Hp}{v:Value}(h:Den β H (.bM []) v):v=.tuple #[]:=by simp only[Den,bZ]at h;obtain⟨vs,h1,h2⟩:=h;subst h2;exact h1
def gP(P:Program)(C:Ctx)(all:Array Oper):List Oper->St->bf->bf->Prop
 | [],st,Q,_=>Q .normal st
 | o::rest,st,Q,QJ =>
  match o.guard with
  | none=>cO P C none o st (λst'=>gP P C all rest st' Q QJ) (λst'=>gP P C all rest st' QJ QJ)
  | some (j,b) =>
   match rK all j with
   | some t =>
    match get st.fr t with
    | some (.val (.bool c)) =>
     (c=b->cO P C none o ⟨st.n,(t,.val (.bool b))::st.fr,st.M⟩ (λst'=>gP P C all rest st' Q QJ) (λst'=>gP P C all rest st' QJ QJ)) ∧
     (c=!b->gP P C all rest ⟨st.n,fO st.n o.dst ((t,.val (.bool (!b)))::st.fr),st.M⟩ Q QJ)
    | some (.bM [])=>gP P C all rest ⟨st.n,fO st.n o.dst st.fr,st.M⟩ Q QJ
    | _=>False
   | none=>False
theorem jl.fg{β:cu}{H:Hp}{n:Nat}{fr:List (Nat × SV)}{a:Act}(h:jl β H n fr a){d:Option Nat}{x:SV}{v:Value}(ht:BV d n)(hx:Den β H x v) :
  jl β H n (fg d (some x) fr) (a.put d v):=by
 cases d with
 | none=>exact h
 | some t=>exact h.put ht hx
theorem jl.RV{β:cu}{H:Hp}{n:Nat}{fr:List (Nat × SV)}{a:Act}(h:jl β H n fr a)(d:Option Nat)(v:Value) :
  jl β H n (Sv.fg d none fr) (a.put d v):=by
 cases d with
 | none=>exact h
 | some t=>exact h.skip t v
theorem dI(fr:List (Nat × SV)):forget [] fr=fr:=by
 induction fr with
 | nil=>rfl
 | cons p r ih=>obtain⟨t,x⟩:=p;simp[forget,ih]
def MV(x:Option SV):List Nat:=match x with
 | some (.mp k)=>[k]
 | _=>[]
def Ds(fr:List (Nat × SV))(o:Op):List Nat :=
 match o with
 | .store _ x _=>match ev fr x with
  | some (.ptr k _ _)=>[k]
  | _=>[]
 | .call ⟨.builtin .append,args,_⟩=>match args.toList with
  | [b,_]=>match ev fr b with
   | some (.view k _ _)=>[k]
   | _=>[]
  | _=>[]
 | .call ⟨.builtin .copy,args,_⟩=>match args.toList with
  | [b,_]=>match ev fr b with
   | some (.view k _ _)=>[k]
   | _=>[]
  | _=>[]
 | .mapUpdate _ m _ _=>MV (ev fr m)
 | .insert _ m _ _=>MV (ev fr m)
 | .mapEntry _ m _=>MV (ev fr m)
 | .entryStore _ m _ _=>MV (ev fr m)
 | _=>[]
theorem Og{P:Program}{C:Ctx}{β:cu}{H:Hp}{M:aC}{w:World}(hW:cM C β H M w){n:Nat}{fr:List (Nat × SV)}{a:Act}(hF:jl β H n fr a){o:Oper}{c:Prop}{M':aC}{pk:List Nat}{x:Option SV}
  (h:HO P C.fx M fr o.op=.m c M' pk x) (hc:c) (hd:BV o.dst n) :
  ∃nx v w' β',(execOp a.eval o).run P w=.ok nx w'∧(nx=.value v∨(nx=.skip∧v=undef))∧cM C β' H M' w'∧jl β' H n (fg o.dst x (forget pk fr)) (a.put o.dst v) ∧
   (∀j d,j∉pk->β j=some d->β' j=some d)∧w.heap.size<=w'.heap.size∧∀b,b<w.heap.size->(∀k∈Ds fr o.op,∀d,β k=some (some d)->b≠d.b)->w'.heap[b]?=w.heap[b]?:=by
 have hρ:=λo=>nG hF o;obtain⟨dst,op,type,pos,after,guard⟩:=o;simp only at h hd ⊢;have new:∀{x:SV} {z:Value} {o:Obj} {bd:Bd} {s:Sem Value} {ks:List Nat},pk=[]->s.run P w=.ok z (w.alloc o)->cM C (β.eK M.length (some bd)) H M' (w.alloc o)->Den (β.eK M.length (some bd)) H x z ->
   ∃nx v w' β',(do pure (Next.value (<-s)):Sem Next).run P w=.ok nx w'∧(nx=.value v∨(nx=.skip∧v=undef))∧cM C β' H M' w'∧jl β' H n (fg dst (some x) (forget pk fr)) (a.put dst v) ∧
   (∀j d,j∉pk->β j=some d->β' j=some d)∧w.heap.size<=w'.heap.size∧∀b,b<w.heap.size->(∀k∈ks,∀d,β k=some (some d)->b≠d.b)->w'.heap[b]?=w.heap[b]?:=λ{x z o bd s ks} aW hs aY hx=>by
  subst aW;refine⟨.value z,z,_,_,by simp[hs],.inl rfl,aY,?_,λj d _ hj=>iN hW _ j d hj,by simp,λb hb _=>heap_alloc_old hb⟩;rw[dI];exact(hF.mono (iN hW _) (λ_ _ h=>h)).fg hd hx
 unfold HO at h;split at h
 ·rename_i t x' y;obtain⟨rfl,rfl,w',h1,h2,h3,h4⟩:=IW (P:=P) hW h hc (hρ x') (hρ y);refine⟨.skip,undef,w',β,by simp[execOp,h1],.inr ⟨rfl,rfl⟩,h2,?_,λ_ _ _ h=>h,by rw[h3];exact axq _,λb hb hk=>h4 b (λk i j d he=>hk k (by simp[Ds,he]) d)⟩;rw[dI];exact hF.RV dst undef
 ·rename_i t;obtain⟨hp,y,d,rfl,h1,bd,h2,h3⟩:=ID hW h;simp only[execOp];exact new hp h1 h2 h3
 ·rename_i t x';obtain⟨hp,y,d,rfl,h1,bd,h2,h3⟩:=PD hW h hc (hρ x');simp only[execOp];exact new hp h1 h2 h3
 ·rename_i t len parts;obtain⟨hp,y,d,T,rfl,h1,bd,h2,h3⟩:=yA hW hρ h;simp only[execOp];exact new hp h1 h2 h3
 ·rename_i t l cp;obtain⟨hp,y,d,T,z,rfl,h1,bd,h2,h3⟩:=zS hW h hc (hρ l) (hρ cp);simp only[execOp];exact new hp h1 h2 h3
 ·rename_i args ts;split at h
  ·rename_i b x' ae;obtain⟨k,y,z,w',β',rfl,rfl,h1,h2,h3,h4,h5,h6⟩:=Fg (ty:=type) hW h hc (hρ b) (hρ x');have ag:args=#[b,x']:=by apply axx;simpa using ae
   subst ag;have aZ:∀j,[k]=[j]->∀d,β j=some (some d)->j∈Ds fr (.call ⟨.builtin .append,#[b,x'],ts⟩):=λj hj d hd=>by
    simp only[List.cons.injEq,and_true]at hj;subst hj;unfold jf lT at h;split at h
    ·rename_i hb;split at h
     ·split at h
      ·simp only[cK.m.injEq,List.cons.injEq,and_true]at h;simp[Ds,hb,h.2.2.1]
      ·cases h
     ·cases h
    ·split at h
     ·split at h
      ·simp only[cK.m.injEq,List.cons.injEq,and_true]at h;rw[<-h.2.2.1,Ge,hW.fresh _ (axq _)]at hd;cases hd
      ·cases h
     ·cases h
    ·cases h
   refine⟨.value z,z,w',β',?_,.inl rfl,h2,?_,λj d hj=>h4 j d (by simpa using hj),h5,λc' aI hk=>h6 c' aI (λd hd=>hk k (aZ k rfl d hd) d hd)⟩
   ·simp only[execOp,resolve,aw4,axr,aw5,invoke,builtin];simp[h1]
   ·refine jl.fg ?_ hd h3;refine⟨hF.1,hF.2.1,λt x hg=>?_⟩;obtain⟨g1,g2⟩:=pc hg;obtain⟨v,hv,ab⟩:=hF.2.2 t x g1;exact⟨v,hv,Den.mono (λ_ _ h=>h) x v (λj d hj aG=>h4 j d (λe=>by subst e;rw[g2 j (by simp)]at hj;cases hj) aG) ab⟩
  ·cases h
 ·rename_i args ts;split at h
  ·rename_i b x' ae;obtain⟨k,i0,n0,y,z,w',rfl,a0,rfl,h1,h2,h3,h4,h5⟩:=MN (ty:=type) hW h hc (hρ b) (hρ x');have ag:args=#[b,x']:=by apply axx;simpa using ae
   subst ag;refine⟨.value z,z,w',β,?_,.inl rfl,h2,?_,λ_ _ _ h=>h,by rw[h4];exact axq _,λc' aI hk=>h5 c' aI (λd hd=>hk k (by simp[Ds,a0]) d hd)⟩
   ·simp only[execOp,resolve,aw4,axr,aw5,invoke,builtin];simp[h1]
   ·rw[dI];exact hF.fg hd h3
  ·cases h
 ·rename_i t x i ok;obtain⟨rfl,rfl,y,z,rfl,h1,h2⟩:=F7 hW h (hρ x) (hρ i);refine⟨.value z,z,w,β,by simp[execOp,h1],.inl rfl,hW,?_,λ_ _ _ h=>h,axq _,λ_ _ _=>rfl⟩;rw[dI];exact hF.fg hd h2
 ·rename_i t m i x;obtain⟨rfl,rfl,w',h1,h2,h3,h4⟩:=x8 hW h (hρ m) (hρ i) (hρ x);refine⟨.skip,undef,w',β,by simp[execOp,h1],.inr ⟨rfl,rfl⟩,h2,?_,λ_ _ _ h=>h,by rw[h3];exact axq _,λb hb hk=>h4 b (λk d he=>hk k (by simp[Ds,MV,he]) d)⟩;rw[dI];exact hF.RV dst undef
 ·rename_i t m i x;obtain⟨rfl,rfl,w',h1,h2,h3,h4⟩:=x8 hW h (hρ m) (hρ i) (hρ x);refine⟨.skip,undef,w',β,by simp[execOp,h1],.inr ⟨rfl,rfl⟩,h2,?_,λ_ _ _ h=>h,by rw[h3];exact axq _,λb hb hk=>h4 b (λk d he=>hk k (by simp[Ds,MV,he]) d)⟩;rw[dI];exact hF.RV dst undef
 ·rename_i t m i;obtain⟨rfl,y,z,w',rfl,h1,h2,h3,h4,h5⟩:=BR hW h (hρ m) (hρ i);refine⟨.value z,z,w',β,by simp[execOp,h1],.inl rfl,h2,?_,λ_ _ _ h=>h,by rw[h4];exact axq _,λb hb hk=>h5 b (λk d he=>hk k (by simp[Ds,MV,he]) d)⟩;rw[dI];exact hF.fg hd h3
 ·rename_i t m s x;obtain⟨rfl,rfl,w',h1,h2,h3,h4⟩:=yJ (P:=P) (t:=t) hW h hc (hρ m) (hρ s) (hρ x);refine⟨.skip,undef,w',β,by simp[execOp,h1],.inr ⟨rfl,rfl⟩,h2,?_,λ_ _ _ h=>h,by rw[h3];exact axq _,λb hb hk=>h4 b (λk d he=>hk k (by simp[Ds,MV,he]) d)⟩;rw[dI];exact hF.RV dst undef
 ·rename_i t o;obtain⟨hp,bd,x,rfl,h1,h2,h3⟩:=DC (P:=P) hW hρ h;simp only[execOp];exact new hp h1 h2 h3
 ·rename_i args ts;split at h
  ·rename_i x ae;have ag:args=#[x]:=by apply axx;simpa using ae
   subst ag;cases aJ:ts[0]? with
   | none=>rw[aJ]at h;simp[gQ]at h
   | some t0 =>
    rw[aJ]at h;obtain⟨rfl,rfl,y,z,rfl,h1,h2⟩:=HA (ty:=type) hW aJ h (hρ x);refine⟨.value z,z,w,β,?_,.inl rfl,hW,?_,λ_ _ _ h=>h,axq _,λ_ _ _=>rfl⟩
    ·simp only[execOp,resolve,aw4,axr,aw5,invoke,builtin];simp[h1]
    ·rw[dI];exact hF.fg hd h2
  ·cases h
 ·cases h
theorem kL{β:cu}{H:Hp}:∀{l l':List SV} {vs ar:List Value},bZ β H l vs->bZ β H l' ar->bZ β H (l++l') (vs++ar)
 | [],l',vs,ar,h,h'=>by simp only[bZ]at h;simpa[h]using h'
 | x::l,l',vs,ar,h,h'=>by simp only[bZ]at h;obtain⟨v,r,rfl,h1,h2⟩:=h;simp only[ayb,bZ];exact⟨v,r++ar,rfl,h1,kL h2 h'⟩
theorem JQ{P:Program}{C:Ctx}{all:Array Oper}{rest:List Oper}{o:Oper}{st:St}{QJ:bf}{next ad:St->Prop}(hn:∀st',next st'->u6 P C all rest st' QJ)
  (aR:∀st',ad st'->u6 P C all rest st' QJ) (h:cO P C none o st next ad) {a:Act} {w:World} (hs:Sc C st a w):o.wp P a w (wpList P all (QQ C QJ) rest) (QQ C QJ):=by
 obtain⟨β,H,hF,hW⟩:=hs;unfold cO at h;split at h
 ·rename_i c x hq;obtain⟨hc,hd,aD⟩:=h;obtain⟨v,h1,h2⟩:=Nm hW hF hq hc;simp only[ayk,h1,ayl];exact hn _ aD _ _ ⟨β,H,hF.fg hd h2,hW⟩
 ·split at h
  ·rename_i c M' pk x hm;obtain⟨hc,hd,aD⟩:=h;obtain⟨nx,v,w',β',h1,h2,h3,h4, -, -, -⟩:=Og hW hF hm hc hd;simp only[ayk,h1];rcases h2 with rfl | ⟨rfl,rfl⟩
   ·simp only[ayl];exact hn _ aD _ _ ⟨β',H,h4,h3⟩
   ·simp only[ayl];exact hn _ aD _ _ ⟨β',H,h4,h3⟩
  ·split at h
   ·rename_i f args ts av;split at h
    ·rename_i xs aK;obtain⟨hf,hd,ah⟩:=h;have am:(execOp a.eval o).run P w=.ok (.enter f (args.map a.eval)) w:=by
      obtain⟨dst,op,type,pos,after,guard⟩:=o;simp only at av;subst av;simp only[execOp,resolve,Act.eval,Deferred.ofValue,aw4,axr,aw5,invoke];simpa using hf (args.map a.eval) w
     simp only[ayk,am,ayl];have ai:=m9 hF _ _ aK;have:=ah β H w _ ai hW;rw[show(args.toList.map a.eval).toArray=args.map a.eval from by apply axx;simp]at this;refine Calls.mono this ?_;rintro e w' ⟨β',H',M',v,x,pk,rfl,g1,g2,g3,g4,g5, -⟩;exact aR _ g5 _ _ ⟨β',H',(hF.forget g3 g4).fg hd g1,g2⟩
    ·exact h.elim
   ·rename_i t args ts av;split at h
    ·rename_i f l r xs az aK;obtain⟨hf,hd,ah⟩:=h;obtain⟨vf,hv,ab⟩:=hF.2.2 t _ az;simp only[Den]at ab;obtain⟨vl,vr,rfl,a6,a7⟩:=ab;have a8:a.eval (.tmp t)=.func (.func f) vl.toArray vr.toArray:=by
      simp only[Act.eval,Array.getD_eq_getD_getElem?,hv];rfl
     have am:(execOp a.eval o).run P w=.ok (.enter f (vl.toArray++args.map a.eval++vr.toArray)) w:=by obtain⟨dst,op,type,pos,after,guard⟩:=o;simp only at av;subst av;simp only[execOp,resolve,a8,Deferred.ofValue,aw4,axr,aw5,invoke];simpa using hf (vl.toArray++args.map a.eval++vr.toArray) w
     simp only[ayk,am,ayl];have ai:=kL (kL a6 (m9 hF _ _ aK)) a7;have:=ah β H w _ ai hW;rw[show(vl++args.toList.map a.eval++vr).toArray=vl.toArray++args.map a.eval++vr.toArray from by apply axx;simp]at this;refine Calls.mono this ?_;rintro e w' ⟨β',H',M',v,x,pk,rfl,g1,g2,g3,g4,g5, -⟩;exact aR _ g5 _ _ ⟨β',H',(hF.forget g3 g4).fg hd g1,g2⟩
    ·exact h.elim
   ·exact h.elim
theorem kM{P:Program}{C:Ctx}{all:Array Oper}:∀(ops:List Oper) (st:St) {Q QJ R:bf},(∀e st,Q e st->R e st)->(∀e st,QJ e st->R e st)->gP P C all ops st Q QJ->u6 P C all ops st R
 | [],st,Q,QJ,R,hQ,hJ,h=>λa w hs=>wpList_nil ⟨st,hQ _ _ h,hs⟩
 | o::rest,st,Q,QJ,R,hQ,hJ,h=>λa w hs=>by
  simp only[gP]at h;split at h
  ·rename_i hg;unfold wpList;rw[if_pos (by simp[aym,hg])];exact .inl (JQ (λst' h'=>kM rest st' hQ hJ h') (λst' h'=>kM rest st' hJ hJ h') h hs)
  ·rename_i j b hg;split at h
   ·rename_i t ht;split at h
    ·rename_i c hc;obtain⟨β,H,hF,hW⟩:=hs;obtain⟨v,hv,ab⟩:=hF.2.2 t _ hc;simp only[Den]at ab;obtain⟨rfl, -⟩:=ab;have hy:yielded all a.tmps j=some c:=by
      unfold yielded;simp only[rK]at ht;rw[ht];simp[hv]
     have aw:∀b',c=b'->jl β H st.n ((t,.val (.bool b'))::st.fr) a:=λb' hb=>by
      subst hb;refine hF.sub λt' x' ax=>?_;simp only[get]at ax;split at ax
      ·rename_i e;subst e;simp only[awR]at ax;subst ax;exact hc
      ·exact ax
     unfold wpList;by_cases aE:c=b
     ·rw[if_pos (by simp[aym,hg,hy,aE])];exact .inl (JQ (λst' h'=>kM rest st' hQ hJ h') (λst' h'=>kM rest st' hJ hJ h') (h.1 aE) ⟨β,H,aw b aE,hW⟩)
     ·rw[if_neg (by simp[aym,hg,hy,aE])];have ay:c=!b:=by cases c<;>cases b<;>simp_all
      exact kM rest _ hQ hJ (h.2 ay) _ _ ⟨β,H,(aw _ ay).fO o.dst,hW⟩
    ·rename_i hc;obtain⟨β,H,hF,hW⟩:=hs;obtain⟨v,hv,ab⟩:=hF.2.2 t _ hc;obtain rfl:=z9 ab;have hy:yielded all a.tmps j=none:=by
      unfold yielded;simp only[rK]at ht;rw[ht];simp[hv]
     unfold wpList;rw[if_neg (by simp[aym,hg,hy])];exact kM rest _ hQ hJ h _ _ ⟨β,H,hF.fO o.dst,hW⟩
    ·exact h.elim
   ·exact h.elim
def LA(id:Nat)(Q:bf):bf:=λe st=>match e with
 | .exit aS=>if aS=id then Q .normal st else Q (.exit aS) st
 | e=>Q e st
def uI(Q1:St->Prop)(Q:bf):bf:=λe st=>match e with
 | .normal=>Q1 st
 | e=>Q e st
def vc(P:Program)(C:Ctx):Code->St->bf->bf->Prop
 | .skip,st,Q,_=>Q .normal st
 | .seq x y,st,Q,QJ=>vc P C x st (uI (λst'=>vc P C y st' Q QJ) Q) (uI (λst'=>vc P C y st' QJ QJ) QJ)
 | .cond c x y,st,Q,QJ =>
  match ev st.fr c with
  | some (.val (.bool b))=>(b=true->vc P C x st Q QJ)∧(b=false->vc P C y st Q QJ)
  | _=>False
 | .block id c,st,Q,QJ=>vc P C c st (LA id Q) (LA id QJ)
 | .exit id,st,Q,_=>Q (.exit id) st
 | .ret,st,Q,_=>Q .ret st
 | .region _ ops false,st,Q,QJ=>gP P C ops ops.toList st Q QJ
 | c,st,_,QJ=>aa P C c st QJ
theorem QZ{C:Ctx}{Q Q':bf}(h:∀e st,Q e st->Q' e st):∀e a w,QQ C Q e a w->QQ C Q' e a w:=λe _ _ ⟨st,h1,h2⟩=>⟨st,h e st h1,h2⟩
theorem aa.mono{P:Program}{C:Ctx}{c:Code}{st:St}{Q Q':bf}(h:aa P C c st Q)(hq:∀e st,Q e st->Q' e st):aa P C c st Q' :=
 λa w hs=>wp_mono (h a w hs) (QZ hq)
theorem Gi{id:Nat}{Q R:bf}(h:∀e st,Q e st->R e st):∀e st,LA id Q e st->LA id R e st:=λe st h'=>by cases e<;>simp only[LA]at h' ⊢<;>first | exact h _ _ h' | (split at h'<;>rename_i e<;>first | (rw[if_pos e];exact h _ _ h') | (rw[if_neg e];exact h _ _ h'))
theorem oO{P:Program}{C:Ctx}:∀(c:Code) (st:St) {Q QJ R:bf},(∀e st,Q e st->R e st)->(∀e st,QJ e st->R e st)->vc P C c st Q QJ->aa P C c st R
 | .skip,st,Q,QJ,R,hQ,hJ,h=>λa w hs=>wp_skip ⟨st,hQ _ _ h,hs⟩
 | .seq x y,st,Q,QJ,R,hQ,hJ,h=>by
  have h1:=oO x st (R:=uI (λst'=>aa P C y st' R) R) (λe st' h'=>by
   cases e<;>simp only[uI]at h' ⊢<;>first | exact hQ _ _ h' | exact oO y st' hQ hJ h') (λe st' h'=>by
   cases e<;>simp only[uI]at h' ⊢<;>first | exact hJ _ _ h' | exact oO y st' hJ hJ h') h
  intro a w hs;refine wp_seq (wp_mono (h1 a w hs) ?_);rintro e a' w' ⟨st',h2,h3⟩;cases e<;>simp only[uI,Exit.then]at h2 ⊢<;>first | exact h2 a' w' h3 | exact⟨st',h2,h3⟩
 | .cond c x y,st,Q,QJ,R,hQ,hJ,h=>by
  simp only[vc]at h;split at h
  ·rename_i b hb;rintro a w ⟨β,H,hF,hW⟩;have ab:=Eu hF hb;simp only[Den]at ab;refine wp_cond_split ab.1 (λht=>oO x st hQ hJ (h.1 ht) a w ⟨β,H,hF,hW⟩) (λhf=>oO y st hQ hJ (h.2 hf) a w ⟨β,H,hF,hW⟩)
  ·exact h.elim
 | .block id c,st,Q,QJ,R,hQ,hJ,h=>by have h1:=oO c st (R:=LA id R) (Gi hQ) (Gi hJ) h;intro a w hs;refine wp_block (wp_mono (h1 a w hs) ?_);rintro e a' w' ⟨st',h2,h3⟩;cases e<;>simp only[LA,Exit.inBlock]at h2 ⊢<;>first | exact⟨st',h2,h3⟩ | (split at h2<;>rename_i e<;>first | (rw[if_pos e];exact⟨st',h2,h3⟩) | (rw[if_neg e];exact⟨st',h2,h3⟩))
 | .exit id,st,Q,QJ,R,hQ,hJ,h=>λa w hs=>wp_exit ⟨st,hQ _ _ h,hs⟩
 | .ret,st,Q,QJ,R,hQ,hJ,h=>λa w hs=>wp_ret ⟨st,hQ _ _ h,hs⟩
 | .region id ops false,st,Q,QJ,R,hQ,hJ,h=>λa w hs=>wp_region_list (kM ops.toList st hQ hJ h a w hs)
 | .region id ops true,st,Q,QJ,R,hQ,hJ,h=>h.mono hJ
 | .loop c,st,Q,QJ,R,hQ,hJ,h=>h.mono hJ
 | .rangeFunc ..,st,Q,QJ,R,hQ,hJ,h=>h.mono hJ
 | .scope c,st,Q,QJ,R,hQ,hJ,h=>h.mono hJ
 | .label l,st,Q,QJ,R,hQ,hJ,h=>h.mono hJ
 | .goto l,st,Q,QJ,R,hQ,hJ,h=>h.mono hJ
 | .refuse s,st,Q,QJ,R,hQ,hJ,h=>h.mono hJ
end Go.Sv


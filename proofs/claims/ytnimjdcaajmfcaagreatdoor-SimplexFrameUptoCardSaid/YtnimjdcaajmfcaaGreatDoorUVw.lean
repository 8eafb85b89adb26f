/- A text of the prover's own. -/
import Derived.Test.YtnimjdcaajmfcaaGreatDoorUVa
import Derived.MapKept
import Derived.Laws.StructEq
namespace Go.Sv
open Go Go.RowKit
def keq:Value→Value→Option Bool
 | .int k a,.int k' b=>if k=k' then some (decide (a=b)) else none
 | .string a,.string b=>some (decide (a=b))
 | .bool a,.bool b=>some (decide (a=b))
 | _,_=>none
def kfit (ti:Option TI) (v:Value):Bool :=
 match ti,v with
 | some ⟨.int k,_,_,_⟩,.int k' _=>decide (k=k')
 | some ⟨.str,_,_,_⟩,.string _=>true
 | some ⟨.bool,_,_,_⟩,.bool _=>true
 | _,_=>false
def kgo (v:Value) (u:Value) (y:SV) (i:Nat) (r:Option (Option (Nat × SV))):Option (Option (Nat × SV)) :=
 match keq v u with
 | some true=>some (some (i,y))
 | some false=>r
 | none=>none
def kent:SV→Option (Value × SV)
 | .tup [.val u,y]=>some (u,y)
 | _=>none
def kfind (v:Value):List SV→Nat→Option (Option (Nat × SV))
 | [],_=>some none
 | x::l,i=>match kent x with
  | some (u,y)=>kgo v u y i (kfind v l (i+1))
  | none=>none
def kput (x y:SV):SV:=match x with
 | .tup [u,_]=>.tup [u,y]
 | x=>x
def two (ok:Bool) (y:SV) (b:Bool):SV:=if ok=true then .tup [y,.val (.bool b)] else y
def lkR (ok:Bool) (M:Tab) (te:TI) (r:Option (Option (Nat × SV))):MRes:=match r with
 | some (some (_,y))=>.m True M [] (some (two ok y true))
 | some none=>.m True M [] (some (two ok te.zsv false))
 | none=>.stuck
def lkE (ok:Bool) (M:Tab) (tk':Option TI) (v:Value) (te:Option TI) (e:Option Ent):MRes:=match te,e with
 | some te,some e=>if e.sz=0∧kfit tk' v=true then lkR ok M te (kfind v e.es 0) else .stuck
 | _,_=>.stuck
def lkN (ok:Bool) (M:Tab) (tk':Option TI) (v:Value) (te:Option TI):MRes:=match te with
 | some te=>if kfit tk' v=true then .m True M [] (some (two ok te.zsv false)) else .stuck
 | none=>.stuck
def evLookup (P:Program) (M:Tab) (ti:Option TI) (x i:Option SV) (ok:Bool):MRes :=
 match ti,x,i with
 | some ⟨.mp kt et,_,_,_⟩,some (.mp k),some (.val v)=>lkE ok M (tyOf P kt) v (tyOf P et) (tget M k)
 | some ⟨.mp kt et,_,_,_⟩,some (.val (.map none)),some (.val v)=>lkN ok M (tyOf P kt) v (tyOf P et)
 | _,_,_=>.stuck
def upR (M:Tab) (k:Nat) (es:List SV) (v:Value) (y:SV) (r:Option (Option (Nat × SV))):MRes:=match r with
 | some (some (j,_))=>.m True (tset M k (some ⟨0,lset es j (.tup [.val v,y]),false⟩)) [] none
 | some none=>.m True (tset M k (some ⟨0,es++[.tup [.val v,y]],false⟩)) [] none
 | none=>.stuck
def upE (M:Tab) (k:Nat) (tk':Option TI) (v:Value) (y:SV) (e:Option Ent):MRes:=match e with
 | some e=>if e.sz=0∧e.fz=false∧kfit tk' v=true then upR M k e.es v y (kfind v e.es 0) else .stuck
 | none=>.stuck
def evMapUpd (P:Program) (M:Tab) (ti:Option TI) (m i x:Option SV):MRes :=
 match ti,m,i,x with
 | some ⟨.mp kt _,_,_,_⟩,some (.mp k),some (.val v),some y=>upE M k (tyOf P kt) v y (tget M k)
 | _,_,_,_=>.stuck
def enR (M:Tab) (k:Nat) (es:List SV) (v:Value) (te:TI) (r:Option (Option (Nat × SV))):MRes:=match r with
 | some (some (j,y))=>.m True M [] (some (.tup [y,.val (.int .i64 (j:Nat))]))
 | some none=>.m True (tset M k (some ⟨0,es++[.tup [.val v,te.zsv]],false⟩)) [] (some (.tup [te.zsv,.val (.int .i64 es.length)]))
 | none=>.stuck
def enE (M:Tab) (k:Nat) (tk':Option TI) (v:Value) (te:Option TI) (e:Option Ent):MRes:=match te,e with
 | some te,some e=>if e.sz=0∧e.fz=false∧kfit tk' v=true then enR M k e.es v te (kfind v e.es 0) else .stuck
 | _,_=>.stuck
def evMapEntry (P:Program) (M:Tab) (ti:Option TI) (m i:Option SV):MRes :=
 match ti,m,i with
 | some ⟨.mp kt et,_,_,_⟩,some (.mp k),some (.val v)=>enE M k (tyOf P kt) v (tyOf P et) (tget M k)
 | _,_,_=>.stuck
def esE (M:Tab) (k:Nat) (n:Int) (y:SV) (e:Option Ent):MRes:=match e with
 | some e=>if e.sz=0∧e.fz=false then .m (0≤n∧n<e.es.length) (tset M k (some ⟨0,lset e.es n.toNat (kput (lget e.es n.toNat) y),false⟩)) [] none else .stuck
 | none=>.stuck
def evEntryStore (M:Tab) (m s x:Option SV):MRes :=
 match m,s,x with
 | some (.mp k),some (.val (.int _ n)),some y=>esE M k n y (tget M k)
 | _,_,_=>.stuck
def mlE (M:Tab) (e:Option Ent):MRes:=match e with
 | some e=>if e.sz=0 then .m True M [] (some (.val (.int .i64 e.es.length))) else .stuck
 | none=>.stuck
def evMapLen (M:Tab) (ti:Option TI) (x:Option SV):MRes :=
 match ti,x with
 | some ⟨.mp _ _,_,_,_⟩,some (.mp k)=>mlE M (tget M k)
 | some ⟨.mp _ _,_,_,_⟩,some (.val (.map none))=>.m True M [] (some (.val (.int .i64 0)))
 | _,_=>.stuck
def evMakeMap (M:Tab) (ti:Option TI) (x:Option (Option SV)):MRes :=
 match ti,x with
 | some ⟨.mp _ _,_,_,_⟩,none=>.m True (M++[some ⟨0,[],false⟩]) [] (some (.mp M.length))
 | some ⟨.mp _ _,_,_,_⟩,some (some (.val (.int _ _)))=>.m True (M++[some ⟨0,[],false⟩]) [] (some (.mp M.length))
 | _,_=>.stuck
section
variable {P:Program} {C:Ctx} {β:Bnd} {H:Hp} {M:Tab} {w:World} {c:Prop}
theorem tk_mp {d:TypeDesc} {k e:TypeId} (h:TK.mp k e=tk P d):d=.map k e:=by
 cases d<;>simp [tk] at h;rw [h.1,h.2]
theorem str_beq (a b:ByteArray):(a==b)=decide (a=b):=by
 rw [beq_toListBytes,bytes_beq]
theorem modify_at {α:Type} {l:List α} {j:Nat} {x:α} (f:α→α) (h:l[j]?=some x):l.modify j f=l.set j (f x):=by
 induction l generalizing j with
 | nil=>simp at h
 | cons y l ih=>cases j with
  | zero=>simp at h;simp [h]
  | succ j=>simp at h ⊢;exact ih h
theorem kfit_ok {kt:TypeId} {v:Value} (h:kfit (tyOf P kt) v=true):keyV v=true∧∃d,P.underlying kt=some d∧(∀u,Instr.sameNow d v u=keq v u)∧∀(e:Bool) (n:Nat) (w:World),(Instr.checkKey e (n+1) kt v).run P w=.ok () w:=by
 unfold kfit at h
 split at h
 ·rename_i k _ _ _ k' a hti
  obtain ⟨i,d,z,ht⟩:=tyOf_spec hti
  obtain rfl:=tk_int ht.k
  obtain rfl:k=k':=by simpa using h
  refine ⟨rfl,_,ht.under,fun u=>?_,fun e n w=>?_⟩
  ·cases u<;>simp [Instr.sameNow,keq,BEq.beq]
  ·simp [Instr.checkKey,ht.runUnder]
 ·rename_i _ _ _ a hti
  obtain ⟨i,d,z,ht⟩:=tyOf_spec hti
  obtain rfl:=tk_str ht.k
  refine ⟨rfl,_,ht.under,fun u=>?_,fun e n w=>?_⟩
  ·cases u<;>simp [Instr.sameNow,keq,str_beq]
  ·simp [Instr.checkKey,ht.runUnder]
 ·rename_i _ _ _ a hti
  obtain ⟨i,d,z,ht⟩:=tyOf_spec hti
  have:d=.bool:=by
   have hk:=ht.k
   cases d<;>simp [tk] at hk;rfl
  subst this
  refine ⟨rfl,_,ht.under,fun u=>?_,fun e n w=>?_⟩
  ·cases u<;>simp [Instr.sameNow,keq,BEq.beq]
  ·simp [Instr.checkKey,ht.runUnder]
 ·cases h
theorem keq_true {v u:Value} (h:keq v u=some true):v=u:=by
 unfold keq at h
 split at h
 ·split at h
  ·rename_i hk;simp at h;rw [hk,h]
  ·cases h
 ·simp at h;rw [h]
 ·simp at h;rw [h]
 ·cases h
theorem kfind_ok {d:TypeDesc} {v:Value} (hs:∀u,Instr.sameNow d v u=keq v u):∀{es:List SV} {ms:List MapEntry} {n i:Nat} {r:Option (Nat × SV)},DenK β H es ms n→kfind v es i=some r →
  (r=none∧Instr.findNow d v ms i=some none) ∨
  (∃j y m,r=some (j,y)∧i≤j∧j<i+es.length∧Instr.findNow d v ms i=some (some (j,m.val))∧ms[j - i]?=some m∧m.key=v∧m.born=n+(j - i)∧Den β H y m.val)
 | [],ms,n,i,r,h,hf=>by
  simp only [DenK] at h
  subst h
  simp only [kfind,Option.some.injEq] at hf
  exact .inl ⟨hf.symm,rfl⟩
 | x::es,ms,n,i,r,h,hf=>by
  simp only [DenK] at h
  obtain ⟨key,y,m,q,rfl,rfl,h3,h4,h5,h6,h7⟩:=h
  simp only [kfind,kent,kgo] at hf
  cases hq:keq v key with
  | none=>rw [hq] at hf;cases hf
  | some b =>
   rw [hq] at hf
   have hsn:Instr.sameNow d v m.key=some b:=by rw [hs,h3,hq]
   cases b with
   | true =>
    simp only [Option.some.injEq] at hf
    refine .inr ⟨i,y,m,hf.symm,Nat.le_refl _,by simp,?_,by simp,by rw [h3,keq_true hq],by simp [h5],h6⟩
    simp [Instr.findNow,hsn]
   | false =>
    simp only at hf
    have hfn:Instr.findNow d v (m::q) i=Instr.findNow d v q (i+1):=by simp [Instr.findNow,hsn]
    rcases kfind_ok hs h7 hf with ⟨g1,g2⟩ | ⟨j,y',m',g1,g2,g3,g4,g5,g6,g7,g8⟩
    ·exact .inl ⟨g1,by rw [hfn];exact g2⟩
    ·refine .inr ⟨j,y',m',g1,by omega,by simp;omega,by rw [hfn];exact g4,?_,g6,by omega,g8⟩
     rw [show j - i=(j - (i+1))+1 by omega]
     simpa using g5
theorem DenK.append {es:List SV} {ms:List MapEntry} {n:Nat} (h:DenK β H es ms n) {v:Value} {y:SV} {m:MapEntry} (hm:m.key=v) (hv:keyV v=true) (hb:m.born=n+es.length) (hy:Den β H y m.val):DenK β H (es++[.tup [.val v,y]]) (ms++[m]) n:=by
 induction es generalizing ms n with
 | nil =>
  simp only [DenK] at h
  subst h
  simp only [List.nil_append,DenK]
  exact ⟨v,y,m,[],rfl,rfl,hm,hv,by simpa using hb,hy,rfl⟩
 | cons x es ih =>
  simp only [DenK] at h
  obtain ⟨key,y',m',q,rfl,rfl,h3,h4,h5,h6,h7⟩:=h
  simp only [List.cons_append,DenK]
  exact ⟨key,y',m',q++[m],rfl,rfl,h3,h4,h5,h6,ih h7 (by rw [hb];simp;omega)⟩
theorem DenK.set {es:List SV} {ms:List MapEntry} {n j:Nat} (h:DenK β H es ms n) {v:Value} {y:SV} {m m':MapEntry} (hj:ms[j]?=some m) (hm:m'.key=v) (hv:keyV v=true) (hb:m'.born=m.born) (hy:Den β H y m'.val):DenK β H (lset es j (.tup [.val v,y])) (ms.set j m') n:=by
 induction es generalizing ms n j with
 | nil =>
  simp only [DenK] at h
  subst h
  simp at hj
 | cons x es ih =>
  simp only [DenK] at h
  obtain ⟨key,y',m0,q,rfl,rfl,h3,h4,h5,h6,h7⟩:=h
  cases j with
  | zero =>
   simp only [List.getElem?_cons_zero,Option.some.injEq] at hj
   subst hj
   simp only [lset,List.set_cons_zero,DenK]
   exact ⟨v,y,m',q,rfl,rfl,hm,hv,by rw [hb,h5],hy,h7⟩
  | succ j =>
   simp only [lset,List.set_cons_succ,DenK]
   exact ⟨key,y',m0,_,rfl,rfl,h3,h4,h5,h6,ih h7 (by simpa using hj)⟩
theorem DenK.born {es:List SV} {ms:List MapEntry} {n:Nat} (h:DenK β H es ms n) {j:Nat} {m:MapEntry} (hj:ms[j]?=some m):m.born=n+j:=by
 induction es generalizing ms n j with
 | nil=>simp only [DenK] at h;subst h;simp at hj
 | cons x es ih =>
  simp only [DenK] at h
  obtain ⟨key,y',m0,q,rfl,rfl,h3,h4,h5,h6,h7⟩:=h
  cases j with
  | zero=>simp only [List.getElem?_cons_zero,Option.some.injEq] at hj;subst hj;simp [h5]
  | succ j=>have:=ih h7 (j:=j) (by simpa using hj);omega
theorem DenK.at_ {es:List SV} {ms:List MapEntry} {n:Nat} (h:DenK β H es ms n) {j:Nat} (hj:j<es.length):∃v y m,lget es j=.tup [.val v,y]∧ms[j]?=some m∧m.key=v∧keyV v=true∧Den β H y m.val:=by
 induction es generalizing ms n j with
 | nil=>simp at hj
 | cons x es ih =>
  simp only [DenK] at h
  obtain ⟨key,y',m0,q,rfl,rfl,h3,h4,h5,h6,h7⟩:=h
  cases j with
  | zero=>exact ⟨key,y',m0,rfl,rfl,h3,h4,h6⟩
  | succ j=>simpa [lget] using ih h7 (j:=j) (by simpa using hj)
theorem mp_at (hW:WOK C β H M w) {k:Nat} {e:Ent} {u:Value} (he:tget M k=some e) (hz:e.sz=0) (hu:Den β H (.mp k) u) :
  ∃d ms,β k=some (some d)∧(e.sz=0∧d.sz=1∧d.tot=0)∧u=.map (some d.b)∧w.heap[d.b]?=some (.map ms ms.size)∧DenK β H e.es ms.toList 0:=by
 simp only [Den] at hu
 obtain ⟨d,h1,h2,rfl⟩:=hu
 rcases hW.ents k e (tget_some he) with ⟨g1,_⟩ | ⟨d',cs,T,vs,g1,g2,_⟩ | ⟨d',ms,g1,g2,g3,g4⟩
 ·rw [h1] at g1;simp at g1
 ·rw [h1] at g1;simp only [Option.some.injEq] at g1;subst g1;omega
 ·rw [h1] at g1;simp only [Option.some.injEq] at g1;subst g1
  exact ⟨d,ms,h1,g2,rfl,g3,g4⟩
theorem two_den {β:Bnd} {H:Hp} {y:SV} {v:Value} (h:Den β H y v) (ok b:Bool):Den β H (two ok y b) (if ok then .tuple #[v,.bool b] else v):=by
 unfold two
 cases ok with
 | false=>simpa using h
 | true =>
  simp only [if_true,Den]
  refine ⟨[v,.bool b],rfl,?_⟩
  simp only [DenT,Den]
  exact ⟨v,_,rfl,h,_,_,rfl,⟨rfl,rfl⟩,rfl⟩
theorem run_findKey {kt:TypeId} {d:TypeDesc} {v:Value} {ms:List MapEntry} {r:Option (Nat × Value)} (hu:P.underlying kt=some d) (h:Instr.findNow d v ms 0=some r):(Instr.findKey kt v ms).run P w=.ok r w:=by
 simp [Instr.findKey,underlying,hu,h]
theorem evLookup_ok (hW:WOK C β H M w) {t:TypeId} {x i:Option SV} {ok:Bool} {u v:Value} {M':Tab} {pk:List Nat} {r:Option SV} (h:evLookup P M (tyOf P t) x i ok=.m c M' pk r) (hx:∀s,x=some s→Den β H s u) (hi:∀s,i=some s→Den β H s v) :
  pk=[]∧M'=M∧∃y z,r=some y∧(Instr.lookup t u v ok).run P w=.ok z w∧Den β H y z:=by
 unfold evLookup at h
 split at h
 ·rename_i kt et _ _ _ k v' hti
  obtain ⟨i0,d0,z0,ht⟩:=tyOf_spec hti
  obtain rfl:=tk_mp ht.k
  have hv:=hi _ rfl
  simp only [Den] at hv
  obtain ⟨rfl, -⟩:=hv
  unfold lkE at h
  split at h
  ·rename_i te e hte he
   obtain ⟨ie,de,ze,hye⟩:=tyOf_spec hte
   split at h
   ·rename_i hc
    obtain ⟨d,ms,g1,g2,rfl,g3,g4⟩:=mp_at hW he hc.1 (hx _ rfl)
    obtain ⟨k1,dk,k2,k3,k4⟩:=kfit_ok hc.2
    unfold lkR at h
    split at h
    ·rename_i j y hr
     simp only [MRes.m.injEq] at h
     obtain ⟨-,rfl,rfl,rfl⟩:=h
     rcases kfind_ok k3 g4 hr with ⟨e1, -⟩ | ⟨j',y',m,e1,e2,e3,e4,e5,e6,e7,e8⟩
     ·cases e1
     ·simp only [Option.some.injEq,Prod.mk.injEq] at e1
      obtain ⟨rfl,rfl⟩:=e1
      refine ⟨rfl,rfl,_,_,rfl,?_,two_den e8 ok true⟩
      simp only [Instr.lookup,Sem.run_bind,ht.runUnder,Result.andThen_ok,MapKept.run_getObj_map g3,Sem.run_pure,k4,run_findKey k2 e4]
    ·rename_i hr
     simp only [MRes.m.injEq] at h
     obtain ⟨-,rfl,rfl,rfl⟩:=h
     rcases kfind_ok k3 g4 hr with ⟨-,e1⟩ | ⟨j',y',m,e1,_⟩
     ·refine ⟨rfl,rfl,_,_,rfl,?_,two_den (zsv_is hye β H) ok false⟩
      simp only [Instr.lookup,Sem.run_bind,ht.runUnder,Result.andThen_ok,MapKept.run_getObj_map g3,Sem.run_pure,k4,run_findKey k2 e1,hye.runZero]
     ·cases e1
    ·cases h
   ·cases h
  ·cases h
 ·rename_i kt et _ _ _ v' hti
  obtain ⟨i0,d0,z0,ht⟩:=tyOf_spec hti
  obtain rfl:=tk_mp ht.k
  have hv:=hi _ rfl
  have hu:=hx _ rfl
  simp only [Den] at hv hu
  obtain ⟨rfl, -⟩:=hv
  obtain ⟨rfl, -⟩:=hu
  unfold lkN at h
  split at h
  ·rename_i te hte
   obtain ⟨ie,de,ze,hye⟩:=tyOf_spec hte
   split at h
   ·rename_i hc
    obtain ⟨k1,dk,k2,k3,k4⟩:=kfit_ok hc
    simp only [MRes.m.injEq] at h
    obtain ⟨-,rfl,rfl,rfl⟩:=h
    refine ⟨rfl,rfl,_,_,rfl,?_,two_den (zsv_is hye β H) ok false⟩
    simp only [Instr.lookup,Sem.run_bind,ht.runUnder,Result.andThen_ok,Sem.run_pure,k4,run_findKey k2 (show Instr.findNow dk _ [] 0=some none from rfl),hye.runZero]
   ·cases h
  ·cases h
 ·cases h
theorem wrM_of {b:Nat} {o:Obj} {ms:Array MapEntry} (hb:w.heap[b]?=some o):WrM w b ms { w with heap:=w.heap.setIfInBounds b (.map ms ms.size) } where
 os:=rfl
 tape:=rfl
 output:=rfl
 size:=by simp
 here:=by
  have:=heap_lt hb
  simp [this]
 there b' h:=by simp [Array.getElem?_setIfInBounds_ne (Ne.symm h)]
theorem sameBits_refl {v:Value} (h:keyV v=true) (n:Nat):Instr.sameBits n v v=true:=by
 cases v<;>simp [keyV] at h<;>cases n<;>simp [Instr.sameBits,str_beq]
theorem run_stays {v:Value} (h:keyV v=true):(Instr.keyThatStays v v).run P w=.ok v w:=by
 simp [Instr.keyThatStays,sameBits_refl h]
theorem evMapUpd_ok (hW:WOK C β H M w) {t:TypeId} {m i x:Option SV} {u v z:Value} {M':Tab} {pk:List Nat} {r:Option SV} (h:evMapUpd P M (tyOf P t) m i x=.m c M' pk r) (hm:∀s,m=some s→Den β H s u) (hi:∀s,i=some s→Den β H s v) (hx:∀s,x=some s→Den β H s z) :
  pk=[]∧r=none∧∃w',(Instr.mapUpdate t u v z).run P w=.ok () w'∧WOK C β H M' w'∧w'.heap.size=w.heap.size∧∀b,(∀k d,m=some (.mp k)→β k=some (some d)→b≠d.b)→w'.heap[b]?=w.heap[b]?:=by
 unfold evMapUpd at h
 split at h
 ·rename_i kt et _ _ _ k v' y hti
  obtain ⟨i0,d0,z0,ht⟩:=tyOf_spec hti
  obtain rfl:=tk_mp ht.k
  have hv:=hi _ rfl
  have hz:=hx _ rfl
  simp only [Den] at hv
  obtain ⟨rfl, -⟩:=hv
  unfold upE at h
  split at h
  ·rename_i e he
   split at h
   ·rename_i hc
    obtain ⟨d,ms,g1,g2,rfl,g3,g4⟩:=mp_at hW he hc.1 (hm _ rfl)
    obtain ⟨k1,dk,k2,k3,k4⟩:=kfit_ok hc.2.2
    unfold upR at h
    split at h
    ·rename_i j y0 hr
     simp only [MRes.m.injEq] at h
     obtain ⟨-,rfl,rfl,rfl⟩:=h
     rcases kfind_ok k3 g4 hr with ⟨e1, -⟩ | ⟨j',y',m',e1,e2,e3,e4,e5,e6,e7,e8⟩
     ·cases e1
     ·simp only [Option.some.injEq,Prod.mk.injEq] at e1
      obtain ⟨rfl,rfl⟩:=e1
      rw [Nat.sub_zero] at e5
      have e5':ms[j]?=some m':=by rw [←Array.getElem?_toList];exact e5
      have hjl:j<ms.size:=(Array.getElem?_eq_some_iff.1 e5').1
      have hmod:ms.modify j (fun e=>{ e with key:=v,val:=z })=ms.setIfInBounds j { m' with key:=v,val:=z }:=by
       apply Array.ext'
       simp only [Array.toList_modify,Array.toList_setIfInBounds]
       rw [modify_at _ e5]
      have hw:=wrM_of (w:=w) (b:=d.b) (ms:=ms.modify j (fun e=>{ e with key:=v,val:=z })) g3
      refine ⟨rfl,rfl,_,?_,?_,hw.size,fun b hb=>hw.there b (hb k d rfl g1)⟩
      ·simp only [Instr.mapUpdate,Sem.run_bind,ht.runUnder,Result.andThen_ok,MapKept.run_getObj_map g3,k4,run_findKey k2 e4,e5',Option.map_some,Option.getD_some,e6,run_stays k1]
       rw [MapKept.run_setObj_map _ g3]
       simp
      ·rw [tset_eq]
       have:=hW.writeMap (es:=lset e.es j (.tup [.val v,y])) (tget_some he) hc.2.1 g1 g2 hw (by
        rw [hmod,Array.toList_setIfInBounds]
        exact g4.set e5 rfl k1 rfl hz)
       rw [hc.1] at this
       exact this
    ·rename_i hr
     simp only [MRes.m.injEq] at h
     obtain ⟨-,rfl,rfl,rfl⟩:=h
     rcases kfind_ok k3 g4 hr with ⟨-,e1⟩ | ⟨j',y',m',e1,_⟩
     ·have hw:=wrM_of (w:=w) (b:=d.b) (ms:=ms.push { key:=v,val:=z,born:=ms.size }) g3
      refine ⟨rfl,rfl,_,?_,?_,hw.size,fun b hb=>hw.there b (hb k d rfl g1)⟩
      ·simp only [Instr.mapUpdate,Sem.run_bind,ht.runUnder,Result.andThen_ok,MapKept.run_getObj_map g3,k4,run_findKey k2 e1]
       rw [MapKept.run_setObj_map _ g3]
       simp
      ·rw [tset_eq]
       have hl:=g4.length
       simp only [Array.length_toList] at hl
       have:=hW.writeMap (es:=e.es++[.tup [.val v,y]]) (tget_some he) hc.2.1 g1 g2 hw (by
        rw [Array.toList_push]
        exact g4.append rfl k1 (by simp [hl]) hz)
       rw [hc.1] at this
       exact this
     ·cases e1
    ·cases h
   ·cases h
  ·cases h
 ·cases h
theorem evMapEntry_ok (hW:WOK C β H M w) {t:TypeId} {m i:Option SV} {u v:Value} {M':Tab} {pk:List Nat} {r:Option SV} (h:evMapEntry P M (tyOf P t) m i=.m c M' pk r) (hm:∀s,m=some s→Den β H s u) (hi:∀s,i=some s→Den β H s v) :
  pk=[]∧∃x z w',r=some x∧(Instr.mapEntry t u v).run P w=.ok z w'∧WOK C β H M' w'∧Den β H x z∧w'.heap.size=w.heap.size∧∀b,(∀k d,m=some (.mp k)→β k=some (some d)→b≠d.b)→w'.heap[b]?=w.heap[b]?:=by
 unfold evMapEntry at h
 split at h
 ·rename_i kt et _ _ _ k v' hti
  obtain ⟨i0,d0,z0,ht⟩:=tyOf_spec hti
  obtain rfl:=tk_mp ht.k
  have hv:=hi _ rfl
  simp only [Den] at hv
  obtain ⟨rfl, -⟩:=hv
  unfold enE at h
  split at h
  ·rename_i te e hte he
   obtain ⟨ie,de,ze,hye⟩:=tyOf_spec hte
   split at h
   ·rename_i hc
    obtain ⟨d,ms,g1,g2,rfl,g3,g4⟩:=mp_at hW he hc.1 (hm _ rfl)
    obtain ⟨k1,dk,k2,k3,k4⟩:=kfit_ok hc.2.2
    have hpair:∀{y:SV} {z:Value} {q:Nat},Den β H y z→Den β H (.tup [y,.val (.int .i64 (q:Nat))]) (.tuple #[z,goInt q]):=fun {y z q} hy=>by
     simp only [Den]
     refine ⟨[z,goInt q],rfl,?_⟩
     simp only [DenT,Den]
     exact ⟨z,_,rfl,hy,_,_,rfl,⟨rfl,rfl⟩,rfl⟩
    unfold enR at h
    split at h
    ·rename_i j y0 hr
     simp only [MRes.m.injEq] at h
     obtain ⟨-,rfl,rfl,rfl⟩:=h
     rcases kfind_ok k3 g4 hr with ⟨e1, -⟩ | ⟨j',y',m',e1,e2,e3,e4,e5,e6,e7,e8⟩
     ·cases e1
     ·simp only [Option.some.injEq,Prod.mk.injEq] at e1
      obtain ⟨rfl,rfl⟩:=e1
      rw [Nat.sub_zero] at e5 e7
      rw [Nat.zero_add] at e7
      have e5':ms[j]?=some m':=by rw [←Array.getElem?_toList];exact e5
      have hmod:ms.modify j (fun e=>{ e with key:=v })=ms:=by
       apply Array.ext'
       simp only [Array.toList_modify]
       rw [modify_at _ e5]
       apply List.ext_getElem?
       intro q
       by_cases hq:j=q
       ·subst hq
        have hjl:j<ms.toList.length:=(List.getElem?_eq_some_iff.1 e5).1
        show (ms.toList.set j _)[j]?=_
        rw [List.getElem?_set_self hjl,e5,←e6]
       ·show (ms.toList.set j _)[q]?=_
        rw [List.getElem?_set_ne hq]
      have hw:=wrM_of (w:=w) (b:=d.b) (ms:=ms) g3
      refine ⟨rfl,_,_,_,rfl,?_,?_,hpair e8,hw.size,fun b hb=>hw.there b (hb k d rfl g1)⟩
      ·simp only [Instr.mapEntry,Sem.run_bind,ht.runUnder,Result.andThen_ok,MapKept.run_getObj_map g3,k4,run_findKey k2 e4,e5',Option.map_some,Option.getD_some,e6,run_stays k1,hmod]
       rw [MapKept.run_setObj_map _ g3]
       simp [e7]
      ·have:=hW.writeMap (es:=e.es) (tget_some he) hc.2.1 g1 g2 hw g4
       have hM:M.set k (some ⟨e.sz,e.es,false⟩)=M:=by
        have he':=tget_some he
        apply List.ext_getElem?
        intro q
        by_cases hq:k=q
        ·subst hq
         rw [List.getElem?_set_self (List.getElem?_eq_some_iff.1 he').1,he']
         obtain ⟨a,b,f⟩:=e
         have:=hc.2.1
         simp only at this
         rw [this]
        ·rw [List.getElem?_set_ne hq]
       rw [hM] at this
       exact this
    ·rename_i hr
     simp only [MRes.m.injEq] at h
     obtain ⟨-,rfl,rfl,rfl⟩:=h
     rcases kfind_ok k3 g4 hr with ⟨-,e1⟩ | ⟨j',y',m',e1,_⟩
     ·have hw:=wrM_of (w:=w) (b:=d.b) (ms:=ms.push { key:=v,val:=ze,born:=ms.size }) g3
      have hl:=g4.length
      simp only [Array.length_toList] at hl
      have hzd:=zsv_is hye β H
      refine ⟨rfl,_,_,_,rfl,?_,?_,by rw [←hl];exact hpair hzd,hw.size,fun b hb=>hw.there b (hb k d rfl g1)⟩
      ·simp only [Instr.mapEntry,Sem.run_bind,ht.runUnder,Result.andThen_ok,MapKept.run_getObj_map g3,k4,run_findKey k2 e1,hye.runZero]
       rw [MapKept.run_setObj_map _ g3]
       simp
      ·rw [tset_eq]
       have:=hW.writeMap (es:=e.es++[.tup [.val v,te.zsv]]) (tget_some he) hc.2.1 g1 g2 hw (by
        rw [Array.toList_push]
        exact g4.append rfl k1 (by simp [hl]) hzd)
       rw [hc.1] at this
       exact this
     ·cases e1
    ·cases h
   ·cases h
  ·cases h
 ·cases h
theorem evEntryStore_ok (hW:WOK C β H M w) {t:TypeId} {m s x:Option SV} {u v z:Value} {M':Tab} {pk:List Nat} {r:Option SV} (h:evEntryStore M m s x=.m c M' pk r) (hc:c) (hm:∀s,m=some s→Den β H s u) (hi:∀q,s=some q→Den β H q v) (hx:∀s,x=some s→Den β H s z) :
  pk=[]∧r=none∧∃w',(Instr.entryStore t u v z).run P w=.ok () w'∧WOK C β H M' w'∧w'.heap.size=w.heap.size∧∀b,(∀k d,m=some (.mp k)→β k=some (some d)→b≠d.b)→w'.heap[b]?=w.heap[b]?:=by
 unfold evEntryStore at h
 split at h
 ·rename_i k kk n y
  have hv:=hi _ rfl
  have hz:=hx _ rfl
  simp only [Den] at hv
  obtain ⟨rfl, -⟩:=hv
  unfold esE at h
  split at h
  ·rename_i e he
   split at h
   ·rename_i hcc
    simp only [MRes.m.injEq] at h
    obtain ⟨rfl,rfl,rfl,rfl⟩:=h
    obtain ⟨c1,c2⟩:=hc
    obtain ⟨d,ms,g1,g2,rfl,g3,g4⟩:=mp_at hW he hcc.1 (hm _ rfl)
    obtain ⟨q,rfl⟩:∃q:Nat,n=q:=⟨n.toNat,by omega⟩
    simp only [Int.toNat_natCast] at *
    have hq:q<e.es.length:=by omega
    obtain ⟨v0,y0,m0,a1,a2,a3,a4,a5⟩:=g4.at_ hq
    have hl:=g4.length
    simp only [Array.length_toList] at hl
    have hfi:ms.findIdx? (fun e=>(e.born:Int)==(q:Int))=some q:=by
     rw [Array.findIdx?_eq_some_iff_getElem]
     refine ⟨by omega,?_,fun j hj=>?_⟩
     ·have hb:=g4.born a2
      have:ms[q]'(by omega)=m0:=by
       have:ms[q]?=some m0:=by rw [←Array.getElem?_toList];exact a2
       rw [Array.getElem?_eq_getElem (by omega)] at this
       exact Option.some.inj this
      rw [this,hb];simp
     ·have hjs:j<ms.size:=by omega
      have hb:=g4.born (j:=j) (m:=ms[j]) (by simp [hjs])
      rw [hb];simp;omega
    have hmod:ms.modify q (fun e=>{ e with val:=z })=ms.setIfInBounds q { m0 with val:=z }:=by
     apply Array.ext'
     simp only [Array.toList_modify,Array.toList_setIfInBounds]
     rw [modify_at _ a2]
    have hw:=wrM_of (w:=w) (b:=d.b) (ms:=ms.modify q (fun e=>{ e with val:=z })) g3
    refine ⟨trivial,trivial,_,?_,?_,hw.size,fun b hb=>hw.there b (hb k d rfl g1)⟩
    ·simp only [Instr.entryStore,Sem.run_bind,MapKept.run_getObj_map g3,Result.andThen_ok,asInt,asIntOf,Sem.run_pure,hfi]
     rw [MapKept.run_setObj_map _ g3]
     simp
    ·rw [tset_eq,a1]
     have:=hW.writeMap (es:=lset e.es q (.tup [.val v0,y])) (tget_some he) hcc.2 g1 g2 hw (by
      rw [hmod,Array.toList_setIfInBounds]
      exact g4.set a2 a3 a4 rfl hz)
     rw [hcc.1] at this
     exact this
   ·cases h
  ·cases h
 ·cases h
theorem evMapLen_ok (hW:WOK C β H M w) {t:TypeId} {ts:Array TypeId} {ty:TypeId} {x:Option SV} {u:Value} {M':Tab} {pk:List Nat} {r:Option SV} (h0:ts[0]?=some t) (h:evMapLen M (tyOf P t) x=.m c M' pk r) (hx:∀s,x=some s→Den β H s u) :
  pk=[]∧M'=M∧∃y z,r=some y∧(Builtin.len_ ts ty #[u]).run P w=.ok z w∧Den β H y z:=by
 unfold evMapLen at h
 split at h
 ·rename_i kt et _ _ _ k hti
  obtain ⟨i0,d0,z0,ht⟩:=tyOf_spec hti
  obtain rfl:=tk_mp ht.k
  unfold mlE at h
  split at h
  ·rename_i e he
   split at h
   ·rename_i hc
    simp only [MRes.m.injEq] at h
    obtain ⟨-,rfl,rfl,rfl⟩:=h
    obtain ⟨d,ms,g1,g2,rfl,g3,g4⟩:=mp_at hW he hc (hx _ rfl)
    have hl:=g4.length
    simp only [Array.length_toList] at hl
    refine ⟨rfl,rfl,_,goInt ms.size,rfl,?_,by rw [hl];exact den_val rfl⟩
    simp [Builtin.len_,h0,ht.runUnder,MapKept.run_getObj_map g3]
   ·cases h
  ·cases h
 ·rename_i kt et _ _ _ hti
  obtain ⟨i0,d0,z0,ht⟩:=tyOf_spec hti
  obtain rfl:=tk_mp ht.k
  have hu:=hx _ rfl
  simp only [Den] at hu
  obtain ⟨rfl, -⟩:=hu
  simp only [MRes.m.injEq] at h
  obtain ⟨-,rfl,rfl,rfl⟩:=h
  refine ⟨rfl,rfl,_,.int .i64 0,rfl,by simp [Builtin.len_,h0,ht.runUnder,goInt],?_⟩
  simp only [Den]
  exact ⟨trivial,rfl⟩
 ·cases h
theorem evMakeMap_ok (hW:WOK C β H M w) {t:TypeId} {o:Option Operand} {ρ:Operand→Value} {fr:List (Nat × SV)} (hρ:∀o s,ev fr o=some s→Den β H s (ρ o)) {M':Tab} {pk:List Nat} {r:Option SV} (h:evMakeMap M (tyOf P t) (o.map (ev fr))=.m c M' pk r) :
  pk=[]∧∃bd x,r=some x∧(Instr.makeMap t (o.map ρ)).run P w=.ok (.map (some w.heap.size)) (w.alloc (.map #[] 0))∧WOK C (β.upd M.length (some bd)) H M' (w.alloc (.map #[] 0))∧Den (β.upd M.length (some bd)) H x (.map (some w.heap.size)):=by
 have hden:Den (β.upd M.length (some ⟨w.heap.size,0,1⟩)) H (.mp M.length) (.map (some w.heap.size)):=by
  simp only [Den]
  exact ⟨_,by simp [Bnd.upd];rfl,rfl,rfl⟩
 unfold evMakeMap at h
 split at h
 ·rename_i kt et _ _ _ hti ho
  simp only [MRes.m.injEq] at h
  obtain ⟨-,rfl,rfl,rfl⟩:=h
  cases o with
  | some o=>cases ho
  | none=>exact ⟨rfl,_,_,rfl,by simp [Instr.makeMap,run_newObj,World.alloc_eq],hW.allocMap,hden⟩
 ·rename_i kt et _ _ _ k n hti ho
  obtain ⟨i0,d0,z0,ht⟩:=tyOf_spec hti
  obtain rfl:=tk_mp ht.k
  simp only [MRes.m.injEq] at h
  obtain ⟨-,rfl,rfl,rfl⟩:=h
  cases o with
  | none=>cases ho
  | some o =>
   simp only [Option.map_some,Option.some.injEq] at ho
   have:=hρ o _ ho
   simp only [Den] at this
   exact ⟨rfl,_,_,rfl,by simp [Instr.makeMap,ht.runUnder,asInt,asIntOf,run_newObj,World.alloc_eq,this.1],hW.allocMap,hden⟩
 ·cases h
end
end Go.Sv
namespace Go.Sv
open Go Go.RowKit
structure St where
 n:Nat
 fr:List (Nat × SV)
 M:Tab
abbrev Post:=Exit→St→Prop
def SIM (C:Ctx) (st:St) (a:Act) (w:World):Prop:=∃β H,FOK β H st.n st.fr a∧WOK C β H st.M w
def QQ (C:Ctx) (Q:Post):Exit→Act→World→Prop:=fun e a w=>∃st,Q e st∧SIM C st a w
def CodeJ (P:Program) (C:Ctx) (c:Code) (st:St) (Q:Post):Prop:=∀a w,SIM C st a w→c.wp P (QQ C Q) a w
def OpsJ (P:Program) (C:Ctx) (all:Array Oper) (ops:List Oper) (st:St) (Q:Post):Prop:=∀a w,SIM C st a w→wpList P all (QQ C Q) ops a w
mutual
def SV.ks:SV→List Nat
 | .ptr k _ _=>[k]
 | .view k _ _=>[k]
 | .agg l=>SV.ksL l
 | .tup l=>SV.ksL l
 | .ifc _ x=>x.ks
 | .fnv _ l r=>SV.ksL l++SV.ksL r
 | .mp k=>[k]
 | _=>[]
def SV.ksL:List SV→List Nat
 | []=>[]
 | x::l=>x.ks++SV.ksL l
end
def CallJ (P:Program) (C:Ctx) (f:FuncId) (args:List SV) (M:Tab) (W:Option (List Nat)) (K:Tab→List Nat→SV→Prop):Prop :=
 ∀β H w vals,DenT β H args vals→WOK C β H M w→Calls P f vals.toArray w fun e w' =>
  ∃β' H' M' v x pk,e=.returned v∧Den β' H' x v∧WOK C β' H' M' w'∧(∀k d,k∉pk→β k=some d→β' k=some d)∧(∀b cs,H b=some cs→H' b=some cs)∧K M' pk x ∧
  w.heap.size≤w'.heap.size∧∀ks,W=some ks→pk=[]∧∀b,b<w.heap.size→(∀k∈ks,∀d,β k=some (some d)→b≠d.b)→w'.heap[b]?=w.heap[b]?
def dok (d:Option Nat) (n:Nat):Prop:=match d with
 | some t=>t<n
 | none=>True
def putO (d:Option Nat) (x:Option SV) (fr:List (Nat × SV)):List (Nat × SV) :=
 match d,x with
 | some t,some x=>(t,x)::fr
 | some t,none=>del fr t
 | none,_=>fr
def callOK (P:Program) (f:FuncId):Prop:=∀(args:Array Value) (w:World),(callFunc f args).run P w=.ok (.enter f args) w
def forget (pk:List Nat):List (Nat × SV)→List (Nat × SV)
 | []=>[]
 | (t,x)::r=>if (pk.all fun k=>!x.uses k)=true then (t,x)::forget pk r else del (forget pk r) t
theorem get_forget {pk:List Nat}:∀{fr:List (Nat × SV)} {t:Nat} {x:SV},get (forget pk fr) t=some x→get fr t=some x∧∀k∈pk,x.uses k=false
 | [],t,x,h=>by simp [forget,get] at h
 | (s,y)::r,t,x,h=>by
  simp only [forget] at h
  split at h
  ·rename_i hall
   simp only [get] at h ⊢
   split at h
   ·rename_i e
    simp only [Option.some.injEq] at h
    subst h
    refine ⟨by simp [e],fun k hk=>?_⟩
    simp only [List.all_eq_true] at hall
    simpa using hall k hk
   ·rename_i e
    obtain ⟨h1,h2⟩:=get_forget h
    exact ⟨by rw [if_neg e];exact h1,h2⟩
  ·obtain ⟨e,h⟩:=get_del_ne h
   obtain ⟨h1,h2⟩:=get_forget h
   exact ⟨by simp only [get];rw [if_neg (Ne.symm e)];exact h1,h2⟩
theorem FOK.forget {β β':Bnd} {H H':Hp} {n:Nat} {fr:List (Nat × SV)} {a:Act} (hF:FOK β H n fr a) {pk:List Nat} (hb:∀k d,k∉pk→β k=some d→β' k=some d) (hH:∀b cs,H b=some cs→H' b=some cs) :
  FOK β' H' n (Sv.forget pk fr) a:=by
 refine ⟨⟨hF.1.1,hF.1.2.mono hH⟩,hF.2.1,fun t x hg=>?_⟩
 obtain ⟨g1,g2⟩:=get_forget hg
 obtain ⟨v,hv,hden⟩:=hF.2.2 t x g1
 exact ⟨v,hv,Den.mono hH x v (fun j d hj hjd=>hb j d (fun e=>by rw [g2 j e] at hj;cases hj) hjd) hden⟩
def evM (P:Program) (fx:List Nat) (M:Tab) (fr:List (Nat × SV)) (o:Op):MRes :=
 match o with
 | .store t x y=>evStore M (tyOf P t) (ev fr x) (ev fr y)
 | .alloc t=>evAlloc M (tyOf P t)
 | .box t x=>evBox M (tyOf P t) (ev fr x)
 | .buildSlice t len parts=>evBuildSlice P M (tyOf P t) len (parts.toList.map fun p=>(p.1,ev fr p.2))
 | .makeSlice t l c=>evMakeSlice P M (tyOf P t) (ev fr l) (ev fr c)
 | .call ⟨.builtin .append,args,ts⟩ =>
  match args.toList with
  | [b,x]=>evAppend P fx M ((ts[0]?).bind (tyOf P)) ((ts[1]?).bind (tyOf P)) (ev fr b) (ev fr x)
  | _=>.stuck
 | .call ⟨.builtin .copy,args,ts⟩ =>
  match args.toList with
  | [b,x]=>evCopy P M ((ts[0]?).bind (tyOf P)) (ev fr b) (ev fr x)
  | _=>.stuck
 | .lookup t x i ok=>evLookup P M (tyOf P t) (ev fr x) (ev fr i) ok
 | .mapUpdate t m i x=>evMapUpd P M (tyOf P t) (ev fr m) (ev fr i) (ev fr x)
 | .insert t m i x=>evMapUpd P M (tyOf P t) (ev fr m) (ev fr i) (ev fr x)
 | .mapEntry t m i=>evMapEntry P M (tyOf P t) (ev fr m) (ev fr i)
 | .entryStore _ m s x=>evEntryStore M (ev fr m) (ev fr s) (ev fr x)
 | .makeMap t n=>evMakeMap M (tyOf P t) (n.map (ev fr))
 | .call ⟨.builtin .len,args,ts⟩ =>
  match args.toList with
  | [x]=>evMapLen M ((ts[0]?).bind (tyOf P)) (ev fr x)
  | _=>.stuck
 | _=>.stuck
def vcOp (P:Program) (C:Ctx) (W:Option (List Nat)) (o:Oper) (st:St) (next nextJ:St→Prop):Prop :=
 match evQ P st.M st.fr o.op with
 | .q c x=>c∧dok o.dst st.n∧next ⟨st.n,putO o.dst (some x) st.fr,st.M⟩
 | _ =>
  match evM P C.fx st.M st.fr o.op with
  | .m c M' pk x=>c∧dok o.dst st.n∧next ⟨st.n,putO o.dst x (forget pk st.fr),M'⟩
  | .stuck =>
   match o.op with
   | .call ⟨.value (.func f),args,_⟩ =>
    match evs st.fr args.toList with
    | some xs=>callOK P f∧dok o.dst st.n∧CallJ P C f xs st.M W fun M' pk x=>nextJ ⟨st.n,putO o.dst (some x) (forget pk st.fr),M'⟩
    | none=>False
   | .call ⟨.value (.tmp t),args,_⟩ =>
    match get st.fr t,evs st.fr args.toList with
    | some (.fnv f l r),some xs=>callOK P f∧dok o.dst st.n∧CallJ P C f (l++xs++r) st.M W fun M' pk x=>nextJ ⟨st.n,putO o.dst (some x) (forget pk st.fr),M'⟩
    | _,_=>False
   | _=>False
def gslot (all:Array Oper) (j:Nat):Option Nat:=(all[j]?).bind (·.dst)
def skipO (n:Nat) (d:Option Nat) (fr:List (Nat × SV)):List (Nat × SV) :=
 match d with
 | some t=>if t<n then (t,.tup [])::fr else del fr t
 | none=>fr
theorem FOK.skipO {β:Bnd} {H:Hp} {n:Nat} {fr:List (Nat × SV)} {a:Act} (h:FOK β H n fr a) (d:Option Nat):FOK β H n (Sv.skipO n d fr) (a.put d undef):=by
 cases d with
 | none=>exact h
 | some t =>
  simp only [Sv.skipO]
  split
  ·rename_i ht
   exact h.put ht (by simp only [Den];exact ⟨[],rfl,by simp only [DenT]⟩)
  ·exact h.skip t undef
theorem den_tup0 {β:Bnd} {H:Hp} {v:Value} (h:Den β H (.tup []) v):v=.tuple #[]:=by
 simp only [Den,DenT] at h
 obtain ⟨vs,h1,h2⟩:=h
 subst h2;exact h1
def vcOps (P:Program) (C:Ctx) (all:Array Oper):List Oper→St→Post→Post→Prop
 | [],st,Q,_=>Q .normal st
 | o::rest,st,Q,QJ =>
  match o.guard with
  | none=>vcOp P C none o st (fun st'=>vcOps P C all rest st' Q QJ) (fun st'=>vcOps P C all rest st' QJ QJ)
  | some (j,b) =>
   match gslot all j with
   | some t =>
    match get st.fr t with
    | some (.val (.bool c)) =>
     (c=b→vcOp P C none o ⟨st.n,(t,.val (.bool b))::st.fr,st.M⟩ (fun st'=>vcOps P C all rest st' Q QJ) (fun st'=>vcOps P C all rest st' QJ QJ)) ∧
     (c=!b→vcOps P C all rest ⟨st.n,skipO st.n o.dst ((t,.val (.bool (!b)))::st.fr),st.M⟩ Q QJ)
    | some (.tup [])=>vcOps P C all rest ⟨st.n,skipO st.n o.dst st.fr,st.M⟩ Q QJ
    | _=>False
   | none=>False
theorem FOK.putO {β:Bnd} {H:Hp} {n:Nat} {fr:List (Nat × SV)} {a:Act} (h:FOK β H n fr a) {d:Option Nat} {x:SV} {v:Value} (ht:dok d n) (hx:Den β H x v) :
  FOK β H n (putO d (some x) fr) (a.put d v):=by
 cases d with
 | none=>exact h
 | some t=>exact h.put ht hx
theorem FOK.putN {β:Bnd} {H:Hp} {n:Nat} {fr:List (Nat × SV)} {a:Act} (h:FOK β H n fr a) (d:Option Nat) (v:Value) :
  FOK β H n (Sv.putO d none fr) (a.put d v):=by
 cases d with
 | none=>exact h
 | some t=>exact h.skip t v
theorem forget_nil (fr:List (Nat × SV)):forget [] fr=fr:=by
 induction fr with
 | nil=>rfl
 | cons p r ih=>obtain ⟨t,x⟩:=p;simp [forget,ih]
def mpK (x:Option SV):List Nat:=match x with
 | some (.mp k)=>[k]
 | _=>[]
def wrK (fr:List (Nat × SV)) (o:Op):List Nat :=
 match o with
 | .store _ x _=>match ev fr x with
  | some (.ptr k _ _)=>[k]
  | _=>[]
 | .call ⟨.builtin .append,args,_⟩=>match args.toList with
  | [b,_]=>match ev fr b with
   | some (.view k _ _)=>[k]
   | _=>[]
  | _=>[]
 | .call ⟨.builtin .copy,args,_⟩=>match args.toList with
  | [b,_]=>match ev fr b with
   | some (.view k _ _)=>[k]
   | _=>[]
  | _=>[]
 | .mapUpdate _ m _ _=>mpK (ev fr m)
 | .insert _ m _ _=>mpK (ev fr m)
 | .mapEntry _ m _=>mpK (ev fr m)
 | .entryStore _ m _ _=>mpK (ev fr m)
 | _=>[]
theorem evM_ok {P:Program} {C:Ctx} {β:Bnd} {H:Hp} {M:Tab} {w:World} (hW:WOK C β H M w) {n:Nat} {fr:List (Nat × SV)} {a:Act} (hF:FOK β H n fr a) {o:Oper} {c:Prop} {M':Tab} {pk:List Nat} {x:Option SV}
  (h:evM P C.fx M fr o.op=.m c M' pk x) (hc:c) (hd:dok o.dst n) :
  ∃nx v w' β',(execOp a.eval o).run P w=.ok nx w'∧(nx=.value v∨(nx=.skip∧v=undef))∧WOK C β' H M' w'∧FOK β' H n (putO o.dst x (forget pk fr)) (a.put o.dst v) ∧
   (∀j d,j∉pk→β j=some d→β' j=some d)∧w.heap.size≤w'.heap.size∧∀b,b<w.heap.size→(∀k∈wrK fr o.op,∀d,β k=some (some d)→b≠d.b)→w'.heap[b]?=w.heap[b]?:=by
 have hρ:=fun o=>fOK_den hF o
 obtain ⟨dst,op,type,pos,after,guard⟩:=o
 simp only at h hd ⊢
 have new:∀{x:SV} {z:Value} {o:Obj} {bd:Bd} {s:Sem Value} {ks:List Nat},pk=[]→s.run P w=.ok z (w.alloc o)→WOK C (β.upd M.length (some bd)) H M' (w.alloc o)→Den (β.upd M.length (some bd)) H x z →
   ∃nx v w' β',(do pure (Next.value (←s)):Sem Next).run P w=.ok nx w'∧(nx=.value v∨(nx=.skip∧v=undef))∧WOK C β' H M' w'∧FOK β' H n (putO dst (some x) (forget pk fr)) (a.put dst v) ∧
   (∀j d,j∉pk→β j=some d→β' j=some d)∧w.heap.size≤w'.heap.size∧∀b,b<w.heap.size→(∀k∈ks,∀d,β k=some (some d)→b≠d.b)→w'.heap[b]?=w.heap[b]?:=fun {x z o bd s ks} hpk hs hw' hx=>by
  subst hpk
  refine ⟨.value z,z,_,_,by simp [hs],.inl rfl,hw',?_,fun j d _ hj=>upd_old hW _ j d hj,by simp,fun b hb _=>heap_alloc_old hb⟩
  rw [forget_nil]
  exact (hF.mono (upd_old hW _) (fun _ _ h=>h)).putO hd hx
 unfold evM at h
 split at h
 ·rename_i t x' y
  obtain ⟨rfl,rfl,w',h1,h2,h3,h4⟩:=evStore_ok (P:=P) hW h hc (hρ x') (hρ y)
  refine ⟨.skip,undef,w',β,by simp [execOp,h1],.inr ⟨rfl,rfl⟩,h2,?_,fun _ _ _ h=>h,by rw [h3];exact Nat.le_refl _,fun b hb hk=>h4 b (fun k i j d he=>hk k (by simp [wrK,he]) d)⟩
  rw [forget_nil]
  exact hF.putN dst undef
 ·rename_i t
  obtain ⟨hp,y,d,rfl,h1,bd,h2,h3⟩:=evAlloc_ok hW h
  simp only [execOp]
  exact new hp h1 h2 h3
 ·rename_i t x'
  obtain ⟨hp,y,d,rfl,h1,bd,h2,h3⟩:=evBox_ok hW h hc (hρ x')
  simp only [execOp]
  exact new hp h1 h2 h3
 ·rename_i t len parts
  obtain ⟨hp,y,d,T,rfl,h1,bd,h2,h3⟩:=evBuildSlice_ok hW hρ h
  simp only [execOp]
  exact new hp h1 h2 h3
 ·rename_i t l cp
  obtain ⟨hp,y,d,T,z,rfl,h1,bd,h2,h3⟩:=evMakeSlice_ok hW h hc (hρ l) (hρ cp)
  simp only [execOp]
  exact new hp h1 h2 h3
 ·rename_i args ts
  split at h
  ·rename_i b x' hargs
   obtain ⟨k,y,z,w',β',rfl,rfl,h1,h2,h3,h4,h5,h6⟩:=evAppend_ok (ty:=type) hW h hc (hρ b) (hρ x')
   have harg:args=#[b,x']:=by apply Array.ext';simpa using hargs
   subst harg
   have hkw:∀j,[k]=[j]→∀d,β j=some (some d)→j∈wrK fr (.call ⟨.builtin .append,#[b,x'],ts⟩):=fun j hj d hd=>by
    simp only [List.cons.injEq,and_true] at hj
    subst hj
    unfold evAppend evAppend0 at h
    split at h
    ·rename_i hb
     split at h
     ·split at h
      ·simp only [MRes.m.injEq,List.cons.injEq,and_true] at h
       simp [wrK,hb,h.2.2.1]
      ·cases h
     ·cases h
    ·split at h
     ·split at h
      ·simp only [MRes.m.injEq,List.cons.injEq,and_true] at h
       rw [←h.2.2.1,fgtO_len,hW.fresh _ (Nat.le_refl _)] at hd;cases hd
      ·cases h
     ·cases h
    ·cases h
   refine ⟨.value z,z,w',β',?_,.inl rfl,h2,?_,fun j d hj=>h4 j d (by simpa using hj),h5,fun c' hc' hk=>h6 c' hc' (fun d hd=>hk k (hkw k rfl d hd) d hd)⟩
   ·simp only [execOp,resolve,Sem.run_bind,Sem.run_pure,Result.andThen_ok,invoke,builtin]
    simp [h1]
   ·refine FOK.putO ?_ hd h3
    refine ⟨hF.1,hF.2.1,fun t x hg=>?_⟩
    obtain ⟨g1,g2⟩:=get_forget hg
    obtain ⟨v,hv,hden⟩:=hF.2.2 t x g1
    exact ⟨v,hv,Den.mono (fun _ _ h=>h) x v (fun j d hj hjd=>h4 j d (fun e=>by subst e;rw [g2 j (by simp)] at hj;cases hj) hjd) hden⟩
  ·cases h
 ·rename_i args ts
  split at h
  ·rename_i b x' hargs
   obtain ⟨k,i0,n0,y,z,w',rfl,hbk,rfl,h1,h2,h3,h4,h5⟩:=evCopy_ok (ty:=type) hW h hc (hρ b) (hρ x')
   have harg:args=#[b,x']:=by apply Array.ext';simpa using hargs
   subst harg
   refine ⟨.value z,z,w',β,?_,.inl rfl,h2,?_,fun _ _ _ h=>h,by rw [h4];exact Nat.le_refl _,fun c' hc' hk=>h5 c' hc' (fun d hd=>hk k (by simp [wrK,hbk]) d hd)⟩
   ·simp only [execOp,resolve,Sem.run_bind,Sem.run_pure,Result.andThen_ok,invoke,builtin]
    simp [h1]
   ·rw [forget_nil];exact hF.putO hd h3
  ·cases h
 ·rename_i t x i ok
  obtain ⟨rfl,rfl,y,z,rfl,h1,h2⟩:=evLookup_ok hW h (hρ x) (hρ i)
  refine ⟨.value z,z,w,β,by simp [execOp,h1],.inl rfl,hW,?_,fun _ _ _ h=>h,Nat.le_refl _,fun _ _ _=>rfl⟩
  rw [forget_nil];exact hF.putO hd h2
 ·rename_i t m i x
  obtain ⟨rfl,rfl,w',h1,h2,h3,h4⟩:=evMapUpd_ok hW h (hρ m) (hρ i) (hρ x)
  refine ⟨.skip,undef,w',β,by simp [execOp,h1],.inr ⟨rfl,rfl⟩,h2,?_,fun _ _ _ h=>h,by rw [h3];exact Nat.le_refl _,fun b hb hk=>h4 b (fun k d he=>hk k (by simp [wrK,mpK,he]) d)⟩
  rw [forget_nil];exact hF.putN dst undef
 ·rename_i t m i x
  obtain ⟨rfl,rfl,w',h1,h2,h3,h4⟩:=evMapUpd_ok hW h (hρ m) (hρ i) (hρ x)
  refine ⟨.skip,undef,w',β,by simp [execOp,h1],.inr ⟨rfl,rfl⟩,h2,?_,fun _ _ _ h=>h,by rw [h3];exact Nat.le_refl _,fun b hb hk=>h4 b (fun k d he=>hk k (by simp [wrK,mpK,he]) d)⟩
  rw [forget_nil];exact hF.putN dst undef
 ·rename_i t m i
  obtain ⟨rfl,y,z,w',rfl,h1,h2,h3,h4,h5⟩:=evMapEntry_ok hW h (hρ m) (hρ i)
  refine ⟨.value z,z,w',β,by simp [execOp,h1],.inl rfl,h2,?_,fun _ _ _ h=>h,by rw [h4];exact Nat.le_refl _,fun b hb hk=>h5 b (fun k d he=>hk k (by simp [wrK,mpK,he]) d)⟩
  rw [forget_nil];exact hF.putO hd h3
 ·rename_i t m s x
  obtain ⟨rfl,rfl,w',h1,h2,h3,h4⟩:=evEntryStore_ok (P:=P) (t:=t) hW h hc (hρ m) (hρ s) (hρ x)
  refine ⟨.skip,undef,w',β,by simp [execOp,h1],.inr ⟨rfl,rfl⟩,h2,?_,fun _ _ _ h=>h,by rw [h3];exact Nat.le_refl _,fun b hb hk=>h4 b (fun k d he=>hk k (by simp [wrK,mpK,he]) d)⟩
  rw [forget_nil];exact hF.putN dst undef
 ·rename_i t o
  obtain ⟨hp,bd,x,rfl,h1,h2,h3⟩:=evMakeMap_ok (P:=P) hW hρ h
  simp only [execOp]
  exact new hp h1 h2 h3
 ·rename_i args ts
  split at h
  ·rename_i x hargs
   have harg:args=#[x]:=by apply Array.ext';simpa using hargs
   subst harg
   cases ht0:ts[0]? with
   | none=>rw [ht0] at h;simp [evMapLen] at h
   | some t0 =>
    rw [ht0] at h
    obtain ⟨rfl,rfl,y,z,rfl,h1,h2⟩:=evMapLen_ok (ty:=type) hW ht0 h (hρ x)
    refine ⟨.value z,z,w,β,?_,.inl rfl,hW,?_,fun _ _ _ h=>h,Nat.le_refl _,fun _ _ _=>rfl⟩
    ·simp only [execOp,resolve,Sem.run_bind,Sem.run_pure,Result.andThen_ok,invoke,builtin]
     simp [h1]
    ·rw [forget_nil];exact hF.putO hd h2
  ·cases h
 ·cases h
theorem denT_append {β:Bnd} {H:Hp}:∀{l l':List SV} {vs vs':List Value},DenT β H l vs→DenT β H l' vs'→DenT β H (l++l') (vs++vs')
 | [],l',vs,vs',h,h'=>by simp only [DenT] at h;simpa [h] using h'
 | x::l,l',vs,vs',h,h'=>by
  simp only [DenT] at h
  obtain ⟨v,r,rfl,h1,h2⟩:=h
  simp only [List.cons_append,DenT]
  exact ⟨v,r++vs',rfl,h1,denT_append h2 h'⟩
theorem vcOp_ok {P:Program} {C:Ctx} {all:Array Oper} {rest:List Oper} {o:Oper} {st:St} {QJ:Post} {next nextJ:St→Prop} (hn:∀st',next st'→OpsJ P C all rest st' QJ)
  (hnJ:∀st',nextJ st'→OpsJ P C all rest st' QJ) (h:vcOp P C none o st next nextJ) {a:Act} {w:World} (hs:SIM C st a w):o.wp P a w (wpList P all (QQ C QJ) rest) (QQ C QJ):=by
 obtain ⟨β,H,hF,hW⟩:=hs
 unfold vcOp at h
 split at h
 ·rename_i c x hq
  obtain ⟨hc,hd,hnx⟩:=h
  obtain ⟨v,h1,h2⟩:=evQ_ok hW hF hq hc
  simp only [Oper.wp,h1,Oper.upon]
  exact hn _ hnx _ _ ⟨β,H,hF.putO hd h2,hW⟩
 ·split at h
  ·rename_i c M' pk x hm
   obtain ⟨hc,hd,hnx⟩:=h
   obtain ⟨nx,v,w',β',h1,h2,h3,h4, -, -, -⟩:=evM_ok hW hF hm hc hd
   simp only [Oper.wp,h1]
   rcases h2 with rfl | ⟨rfl,rfl⟩
   ·simp only [Oper.upon];exact hn _ hnx _ _ ⟨β',H,h4,h3⟩
   ·simp only [Oper.upon];exact hn _ hnx _ _ ⟨β',H,h4,h3⟩
  ·split at h
   ·rename_i f args ts hop
    split at h
    ·rename_i xs hxs
     obtain ⟨hf,hd,hcall⟩:=h
     have hrun:(execOp a.eval o).run P w=.ok (.enter f (args.map a.eval)) w:=by
      obtain ⟨dst,op,type,pos,after,guard⟩:=o
      simp only at hop
      subst hop
      simp only [execOp,resolve,Act.eval,Deferred.ofValue,Sem.run_bind,Sem.run_pure,Result.andThen_ok,invoke]
      simpa using hf (args.map a.eval) w
     simp only [Oper.wp,hrun,Oper.upon]
     have hvals:=evs_den hF _ _ hxs
     have:=hcall β H w _ hvals hW
     rw [show (args.toList.map a.eval).toArray=args.map a.eval from by apply Array.ext';simp] at this
     refine Calls.mono this ?_
     rintro e w' ⟨β',H',M',v,x,pk,rfl,g1,g2,g3,g4,g5, -⟩
     exact hnJ _ g5 _ _ ⟨β',H',(hF.forget g3 g4).putO hd g1,g2⟩
    ·exact h.elim
   ·rename_i t args ts hop
    split at h
    ·rename_i f l r xs hfn hxs
     obtain ⟨hf,hd,hcall⟩:=h
     obtain ⟨vf,hv,hden⟩:=hF.2.2 t _ hfn
     simp only [Den] at hden
     obtain ⟨vl,vr,rfl,hdl,hdr⟩:=hden
     have hgv:a.eval (.tmp t)=.func (.func f) vl.toArray vr.toArray:=by
      simp only [Act.eval,Array.getD_eq_getD_getElem?,hv];rfl
     have hrun:(execOp a.eval o).run P w=.ok (.enter f (vl.toArray++args.map a.eval++vr.toArray)) w:=by
      obtain ⟨dst,op,type,pos,after,guard⟩:=o
      simp only at hop
      subst hop
      simp only [execOp,resolve,hgv,Deferred.ofValue,Sem.run_bind,Sem.run_pure,Result.andThen_ok,invoke]
      simpa using hf (vl.toArray++args.map a.eval++vr.toArray) w
     simp only [Oper.wp,hrun,Oper.upon]
     have hvals:=denT_append (denT_append hdl (evs_den hF _ _ hxs)) hdr
     have:=hcall β H w _ hvals hW
     rw [show (vl++args.toList.map a.eval++vr).toArray=vl.toArray++args.map a.eval++vr.toArray from by apply Array.ext';simp] at this
     refine Calls.mono this ?_
     rintro e w' ⟨β',H',M',v,x,pk,rfl,g1,g2,g3,g4,g5, -⟩
     exact hnJ _ g5 _ _ ⟨β',H',(hF.forget g3 g4).putO hd g1,g2⟩
    ·exact h.elim
   ·exact h.elim
theorem vcOps_ok {P:Program} {C:Ctx} {all:Array Oper}:∀(ops:List Oper) (st:St) {Q QJ R:Post},(∀e st,Q e st→R e st)→(∀e st,QJ e st→R e st)→vcOps P C all ops st Q QJ→OpsJ P C all ops st R
 | [],st,Q,QJ,R,hQ,hJ,h=>fun a w hs=>wpList_nil ⟨st,hQ _ _ h,hs⟩
 | o::rest,st,Q,QJ,R,hQ,hJ,h=>fun a w hs=>by
  simp only [vcOps] at h
  split at h
  ·rename_i hg
   unfold wpList
   rw [if_pos (by simp [Region.wanted,hg])]
   exact .inl (vcOp_ok (fun st' h'=>vcOps_ok rest st' hQ hJ h') (fun st' h'=>vcOps_ok rest st' hJ hJ h') h hs)
  ·rename_i j b hg
   split at h
   ·rename_i t ht
    split at h
    ·rename_i c hc
     obtain ⟨β,H,hF,hW⟩:=hs
     obtain ⟨v,hv,hden⟩:=hF.2.2 t _ hc
     simp only [Den] at hden
     obtain ⟨rfl, -⟩:=hden
     have hy:yielded all a.tmps j=some c:=by
      unfold yielded
      simp only [gslot] at ht
      rw [ht]
      simp [hv]
     have hsub:∀b',c=b'→FOK β H st.n ((t,.val (.bool b'))::st.fr) a:=fun b' hb=>by
      subst hb
      refine hF.sub fun t' x' hg'=>?_
      simp only [get] at hg'
      split at hg'
      ·rename_i e;subst e;simp only [Option.some.injEq] at hg';subst hg';exact hc
      ·exact hg'
     unfold wpList
     by_cases hcb:c=b
     ·rw [if_pos (by simp [Region.wanted,hg,hy,hcb])]
      exact .inl (vcOp_ok (fun st' h'=>vcOps_ok rest st' hQ hJ h') (fun st' h'=>vcOps_ok rest st' hJ hJ h') (h.1 hcb) ⟨β,H,hsub b hcb,hW⟩)
     ·rw [if_neg (by simp [Region.wanted,hg,hy,hcb])]
      have hcb':c=!b:=by cases c<;>cases b<;>simp_all
      exact vcOps_ok rest _ hQ hJ (h.2 hcb') _ _ ⟨β,H,(hsub _ hcb').skipO o.dst,hW⟩
    ·rename_i hc
     obtain ⟨β,H,hF,hW⟩:=hs
     obtain ⟨v,hv,hden⟩:=hF.2.2 t _ hc
     obtain rfl:=den_tup0 hden
     have hy:yielded all a.tmps j=none:=by
      unfold yielded
      simp only [gslot] at ht
      rw [ht]
      simp [hv]
     unfold wpList
     rw [if_neg (by simp [Region.wanted,hg,hy])]
     exact vcOps_ok rest _ hQ hJ h _ _ ⟨β,H,hF.skipO o.dst,hW⟩
    ·exact h.elim
   ·exact h.elim
def blk (id:Nat) (Q:Post):Post:=fun e st=>match e with
 | .exit id'=>if id'=id then Q .normal st else Q (.exit id') st
 | e=>Q e st
def thn (Q1:St→Prop) (Q:Post):Post:=fun e st=>match e with
 | .normal=>Q1 st
 | e=>Q e st
def vc (P:Program) (C:Ctx):Code→St→Post→Post→Prop
 | .skip,st,Q,_=>Q .normal st
 | .seq x y,st,Q,QJ=>vc P C x st (thn (fun st'=>vc P C y st' Q QJ) Q) (thn (fun st'=>vc P C y st' QJ QJ) QJ)
 | .cond c x y,st,Q,QJ =>
  match ev st.fr c with
  | some (.val (.bool b))=>(b=true→vc P C x st Q QJ)∧(b=false→vc P C y st Q QJ)
  | _=>False
 | .block id c,st,Q,QJ=>vc P C c st (blk id Q) (blk id QJ)
 | .exit id,st,Q,_=>Q (.exit id) st
 | .ret,st,Q,_=>Q .ret st
 | .region _ ops false,st,Q,QJ=>vcOps P C ops ops.toList st Q QJ
 | c,st,_,QJ=>CodeJ P C c st QJ
theorem QQ_mono {C:Ctx} {Q Q':Post} (h:∀e st,Q e st→Q' e st):∀e a w,QQ C Q e a w→QQ C Q' e a w:=fun e _ _ ⟨st,h1,h2⟩=>⟨st,h e st h1,h2⟩
theorem CodeJ.mono {P:Program} {C:Ctx} {c:Code} {st:St} {Q Q':Post} (h:CodeJ P C c st Q) (hq:∀e st,Q e st→Q' e st):CodeJ P C c st Q' :=
 fun a w hs=>wp_mono (h a w hs) (QQ_mono hq)
theorem blk_mono {id:Nat} {Q R:Post} (h:∀e st,Q e st→R e st):∀e st,blk id Q e st→blk id R e st:=fun e st h'=>by
 cases e<;>simp only [blk] at h' ⊢<;>first | exact h _ _ h' | (split at h'<;>rename_i e<;>first | (rw [if_pos e];exact h _ _ h') | (rw [if_neg e];exact h _ _ h'))
theorem vc_ok {P:Program} {C:Ctx}:∀(c:Code) (st:St) {Q QJ R:Post},(∀e st,Q e st→R e st)→(∀e st,QJ e st→R e st)→vc P C c st Q QJ→CodeJ P C c st R
 | .skip,st,Q,QJ,R,hQ,hJ,h=>fun a w hs=>wp_skip ⟨st,hQ _ _ h,hs⟩
 | .seq x y,st,Q,QJ,R,hQ,hJ,h=>by
  have h1:=vc_ok x st (R:=thn (fun st'=>CodeJ P C y st' R) R) (fun e st' h'=>by
   cases e<;>simp only [thn] at h' ⊢<;>first | exact hQ _ _ h' | exact vc_ok y st' hQ hJ h') (fun e st' h'=>by
   cases e<;>simp only [thn] at h' ⊢<;>first | exact hJ _ _ h' | exact vc_ok y st' hJ hJ h') h
  intro a w hs
  refine wp_seq (wp_mono (h1 a w hs) ?_)
  rintro e a' w' ⟨st',h2,h3⟩
  cases e<;>simp only [thn,Exit.then] at h2 ⊢<;>first | exact h2 a' w' h3 | exact ⟨st',h2,h3⟩
 | .cond c x y,st,Q,QJ,R,hQ,hJ,h=>by
  simp only [vc] at h
  split at h
  ·rename_i b hb
   rintro a w ⟨β,H,hF,hW⟩
   have hden:=ev_den hF hb
   simp only [Den] at hden
   refine wp_cond_split hden.1 (fun ht=>vc_ok x st hQ hJ (h.1 ht) a w ⟨β,H,hF,hW⟩) (fun hf=>vc_ok y st hQ hJ (h.2 hf) a w ⟨β,H,hF,hW⟩)
  ·exact h.elim
 | .block id c,st,Q,QJ,R,hQ,hJ,h=>by
  have h1:=vc_ok c st (R:=blk id R) (blk_mono hQ) (blk_mono hJ) h
  intro a w hs
  refine wp_block (wp_mono (h1 a w hs) ?_)
  rintro e a' w' ⟨st',h2,h3⟩
  cases e<;>simp only [blk,Exit.inBlock] at h2 ⊢<;>first | exact ⟨st',h2,h3⟩ | (split at h2<;>rename_i e<;>first | (rw [if_pos e];exact ⟨st',h2,h3⟩) | (rw [if_neg e];exact ⟨st',h2,h3⟩))
 | .exit id,st,Q,QJ,R,hQ,hJ,h=>fun a w hs=>wp_exit ⟨st,hQ _ _ h,hs⟩
 | .ret,st,Q,QJ,R,hQ,hJ,h=>fun a w hs=>wp_ret ⟨st,hQ _ _ h,hs⟩
 | .region id ops false,st,Q,QJ,R,hQ,hJ,h=>fun a w hs=>wp_region_list (vcOps_ok ops.toList st hQ hJ h a w hs)
 | .region id ops true,st,Q,QJ,R,hQ,hJ,h=>h.mono hJ
 | .loop c,st,Q,QJ,R,hQ,hJ,h=>h.mono hJ
 | .rangeFunc ..,st,Q,QJ,R,hQ,hJ,h=>h.mono hJ
 | .scope c,st,Q,QJ,R,hQ,hJ,h=>h.mono hJ
 | .label l,st,Q,QJ,R,hQ,hJ,h=>h.mono hJ
 | .goto l,st,Q,QJ,R,hQ,hJ,h=>h.mono hJ
 | .refuse s,st,Q,QJ,R,hQ,hJ,h=>h.mono hJ
end Go.Sv


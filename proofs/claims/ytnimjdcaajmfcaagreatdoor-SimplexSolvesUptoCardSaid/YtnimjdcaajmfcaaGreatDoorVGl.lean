/- A text of the prover's own. -/
import Derived.OrdersHeld
import Derived.Tactics
open Go.Value renaming oneCell'->awK,cells->awL
open Nat renaming add_mul->awM,one_mul->awN
open List renaming getElem?_append_left->awO,getElem?_append_right->awP,replicate->awQ
theorem awG{a b:Prop}(h:b)(g:a:=by omega):a∧b:=⟨g,h⟩
namespace Go.Sv
open Go
inductive SV where
 | val (v:Value)
 | ptr (k i j:Nat)
 | view (k i n:Nat)
 | ro (es:List SV)
 | dG (x:SV) (j:Nat)
 | agg (l:List SV)
 | bM (l:List SV)
 | ju (t:TypeId) (x:SV)
 /-- what package variable g holds: an error of its own, of type t -/
 | fT (t:TypeId) (g:Nat)
 /-- some value of one cell, of which nothing is told -/
 | any
 /-- a function with what is bound to it -/
 | j7 (f:FuncId) (l r:List SV)
 /-- the map that an entry holds -/
 | mp (k:Nat)
instance:Inhabited SV:=⟨.val undef⟩
structure Bd where
 b:Nat
 Jn:Nat
 sz:Nat
abbrev cu:=Nat->Option (Option Bd)
abbrev Hp:=Nat->Option (Array Value)
def o4:cu:=λ_=>none
def SV.one:SV->Bool
 | .agg _ | .bM _=>false
 | .val v=>v.oneCell'
 | _=>true
mutual
def Den(β:cu)(H:Hp):SV->Value->Prop
 | .val v,u=>u=v∧v.oneCell'=true
 | .ptr k i j,u=>∃d,β k=some (some d)∧u=.pointer (some ⟨d.b,i*d.sz+j,none⟩)
 | .view k i n,u=>(β k=some none∧i=0∧n=0∧u=.slice none 0 0) ∨
   ∃d c o,β k=some (some d)∧n<=c∧(i+c)*d.sz<=d.Jn∧(c≠0->o=i*d.sz)∧u=.slice (some ⟨d.b,o,none⟩) n c
 | .ro es,u=>(es=[]∧∃a c,u=.slice a 0 c) ∨
   ∃b o c s cs vs,u=.slice (some ⟨b,o,none⟩) es.length c∧es.length<=c∧H b=some cs∧ba o4 H s es vs∧∀i,i<vs.length->cs[o+i]?=vs[i]?
 | .dG x j,u=>∃b o cs v,u=.pointer (some ⟨b,o+j,none⟩)∧H b=some cs∧Den o4 H x v∧∀i,i<v.cells.size->cs[o+i]?=v.cells[i]?
 | .agg l,u=>∃vs,u=.agg vs.toArray∧bN β H l vs
 | .bM l,u=>∃vs,u=.tuple vs.toArray∧bZ β H l vs
 | .ju t x,u=>∃v,u=.iface t v∧Den β H x v
 | .fT t g,u=>∃b:Addr,H g=some #[.iface t (.pointer (some b))]∧u=.iface t (.pointer (some b))
 | .any,u=>u.oneCell'=true
 | .j7 f l r,u=>∃vs ws,u=.func (.func f) vs.toArray ws.toArray∧bZ β H l vs∧bZ β H r ws
 | .mp k,u=>∃d,β k=some (some d)∧d.sz=1∧u=.map (some d.b)
def bN(β:cu)(H:Hp):List SV->List Value->Prop
 | [],vs=>vs=[]
 | x::l,vs=>∃v r,vs=v::r∧x.one=true∧Den β H x v∧bN β H l r
def bZ(β:cu)(H:Hp):List SV->List Value->Prop
 | [],vs=>vs=[]
 | x::l,vs=>∃v r,vs=v::r∧Den β H x v∧bZ β H l r
def ba(β:cu)(H:Hp)(s:Nat):List SV->List Value->Prop
 | [],vs=>vs=[]
 | x::l,vs=>∃v r,vs=v.cells.toList++r∧v.cells.size=s∧Den β H x v∧ba β H s l r
end
mutual
def SV.cD(k:Nat):SV->Bool
 | .ptr k' _ _=>k'==k
 | .view k' _ _=>k'==k
 | .agg l=>SV.aY k l
 | .bM l=>SV.aY k l
 | .ju _ x=>x.cD k
 | .j7 _ l r=>SV.aY k l||SV.aY k r
 | .mp k'=>k'==k
 | _=>false
def SV.aY(k:Nat):List SV->Bool
 | []=>false
 | x::l=>x.cD k||SV.aY k l
end
mutual
def SV.pure:SV->Bool
 | .ptr _ _ _=>false
 | .view _ _ _=>false
 | .agg l=>SV.bF l
 | .bM l=>SV.bF l
 | .ju _ x=>x.pure
 | .j7 _ l r=>SV.bF l&&SV.bF r
 | .mp _=>false
 | _=>true
def SV.bF:List SV->Bool
 | []=>true
 | x::l=>x.pure&&SV.bF l
end
mutual
theorem SV.wJ(k:Nat):∀x:SV,x.pure=true->x.cD k=false
 | .val _,_=>rfl
 | .ptr _ _ _,h=>by simp[SV.pure]at h
 | .view _ _ _,h=>by simp[SV.pure]at h
 | .mp _,h=>by simp[SV.pure]at h
 | .ro _,_=>rfl
 | .dG _ _,_=>rfl
 | .fT _ _,_=>rfl
 | .any,_=>rfl
 | .j7 _ l r,h=>by simp only[SV.pure,Bool.and_eq_true]at h;simp[SV.cD,SV.iI k l h.1,SV.iI k r h.2]
 | .agg l,h=>by simp only[SV.cD];exact SV.iI k l (by simpa[SV.pure]using h)
 | .bM l,h=>by simp only[SV.cD];exact SV.iI k l (by simpa[SV.pure]using h)
 | .ju _ x,h=>by simp only[SV.cD];exact SV.wJ k x (by simpa[SV.pure]using h)
theorem SV.iI(k:Nat):∀l:List SV,SV.bF l=true->SV.aY k l=false
 | [],_=>rfl
 | x::l,h=>by simp only[SV.bF,Bool.and_eq_true]at h;simp[SV.aY,SV.wJ k x h.1,SV.iI k l h.2]
end
def SV.cells:SV->List SV
 | .agg l=>l
 | x=>[x]
def SV.ir:SV->Nat
 | .agg l=>l.length
 | _=>1
mutual
theorem Den.mono{β β':cu}{H H':Hp}(hH:∀b cs,H b=some cs->H' b=some cs) :
  ∀(x:SV) (u:Value),(∀k d,x.cD k=true->β k=some d->β' k=some d)->Den β H x u->Den β' H' x u
 | .val v,u,_,h=>by simpa[Den]using h
 | .ptr k i j,u,hb,h=>by simp only[Den]at h ⊢;obtain⟨d,h1,h2⟩:=h;exact⟨d,hb k _ (by simp[SV.cD]) h1,h2⟩
 | .view k i n,u,hb,h=>by
  simp only[Den]at h ⊢;rcases h with⟨h1,h2⟩ | ⟨d,c,o,h1,h2⟩
  ·exact .inl ⟨hb k _ (by simp[SV.cD]) h1,h2⟩
  ·exact .inr ⟨d,c,o,hb k _ (by simp[SV.cD]) h1,h2⟩
 | .ro es,u,_,h=>by
  simp only[Den]at h ⊢;rcases h with h | ⟨b,o,c,s,cs,vs,h1,h2,h3,h4,h5⟩
  ·exact .inl h
  ·exact .inr ⟨b,o,c,s,cs,vs,h1,h2,hH _ _ h3,ba.mono hH s es vs (λk d _ h=>h) h4,h5⟩
 | .dG x j,u,_,h=>by simp only[Den]at h ⊢;obtain⟨b,o,cs,v,h1,h2,h3,h4⟩:=h;exact⟨b,o,cs,v,h1,hH _ _ h2,Den.mono hH x v (λk d _ h=>h) h3,h4⟩
 | .agg l,u,hb,h=>by simp only[Den]at h ⊢;obtain⟨vs,h1,h2⟩:=h;exact⟨vs,h1,bN.mono hH l vs (λk d hk=>hb k d (by simpa[SV.cD]using hk)) h2⟩
 | .bM l,u,hb,h=>by simp only[Den]at h ⊢;obtain⟨vs,h1,h2⟩:=h;exact⟨vs,h1,bZ.mono hH l vs (λk d hk=>hb k d (by simpa[SV.cD]using hk)) h2⟩
 | .ju t x,u,hb,h=>by simp only[Den]at h ⊢;obtain⟨v,h1,h2⟩:=h;exact⟨v,h1,Den.mono hH x v (λk d hk=>hb k d (by simpa[SV.cD]using hk)) h2⟩
 | .fT t g,u,_,h=>by simp only[Den]at h ⊢;obtain⟨b,h1,h2⟩:=h;exact⟨b,hH _ _ h1,h2⟩
 | .any,u,_,h=>by simpa[Den]using h
 | .mp k,u,hb,h=>by simp only[Den]at h ⊢;obtain⟨d,h1,h2⟩:=h;exact⟨d,hb k _ (by simp[SV.cD]) h1,h2⟩
 | .j7 f l r,u,hb,h=>by simp only[Den]at h ⊢;obtain⟨vs,ws,h1,h2,h3⟩:=h;exact⟨vs,ws,h1,bZ.mono hH l vs (λk d hk=>hb k d (by simp[SV.cD,hk])) h2,bZ.mono hH r ws (λk d hk=>hb k d (by simp[SV.cD,hk])) h3⟩
theorem bN.mono{β β':cu}{H H':Hp}(hH:∀b cs,H b=some cs->H' b=some cs) :
  ∀(l:List SV) (vs:List Value),(∀k d,SV.aY k l=true->β k=some d->β' k=some d)->bN β H l vs->bN β' H' l vs
 | [],vs,_,h=>by simpa[bN]using h
 | x::l,vs,hb,h=>by simp only[bN]at h ⊢;obtain⟨v,r,h1,h2,h3,h4⟩:=h;exact⟨v,r,h1,h2,Den.mono hH x v (λk d hk=>hb k d (by simp[SV.aY,hk])) h3,bN.mono hH l r (λk d hk=>hb k d (by simp[SV.aY,hk])) h4⟩
theorem bZ.mono{β β':cu}{H H':Hp}(hH:∀b cs,H b=some cs->H' b=some cs) :
  ∀(l:List SV) (vs:List Value),(∀k d,SV.aY k l=true->β k=some d->β' k=some d)->bZ β H l vs->bZ β' H' l vs
 | [],vs,_,h=>by simpa[bZ]using h
 | x::l,vs,hb,h=>by simp only[bZ]at h ⊢;obtain⟨v,r,h1,h3,h4⟩:=h;exact⟨v,r,h1,Den.mono hH x v (λk d hk=>hb k d (by simp[SV.aY,hk])) h3,bZ.mono hH l r (λk d hk=>hb k d (by simp[SV.aY,hk])) h4⟩
theorem ba.mono{β β':cu}{H H':Hp}(hH:∀b cs,H b=some cs->H' b=some cs)(s:Nat) :
  ∀(l:List SV) (vs:List Value),(∀k d,SV.aY k l=true->β k=some d->β' k=some d)->ba β H s l vs->ba β' H' s l vs
 | [],vs,_,h=>by simpa[ba]using h
 | x::l,vs,hb,h=>by simp only[ba]at h ⊢;obtain⟨v,r,h1,h2,h3,h4⟩:=h;exact⟨v,r,h1,h2,Den.mono hH x v (λk d hk=>hb k d (by simp[SV.aY,hk])) h3,ba.mono hH s l r (λk d hk=>hb k d (by simp[SV.aY,hk])) h4⟩
end
theorem Den.up{β β':cu}{H H':Hp}{x:SV}{u:Value}(h:Den β H x u)(hb:∀k d,β k=some d->β' k=some d)(hH:∀b cs,H b=some cs->H' b=some cs):Den β' H' x u :=
 Den.mono hH x u (λk d _=>hb k d) h
theorem Den.any{β β':cu}{H H':Hp}{x:SV}{u:Value}(h:Den β H x u)(hx:x.pure=true)(hH:∀b cs,H b=some cs->H' b=some cs):Den β' H' x u :=
 Den.mono hH x u (λk d hk=>by simp[SV.wJ k x hx]at hk) h
theorem ba.any{β β':cu}{H H':Hp}{s:Nat}{l:List SV}{u:List Value}(h:ba β H s l u)(hx:SV.bF l=true)(hH:∀b cs,H b=some cs->H' b=some cs):ba β' H' s l u :=
 ba.mono hH s l u (λk d hk=>by simp[SV.iI k l hx]at hk) h
theorem bZ.any{β β':cu}{H H':Hp}{l:List SV}{u:List Value}(h:bZ β H l u)(hx:SV.bF l=true)(hH:∀b cs,H b=some cs->H' b=some cs):bZ β' H' l u :=
 bZ.mono hH l u (λk d hk=>by simp[SV.iI k l hx]at hk) h
theorem eo{v:Value}(h:v.oneCell'=true):v.cells=#[v]:=by cases v<;>simp_all [awK,awL]
theorem bN.length{β:cu}{H:Hp}:∀{l:List SV} {vs:List Value},bN β H l vs->vs.length=l.length
 | [],vs,h=>by simp[bN]at h;simp[h]
 | x::l,vs,h=>by simp only[bN]at h;obtain⟨v,r,h1,h2,h3,h4⟩:=h;simp[h1,h4.length]
theorem Den.one{β:cu}{H:Hp}{x:SV}{u:Value}(h:Den β H x u)(hx:x.one=true):u.oneCell'=true:=by
 cases x<;>simp only[Den,SV.one]at h hx
 case val v=>simp[h.1,h.2]
 case ptr=>obtain⟨d,h1,h2⟩:=h;simp[h2,awK]
 case view=>rcases h with⟨_,_,_,h⟩ | ⟨d,c,o,_,_,_,_,h⟩<;>simp[h,awK]
 case ro=>rcases h with⟨_,_,_,h⟩ | ⟨b,o,c,s,cs,vs,h,_⟩<;>simp[h,awK]
 case dG=>obtain⟨b,o,cs,v,h,_⟩:=h;simp[h,awK]
 case ju=>obtain⟨v,h,_⟩:=h;simp[h,awK]
 case fT=>obtain⟨b,_,h⟩:=h;simp[h,awK]
 case any=>exact h
 case j7=>obtain⟨vs,ws,h,_⟩:=h;simp[h,awK]
 case mp=>obtain⟨d,_,_,h⟩:=h;simp[h,awK]
 all_goals simp at hx
theorem Den.q9{β:cu}{H:Hp}{x:SV}{u:Value}(h:Den β H x u):(∃l,x=.bM l)∨u.cells.size=x.ir:=by
 cases x
 case bM l=>exact .inl ⟨l,rfl⟩
 case agg l =>
  simp only[Den]at h;obtain⟨vs,h1,h2⟩:=h;right;simp[h1,awL,SV.ir,h2.length]
 case val v=>simp only[Den]at h;right;rw[eo (by rw[h.1];exact h.2)];simp[SV.ir]
 all_goals (right;rw[eo (Den.one h rfl)];simp[SV.ir])
def aM:List SV->Nat->SV
 | [],_=>default
 | x::_,0=>x
 | _::l,n+1=>aM l n
def da:List SV->Nat->SV->List SV
 | [],_,_=>[]
 | _::l,0,y=>y::l
 | x::l,n+1,y=>x::da l n y
theorem bN.get{β:cu}{H:Hp}:∀{l:List SV} {vs:List Value} {i:Nat},bN β H l vs->i<l.length->∃v,vs[i]?=some v∧(aM l i).one=true∧Den β H (aM l i) v
 | x::l,vs,0,h,_=>by simp only[bN]at h;obtain⟨v,r,rfl,h2,h3,h4⟩:=h;exact⟨v,by simp,h2,h3⟩
 | x::l,vs,i+1,h,hi=>by simp only[bN]at h;obtain⟨v,r,rfl,h2,h3,h4⟩:=h;obtain⟨w,hw⟩:=h4.get (i:=i) (by simpa using hi);exact⟨w,by simpa using hw.1,hw.2⟩
theorem bZ.get{β:cu}{H:Hp}:∀{l:List SV} {vs:List Value} {i:Nat},bZ β H l vs->i<l.length->∃v,vs[i]?=some v∧Den β H (aM l i) v
 | x::l,vs,0,h,_=>by simp only[bZ]at h;obtain⟨v,r,rfl,h3,h4⟩:=h;exact⟨v,by simp,h3⟩
 | x::l,vs,i+1,h,hi=>by simp only[bZ]at h;obtain⟨v,r,rfl,h3,h4⟩:=h;obtain⟨w,hw⟩:=h4.get (i:=i) (by simpa using hi);exact⟨w,by simpa using hw.1,hw.2⟩
theorem ba.length{β:cu}{H:Hp}{s:Nat}:∀{l:List SV} {vs:List Value},ba β H s l vs->vs.length=l.length*s
 | [],vs,h=>by simp[ba]at h;simp[h]
 | x::l,vs,h=>by simp only[ba]at h;obtain⟨v,r,rfl,h2,h3,h4⟩:=h;have:=h4.length;simp[this,h2,awM];omega
theorem ba.get{β:cu}{H:Hp}{s:Nat}:∀{l:List SV} {vs:List Value} {i:Nat},ba β H s l vs->i<l.length ->
  ∃v,Den β H (aM l i) v∧v.cells.size=s∧∀j,j<s->vs[i*s+j]?=v.cells[j]?
 | x::l,vs,0,h,_=>by simp only[ba]at h;obtain⟨v,r,rfl,h2,h3,h4⟩:=h;refine⟨v,h3,h2,λj hj=>?_⟩;rw[Nat.zero_mul,Nat.zero_add,awO (by simpa[h2]using hj)];simp
 | x::l,vs,i+1,h,hi=>by simp only[ba]at h;obtain⟨v,r,rfl,h2,h3,h4⟩:=h;obtain⟨w,ab,ac,ad⟩:=h4.get (i:=i) (by simpa using hi);refine⟨w,ab,ac,λj hj=>?_⟩;rw[<-ad j hj,awP (by simp[h2,awM];omega)];congr 1;simp[h2,awM];omega
theorem uH{l:List SV}{i:Nat}(h:i<l.length):aM l i=l[i]:=by
 induction l generalizing i with
 | nil=>simp at h
 | cons x l ih=>cases i with
  | zero=>rfl
  | succ i=>simpa[aM]using ih (by simpa using h)
theorem cq(l:List SV)(i:Nat)(y:SV):da l i y=l.set i y:=by
 induction l generalizing i with
 | nil=>rfl
 | cons x l ih=>cases i<;>simp[da,ih]
theorem zH{α:Type}[Inhabited α](f:α->SV)(xs:List α)(i:Nat)(h:i<xs.length):aM (xs.map f) i=f (xs[i]!):=by rw[uH (by simpa using h)];simp[h]
theorem ba.set{β:cu}{H:Hp}{s:Nat}:∀{l:List SV} {vs:List Value} {i:Nat} {y:SV} {v:Value},ba β H s l vs->i<l.length->Den β H y v->v.cells.size=s ->
  ∃aa,ba β H s (da l i y) aa∧aa.length=vs.length∧∀q,aa[q]?=if i*s<=q∧q<i*s+s then v.cells[q - i*s]? else vs[q]?
 | x::l,vs,0,y,v,h,_,hy,hs=>by
  simp only[ba]at h;obtain⟨u,r,rfl,h2,h3,h4⟩:=h;refine⟨v.cells.toList++r,by simp only[da,ba];exact⟨v,r,rfl,hs,hy,h4⟩,by simp[hs,h2],λq=>?_⟩;by_cases hq:q<s
  ·rw[awO (by simpa[hs]using hq),if_pos (by omega)];simp
  ·rw[awP (by simp[hs];omega),if_neg (by omega),awP (by simp[h2];omega)];simp[hs,h2]
 | x::l,vs,i+1,y,v,h,hi,hy,hs=>by
  simp only[ba]at h;obtain⟨u,r,rfl,h2,h3,h4⟩:=h;obtain⟨aa,ab,ac,ad⟩:=ba.set (i:=i) h4 (by simpa using hi) hy hs;refine⟨u.cells.toList++aa,by simp only[da,ba];exact⟨u,aa,rfl,h2,h3,ab⟩,by simp[ac],λq=>?_⟩;by_cases hq:q<s
  ·rw[awO (by simpa[h2]using hq),if_neg (by simp[awM];omega),awO (by simpa[h2]using hq)]
  ·rw[awP (by simp[h2];omega),awP (by simp[h2];omega),ad];simp only[Array.length_toList,h2,awM,awN];have e:(i*s<=q - s∧q - s<i*s+s)↔(i*s+s<=q∧q<i*s+s+s):=by omega
   simp only[e];have:q - s - i*s=q - (i*s+s):=by omega
   rw[this]
theorem ba.append{β:cu}{H:Hp}{s:Nat}:∀{l l':List SV} {vs aa:List Value},ba β H s l vs->ba β H s l' aa->ba β H s (l++l') (vs++aa)
 | [],l',vs,aa,h,h'=>by simp only[ba]at h;simpa[h]using h'
 | x::l,l',vs,aa,h,h'=>by simp only[ba,List.cons_append]at h ⊢;obtain⟨v,r,rfl,h2,h3,h4⟩:=h;exact⟨v,r++aa,by simp,h2,h3,h4.append h'⟩
theorem ba.take{β:cu}{H:Hp}{s:Nat}:∀{l:List SV} {vs:List Value} (n:Nat),ba β H s l vs->ba β H s (l.take n) (vs.take (n*s))
 | [],vs,n,h=>by simp only[ba]at h;simp[h,ba]
 | x::l,vs,0,h=>by simp[ba]
 | x::l,vs,n+1,h=>by simp only[ba,List.take_succ_cons]at h ⊢;obtain⟨v,r,rfl,h2,h3,h4⟩:=h;refine⟨v,r.take (n*s),?_,h2,h3,h4.take n⟩;rw[awM,awN,List.take_append,List.take_of_length_le (by simp[h2])];simp[h2]
theorem ba.drop{β:cu}{H:Hp}{s:Nat}:∀{l:List SV} {vs:List Value} (n:Nat),ba β H s l vs->ba β H s (l.drop n) (vs.drop (n*s))
 | [],vs,n,h=>by simp only[ba]at h;simp[h,ba]
 | x::l,vs,0,h=>by simpa using h
 | x::l,vs,n+1,h=>by
  simp only[ba,List.drop_succ_cons]at h ⊢;obtain⟨v,r,rfl,h2,h3,h4⟩:=h;have:=h4.drop n;have e:(v.cells.toList++r).drop ((n+1)*s)=r.drop (n*s):=by have e0:v.cells.toList.drop ((n+1)*s)=[]:=List.drop_eq_nil_of_le (by rw[Array.length_toList,h2,awM];omega);rw[List.drop_append,e0];simp[h2,awM]
  rw[e];exact this
theorem ba.replicate{β:cu}{H:Hp}{s:Nat}{x:SV}{v:Value}(h:Den β H x v)(hs:v.cells.size=s):∀n,ba β H s (awQ n x) (awQ n v.cells.toList).flatten
 | 0=>by simp[ba]
 | n+1=>by simp only[List.replicate_succ,ba,List.flatten_cons];exact⟨v,_,rfl,hs,h,ba.replicate h hs n⟩
def Ga:Value->Bool
 | .int _ _ | .string _ | .bool _=>true
 | _=>false
def cS(β:cu)(H:Hp):List SV->List MapEntry->Nat->Prop
 | [],ms,_=>ms=[]
 | x::l,ms,n=>∃key y m r,x=.bM [.val key,y]∧ms=m::r∧m.key=key∧Ga key=true∧m.born=n∧Den β H y m.val∧cS β H l r (n+1)
theorem cS.mono{β β':cu}{H H':Hp}(hH:∀b cs,H b=some cs->H' b=some cs) :
  ∀(l:List SV) (ms:List MapEntry) (n:Nat),(∀k d,SV.aY k l=true->β k=some d->β' k=some d)->cS β H l ms n->cS β' H' l ms n
 | [],ms,n,_,h=>by simpa[cS]using h
 | x::l,ms,n,hb,h=>by simp only[cS]at h ⊢;obtain⟨key,y,m,r,rfl,h2,h3,h4,h5,h6,h7⟩:=h;exact⟨key,y,m,r,rfl,h2,h3,h4,h5,Den.mono hH y _ (λk d hk=>hb k d (by simp[SV.aY,SV.cD,hk])) h6,cS.mono hH l r _ (λk d hk=>hb k d (by simp[SV.aY,hk])) h7⟩
theorem cS.length{β:cu}{H:Hp}:∀{l:List SV} {ms:List MapEntry} {n:Nat},cS β H l ms n->ms.length=l.length
 | [],ms,n,h=>by simp[cS]at h;simp[h]
 | x::l,ms,n,h=>by simp only[cS]at h;obtain⟨key,y,m,r,rfl,rfl,h3,h4,h5,h6,h7⟩:=h;simp[h7.length]
theorem cS.LR{β:cu}{H:Hp}:∀{l:List SV} {ms:List MapEntry} {n:Nat},cS β H l ms n->∀i,i<l.length->∃a,aM l i=.bM a
 | x::l,ms,n,h,0,_=>by simp only[cS]at h;obtain⟨key,y,m,r,rfl,_⟩:=h;exact⟨_,rfl⟩
 | x::l,ms,n,h,i+1,hi=>by simp only[cS]at h;obtain⟨key,y,m,r,rfl,rfl,h3,h4,h5,h6,h7⟩:=h;exact h7.LR i (by simpa using hi)
end Go.Sv
namespace Go.Sv
open Go
def vC:List Nat:=[3,4,5,0,1,6,7,8,2,9]
def fD:Nat:=319
def gl(g:Nat):Option SV:=if vC.contains g then some (.fT fD g) else none
end Go.Sv


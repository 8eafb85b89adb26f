/- A text of the prover's own. -/
import Derived.OrdersHeld
import Derived.Tactics
open Go.Value renaming oneCell'->pe,cells->px
open Nat renaming add_mul->asn,one_mul->aso
open List renaming getElem?_append_left->asp,getElem?_append_right->asq,replicate->asr
theorem asi{a b:Prop}(h:b)(g:a:=by omega):a∧b:=⟨g,h⟩
namespace Go.Sv
open Go
inductive SV where
 | val (v:Value)
 | ptr (k i j:Nat)
 | view (k i n:Nat)
 | ro (es:List SV)
 | dc (x:SV) (j:Nat)
 | agg (l:List SV)
 | bP (l:List SV)
 | iT (t:TypeId) (x:SV)
 /-- what package variable g holds: an error of its own, of type t -/
 | iJ (t:TypeId) (g:Nat)
 /-- some value of one cell, of which nothing is told -/
 | any
 /-- a function with what is bound to it -/
 | jw (f:FuncId) (l r:List SV)
 /-- the map that an entry holds -/
 | mp (k:Nat)
instance:Inhabited SV:=⟨.val undef⟩
structure Bd where
 b:Nat
 FM:Nat
 sz:Nat
abbrev ca:=Nat->Option (Option Bd)
abbrev Hp:=Nat->Option (Array Value)
def rz:ca:=λ_=>none
def SV.one:SV->Bool
 | .agg _ | .bP _=>false
 | .val v=>v.oneCell'
 | _=>true
mutual
def Den(β:ca)(H:Hp):SV->Value->Prop
 | .val v,u=>u=v∧v.oneCell'=true
 | .ptr k i j,u=>∃d,β k=some (some d)∧u=.pointer (some ⟨d.b,i*d.sz+j,none⟩)
 | .view k i n,u=>(β k=some none∧i=0∧n=0∧u=.slice none 0 0) ∨
   ∃d c o,β k=some (some d)∧n<=c∧(i+c)*d.sz<=d.FM∧(c≠0->o=i*d.sz)∧u=.slice (some ⟨d.b,o,none⟩) n c
 | .ro es,u=>(es=[]∧∃a c,u=.slice a 0 c) ∨
   ∃b o c s cs vs,u=.slice (some ⟨b,o,none⟩) es.length c∧es.length<=c∧H b=some cs∧aW rz H s es vs∧∀i,i<vs.length->cs[o+i]?=vs[i]?
 | .dc x j,u=>∃b o cs v,u=.pointer (some ⟨b,o+j,none⟩)∧H b=some cs∧Den rz H x v∧∀i,i<v.cells.size->cs[o+i]?=v.cells[i]?
 | .agg l,u=>∃vs,u=.agg vs.toArray∧bE β H l vs
 | .bP l,u=>∃vs,u=.tuple vs.toArray∧bY β H l vs
 | .iT t x,u=>∃v,u=.iface t v∧Den β H x v
 | .iJ t g,u=>∃b:Addr,H g=some #[.iface t (.pointer (some b))]∧u=.iface t (.pointer (some b))
 | .any,u=>u.oneCell'=true
 | .jw f l r,u=>∃vs ws,u=.func (.func f) vs.toArray ws.toArray∧bY β H l vs∧bY β H r ws
 | .mp k,u=>∃d,β k=some (some d)∧d.sz=1∧u=.map (some d.b)
def bE(β:ca)(H:Hp):List SV->List Value->Prop
 | [],vs=>vs=[]
 | x::l,vs=>∃v r,vs=v::r∧x.one=true∧Den β H x v∧bE β H l r
def bY(β:ca)(H:Hp):List SV->List Value->Prop
 | [],vs=>vs=[]
 | x::l,vs=>∃v r,vs=v::r∧Den β H x v∧bY β H l r
def aW(β:ca)(H:Hp)(s:Nat):List SV->List Value->Prop
 | [],vs=>vs=[]
 | x::l,vs=>∃v r,vs=v.cells.toList++r∧v.cells.size=s∧Den β H x v∧aW β H s l r
end
mutual
def SV.cj(k:Nat):SV->Bool
 | .ptr k' _ _=>k'==k
 | .view k' _ _=>k'==k
 | .agg l=>SV.aZ k l
 | .bP l=>SV.aZ k l
 | .iT _ x=>x.cj k
 | .jw _ l r=>SV.aZ k l||SV.aZ k r
 | .mp k'=>k'==k
 | _=>false
def SV.aZ(k:Nat):List SV->Bool
 | []=>false
 | x::l=>x.cj k||SV.aZ k l
end
mutual
def SV.pure:SV->Bool
 | .ptr _ _ _=>false
 | .view _ _ _=>false
 | .agg l=>SV.bJ l
 | .bP l=>SV.bJ l
 | .iT _ x=>x.pure
 | .jw _ l r=>SV.bJ l&&SV.bJ r
 | .mp _=>false
 | _=>true
def SV.bJ:List SV->Bool
 | []=>true
 | x::l=>x.pure&&SV.bJ l
end
mutual
theorem SV.ur(k:Nat):∀x:SV,x.pure=true->x.cj k=false
 | .val _,_=>rfl
 | .ptr _ _ _,h=>by simp[SV.pure]at h
 | .view _ _ _,h=>by simp[SV.pure]at h
 | .mp _,h=>by simp[SV.pure]at h
 | .ro _,_=>rfl
 | .dc _ _,_=>rfl
 | .iJ _ _,_=>rfl
 | .any,_=>rfl
 | .jw _ l r,h=>by simp only[SV.pure,Bool.and_eq_true]at h;simp[SV.cj,SV.gL k l h.1,SV.gL k r h.2]
 | .agg l,h=>by simp only[SV.cj];exact SV.gL k l (by simpa[SV.pure]using h)
 | .bP l,h=>by simp only[SV.cj];exact SV.gL k l (by simpa[SV.pure]using h)
 | .iT _ x,h=>by simp only[SV.cj];exact SV.ur k x (by simpa[SV.pure]using h)
theorem SV.gL(k:Nat):∀l:List SV,SV.bJ l=true->SV.aZ k l=false
 | [],_=>rfl
 | x::l,h=>by simp only[SV.bJ,Bool.and_eq_true]at h;simp[SV.aZ,SV.ur k x h.1,SV.gL k l h.2]
end
def SV.cells:SV->List SV
 | .agg l=>l
 | x=>[x]
def SV.gJ:SV->Nat
 | .agg l=>l.length
 | _=>1
mutual
theorem Den.mono{β β':ca}{H H':Hp}(hH:∀b cs,H b=some cs->H' b=some cs) :
  ∀(x:SV) (u:Value),(∀k d,x.cj k=true->β k=some d->β' k=some d)->Den β H x u->Den β' H' x u
 | .val v,u,_,h=>by simpa[Den]using h
 | .ptr k i j,u,hb,h=>by simp only[Den]at h ⊢;obtain⟨d,h1,h2⟩:=h;exact⟨d,hb k _ (by simp[SV.cj]) h1,h2⟩
 | .view k i n,u,hb,h=>by
  simp only[Den]at h ⊢;rcases h with⟨h1,h2⟩ | ⟨d,c,o,h1,h2⟩
  ·exact .inl ⟨hb k _ (by simp[SV.cj]) h1,h2⟩
  ·exact .inr ⟨d,c,o,hb k _ (by simp[SV.cj]) h1,h2⟩
 | .ro es,u,_,h=>by
  simp only[Den]at h ⊢;rcases h with h | ⟨b,o,c,s,cs,vs,h1,h2,h3,h4,h5⟩
  ·exact .inl h
  ·exact .inr ⟨b,o,c,s,cs,vs,h1,h2,hH _ _ h3,aW.mono hH s es vs (λk d _ h=>h) h4,h5⟩
 | .dc x j,u,_,h=>by simp only[Den]at h ⊢;obtain⟨b,o,cs,v,h1,h2,h3,h4⟩:=h;exact⟨b,o,cs,v,h1,hH _ _ h2,Den.mono hH x v (λk d _ h=>h) h3,h4⟩
 | .agg l,u,hb,h=>by simp only[Den]at h ⊢;obtain⟨vs,h1,h2⟩:=h;exact⟨vs,h1,bE.mono hH l vs (λk d hk=>hb k d (by simpa[SV.cj]using hk)) h2⟩
 | .bP l,u,hb,h=>by simp only[Den]at h ⊢;obtain⟨vs,h1,h2⟩:=h;exact⟨vs,h1,bY.mono hH l vs (λk d hk=>hb k d (by simpa[SV.cj]using hk)) h2⟩
 | .iT t x,u,hb,h=>by simp only[Den]at h ⊢;obtain⟨v,h1,h2⟩:=h;exact⟨v,h1,Den.mono hH x v (λk d hk=>hb k d (by simpa[SV.cj]using hk)) h2⟩
 | .iJ t g,u,_,h=>by simp only[Den]at h ⊢;obtain⟨b,h1,h2⟩:=h;exact⟨b,hH _ _ h1,h2⟩
 | .any,u,_,h=>by simpa[Den]using h
 | .mp k,u,hb,h=>by simp only[Den]at h ⊢;obtain⟨d,h1,h2⟩:=h;exact⟨d,hb k _ (by simp[SV.cj]) h1,h2⟩
 | .jw f l r,u,hb,h=>by simp only[Den]at h ⊢;obtain⟨vs,ws,h1,h2,h3⟩:=h;exact⟨vs,ws,h1,bY.mono hH l vs (λk d hk=>hb k d (by simp[SV.cj,hk])) h2,bY.mono hH r ws (λk d hk=>hb k d (by simp[SV.cj,hk])) h3⟩
theorem bE.mono{β β':ca}{H H':Hp}(hH:∀b cs,H b=some cs->H' b=some cs) :
  ∀(l:List SV) (vs:List Value),(∀k d,SV.aZ k l=true->β k=some d->β' k=some d)->bE β H l vs->bE β' H' l vs
 | [],vs,_,h=>by simpa[bE]using h
 | x::l,vs,hb,h=>by simp only[bE]at h ⊢;obtain⟨v,r,h1,h2,h3,h4⟩:=h;exact⟨v,r,h1,h2,Den.mono hH x v (λk d hk=>hb k d (by simp[SV.aZ,hk])) h3,bE.mono hH l r (λk d hk=>hb k d (by simp[SV.aZ,hk])) h4⟩
theorem bY.mono{β β':ca}{H H':Hp}(hH:∀b cs,H b=some cs->H' b=some cs) :
  ∀(l:List SV) (vs:List Value),(∀k d,SV.aZ k l=true->β k=some d->β' k=some d)->bY β H l vs->bY β' H' l vs
 | [],vs,_,h=>by simpa[bY]using h
 | x::l,vs,hb,h=>by simp only[bY]at h ⊢;obtain⟨v,r,h1,h3,h4⟩:=h;exact⟨v,r,h1,Den.mono hH x v (λk d hk=>hb k d (by simp[SV.aZ,hk])) h3,bY.mono hH l r (λk d hk=>hb k d (by simp[SV.aZ,hk])) h4⟩
theorem aW.mono{β β':ca}{H H':Hp}(hH:∀b cs,H b=some cs->H' b=some cs)(s:Nat) :
  ∀(l:List SV) (vs:List Value),(∀k d,SV.aZ k l=true->β k=some d->β' k=some d)->aW β H s l vs->aW β' H' s l vs
 | [],vs,_,h=>by simpa[aW]using h
 | x::l,vs,hb,h=>by simp only[aW]at h ⊢;obtain⟨v,r,h1,h2,h3,h4⟩:=h;exact⟨v,r,h1,h2,Den.mono hH x v (λk d hk=>hb k d (by simp[SV.aZ,hk])) h3,aW.mono hH s l r (λk d hk=>hb k d (by simp[SV.aZ,hk])) h4⟩
end
theorem Den.up{β β':ca}{H H':Hp}{x:SV}{u:Value}(h:Den β H x u)(hb:∀k d,β k=some d->β' k=some d)(hH:∀b cs,H b=some cs->H' b=some cs):Den β' H' x u :=
 Den.mono hH x u (λk d _=>hb k d) h
theorem Den.any{β β':ca}{H H':Hp}{x:SV}{u:Value}(h:Den β H x u)(hx:x.pure=true)(hH:∀b cs,H b=some cs->H' b=some cs):Den β' H' x u :=
 Den.mono hH x u (λk d hk=>by simp[SV.ur k x hx]at hk) h
theorem aW.any{β β':ca}{H H':Hp}{s:Nat}{l:List SV}{u:List Value}(h:aW β H s l u)(hx:SV.bJ l=true)(hH:∀b cs,H b=some cs->H' b=some cs):aW β' H' s l u :=
 aW.mono hH s l u (λk d hk=>by simp[SV.gL k l hx]at hk) h
theorem bY.any{β β':ca}{H H':Hp}{l:List SV}{u:List Value}(h:bY β H l u)(hx:SV.bJ l=true)(hH:∀b cs,H b=some cs->H' b=some cs):bY β' H' l u :=
 bY.mono hH l u (λk d hk=>by simp[SV.gL k l hx]at hk) h
theorem dU{v:Value}(h:v.oneCell'=true):v.cells=#[v]:=by cases v<;>simp_all [pe,px]
theorem bE.length{β:ca}{H:Hp}:∀{l:List SV} {vs:List Value},bE β H l vs->vs.length=l.length
 | [],vs,h=>by simp[bE]at h;simp[h]
 | x::l,vs,h=>by simp only[bE]at h;obtain⟨v,r,h1,h2,h3,h4⟩:=h;simp[h1,h4.length]
theorem Den.one{β:ca}{H:Hp}{x:SV}{u:Value}(h:Den β H x u)(hx:x.one=true):u.oneCell'=true:=by
 cases x<;>simp only[Den,SV.one]at h hx
 case val v=>simp[h.1,h.2]
 case ptr=>obtain⟨d,h1,h2⟩:=h;simp[h2,pe]
 case view=>rcases h with⟨_,_,_,h⟩ | ⟨d,c,o,_,_,_,_,h⟩<;>simp[h,pe]
 case ro=>rcases h with⟨_,_,_,h⟩ | ⟨b,o,c,s,cs,vs,h,_⟩<;>simp[h,pe]
 case dc=>obtain⟨b,o,cs,v,h,_⟩:=h;simp[h,pe]
 case iT=>obtain⟨v,h,_⟩:=h;simp[h,pe]
 case iJ=>obtain⟨b,_,h⟩:=h;simp[h,pe]
 case any=>exact h
 case jw=>obtain⟨vs,ws,h,_⟩:=h;simp[h,pe]
 case mp=>obtain⟨d,_,_,h⟩:=h;simp[h,pe]
 all_goals simp at hx
theorem Den.pO{β:ca}{H:Hp}{x:SV}{u:Value}(h:Den β H x u):(∃l,x=.bP l)∨u.cells.size=x.gJ:=by
 cases x
 case bP l=>exact .inl ⟨l,rfl⟩
 case agg l =>
  simp only[Den]at h;obtain⟨vs,h1,h2⟩:=h;right;simp[h1,px,SV.gJ,h2.length]
 case val v=>simp only[Den]at h;right;rw[dU (by rw[h.1];exact h.2)];simp[SV.gJ]
 all_goals (right;rw[dU (Den.one h rfl)];simp[SV.gJ])
def aL:List SV->Nat->SV
 | [],_=>default
 | x::_,0=>x
 | _::l,n+1=>aL l n
def cZ:List SV->Nat->SV->List SV
 | [],_,_=>[]
 | _::l,0,y=>y::l
 | x::l,n+1,y=>x::cZ l n y
theorem bE.get{β:ca}{H:Hp}:∀{l:List SV} {vs:List Value} {i:Nat},bE β H l vs->i<l.length->∃v,vs[i]?=some v∧(aL l i).one=true∧Den β H (aL l i) v
 | x::l,vs,0,h,_=>by simp only[bE]at h;obtain⟨v,r,rfl,h2,h3,h4⟩:=h;exact⟨v,by simp,h2,h3⟩
 | x::l,vs,i+1,h,hi=>by simp only[bE]at h;obtain⟨v,r,rfl,h2,h3,h4⟩:=h;obtain⟨w,hw⟩:=h4.get (i:=i) (by simpa using hi);exact⟨w,by simpa using hw.1,hw.2⟩
theorem bY.get{β:ca}{H:Hp}:∀{l:List SV} {vs:List Value} {i:Nat},bY β H l vs->i<l.length->∃v,vs[i]?=some v∧Den β H (aL l i) v
 | x::l,vs,0,h,_=>by simp only[bY]at h;obtain⟨v,r,rfl,h3,h4⟩:=h;exact⟨v,by simp,h3⟩
 | x::l,vs,i+1,h,hi=>by simp only[bY]at h;obtain⟨v,r,rfl,h3,h4⟩:=h;obtain⟨w,hw⟩:=h4.get (i:=i) (by simpa using hi);exact⟨w,by simpa using hw.1,hw.2⟩
theorem aW.length{β:ca}{H:Hp}{s:Nat}:∀{l:List SV} {vs:List Value},aW β H s l vs->vs.length=l.length*s
 | [],vs,h=>by simp[aW]at h;simp[h]
 | x::l,vs,h=>by simp only[aW]at h;obtain⟨v,r,rfl,h2,h3,h4⟩:=h;have:=h4.length;simp[this,h2,asn];omega
theorem aW.get{β:ca}{H:Hp}{s:Nat}:∀{l:List SV} {vs:List Value} {i:Nat},aW β H s l vs->i<l.length ->
  ∃v,Den β H (aL l i) v∧v.cells.size=s∧∀j,j<s->vs[i*s+j]?=v.cells[j]?
 | x::l,vs,0,h,_=>by simp only[aW]at h;obtain⟨v,r,rfl,h2,h3,h4⟩:=h;refine⟨v,h3,h2,λj hj=>?_⟩;rw[Nat.zero_mul,Nat.zero_add,asp (by simpa[h2]using hj)];simp
 | x::l,vs,i+1,h,hi=>by simp only[aW]at h;obtain⟨v,r,rfl,h2,h3,h4⟩:=h;obtain⟨w,ab,ac,ad⟩:=h4.get (i:=i) (by simpa using hi);refine⟨w,ab,ac,λj hj=>?_⟩;rw[<-ad j hj,asq (by simp[h2,asn];omega)];congr 1;simp[h2,asn];omega
theorem Hz{l:List SV}{i:Nat}(h:i<l.length):aL l i=l[i]:=by
 induction l generalizing i with
 | nil=>simp at h
 | cons x l ih=>cases i with
  | zero=>rfl
  | succ i=>simpa[aL]using ih (by simpa using h)
theorem ec(l:List SV)(i:Nat)(y:SV):cZ l i y=l.set i y:=by
 induction l generalizing i with
 | nil=>rfl
 | cons x l ih=>cases i<;>simp[cZ,ih]
theorem zh{α:Type}[Inhabited α](f:α->SV)(xs:List α)(i:Nat)(h:i<xs.length):aL (xs.map f) i=f (xs[i]!):=by rw[Hz (by simpa using h)];simp[h]
theorem aW.set{β:ca}{H:Hp}{s:Nat}:∀{l:List SV} {vs:List Value} {i:Nat} {y:SV} {v:Value},aW β H s l vs->i<l.length->Den β H y v->v.cells.size=s ->
  ∃aa,aW β H s (cZ l i y) aa∧aa.length=vs.length∧∀q,aa[q]?=if i*s<=q∧q<i*s+s then v.cells[q - i*s]? else vs[q]?
 | x::l,vs,0,y,v,h,_,hy,hs=>by
  simp only[aW]at h;obtain⟨u,r,rfl,h2,h3,h4⟩:=h;refine⟨v.cells.toList++r,by simp only[cZ,aW];exact⟨v,r,rfl,hs,hy,h4⟩,by simp[hs,h2],λq=>?_⟩;by_cases hq:q<s
  ·rw[asp (by simpa[hs]using hq),if_pos (by omega)];simp
  ·rw[asq (by simp[hs];omega),if_neg (by omega),asq (by simp[h2];omega)];simp[hs,h2]
 | x::l,vs,i+1,y,v,h,hi,hy,hs=>by
  simp only[aW]at h;obtain⟨u,r,rfl,h2,h3,h4⟩:=h;obtain⟨aa,ab,ac,ad⟩:=aW.set (i:=i) h4 (by simpa using hi) hy hs;refine⟨u.cells.toList++aa,by simp only[cZ,aW];exact⟨u,aa,rfl,h2,h3,ab⟩,by simp[ac],λq=>?_⟩;by_cases hq:q<s
  ·rw[asp (by simpa[h2]using hq),if_neg (by simp[asn];omega),asp (by simpa[h2]using hq)]
  ·rw[asq (by simp[h2];omega),asq (by simp[h2];omega),ad];simp only[Array.length_toList,h2,asn,aso];have e:(i*s<=q - s∧q - s<i*s+s)↔(i*s+s<=q∧q<i*s+s+s):=by omega
   simp only[e];have:q - s - i*s=q - (i*s+s):=by omega
   rw[this]
theorem aW.append{β:ca}{H:Hp}{s:Nat}:∀{l l':List SV} {vs aa:List Value},aW β H s l vs->aW β H s l' aa->aW β H s (l++l') (vs++aa)
 | [],l',vs,aa,h,h'=>by simp only[aW]at h;simpa[h]using h'
 | x::l,l',vs,aa,h,h'=>by simp only[aW,List.cons_append]at h ⊢;obtain⟨v,r,rfl,h2,h3,h4⟩:=h;exact⟨v,r++aa,by simp,h2,h3,h4.append h'⟩
theorem aW.take{β:ca}{H:Hp}{s:Nat}:∀{l:List SV} {vs:List Value} (n:Nat),aW β H s l vs->aW β H s (l.take n) (vs.take (n*s))
 | [],vs,n,h=>by simp only[aW]at h;simp[h,aW]
 | x::l,vs,0,h=>by simp[aW]
 | x::l,vs,n+1,h=>by simp only[aW,List.take_succ_cons]at h ⊢;obtain⟨v,r,rfl,h2,h3,h4⟩:=h;refine⟨v,r.take (n*s),?_,h2,h3,h4.take n⟩;rw[asn,aso,List.take_append,List.take_of_length_le (by simp[h2])];simp[h2]
theorem aW.drop{β:ca}{H:Hp}{s:Nat}:∀{l:List SV} {vs:List Value} (n:Nat),aW β H s l vs->aW β H s (l.drop n) (vs.drop (n*s))
 | [],vs,n,h=>by simp only[aW]at h;simp[h,aW]
 | x::l,vs,0,h=>by simpa using h
 | x::l,vs,n+1,h=>by
  simp only[aW,List.drop_succ_cons]at h ⊢;obtain⟨v,r,rfl,h2,h3,h4⟩:=h;have:=h4.drop n;have e:(v.cells.toList++r).drop ((n+1)*s)=r.drop (n*s):=by have e0:v.cells.toList.drop ((n+1)*s)=[]:=List.drop_eq_nil_of_le (by rw[Array.length_toList,h2,asn];omega);rw[List.drop_append,e0];simp[h2,asn]
  rw[e];exact this
theorem aW.replicate{β:ca}{H:Hp}{s:Nat}{x:SV}{v:Value}(h:Den β H x v)(hs:v.cells.size=s):∀n,aW β H s (asr n x) (asr n v.cells.toList).flatten
 | 0=>by simp[aW]
 | n+1=>by simp only[List.replicate_succ,aW,List.flatten_cons];exact⟨v,_,rfl,hs,h,aW.replicate h hs n⟩
def EW:Value->Bool
 | .int _ _ | .string _ | .bool _=>true
 | _=>false
def cN(β:ca)(H:Hp):List SV->List MapEntry->Nat->Prop
 | [],ms,_=>ms=[]
 | x::l,ms,n=>∃key y m r,x=.bP [.val key,y]∧ms=m::r∧m.key=key∧EW key=true∧m.born=n∧Den β H y m.val∧cN β H l r (n+1)
theorem cN.mono{β β':ca}{H H':Hp}(hH:∀b cs,H b=some cs->H' b=some cs) :
  ∀(l:List SV) (ms:List MapEntry) (n:Nat),(∀k d,SV.aZ k l=true->β k=some d->β' k=some d)->cN β H l ms n->cN β' H' l ms n
 | [],ms,n,_,h=>by simpa[cN]using h
 | x::l,ms,n,hb,h=>by simp only[cN]at h ⊢;obtain⟨key,y,m,r,rfl,h2,h3,h4,h5,h6,h7⟩:=h;exact⟨key,y,m,r,rfl,h2,h3,h4,h5,Den.mono hH y _ (λk d hk=>hb k d (by simp[SV.aZ,SV.cj,hk])) h6,cN.mono hH l r _ (λk d hk=>hb k d (by simp[SV.aZ,hk])) h7⟩
theorem cN.length{β:ca}{H:Hp}:∀{l:List SV} {ms:List MapEntry} {n:Nat},cN β H l ms n->ms.length=l.length
 | [],ms,n,h=>by simp[cN]at h;simp[h]
 | x::l,ms,n,h=>by simp only[cN]at h;obtain⟨key,y,m,r,rfl,rfl,h3,h4,h5,h6,h7⟩:=h;simp[h7.length]
theorem cN.Jf{β:ca}{H:Hp}:∀{l:List SV} {ms:List MapEntry} {n:Nat},cN β H l ms n->∀i,i<l.length->∃a,aL l i=.bP a
 | x::l,ms,n,h,0,_=>by simp only[cN]at h;obtain⟨key,y,m,r,rfl,_⟩:=h;exact⟨_,rfl⟩
 | x::l,ms,n,h,i+1,hi=>by simp only[cN]at h;obtain⟨key,y,m,r,rfl,rfl,h3,h4,h5,h6,h7⟩:=h;exact h7.Jf i (by simpa using hi)
end Go.Sv
namespace Go.Sv
open Go
def Cx:List Nat:=[3,4,5,0,7]
def mC:Nat:=319
def gl(g:Nat):Option SV:=if Cx.contains g then some (.iJ mC g) else none
end Go.Sv


/- A text of the prover's own. -/
import Derived.OrdersHeld
import Derived.Tactics
open Nat renaming add_mul→alV,one_mul→alW
open List renaming getElem?_append_left→alX,getElem?_append_right→alY,replicate→alZ
theorem alR{a b:Prop}(h:b)(g:a:=by omega):a∧b:=⟨g,h⟩
namespace Go.Sv
open Go
inductive SV where
 | val (v:Value)
 | ptr (k i j:Nat)
 | view (k i n:Nat)
 | ro (es:List SV)
 | bU (x:SV) (j:Nat)
 | agg (l:List SV)
 | bG (l:List SV)
 | iw (t:TypeId) (x:SV)
 /-- what package variable g holds: an error of its own, of type t -/
 | fp (t:TypeId) (g:Nat)
 /-- some value of one cell, of which nothing is told -/
 | any
 /-- a function with what is bound to it -/
 | gA (f:FuncId) (l r:List SV)
 /-- the map that an entry holds -/
 | mp (k:Nat)
instance:Inhabited SV:=⟨.val undef⟩
structure Bd where
 b:Nat
 Gr:Nat
 sz:Nat
abbrev bO:=Nat→Option (Option Bd)
abbrev Hp:=Nat→Option (Array Value)
def lF:bO:=fun _=>none
def SV.one:SV→Bool
 | .agg _ | .bG _=>false
 | .val v=>v.oneCell'
 | _=>true
mutual
def Den(β:bO)(H:Hp):SV→Value→Prop
 | .val v,u=>u=v∧v.oneCell'=true
 | .ptr k i j,u=>∃d,β k=some (some d)∧u=.pointer (some ⟨d.b,i*d.sz+j,none⟩)
 | .view k i n,u=>(β k=some none∧i=0∧n=0∧u=.slice none 0 0) ∨
   ∃d c o,β k=some (some d)∧n≤c∧(i+c)*d.sz≤d.Gr∧(c≠0→o=i*d.sz)∧u=.slice (some ⟨d.b,o,none⟩) n c
 | .ro es,u=>(es=[]∧∃a c,u=.slice a 0 c) ∨
   ∃b o c s cs vs,u=.slice (some ⟨b,o,none⟩) es.length c∧es.length≤c∧H b=some cs∧aU lF H s es vs∧∀i,i<vs.length→cs[o+i]?=vs[i]?
 | .bU x j,u=>∃b o cs v,u=.pointer (some ⟨b,o+j,none⟩)∧H b=some cs∧Den lF H x v∧∀i,i<v.cells.size→cs[o+i]?=v.cells[i]?
 | .agg l,u=>∃vs,u=.agg vs.toArray∧bh β H l vs
 | .bG l,u=>∃vs,u=.tuple vs.toArray∧bF β H l vs
 | .iw t x,u=>∃v,u=.iface t v∧Den β H x v
 | .fp t g,u=>∃b:Addr,H g=some #[.iface t (.pointer (some b))]∧u=.iface t (.pointer (some b))
 | .any,u=>u.oneCell'=true
 | .gA f l r,u=>∃vs ws,u=.func (.func f) vs.toArray ws.toArray∧bF β H l vs∧bF β H r ws
 | .mp k,u=>∃d,β k=some (some d)∧d.sz=1∧u=.map (some d.b)
def bh(β:bO)(H:Hp):List SV→List Value→Prop
 | [],vs=>vs=[]
 | x::l,vs=>∃v r,vs=v::r∧x.one=true∧Den β H x v∧bh β H l r
def bF(β:bO)(H:Hp):List SV→List Value→Prop
 | [],vs=>vs=[]
 | x::l,vs=>∃v r,vs=v::r∧Den β H x v∧bF β H l r
def aU(β:bO)(H:Hp)(s:Nat):List SV→List Value→Prop
 | [],vs=>vs=[]
 | x::l,vs=>∃v r,vs=v.cells.toList++r∧v.cells.size=s∧Den β H x v∧aU β H s l r
end
mutual
def SV.bC(k:Nat):SV→Bool
 | .ptr k' _ _=>k'==k
 | .view k' _ _=>k'==k
 | .agg l=>SV.aX k l
 | .bG l=>SV.aX k l
 | .iw _ x=>x.bC k
 | .gA _ l r=>SV.aX k l||SV.aX k r
 | .mp k'=>k'==k
 | _=>false
def SV.aX(k:Nat):List SV→Bool
 | []=>false
 | x::l=>x.bC k||SV.aX k l
end
mutual
def SV.pure:SV→Bool
 | .ptr _ _ _=>false
 | .view _ _ _=>false
 | .agg l=>SV.ba l
 | .bG l=>SV.ba l
 | .iw _ x=>x.pure
 | .gA _ l r=>SV.ba l&&SV.ba r
 | .mp _=>false
 | _=>true
def SV.ba:List SV→Bool
 | []=>true
 | x::l=>x.pure&&SV.ba l
end
mutual
theorem SV.sD(k:Nat):∀x:SV,x.pure=true→x.bC k=false
 | .val _,_=>rfl
 | .ptr _ _ _,h=>by simp[SV.pure]at h
 | .view _ _ _,h=>by simp[SV.pure]at h
 | .mp _,h=>by simp[SV.pure]at h
 | .ro _,_=>rfl
 | .bU _ _,_=>rfl
 | .fp _ _,_=>rfl
 | .any,_=>rfl
 | .gA _ l r,h=>by
  simp only[SV.pure,Bool.and_eq_true]at h;simp[SV.bC,SV.fY k l h.1,SV.fY k r h.2]
 | .agg l,h=>by simp only[SV.bC];exact SV.fY k l (by simpa[SV.pure]using h)
 | .bG l,h=>by simp only[SV.bC];exact SV.fY k l (by simpa[SV.pure]using h)
 | .iw _ x,h=>by simp only[SV.bC];exact SV.sD k x (by simpa[SV.pure]using h)
theorem SV.fY(k:Nat):∀l:List SV,SV.ba l=true→SV.aX k l=false
 | [],_=>rfl
 | x::l,h=>by
  simp only[SV.ba,Bool.and_eq_true]at h;simp[SV.aX,SV.sD k x h.1,SV.fY k l h.2]
end
def SV.cells:SV→List SV
 | .agg l=>l
 | x=>[x]
def SV.fj:SV→Nat
 | .agg l=>l.length
 | _=>1
mutual
theorem Den.mono{β β':bO}{H H':Hp}(hH:∀b cs,H b=some cs→H' b=some cs) :
  ∀(x:SV) (u:Value),(∀k d,x.bC k=true→β k=some d→β' k=some d)→Den β H x u→Den β' H' x u
 | .val v,u,_,h=>by simpa[Den]using h
 | .ptr k i j,u,hb,h=>by
  simp only[Den]at h ⊢;obtain⟨d,h1,h2⟩:=h;exact⟨d,hb k _ (by simp[SV.bC]) h1,h2⟩
 | .view k i n,u,hb,h=>by
  simp only[Den]at h ⊢;rcases h with⟨h1,h2⟩ | ⟨d,c,o,h1,h2⟩
  ·exact .inl ⟨hb k _ (by simp[SV.bC]) h1,h2⟩
  ·exact .inr ⟨d,c,o,hb k _ (by simp[SV.bC]) h1,h2⟩
 | .ro es,u,_,h=>by
  simp only[Den]at h ⊢;rcases h with h | ⟨b,o,c,s,cs,vs,h1,h2,h3,h4,h5⟩
  ·exact .inl h
  ·exact .inr ⟨b,o,c,s,cs,vs,h1,h2,hH _ _ h3,aU.mono hH s es vs (fun k d _ h=>h) h4,h5⟩
 | .bU x j,u,_,h=>by
  simp only[Den]at h ⊢;obtain⟨b,o,cs,v,h1,h2,h3,h4⟩:=h;exact⟨b,o,cs,v,h1,hH _ _ h2,Den.mono hH x v (fun k d _ h=>h) h3,h4⟩
 | .agg l,u,hb,h=>by
  simp only[Den]at h ⊢;obtain⟨vs,h1,h2⟩:=h;exact⟨vs,h1,bh.mono hH l vs (fun k d hk=>hb k d (by simpa[SV.bC]using hk)) h2⟩
 | .bG l,u,hb,h=>by
  simp only[Den]at h ⊢;obtain⟨vs,h1,h2⟩:=h;exact⟨vs,h1,bF.mono hH l vs (fun k d hk=>hb k d (by simpa[SV.bC]using hk)) h2⟩
 | .iw t x,u,hb,h=>by
  simp only[Den]at h ⊢;obtain⟨v,h1,h2⟩:=h;exact⟨v,h1,Den.mono hH x v (fun k d hk=>hb k d (by simpa[SV.bC]using hk)) h2⟩
 | .fp t g,u,_,h=>by
  simp only[Den]at h ⊢;obtain⟨b,h1,h2⟩:=h;exact⟨b,hH _ _ h1,h2⟩
 | .any,u,_,h=>by simpa[Den]using h
 | .mp k,u,hb,h=>by
  simp only[Den]at h ⊢;obtain⟨d,h1,h2⟩:=h;exact⟨d,hb k _ (by simp[SV.bC]) h1,h2⟩
 | .gA f l r,u,hb,h=>by
  simp only[Den]at h ⊢;obtain⟨vs,ws,h1,h2,h3⟩:=h;exact⟨vs,ws,h1,bF.mono hH l vs (fun k d hk=>hb k d (by simp[SV.bC,hk])) h2,bF.mono hH r ws (fun k d hk=>hb k d (by simp[SV.bC,hk])) h3⟩
theorem bh.mono{β β':bO}{H H':Hp}(hH:∀b cs,H b=some cs→H' b=some cs) :
  ∀(l:List SV) (vs:List Value),(∀k d,SV.aX k l=true→β k=some d→β' k=some d)→bh β H l vs→bh β' H' l vs
 | [],vs,_,h=>by simpa[bh]using h
 | x::l,vs,hb,h=>by
  simp only[bh]at h ⊢;obtain⟨v,r,h1,h2,h3,h4⟩:=h;exact⟨v,r,h1,h2,Den.mono hH x v (fun k d hk=>hb k d (by simp[SV.aX,hk])) h3,bh.mono hH l r (fun k d hk=>hb k d (by simp[SV.aX,hk])) h4⟩
theorem bF.mono{β β':bO}{H H':Hp}(hH:∀b cs,H b=some cs→H' b=some cs) :
  ∀(l:List SV) (vs:List Value),(∀k d,SV.aX k l=true→β k=some d→β' k=some d)→bF β H l vs→bF β' H' l vs
 | [],vs,_,h=>by simpa[bF]using h
 | x::l,vs,hb,h=>by
  simp only[bF]at h ⊢;obtain⟨v,r,h1,h3,h4⟩:=h;exact⟨v,r,h1,Den.mono hH x v (fun k d hk=>hb k d (by simp[SV.aX,hk])) h3,bF.mono hH l r (fun k d hk=>hb k d (by simp[SV.aX,hk])) h4⟩
theorem aU.mono{β β':bO}{H H':Hp}(hH:∀b cs,H b=some cs→H' b=some cs)(s:Nat) :
  ∀(l:List SV) (vs:List Value),(∀k d,SV.aX k l=true→β k=some d→β' k=some d)→aU β H s l vs→aU β' H' s l vs
 | [],vs,_,h=>by simpa[aU]using h
 | x::l,vs,hb,h=>by
  simp only[aU]at h ⊢;obtain⟨v,r,h1,h2,h3,h4⟩:=h;exact⟨v,r,h1,h2,Den.mono hH x v (fun k d hk=>hb k d (by simp[SV.aX,hk])) h3,aU.mono hH s l r (fun k d hk=>hb k d (by simp[SV.aX,hk])) h4⟩
end
theorem Den.up{β β':bO}{H H':Hp}{x:SV}{u:Value}(h:Den β H x u)(hb:∀k d,β k=some d→β' k=some d)(hH:∀b cs,H b=some cs→H' b=some cs):Den β' H' x u :=
 Den.mono hH x u (fun k d _=>hb k d) h
theorem Den.any{β β':bO}{H H':Hp}{x:SV}{u:Value}(h:Den β H x u)(hx:x.pure=true)(hH:∀b cs,H b=some cs→H' b=some cs):Den β' H' x u :=
 Den.mono hH x u (fun k d hk=>by simp[SV.sD k x hx]at hk) h
theorem aU.any{β β':bO}{H H':Hp}{s:Nat}{l:List SV}{u:List Value}(h:aU β H s l u)(hx:SV.ba l=true)(hH:∀b cs,H b=some cs→H' b=some cs):aU β' H' s l u :=
 aU.mono hH s l u (fun k d hk=>by simp[SV.fY k l hx]at hk) h
theorem bF.any{β β':bO}{H H':Hp}{l:List SV}{u:List Value}(h:bF β H l u)(hx:SV.ba l=true)(hH:∀b cs,H b=some cs→H' b=some cs):bF β' H' l u :=
 bF.mono hH l u (fun k d hk=>by simp[SV.fY k l hx]at hk) h
theorem dU{v:Value}(h:v.oneCell'=true):v.cells=#[v]:=by
 cases v<;>simp_all [Value.oneCell',Value.cells]
theorem bh.length{β:bO}{H:Hp}:∀{l:List SV} {vs:List Value},bh β H l vs→vs.length=l.length
 | [],vs,h=>by simp[bh]at h;simp[h]
 | x::l,vs,h=>by
  simp only[bh]at h;obtain⟨v,r,h1,h2,h3,h4⟩:=h;simp[h1,h4.length]
theorem Den.one{β:bO}{H:Hp}{x:SV}{u:Value}(h:Den β H x u)(hx:x.one=true):u.oneCell'=true:=by
 cases x<;>simp only[Den,SV.one]at h hx
 case val v=>simp[h.1,h.2]
 case ptr=>obtain⟨d,h1,h2⟩:=h;simp[h2,Value.oneCell']
 case view=>rcases h with⟨_,_,_,h⟩ | ⟨d,c,o,_,_,_,_,h⟩<;>simp[h,Value.oneCell']
 case ro=>rcases h with⟨_,_,_,h⟩ | ⟨b,o,c,s,cs,vs,h,_⟩<;>simp[h,Value.oneCell']
 case bU=>obtain⟨b,o,cs,v,h,_⟩:=h;simp[h,Value.oneCell']
 case iw=>obtain⟨v,h,_⟩:=h;simp[h,Value.oneCell']
 case fp=>obtain⟨b,_,h⟩:=h;simp[h,Value.oneCell']
 case any=>exact h
 case gA=>obtain⟨vs,ws,h,_⟩:=h;simp[h,Value.oneCell']
 case mp=>obtain⟨d,_,_,h⟩:=h;simp[h,Value.oneCell']
 all_goals simp at hx
theorem Den.nH{β:bO}{H:Hp}{x:SV}{u:Value}(h:Den β H x u):(∃l,x=.bG l)∨u.cells.size=x.fj:=by
 cases x
 case bG l=>exact .inl ⟨l,rfl⟩
 case agg l =>
  simp only[Den]at h;obtain⟨vs,h1,h2⟩:=h;right;simp[h1,Value.cells,SV.fj,h2.length]
 case val v=>simp only[Den]at h;right;rw[dU (by rw[h.1];exact h.2)];simp[SV.fj]
 all_goals (right;rw[dU (Den.one h rfl)];simp[SV.fj])
def aA:List SV→Nat→SV
 | [],_=>default
 | x::_,0=>x
 | _::l,n+1=>aA l n
def bD:List SV→Nat→SV→List SV
 | [],_,_=>[]
 | _::l,0,y=>y::l
 | x::l,n+1,y=>x::bD l n y
theorem bh.get{β:bO}{H:Hp}:∀{l:List SV} {vs:List Value} {i:Nat},bh β H l vs→i<l.length→∃v,vs[i]?=some v∧(aA l i).one=true∧Den β H (aA l i) v
 | x::l,vs,0,h,_=>by
  simp only[bh]at h;obtain⟨v,r,rfl,h2,h3,h4⟩:=h;exact⟨v,by simp,h2,h3⟩
 | x::l,vs,i+1,h,hi=>by
  simp only[bh]at h;obtain⟨v,r,rfl,h2,h3,h4⟩:=h;obtain⟨w,hw⟩:=h4.get (i:=i) (by simpa using hi);exact⟨w,by simpa using hw.1,hw.2⟩
theorem bF.get{β:bO}{H:Hp}:∀{l:List SV} {vs:List Value} {i:Nat},bF β H l vs→i<l.length→∃v,vs[i]?=some v∧Den β H (aA l i) v
 | x::l,vs,0,h,_=>by
  simp only[bF]at h;obtain⟨v,r,rfl,h3,h4⟩:=h;exact⟨v,by simp,h3⟩
 | x::l,vs,i+1,h,hi=>by
  simp only[bF]at h;obtain⟨v,r,rfl,h3,h4⟩:=h;obtain⟨w,hw⟩:=h4.get (i:=i) (by simpa using hi);exact⟨w,by simpa using hw.1,hw.2⟩
theorem aU.length{β:bO}{H:Hp}{s:Nat}:∀{l:List SV} {vs:List Value},aU β H s l vs→vs.length=l.length*s
 | [],vs,h=>by simp[aU]at h;simp[h]
 | x::l,vs,h=>by
  simp only[aU]at h;obtain⟨v,r,rfl,h2,h3,h4⟩:=h;have:=h4.length;simp[this,h2,alV];omega
theorem aU.get{β:bO}{H:Hp}{s:Nat}:∀{l:List SV} {vs:List Value} {i:Nat},aU β H s l vs→i<l.length →
  ∃v,Den β H (aA l i) v∧v.cells.size=s∧∀j,j<s→vs[i*s+j]?=v.cells[j]?
 | x::l,vs,0,h,_=>by
  simp only[aU]at h;obtain⟨v,r,rfl,h2,h3,h4⟩:=h;refine⟨v,h3,h2,fun j hj=>?_⟩;rw[Nat.zero_mul,Nat.zero_add,alX (by simpa[h2]using hj)];simp
 | x::l,vs,i+1,h,hi=>by
  simp only[aU]at h;obtain⟨v,r,rfl,h2,h3,h4⟩:=h;obtain⟨w,hw1,hw2,hw3⟩:=h4.get (i:=i) (by simpa using hi);refine⟨w,hw1,hw2,fun j hj=>?_⟩;rw[←hw3 j hj,alY (by simp[h2,alV];omega)];congr 1;simp[h2,alV];omega
theorem zp{l:List SV}{i:Nat}(h:i<l.length):aA l i=l[i]:=by
 induction l generalizing i with
 | nil=>simp at h
 | cons x l ih=>cases i with
  | zero=>rfl
  | succ i=>simpa[aA]using ih (by simpa using h)
theorem cj(l:List SV)(i:Nat)(y:SV):bD l i y=l.set i y:=by
 induction l generalizing i with
 | nil=>rfl
 | cons x l ih=>cases i<;>simp[bD,ih]
theorem wA{α:Type}[Inhabited α](f:α→SV)(xs:List α)(i:Nat)(h:i<xs.length):aA (xs.map f) i=f (xs[i]!):=by
 rw[zp (by simpa using h)];simp[h]
theorem aU.set{β:bO}{H:Hp}{s:Nat}:∀{l:List SV} {vs:List Value} {i:Nat} {y:SV} {v:Value},aU β H s l vs→i<l.length→Den β H y v→v.cells.size=s →
  ∃vs',aU β H s (bD l i y) vs'∧vs'.length=vs.length∧∀q,vs'[q]?=if i*s≤q∧q<i*s+s then v.cells[q - i*s]? else vs[q]?
 | x::l,vs,0,y,v,h,_,hy,hs=>by
  simp only[aU]at h;obtain⟨u,r,rfl,h2,h3,h4⟩:=h;refine⟨v.cells.toList++r,by simp only[bD,aU];exact⟨v,r,rfl,hs,hy,h4⟩,by simp[hs,h2],fun q=>?_⟩;by_cases hq:q<s
  ·rw[alX (by simpa[hs]using hq),if_pos (by omega)];simp
  ·rw[alY (by simp[hs];omega),if_neg (by omega),alY (by simp[h2];omega)];simp[hs,h2]
 | x::l,vs,i+1,y,v,h,hi,hy,hs=>by
  simp only[aU]at h;obtain⟨u,r,rfl,h2,h3,h4⟩:=h;obtain⟨vs',hw1,hw2,hw3⟩:=aU.set (i:=i) h4 (by simpa using hi) hy hs;refine⟨u.cells.toList++vs',by simp only[bD,aU];exact⟨u,vs',rfl,h2,h3,hw1⟩,by simp[hw2],fun q=>?_⟩;by_cases hq:q<s
  ·rw[alX (by simpa[h2]using hq),if_neg (by simp[alV];omega),alX (by simpa[h2]using hq)]
  ·rw[alY (by simp[h2];omega),alY (by simp[h2];omega),hw3];simp only[Array.length_toList,h2,alV,alW];have e:(i*s≤q - s∧q - s<i*s+s)↔(i*s+s≤q∧q<i*s+s+s):=by omega
   simp only[e];have:q - s - i*s=q - (i*s+s):=by omega
   rw[this]
theorem aU.append{β:bO}{H:Hp}{s:Nat}:∀{l l':List SV} {vs vs':List Value},aU β H s l vs→aU β H s l' vs'→aU β H s (l++l') (vs++vs')
 | [],l',vs,vs',h,h'=>by simp only[aU]at h;simpa[h]using h'
 | x::l,l',vs,vs',h,h'=>by
  simp only[aU,List.cons_append]at h ⊢;obtain⟨v,r,rfl,h2,h3,h4⟩:=h;exact⟨v,r++vs',by simp,h2,h3,h4.append h'⟩
theorem aU.take{β:bO}{H:Hp}{s:Nat}:∀{l:List SV} {vs:List Value} (n:Nat),aU β H s l vs→aU β H s (l.take n) (vs.take (n*s))
 | [],vs,n,h=>by simp only[aU]at h;simp[h,aU]
 | x::l,vs,0,h=>by simp[aU]
 | x::l,vs,n+1,h=>by
  simp only[aU,List.take_succ_cons]at h ⊢;obtain⟨v,r,rfl,h2,h3,h4⟩:=h;refine⟨v,r.take (n*s),?_,h2,h3,h4.take n⟩;rw[alV,alW,List.take_append,List.take_of_length_le (by simp[h2])];simp[h2]
theorem aU.drop{β:bO}{H:Hp}{s:Nat}:∀{l:List SV} {vs:List Value} (n:Nat),aU β H s l vs→aU β H s (l.drop n) (vs.drop (n*s))
 | [],vs,n,h=>by simp only[aU]at h;simp[h,aU]
 | x::l,vs,0,h=>by simpa using h
 | x::l,vs,n+1,h=>by
  simp only[aU,List.drop_succ_cons]at h ⊢;obtain⟨v,r,rfl,h2,h3,h4⟩:=h;have:=h4.drop n;have e:(v.cells.toList++r).drop ((n+1)*s)=r.drop (n*s):=by
   have e0:v.cells.toList.drop ((n+1)*s)=[]:=List.drop_eq_nil_of_le (by rw[Array.length_toList,h2,alV];omega);rw[List.drop_append,e0];simp[h2,alV]
  rw[e];exact this
theorem aU.replicate{β:bO}{H:Hp}{s:Nat}{x:SV}{v:Value}(h:Den β H x v)(hs:v.cells.size=s):∀n,aU β H s (alZ n x) (alZ n v.cells.toList).flatten
 | 0=>by simp[aU]
 | n+1=>by
  simp only[List.replicate_succ,aU,List.flatten_cons];exact⟨v,_,rfl,hs,h,aU.replicate h hs n⟩
def A0:Value→Bool
 | .int _ _ | .string _ | .bool _=>true
 | _=>false
def cH(β:bO)(H:Hp):List SV→List MapEntry→Nat→Prop
 | [],ms,_=>ms=[]
 | x::l,ms,n=>∃key y m r,x=.bG [.val key,y]∧ms=m::r∧m.key=key∧A0 key=true∧m.born=n∧Den β H y m.val∧cH β H l r (n+1)
theorem cH.mono{β β':bO}{H H':Hp}(hH:∀b cs,H b=some cs→H' b=some cs) :
  ∀(l:List SV) (ms:List MapEntry) (n:Nat),(∀k d,SV.aX k l=true→β k=some d→β' k=some d)→cH β H l ms n→cH β' H' l ms n
 | [],ms,n,_,h=>by simpa[cH]using h
 | x::l,ms,n,hb,h=>by
  simp only[cH]at h ⊢;obtain⟨key,y,m,r,rfl,h2,h3,h4,h5,h6,h7⟩:=h;exact⟨key,y,m,r,rfl,h2,h3,h4,h5,Den.mono hH y _ (fun k d hk=>hb k d (by simp[SV.aX,SV.bC,hk])) h6,cH.mono hH l r _ (fun k d hk=>hb k d (by simp[SV.aX,hk])) h7⟩
theorem cH.length{β:bO}{H:Hp}:∀{l:List SV} {ms:List MapEntry} {n:Nat},cH β H l ms n→ms.length=l.length
 | [],ms,n,h=>by simp[cH]at h;simp[h]
 | x::l,ms,n,h=>by
  simp only[cH]at h;obtain⟨key,y,m,r,rfl,rfl,h3,h4,h5,h6,h7⟩:=h;simp[h7.length]
theorem cH.Fu{β:bO}{H:Hp}:∀{l:List SV} {ms:List MapEntry} {n:Nat},cH β H l ms n→∀i,i<l.length→∃a,aA l i=.bG a
 | x::l,ms,n,h,0,_=>by
  simp only[cH]at h;obtain⟨key,y,m,r,rfl,_⟩:=h;exact⟨_,rfl⟩
 | x::l,ms,n,h,i+1,hi=>by
  simp only[cH]at h;obtain⟨key,y,m,r,rfl,rfl,h3,h4,h5,h6,h7⟩:=h;exact h7.Fu i (by simpa using hi)
end Go.Sv
namespace Go.Sv
open Go
def pX:List Nat:=[3,1,4,0,5,6,2,7,8,9]
def eM:Nat:=285
def gl(g:Nat):Option SV:=if pX.contains g then some (.fp eM g) else none
end Go.Sv


/- A text of the prover's own. -/
import Derived.Test.YtnimjdcaajmfcaaGreatDoorBVw
open List renaming mem_cons->atf,mem_singleton->atg,mem_append->ath,getElem?_eq_none->asu,range->ati
open Option.some renaming injEq->ass
open Nat renaming le_trans->atj,lt_of_lt_of_le->atk,lt_or_ge->as2,le_refl->asN
open Bool renaming and_eq_true->atl
open Prod.mk renaming injEq->awN
open Go.Sem renaming run_bind->av4,run_pure->awi
namespace Go.Sv
open Go Go.RowKit
def wA(H:Hp)(w:World):Prop:=(∀b cs,H b=some cs->∃T z,w.heap[b]?=some (.cells cs T z))∧NV H
theorem cJ.OO{C:Ctx}{β:ca}{H:Hp}{M:aD}{w:World}(h:cJ C β H M w):wA H w:=⟨h.inv,h.fT⟩
def rC(P:Program)(f:FuncId)(args:List SV)(Φ:SV->Prop):Prop :=
 ∀(H:Hp) (w:World) (ab:List Value),wA H w->bY rz H args ab->Calls P f ab.toArray w λe w' =>
  ∃H' v x,e=.returned v∧Den rz H' x v∧Φ x∧(∀b cs,H b=some cs->H' b=some cs)∧(∀b cs,H' b=some cs->H b=some cs∨w.heap.size<=b)∧wA H' w'∧Below w.heap.size w w'
def aG(P:Program)(f:FuncId)(args:List SV)(y:SV):Prop:=rC P f args (λx=>x=y)
/-! ### A symbolic value with own entries, read as one without -/
mutual
def Sub(M:aD):SV->SV->Prop
 | .view k i n,y=>match y with
  | .ro es=>match aA M k with
   | some e=>SV.bJ e.es=true∧i+n<=e.es.length∧(e.es.drop i).take n=es
   | none=>False
  | _=>False
 | .ptr k i j,y=>match y with
  | .dc x j'=>match aA M k with
   | some e=>SV.bJ e.es=true∧i<e.es.length∧(aL e.es i).aV=false∧aL e.es i=x∧j=j'
   | none=>False
  | _=>False
 | .agg l,y=>match y with
  | .agg l'=>cK M l l'
  | _=>False
 | .bP l,y=>match y with
  | .bP l'=>cK M l l'
  | _=>False
 | .iT t x,y=>match y with
  | .iT t' x'=>t=t'∧Sub M x x'
  | _=>False
 | .val v,y=>match y with
  | .ro es=>v=.slice none 0 0∧es=[]
  | .val v'=>v=v'
  | _=>False
 | .ro es,y=>y=.ro es
 | .dc x j,y=>y=.dc x j
 | .iJ t g,y=>y=.iJ t g
 | .any,y=>y=.any
 | .jw f l r,y=>match y with
  | .jw f' l' r'=>f=f'∧cK M l l'∧cK M r r'
  | _=>False
 | .mp _,_=>False
def cK(M:aD):List SV->List SV->Prop
 | [],y=>y=[]
 | x::l,y=>match y with
  | x'::l'=>Sub M x x'∧cK M l l'
  | []=>False
end
def Kq:List Nat->aD->aD
 | [],M=>M
 | k::r,M=>match aA M k with
  | some e=>Kq r (aX M k (some ⟨e.sz,e.es,true⟩))
  | none=>Kq r M
theorem wT{M:aD}{k:Nat}{e:cz}(h:M[k]?=some (some e)):aA M k=some e:=by
 induction M generalizing k with
 | nil=>simp at h
 | cons x l ih=>cases k with
  | zero=>simp at h;simp[aA,h]
  | succ k=>simpa[aA]using ih (by simpa using h)
theorem sC(M:aD)(k j:Nat)(e:cz)(hk:∃e',aA M k=some e'):aA (aX M k (some e)) j=if j=k then some e else aA M j:=by
 induction M generalizing k j with
 | nil=>obtain⟨e',h⟩:=hk;simp[aA]at h
 | cons x l ih =>
  cases k with
  | zero=>cases j<;>simp[aX,aA]
  | succ k=>cases j with
   | zero=>simp[aX,aA]
   | succ j=>simpa[aX,aA]using ih k j (by simpa[aA]using hk)
section
variable {P:Program} {C:Ctx} {β:ca} {H:Hp} {M:aD} {w:World}
theorem y6:∀(ks:List Nat) {H:Hp} {M:aD},cJ C β H M w->(∀k∈ks,∀e,aA M k=some e->SV.bJ e.es=true) ->
  ∃H',(∀b cs,H b=some cs->H' b=some cs)∧cJ C β H' (Kq ks M) w ∧
   (∀k e,aA M k=some e->∃e',aA (Kq ks M) k=some e'∧e'.es=e.es∧e'.sz=e.sz∧((e.fz=true∨k∈ks)->e'.fz=true))
 | [],H,M,h,_=>⟨H,λ_ _ h=>h,h,λk e he=>⟨e,he,rfl,rfl,λh=>h.resolve_right (by simp)⟩⟩
 | k::r,H,M,h,hp=>by
  simp only[Kq];cases hk:aA M k with
  | none =>
   obtain⟨H',h1,h2,h3⟩:=y6 r h (λj hj=>hp j (by simp[hj]));refine⟨H',h1,h2,λj e he=>?_⟩;obtain⟨e',g1,g2,g3,g4⟩:=h3 j e he;refine⟨e',g1,g2,g3,λhh=>g4 ?_⟩;rcases hh with hh | hh
   ·exact .inl hh
   ·rcases atf.1 hh with rfl | hh
    ·rw[hk]at he;cases he
    ·exact .inr hh
  | some e =>
   obtain⟨H1,a1,a2⟩:=h.freeze (aT hk) (hp k (by simp) e hk);rw[<-dI]at a2;simp only;have aw:=λj=>sC M k j ⟨e.sz,e.es,true⟩ ⟨e,hk⟩;obtain⟨H',h1,h2,h3⟩:=y6 r a2 (λj hj e' ae=>by
    rw[aw]at ae;split at ae
    ·simp only[ass]at ae;subst ae;exact hp k (by simp) e hk
    ·exact hp j (by simp[hj]) e' ae)
   refine⟨H',λb cs hb=>h1 b cs (a1 b cs hb),h2,λj e' ae=>?_⟩;by_cases hj:j=k
   ·subst hj;rw[hk]at ae;simp only[ass]at ae;subst ae;obtain⟨ax,g1,g2,g3,g4⟩:=h3 j ⟨e.sz,e.es,true⟩ (by rw[aw];simp);exact⟨ax,g1,g2,g3,λ_=>g4 (.inl rfl)⟩
   ·obtain⟨ax,g1,g2,g3,g4⟩:=h3 j e' (by rw[aw,if_neg hj];exact ae);refine⟨ax,g1,g2,g3,λhh=>g4 ?_⟩;rcases hh with hh | hh
    ·exact .inl hh
    ·rcases atf.1 hh with rfl | hh
     ·exact absurd rfl hj
     ·exact .inr hh
mutual
theorem tE:∀{x y:SV},Sub M x y->∀k∈x.ks,∀e,aA M k=some e->SV.bJ e.es=true
 | .view k i n,y,h,k',hk,e,he=>by
  simp only[SV.ks,atg]at hk;subst hk;simp only[Sub]at h;split at h
  ·rw[he]at h;exact h.1
  ·exact h.elim
 | .ptr k i j,y,h,k',hk,e,he=>by
  simp only[SV.ks,atg]at hk;subst hk;simp only[Sub]at h;split at h
  ·rw[he]at h;exact h.1
  ·exact h.elim
 | .agg l,y,h,k',hk,e,he=>by
  simp only[Sub]at h;split at h
  ·exact kL h k' (by simpa[SV.ks]using hk) e he
  ·exact h.elim
 | .bP l,y,h,k',hk,e,he=>by
  simp only[Sub]at h;split at h
  ·exact kL h k' (by simpa[SV.ks]using hk) e he
  ·exact h.elim
 | .iT t x,y,h,k',hk,e,he=>by
  simp only[Sub]at h;split at h
  ·exact tE h.2 k' (by simpa[SV.ks]using hk) e he
  ·exact h.elim
 | .val v,y,h,k',hk,e,he=>by simp[SV.ks]at hk
 | .ro es,y,h,k',hk,e,he=>by simp[SV.ks]at hk
 | .dc x j,y,h,k',hk,e,he=>by simp[SV.ks]at hk
 | .iJ t g,y,h,k',hk,e,he=>by simp[SV.ks]at hk
 | .any,y,h,k',hk,e,he=>by simp[SV.ks]at hk
 | .mp _,y,h,k',hk,e,he=>by simp only[Sub]at h
 | .jw f l r,y,h,k',hk,e,he=>by
  simp only[Sub]at h;split at h
  ·simp only[SV.ks,ath]at hk;rcases hk with hk | hk
   ·exact kL h.2.1 k' hk e he
   ·exact kL h.2.2 k' hk e he
  ·exact h.elim
theorem kL:∀{l l':List SV},cK M l l'->∀k∈SV.uB l,∀e,aA M k=some e->SV.bJ e.es=true
 | [],l',h,k',hk,e,he=>by simp[SV.uB]at hk
 | x::l,l',h,k',hk,e,he=>by
  simp only[cK]at h;split at h
  ·simp only[SV.uB,ath]at hk;rcases hk with hk | hk
   ·exact tE h.1 k' hk e he
   ·exact kL h.2 k' hk e he
  ·exact h.elim
end
structure Fz(M M1:aD)(ks:List Nat):Prop where
 h:∀k e,aA M k=some e->k∈ks->∃e',aA M1 k=some e'∧e'.es=e.es∧e'.fz=true
theorem qU{s:Nat}{l:List SV}{vs:List Value}(h:aW β H s l vs)(hp:SV.bJ l=true):aW rz H s l vs:=h.any hp (λ_ _ h=>h)
mutual
theorem tO{M1:aD}(hW:cJ C β H M1 w):∀{x y:SV} {v:Value},Sub M x y->Fz M M1 x.ks->Den β H x v->Den rz H y v
 | .view k i n,y,v,h,hf,hd=>by
  simp only[Sub]at h;split at h
  ·split at h
   ·rename_i es e he;obtain⟨h1,h2,h3⟩:=h;obtain⟨e',g1,g2,g3⟩:=hf.h k e he (by simp[SV.ks]);have hlen:((e.es.drop i).take n).length=n:=by simp;omega
    simp only[Den]at hd ⊢;rcases hd with⟨a1,rfl,rfl,rfl⟩ | ⟨d,c,o,a1,a2,a3,a4,rfl⟩
    ·left;exact⟨by rw[<-h3];simp,_,_,rfl⟩
    ·rcases hW.dt k e' (aT g1)with⟨b1,_⟩ | ⟨d',cs,T,vs,b1,b2,b3,b4,b5,b6,b7,b8⟩ | ⟨d',ms,b1,b2,b3,b4⟩
     rotate_left 2
     ·rw[a1]at b1;simp only[ass]at b1;subst b1;rw[b2.2.1,b2.2.2]at a3;have aJ:n=0:=by omega
      subst aJ;left;exact⟨by rw[<-h3];simp,_,_,rfl⟩
     ·rw[a1]at b1;simp at b1
     ·rw[a1]at b1;simp only[ass]at b1;subst b1;obtain⟨c1,c2⟩:=b8 g3;have ak:=qU b5 c2;rw[g2]at ak;have hl:=ak.length;right;rcases Nat.eq_zero_or_pos n with rfl | hn
      ·exact⟨d.b,o,c,e'.sz,cs,[],by rw[<-h3];simp,by rw[<-h3];simp,c1,by rw[<-h3];simp[aW],by simp⟩
      ·have ho:=a4 (by omega);refine⟨d.b,o,c,e'.sz,cs,(vs.drop (i*e'.sz)).take (n*e'.sz),by rw[<-h3,hlen],by rw[<-h3,hlen];exact a2,c1,by rw[<-h3];exact(ak.drop i).take n,λq hq=>?_⟩;simp only[List.length_take,List.length_drop]at hq;rw[List.getElem?_take_of_lt (by omega),List.getElem?_drop,ho,b2];exact b7 _ (by omega)
   ·exact h.elim
  ·exact h.elim
 | .ptr k i j,y,v,h,hf,hd=>by
  simp only[Sub]at h;split at h
  ·split at h
   ·rename_i x j' e he;obtain⟨h1,h2,aE,h3,rfl⟩:=h;obtain⟨e',g1,g2,g3⟩:=hf.h k e he (by simp[SV.ks]);simp only[Den]at hd ⊢;obtain⟨d,a1,rfl⟩:=hd;rcases hW.dt k e' (aT g1)with⟨b1,_⟩ | ⟨d',cs,T,vs,b1,b2,b3,b4,b5,b6,b7,b8⟩ | ⟨d',ms,b1,b2,b3,b4⟩
    rotate_left 2
    ·rw[g2]at b4;obtain⟨l,hl⟩:=b4.Jf _ h2;rw[hl]at aE;simp[SV.aV]at aE
    ·rw[a1]at b1;simp at b1
    ·rw[a1]at b1;simp only[ass]at b1;subst b1;obtain⟨c1,c2⟩:=b8 g3;have ak:=qU b5 c2;rw[g2]at ak;have hl:=ak.length;obtain⟨u,u1,u2,u3⟩:=ak.get h2;refine⟨d.b,i*e'.sz,cs,u,by rw[b2],c1,by rw[<-h3];exact u1,λq hq=>?_⟩;rw[u2]at hq;have:=Nat.mul_le_mul_right e'.sz (show i+1<=e.es.length from h2);rw[Nat.add_mul,Nat.one_mul]at this;rw[b7 _ (by omega)];exact u3 q hq
   ·exact h.elim
  ·exact h.elim
 | .agg l,y,v,h,hf,hd=>by
  simp only[Sub]at h;split at h
  ·simp only[Den]at hd ⊢;obtain⟨vs,rfl,ay⟩:=hd;exact⟨vs,rfl,AN hW h ⟨λk e he hk=>hf.h k e he (by simpa[SV.ks]using hk)⟩ ay⟩
  ·exact h.elim
 | .bP l,y,v,h,hf,hd=>by
  simp only[Sub]at h;split at h
  ·simp only[Den]at hd ⊢;obtain⟨vs,rfl,ay⟩:=hd;exact⟨vs,rfl,kO hW h ⟨λk e he hk=>hf.h k e he (by simpa[SV.ks]using hk)⟩ ay⟩
  ·exact h.elim
 | .iT t x,y,v,h,hf,hd=>by
  simp only[Sub]at h;split at h
  ·obtain⟨rfl,h⟩:=h;simp only[Den]at hd ⊢;obtain⟨u,rfl,hu⟩:=hd;exact⟨u,rfl,tO hW h ⟨λk e he hk=>hf.h k e he (by simpa[SV.ks]using hk)⟩ hu⟩
  ·exact h.elim
 | .val u,y,v,h,hf,hd=>by
  simp only[Sub]at h;split at h
  ·obtain⟨rfl,rfl⟩:=h;simp only[Den]at hd ⊢;left;exact⟨trivial,_,_,hd.1⟩
  ·subst h;simpa only[Den]using hd
  ·exact h.elim
 | .ro es,y,v,h,hf,hd=>by simp only[Sub]at h;subst h;exact Den.any hd rfl (λ_ _ h=>h)
 | .dc x j,y,v,h,hf,hd=>by simp only[Sub]at h;subst h;exact Den.any hd rfl (λ_ _ h=>h)
 | .iJ t g,y,v,h,hf,hd=>by simp only[Sub]at h;subst h;exact Den.any hd rfl (λ_ _ h=>h)
 | .any,y,v,h,hf,hd=>by simp only[Sub]at h;subst h;exact Den.any hd rfl (λ_ _ h=>h)
 | .mp _,y,v,h,hf,hd=>by simp only[Sub]at h
 | .jw f l r,y,v,h,hf,hd=>by
  simp only[Sub]at h;split at h
  ·obtain⟨rfl,h1,h2⟩:=h;simp only[Den]at hd ⊢;obtain⟨vs,ws,rfl,hv,hw⟩:=hd;exact⟨vs,ws,rfl,kO hW h1 ⟨λk e he hk=>hf.h k e he (by simp[SV.ks,hk])⟩ hv,kO hW h2 ⟨λk e he hk=>hf.h k e he (by simp[SV.ks,hk])⟩ hw⟩
  ·exact h.elim
theorem AN{M1:aD}(hW:cJ C β H M1 w):∀{l l':List SV} {vs:List Value},cK M l l'->Fz M M1 (SV.uB l)->bE β H l vs->bE rz H l' vs
 | [],l',vs,h,hf,hd=>by simp only[cK]at h;subst h;simpa[bE]using hd
 | x::l,l',vs,h,hf,hd=>by
  simp only[cK]at h;split at h
  ·simp only[bE]at hd ⊢;obtain⟨v,r,rfl,h2,h3,h4⟩:=hd;have aK:=tO hW h.1 ⟨λk e he hk=>hf.h k e he (by simp[SV.uB,hk])⟩ h3;refine⟨v,r,rfl,?_,aK,AN hW h.2 ⟨λk e he hk=>hf.h k e he (by simp[SV.uB,hk])⟩ h4⟩;rename_i x' bc;have h1:=h.1;cases x<;>simp only[Sub,SV.one]at h1 h2
   case val u=>split at h1<;>first | rfl | (subst h1;exact h2) | exact h1.elim
   case ro=>subst h1;rfl
   case dc=>subst h1;rfl
   case iJ=>subst h1;rfl
   case any=>subst h1;rfl
   case jw=>split at h1<;>first | rfl | exact h1.elim
   case ptr=>split at h1<;>first | rfl | exact h1.elim
   case view=>split at h1<;>first | rfl | exact h1.elim
   case iT=>split at h1<;>first | rfl | exact h1.elim
   all_goals cases h2
  ·exact h.elim
theorem kO{M1:aD}(hW:cJ C β H M1 w):∀{l l':List SV} {vs:List Value},cK M l l'->Fz M M1 (SV.uB l)->bY β H l vs->bY rz H l' vs
 | [],l',vs,h,hf,hd=>by simp only[cK]at h;subst h;simpa[bY]using hd
 | x::l,l',vs,h,hf,hd=>by
  simp only[cK]at h;split at h
  ·simp only[bY]at hd ⊢;obtain⟨v,r,rfl,h3,h4⟩:=hd;exact⟨v,r,rfl,tO hW h.1 ⟨λk e he hk=>hf.h k e he (by simp[SV.uB,hk])⟩ h3,kO hW h.2 ⟨λk e he hk=>hf.h k e he (by simp[SV.uB,hk])⟩ h4⟩
  ·exact h.elim
end
theorem cJ.after{H':Hp}{w':World}(h:cJ C β H M w)(hb:Below w.heap.size w w')(hH:∀b cs,H b=some cs->H' b=some cs)
  (hn:∀b cs,H' b=some cs->H b=some cs∨w.heap.size<=b) (hi:wA H' w'):cJ C β H' M w' where
 os:=hb.os.trans h.os
 tape:=hb.tape.trans h.tape
 output:=hb.output.trans h.output
 size:=atj h.size hb.size
 frame b ao hx:=by rw[hb.block b (atk ao h.size)];exact h.frame b ao hx
 ext b cs ao:=hH _ _ (h.ext b cs ao)
 new b cs ao:=by
  rcases hn b cs ao with h' | h'
  ·exact h.new b cs h'
  ·exact .inr (.inl (atj h.size h'))
 inv:=hi.1
 dt k e hk:=(h.dt k e hk).up (λ_ _ h=>h) hH (λd hd=>hb.block _ (h.lt hk hd))
 own k e d hk hd:=by
  refine⟨λhf=>?_,(h.own k e d hk hd).2⟩;cases aM:H' d.b with
  | none=>rfl
  | some cs =>
   rcases hn _ _ aM with h' | h'
   ·rw[(h.own k e d hk hd).1 hf]at h';cases h'
   ·have:=h.lt hk hd;omega
 inj:=h.inj
 fresh:=h.fresh
 im:=h.im
 fT:=hi.2
theorem yR{f:FuncId}{args ag:List SV}{Φ:SV->Prop}{W:Option (List Nat)}{K:aD->List Nat->SV->Prop}(h:rC P f ag Φ)(hs:cK M args ag)(hk:∀x,Φ x->K (Kq (SV.uB args) M) [] x):dN P C f args M W K:=by
 intro β H w ab hd hW;obtain⟨H1,h1,h2,h3⟩:=y6 (SV.uB args) hW (kL hs);have ap:=kO h2 hs ⟨λk e he hk=>by obtain⟨e',g1,g2, -,g4⟩:=h3 k e he;exact⟨e',g1,g2,g4 (.inr hk)⟩⟩ (bY.mono h1 _ _ (λ_ _ _ h=>h) hd)
 refine Calls.mono (h H1 w ab h2.OO ap) ?_;rintro e w' ⟨H',v,x,rfl,g1,g2,g3,g4,g5,g6⟩;exact⟨β,H',_,v,x,[],rfl,Den.up g1 (λk d hd=>by simp[rz]at hd) (λ_ _ h=>h),h2.after g6 g3 g4 g5,λ_ _ _ h=>h,λb cs hb=>g3 b cs (h1 b cs hb),hk x g2,g6.size,λks _=>⟨rfl,λb hb _=>g6.block b hb⟩⟩
mutual
def SV.flat:SV->Bool
 | .val _=>true
 | .iJ t g=>Cx.contains g&&t==mC
 | .agg l=>SV.yb l
 | .bP l=>SV.yb l
 | .iT _ x=>x.flat
 | .any=>true
 | _=>false
def SV.yb:List SV->Bool
 | []=>true
 | x::l=>x.flat&&SV.yb l
end
mutual
theorem yy{β:ca}{H H':Hp}(hg:NV H)(hH:∀b cs,H b=some cs->H' b=some cs):∀{x:SV} {v:Value},x.flat=true->Den rz H' x v->Den β H x v
 | .val u,v,_,h=>by simpa only[Den]using h
 | .any,v,_,h=>by simpa only[Den]using h
 | .iJ t g,v,hf,h=>by simp only[SV.flat,atl,beq_iff_eq]at hf;obtain⟨h1,rfl⟩:=hf;simp only[Den]at h ⊢;obtain⟨b,h2,rfl⟩:=h;obtain⟨u,h3,h4⟩:=hg.at_ g (.iJ mC g) (by unfold gl;rw[if_pos h1]);simp only[Den]at h3;obtain⟨b',h5,h6⟩:=h3;have:=hH _ _ h5;rw[h2]at this;simp only[ass,Array.mk.injEq,List.cons.injEq,Value.iface.injEq,Value.pointer.injEq,and_true,true_and]at this;subst this;exact⟨b,h5,rfl⟩
 | .agg l,v,hf,h=>by simp only[Den]at h ⊢;obtain⟨vs,rfl,h⟩:=h;exact⟨vs,rfl,yh hg hH (by simpa[SV.flat]using hf) h⟩
 | .bP l,v,hf,h=>by simp only[Den]at h ⊢;obtain⟨vs,rfl,h⟩:=h;exact⟨vs,rfl,yN hg hH (by simpa[SV.flat]using hf) h⟩
 | .iT t x,v,hf,h=>by simp only[Den]at h ⊢;obtain⟨u,rfl,h⟩:=h;exact⟨u,rfl,yy hg hH (by simpa[SV.flat]using hf) h⟩
 | .ro _,v,hf,h=>by simp[SV.flat]at hf
 | .dc _ _,v,hf,h=>by simp[SV.flat]at hf
 | .ptr _ _ _,v,hf,h=>by simp[SV.flat]at hf
 | .view _ _ _,v,hf,h=>by simp[SV.flat]at hf
 | .jw _ _ _,v,hf,h=>by simp[SV.flat]at hf
 | .mp _,v,hf,h=>by simp[SV.flat]at hf
theorem yh{β:ca}{H H':Hp}(hg:NV H)(hH:∀b cs,H b=some cs->H' b=some cs):∀{l:List SV} {vs:List Value},SV.yb l=true->bE rz H' l vs->bE β H l vs
 | [],vs,_,h=>by simpa only[bE]using h
 | x::l,vs,hf,h=>by simp only[SV.yb,atl]at hf;simp only[bE]at h ⊢;obtain⟨v,r,rfl,h1,h2,h3⟩:=h;exact⟨v,r,rfl,h1,yy hg hH hf.1 h2,yh hg hH hf.2 h3⟩
theorem yN{β:ca}{H H':Hp}(hg:NV H)(hH:∀b cs,H b=some cs->H' b=some cs):∀{l:List SV} {vs:List Value},SV.yb l=true->bY rz H' l vs->bY β H l vs
 | [],vs,_,h=>by simpa only[bY]using h
 | x::l,vs,hf,h=>by simp only[SV.yb,atl]at hf;simp only[bY]at h ⊢;obtain⟨v,r,rfl,h2,h3⟩:=h;exact⟨v,r,rfl,yy hg hH hf.1 h2,yN hg hH hf.2 h3⟩
end
/-! ### A function's own body -/
def mh:Nat->List SV->List (Nat × SV)
 | _,[]=>[]
 | i,x::l=>(i,x)::mh (i+1) l
def sc(P:Program)(st:St):ResultVar->Option (Prop × SV)
 | .tmp t=>match get st.fr t with
  | some x=>some (True,x)
  | none=>none
 | .cell t T=>match iO st.M (an P T) (get st.fr t)with
  | .q c x=>some (c,x)
  | _=>none
def uW(P:Program)(st:St):List ResultVar->Option (Prop × List SV)
 | []=>some (True,[])
 | r::l=>match sc P st r,uW P st l with
  | some (c,x),some (c',xs)=>some (c∧c',x::xs)
  | _,_=>none
def lG(P:Program)(st:St)(rs:List ResultVar):Option (Prop × SV) :=
 match uW P st rs with
 | some (c,[x])=>some (c,x)
 | some (c,l)=>some (c,.bP l)
 | none=>none
def lZ(P:Program)(rs:List ResultVar)(Φ:SV->Prop):bf:=λe st =>
 match e with
 | .normal | .ret=>match lG P st rs with
  | some (c,x)=>c∧∃y,Sub st.M x y∧Φ y
  | none=>False
 | _=>False
theorem Jw{n:Nat}{fr:List (Nat × SV)}{a:Act}(hF:iM β H n fr a)(hW:cJ C β H M w){r:ResultVar}{c:Prop}{x:SV}(h:sc P ⟨n,fr,M⟩ r=some (c,x))(hc:c) :
  ∃v,(match r with | .tmp t=>pure (a.tmps.getD t undef) | .cell t T=>do loadVar T (<-asAddr (a.tmps.getD t undef)):Sem Value).run P w=.ok v w∧Den β H x v:=by
 cases r with
 | tmp t =>
  simp only[sc]at h;split at h
  ·rename_i y hy;simp only[ass,awN]at h;obtain⟨-,rfl⟩:=h;obtain⟨v,hv,hd⟩:=hF.2.2 t _ hy;exact⟨v,by simp[hv],hd⟩
  ·cases h
 | cell t T =>
  simp only[sc]at h;split at h
  ·rename_i c' x' hl;simp only[ass,awN]at h;obtain⟨rfl,rfl⟩:=h;have hu:∀s,get fr t=some s->Den β H s (a.tmps.getD t undef):=λs hs=>by
    obtain⟨v,hv,hd⟩:=hF.2.2 t s hs;simpa[Array.getD_eq_getD_getElem?,hv]using hd
   obtain⟨z,al,aN⟩:=uG (P:=P) hW hl hc hu;replace al:=al w (λ_ _ _ _=>rfl);refine⟨z,?_,aN⟩;simp only[Instr.loadAt]at al;unfold Instr.sureAddr at al;unfold asAddr;split at al
   ·rename_i a' aO;simp only[aO];simpa using al
   ·simp at al
  ·cases h
theorem IY{n:Nat}{fr:List (Nat × SV)}{a:Act}(hF:iM β H n fr a)(hW:cJ C β H M w):∀(rs:List ResultVar) {c:Prop} {xs:List SV},uW P ⟨n,fr,M⟩ rs=some (c,xs)->c ->
  ∃vs,(rs.mapM (λr=>match r with | .tmp t=>pure (a.tmps.getD t undef) | .cell t T=>do loadVar T (<-asAddr (a.tmps.getD t undef)):ResultVar->Sem Value)).run P w=.ok vs w∧bY β H xs vs
 | [],c,xs,h,_=>by simp only[uW,ass,awN]at h;obtain⟨-,rfl⟩:=h;exact⟨[],by simp,by simp[bY]⟩
 | r::l,c,xs,h,hc=>by
  simp only[uW]at h;split at h
  ·rename_i c1 x c2 bd h1 h2;simp only[ass,awN]at h;obtain⟨rfl,rfl⟩:=h;obtain⟨v,aq,ar⟩:=Jw (P:=P) hF hW h1 hc.1;obtain⟨vs,az,aB⟩:=IY hF hW l h2 hc.2;refine⟨v::vs,?_,by simp only[bY];exact⟨v,vs,rfl,ar,aB⟩⟩;rw[List.mapM_cons];simp only[av4,aq,az,Result.andThen_ok,awi]
  ·cases h
theorem w7{n:Nat}{args:List SV}{ab:List Value}(hd:bY β H args ab)(hn:args.length<=n){a:Act}(aQ:NV H)(ha:a.defers=[])(ht:a.tmps=ab.toArray++Array.replicate (n - ab.length) undef):iM β H n (mh 0 args) a:=by
 have hlen:ab.length=args.length:=by
  have:∀(l:List SV) (vs:List Value),bY β H l vs->vs.length=l.length:=by
   intro l
   induction l with
   | nil=>intro vs h;simp[bY]at h;simp[h]
   | cons x l ih=>intro vs h;simp only[bY]at h;obtain⟨v,r,rfl,_,h⟩:=h;simp[ih r h]
  exact this args ab hd
 refine⟨⟨ha,aQ⟩,by rw[ht];simp[hlen];omega,λt x hg=>?_⟩;have key:∀(l:List SV) (vs:List Value) (i:Nat),bY β H l vs->get (mh i l) t=some x->∃v,i<=t∧vs[t - i]?=some v∧Den β H x v:=by
  intro l
  induction l with
  | nil=>intro vs i _ ah;simp[mh,get]at ah
  | cons y l ih =>
   intro vs i hd ah;simp only[bY]at hd;obtain⟨v,r,rfl,aS,aU⟩:=hd;simp only[mh,get]at ah;by_cases e:i=t
   ·rw[if_pos e]at ah;simp only[ass]at ah;rw[<-ah];exact⟨v,by omega,by simp[e],aS⟩
   ·rw[if_neg e]at ah;obtain⟨u,h1,h2,h3⟩:=ih r (i+1) aU ah;refine⟨u,by omega,?_,h3⟩;rw[show t - i=(t - (i+1))+1 from by omega];simpa using h2
 obtain⟨v,_,hv,aY⟩:=key args ab 0 hd hg;refine⟨v,?_,aY⟩;have aP:t<ab.length:=by
  rcases as2 t ab.length with h' | h'
  ·exact h'
  ·rw[asu (by simpa using h')]at hv;cases hv
 rw[ht,Array.getElem?_append_left (by simpa using aP)];simpa using hv
theorem CI{fn:Func}{st:St}{a:Act}(hF:iM β H st.n st.fr a)(hW:cJ C β H st.M w){c:Prop}{x:SV}(hr:lG P st fn.results.toList=some (c,x))(hc:c):∃v,(results fn a.tmps).run P w=.ok v w∧Den β H x v:=by
 unfold lG at hr;have aF:∀c xs,uW P st fn.results.toList=some (c,xs)->c->∃vs,(fn.results.mapM (λr=>match r with | .tmp t=>pure (a.tmps.getD t undef) | .cell t T=>do loadVar T (<-asAddr (a.tmps.getD t undef)):ResultVar->Sem Value)).run P w=.ok vs.toArray w∧bY β H xs vs:=λc xs h1 h2=>by obtain⟨vs,g1,g2⟩:=IY (P:=P) hF hW _ h1 h2;refine⟨vs,?_,g2⟩;rw[Array.mapM_eq_mapM_toList];simp only[Sem.run_map,g1,Result.andThen_ok]
 split at hr
 ·rename_i c0 x0 h0;simp only[ass,awN]at hr;obtain⟨rfl,rfl⟩:=hr;obtain⟨vs,g1,g2⟩:=aF _ _ h0 hc;simp only[bY]at g2;obtain⟨v,r,rfl,g3,rfl⟩:=g2;refine⟨v,?_,g3⟩;unfold results;simp only[av4,awi]
  erw [g1]
  simp
 ·rename_i c0 l hl h0;simp only[ass,awN]at hr;obtain⟨rfl,rfl⟩:=hr;obtain⟨vs,g1,g2⟩:=aF _ _ h0 hc;refine⟨.tuple vs.toArray,?_,by simp only[Den];exact⟨vs,rfl,g2⟩⟩;unfold results;simp only[av4,awi]
  erw [g1]
  have a0:vs.length≠1:=λh1=>by
   obtain⟨v,rfl⟩:=List.length_eq_one_iff.1 h1;cases l with
   | nil=>simp[bY]at g2
   | cons y l=>cases l with
    | nil=>exact hl _ rfl
    | cons z l =>
     simp only[bY]at g2;obtain⟨a,r,e1,_,b,r',e2,_⟩:=g2;simp[e2]at e1
  simp[a0]
 ·cases hr
theorem aj{f:FuncId}{fn:Func}{c:Code}{args:List SV}{Φ:SV->Prop}(hf:P.funcs[f]?=some fn)(hb:fn.body=some c)(hn:args.length<=fn.ntmps)
  (h:∀C:Ctx,C.fx=[]->vc P C c ⟨fn.ntmps,mh 0 args,[]⟩ (lZ P fn.results.toList Φ) (lZ P fn.results.toList Φ)):rC P f args Φ:=by
 intro H w ab hi hd;refine calls_of_wp hf hb ?_;have hj:=mO (C:=⟨w,H,[],rz,[]⟩) c _ (λ_ _ h=>h) (λ_ _ h=>h) (h ⟨w,H,[],rz,[]⟩ rfl);refine wp_mono (hj _ w ⟨rz,H,w7 hd hn hi.2 rfl (by simp),?_⟩) ?_
 ·exact⟨rfl,rfl,rfl,asN _,λ_ _ _=>rfl,λ_ _ h=>h,λ_ _ h=>.inl h,hi.1,λk e hk=>by simp at hk,λk e d hk=>by simp at hk,λk k' e e' d d' hk=>by simp at hk,λ_ _=>rfl,(λk d hk=>by cases hk),hi.2⟩
 ·rintro e a w' ⟨st,hq,β,H',hF,hW⟩;have key:(match lG P st fn.results.toList with | some (c,x)=>c∧∃y,Sub st.M x y∧Φ y | none=>False) ->
    a.defers=[]∧∃v,(results fn a.tmps).run P w'=.ok v w'∧∃H' v' x,Ending.returned v=.returned v'∧Den rz H' x v'∧Φ x∧(∀b cs,H b=some cs->H' b=some cs)∧(∀b cs,H' b=some cs->H b=some cs∨w.heap.size<=b)∧wA H' w'∧Below w.heap.size w w':=by
   intro hq;refine⟨hF.1.1,?_⟩;split at hq
   ·rename_i c' x hr;obtain⟨hc,y,hs,hΦ⟩:=hq;obtain⟨v,aq,ar⟩:=CI hF hW hr hc;obtain⟨H1,h1,h2,h3⟩:=y6 x.ks hW (tE hs);have ap:=tO h2 hs ⟨λk e he hk=>by
     obtain⟨e',g1,g2, -,g4⟩:=h3 k e he;exact⟨e',g1,g2,g4 (.inr hk)⟩⟩ (Den.up ar (λ_ _ h=>h) h1)
    exact⟨v,aq,H1,v,y,rfl,ap,hΦ,h2.ext,λb cs hb=>(h2.new b cs hb).imp id (λh=>h.resolve_right (by simp)),h2.OO,h2.os,h2.tape,h2.output,h2.size,λk hk=>h2.frame k hk (by simp)⟩
   ·exact hq.elim
  cases e<;>simp only[lZ]at hq<;>simp only[bodyPost]
  case normal=>exact key hq
  case ret=>exact key hq
def gK(P:Program)(rs:List ResultVar)(pk:List Nat)(k:aD->List Nat->SV->Prop):bf:=λe st =>
 match e with
 | .ret | .normal=>match lG P st rs with
  | some (c,x)=>c∧k st.M pk x
  | none=>False
 | _=>False
theorem dV{f:FuncId}{fn:Func}{c:Code}{args:List SV}{W:Option (List Nat)}{k:aD->List Nat->SV->Prop}(hf:P.funcs[f]?=some fn)(hb:fn.body=some c)(hn:args.length<=fn.ntmps)(pk:List Nat)
  (a5:∀i∈pk,i∉C.fx) (a6:∀ks,W=some ks->pk=[]∧∀i e,aA M i=some e->i∈ks)
  (h:∀C':Ctx,C'.fx=(ati M.length).filter (λi=>!pk.contains i)->vc P C' c ⟨fn.ntmps,mh 0 args,M⟩ (gK P fn.results.toList pk k) (gK P fn.results.toList pk k)):dN P C f args M W k:=by
 intro β H w ab hd hW;refine calls_of_wp hf hb ?_
 let X:List Nat:=(ati M.length).filterMap λi=>match aA M i,β i with
  | some _,some (some d)=>some d.b
  | _,_=>none
 have hX:∀b,b∈X↔∃i e d,aA M i=some e∧β i=some (some d)∧d.b=b:=λb=>by
  simp only[X,List.mem_filterMap,List.mem_range];constructor
  ·rintro⟨i,hi,he⟩;split at he
   ·rename_i e d h1 h2;simp only[ass]at he;exact⟨i,e,d,h1,h2,he⟩
   ·cases he
  ·rintro⟨i,e,d,hi,hd,rfl⟩;refine⟨i,?_,by simp[hi,hd]⟩;have:=aT hi;exact(List.getElem?_eq_some_iff.1 this).1
 have am:∀b,b∈X->C.w0.heap.size<=b∨b∈C.X:=λb hb=>by obtain⟨i,e,d,h1,h2,rfl⟩:=(hX b).1 hb;exact(hW.own i e d (aT h1) h2).2
 let C':Ctx:=⟨w,H,X,β,(ati M.length).filter (λi=>!pk.contains i)⟩
 have a7:∀i d,i∉pk->β i=some d->i∈C'.fx:=λi d hi hd=>by
  have:i<M.length:=by
   rcases as2 i M.length with h' | h'
   ·exact h'
   ·rw[hW.fresh i h']at hd;cases hd
  simp[C',this,hi]
 have a8:cJ C' β H M w:=⟨rfl,rfl,rfl,asN _,λ_ _ _=>rfl,λ_ _ h=>h,λ_ _ h=>.inl h,hW.inv,hW.dt,
  λi e d hi hd=>⟨(hW.own i e d hi hd).1,.inr ((hX _).2 ⟨i,e,d,wT hi,hd,rfl⟩)⟩,hW.inj,hW.fresh,λ_ _ _ h=>h,hW.fT⟩
 refine wp_mono (mO (C:=C') c _ (λ_ _ h=>h) (λ_ _ h=>h) (h C' rfl) _ w ⟨β,H,w7 hd hn hW.fT rfl (by simp),a8⟩) ?_;rintro e a w' ⟨st,hq,β',H',hF,ac⟩;have ai:∀i d,i∉pk->β i=some d->β' i=some d:=λi d hi hd=>ac.im i d (a7 i d hi hd) hd;have a9:cJ C β' H' st.M w':=⟨ac.os.trans hW.os,ac.tape.trans hW.tape,ac.output.trans hW.output,atj hW.size ac.size,
  λb hb hx=>by rw[ac.frame b (atk hb hW.size) (λaC=>by rcases am b aC with h' | h';omega;exact hx h')];exact hW.frame b hb hx,
  λb cs hb=>ac.ext b cs (hW.ext b cs hb),
  λb cs hb=>by
   rcases ac.new b cs hb with h' | h' | h'
   ·exact hW.new b cs h'
   ·exact .inr (.inl (atj hW.size h'))
   ·exact .inr (am b h'),
  ac.inv,ac.dt,
  λi e d hi hd=>⟨(ac.own i e d hi hd).1,by
   rcases(ac.own i e d hi hd).2 with h' | h'
   ·exact .inl (atj hW.size h')
   ·exact am _ h'⟩,
  ac.inj,ac.fresh,λi d hi hd=>ai i d (λhp=>a5 i hp hi) (hW.im i d hi hd),ac.fT⟩
 have key:(match lG P st fn.results.toList with | some (c,x)=>c∧k st.M pk x | none=>False) ->
   a.defers=[]∧∃v,(results fn a.tmps).run P w'=.ok v w'∧∃β' H' M' v' x pk,Ending.returned v=.returned v'∧Den β' H' x v'∧cJ C β' H' M' w'∧(∀k d,k∉pk->β k=some d->β' k=some d)∧(∀b cs,H b=some cs->H' b=some cs)∧k M' pk x ∧
    w.heap.size<=w'.heap.size∧∀ks,W=some ks->pk=[]∧∀b,b<w.heap.size->(∀k∈ks,∀d,β k=some (some d)->b≠d.b)->w'.heap[b]?=w.heap[b]?:=by
  intro hq;refine⟨hF.1.1,?_⟩;split at hq
  ·rename_i c' x hr;obtain⟨v,aq,ar⟩:=CI hF ac hr hq.1;refine⟨v,aq,β',H',st.M,v,x,pk,rfl,ar,a9,ai,ac.ext,hq.2,ac.size,λks ba=>?_⟩;obtain⟨g1,g2⟩:=a6 ks ba;refine⟨g1,λb hb hn=>ac.frame b hb λaC=>?_⟩;obtain⟨i,e,d,h1,h2,rfl⟩:=(hX b).1 aC;exact hn i (g2 i e h1) d h2 rfl
  ·exact hq.elim
 cases e<;>simp only[gK]at hq<;>simp only[bodyPost]
 case normal=>exact key hq
 case ret=>exact key hq
end
/-! ### Less is known -/
def Le(C:Ctx)(st st':St):Prop:=∀a w,OY C st a w->OY C st' a w
theorem Le.refl(C:Ctx)(st:St):Le C st st:=λ_ _ h=>h
theorem Le.trans{C:Ctx}{a b c:St}(h:Le C a b)(k:Le C b c):Le C a c:=λx w hs=>k x w (h x w hs)
mutual
def SV.lt(n:Nat):SV->Bool
 | .ptr k _ _=>decide (k<n)
 | .view k _ _=>decide (k<n)
 | .agg l=>SV.kZ n l
 | .bP l=>SV.kZ n l
 | .iT _ x=>x.lt n
 | .jw _ l r=>SV.kZ n l&&SV.kZ n r
 | .mp k=>decide (k<n)
 | _=>true
def SV.kZ(n:Nat):List SV->Bool
 | []=>true
 | x::l=>x.lt n&&SV.kZ n l
end
mutual
theorem SV.wH{n k:Nat}(hk:n<=k):∀x:SV,x.lt n=true->x.cj k=false
 | .val _,_=>rfl
 | .ptr k' _ _,h=>by simp[SV.lt]at h;simp[SV.cj];omega
 | .view k' _ _,h=>by simp[SV.lt]at h;simp[SV.cj];omega
 | .mp k',h=>by simp[SV.lt]at h;simp[SV.cj];omega
 | .ro _,_=>rfl
 | .dc _ _,_=>rfl
 | .iJ _ _,_=>rfl
 | .any,_=>rfl
 | .jw _ l r,h=>by simp only[SV.lt,atl]at h;simp[SV.cj,SV.lR hk l h.1,SV.lR hk r h.2]
 | .agg l,h=>by simp only[SV.cj];exact SV.lR hk l (by simpa[SV.lt]using h)
 | .bP l,h=>by simp only[SV.cj];exact SV.lR hk l (by simpa[SV.lt]using h)
 | .iT _ x,h=>by simp only[SV.cj];exact SV.wH hk x (by simpa[SV.lt]using h)
theorem SV.lR{n k:Nat}(hk:n<=k):∀l:List SV,SV.kZ n l=true->SV.aZ k l=false
 | [],_=>rfl
 | x::l,h=>by simp only[SV.kZ,atl]at h;simp[SV.aZ,SV.wH hk x h.1,SV.lR hk l h.2]
end
theorem qA{α:Type}(n:Nat)(f:α->SV)(xs:List α):SV.kZ n (xs.map f)=xs.all λx=>(f x).lt n:=by
 induction xs with
 | nil=>rfl
 | cons x xs ih=>simp[SV.kZ,ih]
theorem u4{α:Type}(f:α->SV)(xs:List α):SV.bJ (xs.map f)=xs.all λx=>(f x).pure:=by
 induction xs with
 | nil=>rfl
 | cons x xs ih=>simp[SV.bJ,ih]
theorem iU{α:Type}(k:Nat)(f:α->SV)(xs:List α):SV.aZ k (xs.map f)=xs.any λx=>(f x).cj k:=by
 induction xs with
 | nil=>rfl
 | cons x xs ih=>simp[SV.aZ,ih]
def bU(fr:List (Nat × SV)):List (Nat × SV)->Prop
 | []=>True
 | (t,x)::r=>get fr t=some x∧bU fr r
def fI:aD->aD->Prop
 | _,[]=>True
 | x::M,y::M'=>(y=none∨x=y)∧fI M M'
 | [],_::_=>False
def gz(n:Nat):List (Nat × SV)->Prop
 | []=>True
 | (_,x)::r=>x.lt n=true∧gz n r
def ee(n:Nat):aD->Prop
 | []=>True
 | none::M=>ee n M
 | some e::M=>SV.kZ n e.es=true∧ee n M
def aR(C:Ctx)(st st':St):Prop:=st.n=st'.n∧bU st.fr st'.fr∧fI st.M st'.M∧(st.M.length=st'.M.length∨(gz st'.M.length st'.fr∧ee st'.M.length st'.M∧∀k∈C.fx,k<st'.M.length))
theorem w8{fr:List (Nat × SV)}:∀{fr':List (Nat × SV)},bU fr fr'->∀t x,get fr' t=some x->get fr t=some x
 | [],_,t,x,hg=>by simp[get]at hg
 | (s,y)::r,h,t,x,hg=>by
  simp only[bU]at h;simp only[get]at hg;by_cases e:s=t
  ·rw[if_pos e]at hg;simp only[ass]at hg;rw[<-e,<-hg];exact h.1
  ·rw[if_neg e]at hg;exact w8 h.2 t x hg
theorem B4:∀{M M':aD},fI M M'->∀(k:Nat) (e:cz),M'[k]?=some (some e)->M[k]?=some (some e)
 | M,[],_,k,e,hk=>by simp at hk
 | [],_::_,h,k,e,hk=>by simp[fI]at h
 | x::M,y::M',h,k,e,hk=>by
  simp only[fI]at h;cases k with
  | zero =>
   simp at hk;subst hk;rcases h.1 with h | h
   ·cases h
   ·simp[h]
  | succ k=>simp at hk ⊢;exact B4 h.2 k e hk
theorem Hj{n:Nat}:∀{fr:List (Nat × SV)},gz n fr->∀t x,get fr t=some x->x.lt n=true
 | [],_,t,x,hg=>by simp[get]at hg
 | (s,y)::r,h,t,x,hg=>by
  simp only[gz]at h;simp only[get]at hg;by_cases e:s=t
  ·rw[if_pos e]at hg;simp only[ass]at hg;rw[<-hg];exact h.1
  ·rw[if_neg e]at hg;exact Hj h.2 t x hg
theorem sP{n:Nat}:∀{M:aD},ee n M->∀(k:Nat) (e:cz),M[k]?=some (some e)->SV.kZ n e.es=true
 | [],_,k,e,hk=>by simp at hk
 | none::M,h,k,e,hk=>by
  simp only[ee]at h;cases k with
  | zero=>simp at hk
  | succ k=>exact sP h k e (by simpa using hk)
 | some e'::M,h,k,e,hk=>by
  simp only[ee]at h;cases k with
  | zero=>simp at hk;subst hk;exact h.1
  | succ k=>exact sP h.2 k e (by simpa using hk)
theorem Le.fm{C:Ctx}{st st':St}(h:aR C st st'):Le C st st':=by
 rintro a w ⟨β,H,hF,hW⟩;obtain⟨h1,h2,h3,h4⟩:=h;have au:iM β H st'.n st'.fr a:=by rw[<-h1];exact hF.sub (w8 h2)
 have ad:=B4 h3;rcases h4 with h4 | ⟨h4,h5,h6⟩
 ·exact⟨β,H,au,hW.os,hW.tape,hW.output,hW.size,hW.frame,hW.ext,hW.new,hW.inv,λk e hk=>hW.dt k e (ad k e hk),λk e d hk=>hW.own k e d (ad k e hk),
   λk k' e e' d d' hk av=>hW.inj k k' e e' d d' (ad k e hk) (ad k' e' av),λk hk=>hW.fresh k (by omega),hW.im,hW.fT⟩
 ·have hb:∀k d,k<st'.M.length->β k=some d->(λi=>if i<st'.M.length then β i else none:ca) k=some d:=λk d hk hd=>by simp[hk,hd]
  have aP:∀k e,st'.M[k]?=some (some e)->k<st'.M.length:=λk e hk=>by
   rcases as2 k st'.M.length with h' | h'
   ·exact h'
   ·rw[asu h']at hk;cases hk
  have bb:∀n k (x:SV),x.lt n=true->x.cj k=true->k<n:=λn k x h1 h2=>by
   rcases as2 k n with h' | h'
   ·exact h'
   ·rw[SV.wH h' x h1]at h2;cases h2
  have aH:∀n k (l:List SV),SV.kZ n l=true->SV.aZ k l=true->k<n:=λn k l h1 h2=>by
   rcases as2 k n with h' | h'
   ·exact h'
   ·rw[SV.lR h' l h1]at h2;cases h2
  refine⟨λi=>if i<st'.M.length then β i else none,H,⟨au.1,au.2.1,λt x hg=>?_⟩,hW.os,hW.tape,hW.output,hW.size,hW.frame,hW.ext,hW.new,hW.inv,λk e hk=>?_,λk e d hk hd=>?_,
   λk k' e e' d d' hk av hd ap=>?_,λk hk=>by simp;omega,λk d hk hd=>by rw[if_pos (h6 k hk)];exact hW.im k d hk hd,hW.fT⟩
  ·obtain⟨v,hv,hd⟩:=au.2.2 t x hg;exact⟨v,hv,Den.mono (λ_ _ h=>h) x v (λk d hk hd=>hb k d (bb _ k x (Hj h4 t x hg) hk) hd) hd⟩
  ·have aI:=sP h5 k e hk;rcases hW.dt k e (ad k e hk)with⟨g1,g2⟩ | ⟨d,cs,T,vs,g1,g2,g3,g4,g5,g6⟩ | ⟨d,ms,g1,g2,g3,g4⟩
   ·exact .inl ⟨hb _ _ (aP k e hk) g1,g2⟩
   ·exact .inr (.inl ⟨d,cs,T,vs,hb _ _ (aP k e hk) g1,g2,g3,g4,aW.mono (λ_ _ h=>h) _ _ _ (λj d hj hd=>hb j d (aH _ j _ aI hj) hd) g5,g6⟩)
   ·exact .inr (.inr ⟨d,ms,hb _ _ (aP k e hk) g1,g2,g3,cN.mono (λ_ _ h=>h) _ _ _ (λj d hj hd=>hb j d (aH _ j _ aI hj) hd) g4⟩)
  ·simp only[aP k e hk,if_true]at hd;exact hW.own k e d (ad k e hk) hd
  ·simp only[aP k e hk,aP k' e' av,if_true]at hd ap;exact hW.inj k k' e e' d d' (ad k e hk) (ad k' e' av) hd ap
theorem aa.le{P:Program}{C:Ctx}{c:Code}{st st':St}{Q:bf}(hl:Le C st st')(h:aa P C c st' Q):aa P C c st Q:=λa w hs=>h a w (hl a w hs)
theorem Ji(p:Nat->Prop):(∃n,p n)->∃n,p n∧∀m,p m->n<=m:=by
 rintro⟨n,hn⟩
 induction n using Nat.strongRecOn with
 | _ n ih =>
  by_cases h:∃m,m<n∧p m
  ·obtain⟨m,h1,h2⟩:=h;exact ih m h1 h2
  ·exact⟨n,hn,λm hm=>by
    rcases as2 m n with h' | h'
    ·exact absurd ⟨m,h',hm⟩ h
    ·exact h'⟩
theorem zA{P:Program}{c:Code}{Q:Exit->Act->World->Prop}{a:Act}{w:World}{ι:Type}(I:ι->Act->World->Prop)(μ:ι->Nat)(i0:ι)(h0:I i0 a w)
  (round:∀i a w,I i a w->c.wp P (Exit.then (λa' w'=>∃j,I j a' w'∧μ j<μ i) Q) a w):(Code.loop c).wp P Q a w:=by
 have hex:∀a w,(∃i,I i a w)->∃n,(∃i,I i a w∧μ i=n)∧∀m,(∃i,I i a w∧μ i=m)->n<=m:=λa w ⟨i,hi⟩=>Ji _ ⟨μ i,i,hi,rfl⟩;have hf:∃ν:Act->World->Nat,∀a w,(∃i,I i a w)->(∃i,I i a w∧μ i=ν a w)∧∀j,I j a w->ν a w<=μ j:=by refine⟨λa w=>(Classical.epsilon λn=>(∃i,I i a w∧μ i=n)∧∀m,(∃i,I i a w∧μ i=m)->n<=m),λa w h=>?_⟩;have:=Classical.epsilon_spec (hex a w h);exact⟨this.1,λj hj=>this.2 _ ⟨j,hj,rfl⟩⟩
 obtain⟨ν,hν⟩:=hf;refine wp_loop (λa w=>∃i,I i a w) ν ⟨i0,h0⟩ ?_;intro a w h;obtain⟨⟨i,hi,he⟩, -⟩:=hν a w h;refine wp_mono (round i a w hi) ?_;intro e a' w' hq;cases e<;>simp only[Exit.then]at hq ⊢<;>first | exact hq | skip
 obtain⟨j,hj,aP⟩:=hq;exact⟨⟨j,hj⟩,Nat.lt_of_le_of_lt ((hν a' w' ⟨j,hj⟩).2 j hj) (by rw[<-he];exact aP)⟩
theorem aa.loop{P:Program}{C:Ctx}{c:Code}{st:St}{Q:bf}{ι:Type}(I:ι->St)(Cn:ι->Prop)(μ:ι->Nat)(i0:ι)(h0:Cn i0)(hl:aR C st (I i0))
  (hr:∀i,Cn i->vc P C c (I i) (sY (λst'=>∃j,Cn j∧μ j<μ i∧aR C st' (I j)) Q) (sY (λst'=>∃j,Cn j∧μ j<μ i∧aR C st' (I j)) Q)):aa P C (.loop c) st Q:=by
 intro a w hs;refine zA (λi a w=>Cn i∧OY C (I i) a w) μ i0 ⟨h0,Le.fm hl a w hs⟩ ?_;rintro i a w ⟨hc,hs⟩;refine wp_mono (mO c _ (λ_ _ h=>h) (λ_ _ h=>h) (hr i hc) a w hs) ?_;rintro e a' w' ⟨st',h1,h2⟩;cases e<;>simp only[sY,Exit.then]at h1 ⊢<;>first | exact⟨st',h1,h2⟩ | skip
 obtain⟨j,g1,g2,g3⟩:=h1;exact⟨j,⟨g1,Le.fm g3 a' w' h2⟩,g2⟩
theorem aa.cut{P:Program}{C:Ctx}{c:Code}{st:St}{Q:bf}(Q1:bf)(h1:aa P C c st Q1)(h2:∀e st',Q1 e st'->∃af,aR C st' af∧Q e af):aa P C c st Q:=by intro a w hs;refine wp_mono (h1 a w hs) ?_;rintro e a' w' ⟨st',h3,h4⟩;obtain⟨af,h5,h6⟩:=h2 e st' h3;exact⟨af,h6,Le.fm h5 a' w' h4⟩
theorem aa.nil{P:Program}{C:Ctx}{c:Code}{st:St}{Q:bf}(t s:Nat)(h:get st.fr t=some (.val (.slice none 0 0)))(h':aa P C c ⟨st.n,(t,.view st.M.length 0 0)::st.fr,st.M++[some ⟨s,[],false⟩]⟩ Q):aa P C c st Q:=by
 rintro a w ⟨β,H,hF,hW⟩;refine h' a w ⟨β.ef st.M.length none,H,⟨hF.1,hF.2.1,λt' x hg=>?_⟩,hW.nil s⟩;simp only[get]at hg;split at hg
 ·rename_i e;subst e;simp only[ass]at hg;subst hg;obtain⟨v,hv,hd⟩:=hF.2.2 t _ h;simp only[Den]at hd;refine⟨v,hv,?_⟩;simp only[Den];exact .inl (by simp[ca.ef,hd.1])
 ·obtain⟨v,hv,hd⟩:=hF.2.2 t' x hg;exact⟨v,hv,hd.up (λk d hk=>ik hW _ k d hk) (λ_ _ h=>h)⟩
end Go.Sv


/- A text of the prover's own. -/
import Derived.Test.YtnimjdcaajmfcaaGreatDoorVVw
open List renaming mem_cons->ayn,mem_singleton->ayo,mem_append->ayp,getElem?_eq_none->awT,range->ayq
open Option.some renaming injEq->awR
open Nat renaming le_trans->ayr,lt_of_lt_of_le->ays,lt_or_ge->axT,le_refl->axq
open Bool renaming and_eq_true->ayt
open Prod.mk renaming injEq->ayu
open Go.Sem renaming run_bind->aw4,run_pure->axr
namespace Go.Sv
open Go Go.RowKit
def pV(H:Hp)(w:World):Prop:=(∀b cs,H b=some cs->∃T z,w.heap[b]?=some (.cells cs T z))∧QH H
theorem cM.IE{C:Ctx}{β:cu}{H:Hp}{M:aC}{w:World}(h:cM C β H M w):pV H w:=⟨h.inv,h.fM⟩
def qA(P:Program)(f:FuncId)(args:List SV)(Φ:SV->Prop):Prop :=
 ∀(H:Hp) (w:World) (ab:List Value),pV H w->bZ o4 H args ab->Calls P f ab.toArray w λe w' =>
  ∃H' v x,e=.returned v∧Den o4 H' x v∧Φ x∧(∀b cs,H b=some cs->H' b=some cs)∧(∀b cs,H' b=some cs->H b=some cs∨w.heap.size<=b)∧pV H' w'∧Below w.heap.size w w'
def aE(P:Program)(f:FuncId)(args:List SV)(y:SV):Prop:=qA P f args (λx=>x=y)
/-! ### A symbolic value with own entries, read as one without -/
mutual
def Sub(M:aC):SV->SV->Prop
 | .view k i n,y=>match y with
  | .ro es=>match aA M k with
   | some e=>SV.bF e.es=true∧i+n<=e.es.length∧(e.es.drop i).take n=es
   | none=>False
  | _=>False
 | .ptr k i j,y=>match y with
  | .dG x j'=>match aA M k with
   | some e=>SV.bF e.es=true∧i<e.es.length∧(aM e.es i).aW=false∧aM e.es i=x∧j=j'
   | none=>False
  | _=>False
 | .agg l,y=>match y with
  | .agg l'=>cP M l l'
  | _=>False
 | .bM l,y=>match y with
  | .bM l'=>cP M l l'
  | _=>False
 | .ju t x,y=>match y with
  | .ju t' x'=>t=t'∧Sub M x x'
  | _=>False
 | .val v,y=>match y with
  | .ro es=>v=.slice none 0 0∧es=[]
  | .val v'=>v=v'
  | _=>False
 | .ro es,y=>y=.ro es
 | .dG x j,y=>y=.dG x j
 | .fT t g,y=>y=.fT t g
 | .any,y=>y=.any
 | .j7 f l r,y=>match y with
  | .j7 f' l' r'=>f=f'∧cP M l l'∧cP M r r'
  | _=>False
 | .mp _,_=>False
def cP(M:aC):List SV->List SV->Prop
 | [],y=>y=[]
 | x::l,y=>match y with
  | x'::l'=>Sub M x x'∧cP M l l'
  | []=>False
end
def MY:List Nat->aC->aC
 | [],M=>M
 | k::r,M=>match aA M k with
  | some e=>MY r (aX M k (some ⟨e.sz,e.es,true⟩))
  | none=>MY r M
theorem zx{M:aC}{k:Nat}{e:cJ}(h:M[k]?=some (some e)):aA M k=some e:=by
 induction M generalizing k with
 | nil=>simp at h
 | cons x l ih=>cases k with
  | zero=>simp at h;simp[aA,h]
  | succ k=>simpa[aA]using ih (by simpa using h)
theorem vZ(M:aC)(k j:Nat)(e:cJ)(hk:∃e',aA M k=some e'):aA (aX M k (some e)) j=if j=k then some e else aA M j:=by
 induction M generalizing k j with
 | nil=>obtain⟨e',h⟩:=hk;simp[aA]at h
 | cons x l ih =>
  cases k with
  | zero=>cases j<;>simp[aX,aA]
  | succ k=>cases j with
   | zero=>simp[aX,aA]
   | succ j=>simpa[aX,aA]using ih k j (by simpa[aA]using hk)
section
variable {P:Program} {C:Ctx} {β:cu} {H:Hp} {M:aC} {w:World}
theorem rB:∀(ks:List Nat) {H:Hp} {M:aC},cM C β H M w->(∀k∈ks,∀e,aA M k=some e->SV.bF e.es=true) ->
  ∃H',(∀b cs,H b=some cs->H' b=some cs)∧cM C β H' (MY ks M) w ∧
   (∀k e,aA M k=some e->∃e',aA (MY ks M) k=some e'∧e'.es=e.es∧e'.sz=e.sz∧((e.fz=true∨k∈ks)->e'.fz=true))
 | [],H,M,h,_=>⟨H,λ_ _ h=>h,h,λk e he=>⟨e,he,rfl,rfl,λh=>h.resolve_right (by simp)⟩⟩
 | k::r,H,M,h,hp=>by
  simp only[MY];cases hk:aA M k with
  | none =>
   obtain⟨H',h1,h2,h3⟩:=rB r h (λj hj=>hp j (by simp[hj]));refine⟨H',h1,h2,λj e he=>?_⟩;obtain⟨e',g1,g2,g3,g4⟩:=h3 j e he;refine⟨e',g1,g2,g3,λhh=>g4 ?_⟩;rcases hh with hh | hh
   ·exact .inl hh
   ·rcases ayn.1 hh with rfl | hh
    ·rw[hk]at he;cases he
    ·exact .inr hh
  | some e =>
   obtain⟨H1,a1,a2⟩:=h.freeze (aU hk) (hp k (by simp) e hk);rw[<-dL]at a2;simp only;have aw:=λj=>vZ M k j ⟨e.sz,e.es,true⟩ ⟨e,hk⟩;obtain⟨H',h1,h2,h3⟩:=rB r a2 (λj hj e' af=>by
    rw[aw]at af;split at af
    ·simp only[awR]at af;subst af;exact hp k (by simp) e hk
    ·exact hp j (by simp[hj]) e' af)
   refine⟨H',λb cs hb=>h1 b cs (a1 b cs hb),h2,λj e' af=>?_⟩;by_cases hj:j=k
   ·subst hj;rw[hk]at af;simp only[awR]at af;subst af;obtain⟨ax,g1,g2,g3,g4⟩:=h3 j ⟨e.sz,e.es,true⟩ (by rw[aw];simp);exact⟨ax,g1,g2,g3,λ_=>g4 (.inl rfl)⟩
   ·obtain⟨ax,g1,g2,g3,g4⟩:=h3 j e' (by rw[aw,if_neg hj];exact af);refine⟨ax,g1,g2,g3,λhh=>g4 ?_⟩;rcases hh with hh | hh
    ·exact .inl hh
    ·rcases ayn.1 hh with rfl | hh
     ·exact absurd rfl hj
     ·exact .inr hh
mutual
theorem rp:∀{x y:SV},Sub M x y->∀k∈x.ks,∀e,aA M k=some e->SV.bF e.es=true
 | .view k i n,y,h,k',hk,e,he=>by
  simp only[SV.ks,ayo]at hk;subst hk;simp only[Sub]at h;split at h
  ·rw[he]at h;exact h.1
  ·exact h.elim
 | .ptr k i j,y,h,k',hk,e,he=>by
  simp only[SV.ks,ayo]at hk;subst hk;simp only[Sub]at h;split at h
  ·rw[he]at h;exact h.1
  ·exact h.elim
 | .agg l,y,h,k',hk,e,he=>by
  simp only[Sub]at h;split at h
  ·exact jC h k' (by simpa[SV.ks]using hk) e he
  ·exact h.elim
 | .bM l,y,h,k',hk,e,he=>by
  simp only[Sub]at h;split at h
  ·exact jC h k' (by simpa[SV.ks]using hk) e he
  ·exact h.elim
 | .ju t x,y,h,k',hk,e,he=>by
  simp only[Sub]at h;split at h
  ·exact rp h.2 k' (by simpa[SV.ks]using hk) e he
  ·exact h.elim
 | .val v,y,h,k',hk,e,he=>by simp[SV.ks]at hk
 | .ro es,y,h,k',hk,e,he=>by simp[SV.ks]at hk
 | .dG x j,y,h,k',hk,e,he=>by simp[SV.ks]at hk
 | .fT t g,y,h,k',hk,e,he=>by simp[SV.ks]at hk
 | .any,y,h,k',hk,e,he=>by simp[SV.ks]at hk
 | .mp _,y,h,k',hk,e,he=>by simp only[Sub]at h
 | .j7 f l r,y,h,k',hk,e,he=>by
  simp only[Sub]at h;split at h
  ·simp only[SV.ks,ayp]at hk;rcases hk with hk | hk
   ·exact jC h.2.1 k' hk e he
   ·exact jC h.2.2 k' hk e he
  ·exact h.elim
theorem jC:∀{l l':List SV},cP M l l'->∀k∈SV.uM l,∀e,aA M k=some e->SV.bF e.es=true
 | [],l',h,k',hk,e,he=>by simp[SV.uM]at hk
 | x::l,l',h,k',hk,e,he=>by
  simp only[cP]at h;split at h
  ·simp only[SV.uM,ayp]at hk;rcases hk with hk | hk
   ·exact rp h.1 k' hk e he
   ·exact jC h.2 k' hk e he
  ·exact h.elim
end
structure Fz(M M1:aC)(ks:List Nat):Prop where
 h:∀k e,aA M k=some e->k∈ks->∃e',aA M1 k=some e'∧e'.es=e.es∧e'.fz=true
theorem r9{s:Nat}{l:List SV}{vs:List Value}(h:ba β H s l vs)(hp:SV.bF l=true):ba o4 H s l vs:=h.any hp (λ_ _ h=>h)
mutual
theorem rU{M1:aC}(hW:cM C β H M1 w):∀{x y:SV} {v:Value},Sub M x y->Fz M M1 x.ks->Den β H x v->Den o4 H y v
 | .view k i n,y,v,h,hf,hd=>by
  simp only[Sub]at h;split at h
  ·split at h
   ·rename_i es e he;obtain⟨h1,h2,h3⟩:=h;obtain⟨e',g1,g2,g3⟩:=hf.h k e he (by simp[SV.ks]);have hlen:((e.es.drop i).take n).length=n:=by simp;omega
    simp only[Den]at hd ⊢;rcases hd with⟨a1,rfl,rfl,rfl⟩ | ⟨d,c,o,a1,a2,a3,a4,rfl⟩
    ·left;exact⟨by rw[<-h3];simp,_,_,rfl⟩
    ·rcases hW.dF k e' (aU g1)with⟨b1,_⟩ | ⟨d',cs,T,vs,b1,b2,b3,b4,b5,b6,b7,b8⟩ | ⟨d',ms,b1,b2,b3,b4⟩
     rotate_left 2
     ·rw[a1]at b1;simp only[awR]at b1;subst b1;rw[b2.2.1,b2.2.2]at a3;have aJ:n=0:=by omega
      subst aJ;left;exact⟨by rw[<-h3];simp,_,_,rfl⟩
     ·rw[a1]at b1;simp at b1
     ·rw[a1]at b1;simp only[awR]at b1;subst b1;obtain⟨c1,c2⟩:=b8 g3;have al:=r9 b5 c2;rw[g2]at al;have hl:=al.length;right;rcases Nat.eq_zero_or_pos n with rfl | hn
      ·exact⟨d.b,o,c,e'.sz,cs,[],by rw[<-h3];simp,by rw[<-h3];simp,c1,by rw[<-h3];simp[ba],by simp⟩
      ·have ho:=a4 (by omega);refine⟨d.b,o,c,e'.sz,cs,(vs.drop (i*e'.sz)).take (n*e'.sz),by rw[<-h3,hlen],by rw[<-h3,hlen];exact a2,c1,by rw[<-h3];exact(al.drop i).take n,λq hq=>?_⟩;simp only[List.length_take,List.length_drop]at hq;rw[List.getElem?_take_of_lt (by omega),List.getElem?_drop,ho,b2];exact b7 _ (by omega)
   ·exact h.elim
  ·exact h.elim
 | .ptr k i j,y,v,h,hf,hd=>by
  simp only[Sub]at h;split at h
  ·split at h
   ·rename_i x j' e he;obtain⟨h1,h2,aF,h3,rfl⟩:=h;obtain⟨e',g1,g2,g3⟩:=hf.h k e he (by simp[SV.ks]);simp only[Den]at hd ⊢;obtain⟨d,a1,rfl⟩:=hd;rcases hW.dF k e' (aU g1)with⟨b1,_⟩ | ⟨d',cs,T,vs,b1,b2,b3,b4,b5,b6,b7,b8⟩ | ⟨d',ms,b1,b2,b3,b4⟩
    rotate_left 2
    ·rw[g2]at b4;obtain⟨l,hl⟩:=b4.LR _ h2;rw[hl]at aF;simp[SV.aW]at aF
    ·rw[a1]at b1;simp at b1
    ·rw[a1]at b1;simp only[awR]at b1;subst b1;obtain⟨c1,c2⟩:=b8 g3;have al:=r9 b5 c2;rw[g2]at al;have hl:=al.length;obtain⟨u,u1,u2,u3⟩:=al.get h2;refine⟨d.b,i*e'.sz,cs,u,by rw[b2],c1,by rw[<-h3];exact u1,λq hq=>?_⟩;rw[u2]at hq;have:=Nat.mul_le_mul_right e'.sz (show i+1<=e.es.length from h2);rw[Nat.add_mul,Nat.one_mul]at this;rw[b7 _ (by omega)];exact u3 q hq
   ·exact h.elim
  ·exact h.elim
 | .agg l,y,v,h,hf,hd=>by
  simp only[Sub]at h;split at h
  ·simp only[Den]at hd ⊢;obtain⟨vs,rfl,ay⟩:=hd;exact⟨vs,rfl,CZ hW h ⟨λk e he hk=>hf.h k e he (by simpa[SV.ks]using hk)⟩ ay⟩
  ·exact h.elim
 | .bM l,y,v,h,hf,hd=>by
  simp only[Sub]at h;split at h
  ·simp only[Den]at hd ⊢;obtain⟨vs,rfl,ay⟩:=hd;exact⟨vs,rfl,jz hW h ⟨λk e he hk=>hf.h k e he (by simpa[SV.ks]using hk)⟩ ay⟩
  ·exact h.elim
 | .ju t x,y,v,h,hf,hd=>by
  simp only[Sub]at h;split at h
  ·obtain⟨rfl,h⟩:=h;simp only[Den]at hd ⊢;obtain⟨u,rfl,hu⟩:=hd;exact⟨u,rfl,rU hW h ⟨λk e he hk=>hf.h k e he (by simpa[SV.ks]using hk)⟩ hu⟩
  ·exact h.elim
 | .val u,y,v,h,hf,hd=>by
  simp only[Sub]at h;split at h
  ·obtain⟨rfl,rfl⟩:=h;simp only[Den]at hd ⊢;left;exact⟨trivial,_,_,hd.1⟩
  ·subst h;simpa only[Den]using hd
  ·exact h.elim
 | .ro es,y,v,h,hf,hd=>by simp only[Sub]at h;subst h;exact Den.any hd rfl (λ_ _ h=>h)
 | .dG x j,y,v,h,hf,hd=>by simp only[Sub]at h;subst h;exact Den.any hd rfl (λ_ _ h=>h)
 | .fT t g,y,v,h,hf,hd=>by simp only[Sub]at h;subst h;exact Den.any hd rfl (λ_ _ h=>h)
 | .any,y,v,h,hf,hd=>by simp only[Sub]at h;subst h;exact Den.any hd rfl (λ_ _ h=>h)
 | .mp _,y,v,h,hf,hd=>by simp only[Sub]at h
 | .j7 f l r,y,v,h,hf,hd=>by
  simp only[Sub]at h;split at h
  ·obtain⟨rfl,h1,h2⟩:=h;simp only[Den]at hd ⊢;obtain⟨vs,ws,rfl,hv,hw⟩:=hd;exact⟨vs,ws,rfl,jz hW h1 ⟨λk e he hk=>hf.h k e he (by simp[SV.ks,hk])⟩ hv,jz hW h2 ⟨λk e he hk=>hf.h k e he (by simp[SV.ks,hk])⟩ hw⟩
  ·exact h.elim
theorem CZ{M1:aC}(hW:cM C β H M1 w):∀{l l':List SV} {vs:List Value},cP M l l'->Fz M M1 (SV.uM l)->bN β H l vs->bN o4 H l' vs
 | [],l',vs,h,hf,hd=>by simp only[cP]at h;subst h;simpa[bN]using hd
 | x::l,l',vs,h,hf,hd=>by
  simp only[cP]at h;split at h
  ·simp only[bN]at hd ⊢;obtain⟨v,r,rfl,h2,h3,h4⟩:=hd;have aK:=rU hW h.1 ⟨λk e he hk=>hf.h k e he (by simp[SV.uM,hk])⟩ h3;refine⟨v,r,rfl,?_,aK,CZ hW h.2 ⟨λk e he hk=>hf.h k e he (by simp[SV.uM,hk])⟩ h4⟩;rename_i x' bc;have h1:=h.1;cases x<;>simp only[Sub,SV.one]at h1 h2
   case val u=>split at h1<;>first | rfl | (subst h1;exact h2) | exact h1.elim
   case ro=>subst h1;rfl
   case dG=>subst h1;rfl
   case fT=>subst h1;rfl
   case any=>subst h1;rfl
   case j7=>split at h1<;>first | rfl | exact h1.elim
   case ptr=>split at h1<;>first | rfl | exact h1.elim
   case view=>split at h1<;>first | rfl | exact h1.elim
   case ju=>split at h1<;>first | rfl | exact h1.elim
   all_goals cases h2
  ·exact h.elim
theorem jz{M1:aC}(hW:cM C β H M1 w):∀{l l':List SV} {vs:List Value},cP M l l'->Fz M M1 (SV.uM l)->bZ β H l vs->bZ o4 H l' vs
 | [],l',vs,h,hf,hd=>by simp only[cP]at h;subst h;simpa[bZ]using hd
 | x::l,l',vs,h,hf,hd=>by
  simp only[cP]at h;split at h
  ·simp only[bZ]at hd ⊢;obtain⟨v,r,rfl,h3,h4⟩:=hd;exact⟨v,r,rfl,rU hW h.1 ⟨λk e he hk=>hf.h k e he (by simp[SV.uM,hk])⟩ h3,jz hW h.2 ⟨λk e he hk=>hf.h k e he (by simp[SV.uM,hk])⟩ h4⟩
  ·exact h.elim
end
theorem cM.after{H':Hp}{w':World}(h:cM C β H M w)(hb:Below w.heap.size w w')(hH:∀b cs,H b=some cs->H' b=some cs)
  (hn:∀b cs,H' b=some cs->H b=some cs∨w.heap.size<=b) (hi:pV H' w'):cM C β H' M w' where
 os:=hb.os.trans h.os
 tape:=hb.tape.trans h.tape
 output:=hb.output.trans h.output
 size:=ayr h.size hb.size
 frame b ap hx:=by rw[hb.block b (ays ap h.size)];exact h.frame b ap hx
 ext b cs ap:=hH _ _ (h.ext b cs ap)
 new b cs ap:=by
  rcases hn b cs ap with h' | h'
  ·exact h.new b cs h'
  ·exact .inr (.inl (ayr h.size h'))
 inv:=hi.1
 dF k e hk:=(h.dF k e hk).up (λ_ _ h=>h) hH (λd hd=>hb.block _ (h.lt hk hd))
 own k e d hk hd:=by
  refine⟨λhf=>?_,(h.own k e d hk hd).2⟩;cases aL:H' d.b with
  | none=>rfl
  | some cs =>
   rcases hn _ _ aL with h' | h'
   ·rw[(h.own k e d hk hd).1 hf]at h';cases h'
   ·have:=h.lt hk hd;omega
 inj:=h.inj
 fresh:=h.fresh
 iK:=h.iK
 fM:=hi.2
theorem yk{f:FuncId}{args ad:List SV}{Φ:SV->Prop}{W:Option (List Nat)}{K:aC->List Nat->SV->Prop}(h:qA P f ad Φ)(hs:cP M args ad)(hk:∀x,Φ x->K (MY (SV.uM args) M) [] x):dK P C f args M W K:=by
 intro β H w ab hd hW;obtain⟨H1,h1,h2,h3⟩:=rB (SV.uM args) hW (jC hs);have ah:=jz h2 hs ⟨λk e he hk=>by obtain⟨e',g1,g2, -,g4⟩:=h3 k e he;exact⟨e',g1,g2,g4 (.inr hk)⟩⟩ (bZ.mono h1 _ _ (λ_ _ _ h=>h) hd)
 refine Calls.mono (h H1 w ab h2.IE ah) ?_;rintro e w' ⟨H',v,x,rfl,g1,g2,g3,g4,g5,g6⟩;exact⟨β,H',_,v,x,[],rfl,Den.up g1 (λk d hd=>by simp[o4]at hd) (λ_ _ h=>h),h2.after g6 g3 g4 g5,λ_ _ _ h=>h,λb cs hb=>g3 b cs (h1 b cs hb),hk x g2,g6.size,λks _=>⟨rfl,λb hb _=>g6.block b hb⟩⟩
mutual
def SV.flat:SV->Bool
 | .val _=>true
 | .fT t g=>vC.contains g&&t==fD
 | .agg l=>SV.AJ l
 | .bM l=>SV.AJ l
 | .ju _ x=>x.flat
 | .any=>true
 | _=>false
def SV.AJ:List SV->Bool
 | []=>true
 | x::l=>x.flat&&SV.AJ l
end
mutual
theorem uC{β:cu}{H H':Hp}(hg:QH H)(hH:∀b cs,H b=some cs->H' b=some cs):∀{x:SV} {v:Value},x.flat=true->Den o4 H' x v->Den β H x v
 | .val u,v,_,h=>by simpa only[Den]using h
 | .any,v,_,h=>by simpa only[Den]using h
 | .fT t g,v,hf,h=>by simp only[SV.flat,ayt,beq_iff_eq]at hf;obtain⟨h1,rfl⟩:=hf;simp only[Den]at h ⊢;obtain⟨b,h2,rfl⟩:=h;obtain⟨u,h3,h4⟩:=hg.at_ g (.fT fD g) (by unfold gl;rw[if_pos h1]);simp only[Den]at h3;obtain⟨b',h5,h6⟩:=h3;have:=hH _ _ h5;rw[h2]at this;simp only[awR,Array.mk.injEq,List.cons.injEq,Value.iface.injEq,Value.pointer.injEq,and_true,true_and]at this;subst this;exact⟨b,h5,rfl⟩
 | .agg l,v,hf,h=>by simp only[Den]at h ⊢;obtain⟨vs,rfl,h⟩:=h;exact⟨vs,rfl,zD hg hH (by simpa[SV.flat]using hf) h⟩
 | .bM l,v,hf,h=>by simp only[Den]at h ⊢;obtain⟨vs,rfl,h⟩:=h;exact⟨vs,rfl,Bz hg hH (by simpa[SV.flat]using hf) h⟩
 | .ju t x,v,hf,h=>by simp only[Den]at h ⊢;obtain⟨u,rfl,h⟩:=h;exact⟨u,rfl,uC hg hH (by simpa[SV.flat]using hf) h⟩
 | .ro _,v,hf,h=>by simp[SV.flat]at hf
 | .dG _ _,v,hf,h=>by simp[SV.flat]at hf
 | .ptr _ _ _,v,hf,h=>by simp[SV.flat]at hf
 | .view _ _ _,v,hf,h=>by simp[SV.flat]at hf
 | .j7 _ _ _,v,hf,h=>by simp[SV.flat]at hf
 | .mp _,v,hf,h=>by simp[SV.flat]at hf
theorem zD{β:cu}{H H':Hp}(hg:QH H)(hH:∀b cs,H b=some cs->H' b=some cs):∀{l:List SV} {vs:List Value},SV.AJ l=true->bN o4 H' l vs->bN β H l vs
 | [],vs,_,h=>by simpa only[bN]using h
 | x::l,vs,hf,h=>by simp only[SV.AJ,ayt]at hf;simp only[bN]at h ⊢;obtain⟨v,r,rfl,h1,h2,h3⟩:=h;exact⟨v,r,rfl,h1,uC hg hH hf.1 h2,zD hg hH hf.2 h3⟩
theorem Bz{β:cu}{H H':Hp}(hg:QH H)(hH:∀b cs,H b=some cs->H' b=some cs):∀{l:List SV} {vs:List Value},SV.AJ l=true->bZ o4 H' l vs->bZ β H l vs
 | [],vs,_,h=>by simpa only[bZ]using h
 | x::l,vs,hf,h=>by simp only[SV.AJ,ayt]at hf;simp only[bZ]at h ⊢;obtain⟨v,r,rfl,h2,h3⟩:=h;exact⟨v,r,rfl,uC hg hH hf.1 h2,Bz hg hH hf.2 h3⟩
end
theorem aqC{f:FuncId}{args ad:List SV}{Φ:SV->Prop}{W:Option (List Nat)}{K:aC->List Nat->SV->Prop}(h:qA P f ad Φ)(hs:cP M args ad)(hk:∀x,Φ x->x.flat=true∧K M [] x):dK P C f args M W K:=by
 intro β H w ab hd hW;obtain⟨H1,h1,h2,h3⟩:=rB (SV.uM args) hW (jC hs);have ah:=jz h2 hs ⟨λk e he hk=>by obtain⟨e',g1,g2, -,g4⟩:=h3 k e he;exact⟨e',g1,g2,g4 (.inr hk)⟩⟩ (bZ.mono h1 _ _ (λ_ _ _ h=>h) hd)
 refine Calls.mono (h H1 w ab h2.IE ah) ?_;rintro e w' ⟨H',v,x,rfl,g1,g2,g3,g4,g5,g6⟩;have hinv:pV H w':=⟨λb cs hb=>by obtain⟨T,z,hh⟩:=hW.inv b cs hb;exact⟨T,z,by rw[g6.block b (iL hh)];exact hh⟩,hW.fM⟩
 exact⟨β,H,_,v,x,[],rfl,uC hW.fM (λb cs hb=>g3 b cs (h1 b cs hb)) (hk x g2).1 g1,hW.after g6 (λ_ _ h=>h) (λ_ _ h=>.inl h) hinv,λ_ _ _ h=>h,λ_ _ h=>h,(hk x g2).2,g6.size,λks _=>⟨rfl,λb hb _=>g6.block b hb⟩⟩
/-! ### A function's own body -/
def l6:Nat->List SV->List (Nat × SV)
 | _,[]=>[]
 | i,x::l=>(i,x)::l6 (i+1) l
def tz(P:Program)(st:St):ResultVar->Option (Prop × SV)
 | .tmp t=>match get st.fr t with
  | some x=>some (True,x)
  | none=>none
 | .cell t T=>match jx st.M (an P T) (get st.fr t)with
  | .q c x=>some (c,x)
  | _=>none
def wD(P:Program)(st:St):List ResultVar->Option (Prop × List SV)
 | []=>some (True,[])
 | r::l=>match tz P st r,wD P st l with
  | some (c,x),some (c',xs)=>some (c∧c',x::xs)
  | _,_=>none
def k8(P:Program)(st:St)(rs:List ResultVar):Option (Prop × SV) :=
 match wD P st rs with
 | some (c,[x])=>some (c,x)
 | some (c,l)=>some (c,.bM l)
 | none=>none
def kg(P:Program)(rs:List ResultVar)(Φ:SV->Prop):bf:=λe st =>
 match e with
 | .normal | .ret=>match k8 P st rs with
  | some (c,x)=>c∧∃y,Sub st.M x y∧Φ y
  | none=>False
 | _=>False
theorem LX{n:Nat}{fr:List (Nat × SV)}{a:Act}(hF:jl β H n fr a)(hW:cM C β H M w){r:ResultVar}{c:Prop}{x:SV}(h:tz P ⟨n,fr,M⟩ r=some (c,x))(hc:c) :
  ∃v,(match r with | .tmp t=>pure (a.tmps.getD t undef) | .cell t T=>do loadVar T (<-asAddr (a.tmps.getD t undef)):Sem Value).run P w=.ok v w∧Den β H x v:=by
 cases r with
 | tmp t =>
  simp only[tz]at h;split at h
  ·rename_i y hy;simp only[awR,ayu]at h;obtain⟨-,rfl⟩:=h;obtain⟨v,hv,hd⟩:=hF.2.2 t _ hy;exact⟨v,by simp[hv],hd⟩
  ·cases h
 | cell t T =>
  simp only[tz]at h;split at h
  ·rename_i c' x' hl;simp only[awR,ayu]at h;obtain⟨rfl,rfl⟩:=h;have hu:∀s,get fr t=some s->Den β H s (a.tmps.getD t undef):=λs hs=>by
    obtain⟨v,hv,hd⟩:=hF.2.2 t s hs;simpa[Array.getD_eq_getD_getElem?,hv]using hd
   obtain⟨z,am,aN⟩:=xk (P:=P) hW hl hc hu;replace am:=am w (λ_ _ _ _=>rfl);refine⟨z,?_,aN⟩;simp only[Instr.loadAt]at am;unfold Instr.sureAddr at am;unfold asAddr;split at am
   ·rename_i a' aO;simp only[aO];simpa using am
   ·simp at am
  ·cases h
theorem KG{n:Nat}{fr:List (Nat × SV)}{a:Act}(hF:jl β H n fr a)(hW:cM C β H M w):∀(rs:List ResultVar) {c:Prop} {xs:List SV},wD P ⟨n,fr,M⟩ rs=some (c,xs)->c ->
  ∃vs,(rs.mapM (λr=>match r with | .tmp t=>pure (a.tmps.getD t undef) | .cell t T=>do loadVar T (<-asAddr (a.tmps.getD t undef)):ResultVar->Sem Value)).run P w=.ok vs w∧bZ β H xs vs
 | [],c,xs,h,_=>by simp only[wD,awR,ayu]at h;obtain⟨-,rfl⟩:=h;exact⟨[],by simp,by simp[bZ]⟩
 | r::l,c,xs,h,hc=>by
  simp only[wD]at h;split at h
  ·rename_i c1 x c2 bd h1 h2;simp only[awR,ayu]at h;obtain⟨rfl,rfl⟩:=h;obtain⟨v,aq,ar⟩:=LX (P:=P) hF hW h1 hc.1;obtain⟨vs,az,aB⟩:=KG hF hW l h2 hc.2;refine⟨v::vs,?_,by simp only[bZ];exact⟨v,vs,rfl,ar,aB⟩⟩;rw[List.mapM_cons];simp only[aw4,aq,az,Result.andThen_ok,axr]
  ·cases h
theorem uK{n:Nat}{args:List SV}{ab:List Value}(hd:bZ β H args ab)(hn:args.length<=n){a:Act}(aQ:QH H)(ha:a.defers=[])(ht:a.tmps=ab.toArray++Array.replicate (n - ab.length) undef):jl β H n (l6 0 args) a:=by
 have hlen:ab.length=args.length:=by
  have:∀(l:List SV) (vs:List Value),bZ β H l vs->vs.length=l.length:=by
   intro l
   induction l with
   | nil=>intro vs h;simp[bZ]at h;simp[h]
   | cons x l ih=>intro vs h;simp only[bZ]at h;obtain⟨v,r,rfl,_,h⟩:=h;simp[ih r h]
  exact this args ab hd
 refine⟨⟨ha,aQ⟩,by rw[ht];simp[hlen];omega,λt x hg=>?_⟩;have key:∀(l:List SV) (vs:List Value) (i:Nat),bZ β H l vs->get (l6 i l) t=some x->∃v,i<=t∧vs[t - i]?=some v∧Den β H x v:=by
  intro l
  induction l with
  | nil=>intro vs i _ ai;simp[l6,get]at ai
  | cons y l ih =>
   intro vs i hd ai;simp only[bZ]at hd;obtain⟨v,r,rfl,aS,aT⟩:=hd;simp only[l6,get]at ai;by_cases e:i=t
   ·rw[if_pos e]at ai;simp only[awR]at ai;rw[<-ai];exact⟨v,by omega,by simp[e],aS⟩
   ·rw[if_neg e]at ai;obtain⟨u,h1,h2,h3⟩:=ih r (i+1) aT ai;refine⟨u,by omega,?_,h3⟩;rw[show t - i=(t - (i+1))+1 from by omega];simpa using h2
 obtain⟨v,_,hv,aV⟩:=key args ab 0 hd hg;refine⟨v,?_,aV⟩;have aR:t<ab.length:=by
  rcases axT t ab.length with h' | h'
  ·exact h'
  ·rw[awT (by simpa using h')]at hv;cases hv
 rw[ht,Array.getElem?_append_left (by simpa using aR)];simpa using hv
theorem A7{fn:Func}{st:St}{a:Act}(hF:jl β H st.n st.fr a)(hW:cM C β H st.M w){c:Prop}{x:SV}(hr:k8 P st fn.results.toList=some (c,x))(hc:c):∃v,(results fn a.tmps).run P w=.ok v w∧Den β H x v:=by
 unfold k8 at hr;have aG:∀c xs,wD P st fn.results.toList=some (c,xs)->c->∃vs,(fn.results.mapM (λr=>match r with | .tmp t=>pure (a.tmps.getD t undef) | .cell t T=>do loadVar T (<-asAddr (a.tmps.getD t undef)):ResultVar->Sem Value)).run P w=.ok vs.toArray w∧bZ β H xs vs:=λc xs h1 h2=>by obtain⟨vs,g1,g2⟩:=KG (P:=P) hF hW _ h1 h2;refine⟨vs,?_,g2⟩;rw[Array.mapM_eq_mapM_toList];simp only[Sem.run_map,g1,Result.andThen_ok]
 split at hr
 ·rename_i c0 x0 h0;simp only[awR,ayu]at hr;obtain⟨rfl,rfl⟩:=hr;obtain⟨vs,g1,g2⟩:=aG _ _ h0 hc;simp only[bZ]at g2;obtain⟨v,r,rfl,g3,rfl⟩:=g2;refine⟨v,?_,g3⟩;unfold results;simp only[aw4,axr]
  erw [g1]
  simp
 ·rename_i c0 l hl h0;simp only[awR,ayu]at hr;obtain⟨rfl,rfl⟩:=hr;obtain⟨vs,g1,g2⟩:=aG _ _ h0 hc;refine⟨.tuple vs.toArray,?_,by simp only[Den];exact⟨vs,rfl,g2⟩⟩;unfold results;simp only[aw4,axr]
  erw [g1]
  have aZ:vs.length≠1:=λh1=>by
   obtain⟨v,rfl⟩:=List.length_eq_one_iff.1 h1;cases l with
   | nil=>simp[bZ]at g2
   | cons y l=>cases l with
    | nil=>exact hl _ rfl
    | cons z l =>
     simp only[bZ]at g2;obtain⟨a,r,e1,_,b,r',e2,_⟩:=g2;simp[e2]at e1
  simp[aZ]
 ·cases hr
theorem aj{f:FuncId}{fn:Func}{c:Code}{args:List SV}{Φ:SV->Prop}(hf:P.funcs[f]?=some fn)(hb:fn.body=some c)(hn:args.length<=fn.ntmps)
  (h:∀C:Ctx,C.fx=[]->vc P C c ⟨fn.ntmps,l6 0 args,[]⟩ (kg P fn.results.toList Φ) (kg P fn.results.toList Φ)):qA P f args Φ:=by
 intro H w ab hi hd;refine calls_of_wp hf hb ?_;have hj:=oO (C:=⟨w,H,[],o4,[]⟩) c _ (λ_ _ h=>h) (λ_ _ h=>h) (h ⟨w,H,[],o4,[]⟩ rfl);refine wp_mono (hj _ w ⟨o4,H,uK hd hn hi.2 rfl (by simp),?_⟩) ?_
 ·exact⟨rfl,rfl,rfl,axq _,λ_ _ _=>rfl,λ_ _ h=>h,λ_ _ h=>.inl h,hi.1,λk e hk=>by simp at hk,λk e d hk=>by simp at hk,λk k' e e' d d' hk=>by simp at hk,λ_ _=>rfl,(λk d hk=>by cases hk),hi.2⟩
 ·rintro e a w' ⟨st,hq,β,H',hF,hW⟩;have key:(match k8 P st fn.results.toList with | some (c,x)=>c∧∃y,Sub st.M x y∧Φ y | none=>False) ->
    a.defers=[]∧∃v,(results fn a.tmps).run P w'=.ok v w'∧∃H' v' x,Ending.returned v=.returned v'∧Den o4 H' x v'∧Φ x∧(∀b cs,H b=some cs->H' b=some cs)∧(∀b cs,H' b=some cs->H b=some cs∨w.heap.size<=b)∧pV H' w'∧Below w.heap.size w w':=by
   intro hq;refine⟨hF.1.1,?_⟩;split at hq
   ·rename_i c' x hr;obtain⟨hc,y,hs,hΦ⟩:=hq;obtain⟨v,aq,ar⟩:=A7 hF hW hr hc;obtain⟨H1,h1,h2,h3⟩:=rB x.ks hW (rp hs);have ah:=rU h2 hs ⟨λk e he hk=>by
     obtain⟨e',g1,g2, -,g4⟩:=h3 k e he;exact⟨e',g1,g2,g4 (.inr hk)⟩⟩ (Den.up ar (λ_ _ h=>h) h1)
    exact⟨v,aq,H1,v,y,rfl,ah,hΦ,h2.ext,λb cs hb=>(h2.new b cs hb).imp id (λh=>h.resolve_right (by simp)),h2.IE,h2.os,h2.tape,h2.output,h2.size,λk hk=>h2.frame k hk (by simp)⟩
   ·exact hq.elim
  cases e<;>simp only[kg]at hq<;>simp only[bodyPost]
  case normal=>exact key hq
  case ret=>exact key hq
def im(P:Program)(rs:List ResultVar)(pk:List Nat)(k:aC->List Nat->SV->Prop):bf:=λe st =>
 match e with
 | .ret | .normal=>match k8 P st rs with
  | some (c,x)=>c∧k st.M pk x
  | none=>False
 | _=>False
theorem ep{f:FuncId}{fn:Func}{c:Code}{args:List SV}{W:Option (List Nat)}{k:aC->List Nat->SV->Prop}(hf:P.funcs[f]?=some fn)(hb:fn.body=some c)(hn:args.length<=fn.ntmps)(pk:List Nat)
  (a0:∀i∈pk,i∉C.fx) (a5:∀ks,W=some ks->pk=[]∧∀i e,aA M i=some e->i∈ks)
  (h:∀C':Ctx,C'.fx=(ayq M.length).filter (λi=>!pk.contains i)->vc P C' c ⟨fn.ntmps,l6 0 args,M⟩ (im P fn.results.toList pk k) (im P fn.results.toList pk k)):dK P C f args M W k:=by
 intro β H w ab hd hW;refine calls_of_wp hf hb ?_
 let X:List Nat:=(ayq M.length).filterMap λi=>match aA M i,β i with
  | some _,some (some d)=>some d.b
  | _,_=>none
 have hX:∀b,b∈X↔∃i e d,aA M i=some e∧β i=some (some d)∧d.b=b:=λb=>by
  simp only[X,List.mem_filterMap,List.mem_range];constructor
  ·rintro⟨i,hi,he⟩;split at he
   ·rename_i e d h1 h2;simp only[awR]at he;exact⟨i,e,d,h1,h2,he⟩
   ·cases he
  ·rintro⟨i,e,d,hi,hd,rfl⟩;refine⟨i,?_,by simp[hi,hd]⟩;have:=aU hi;exact(List.getElem?_eq_some_iff.1 this).1
 have ao:∀b,b∈X->C.w0.heap.size<=b∨b∈C.X:=λb hb=>by obtain⟨i,e,d,h1,h2,rfl⟩:=(hX b).1 hb;exact(hW.own i e d (aU h1) h2).2
 let C':Ctx:=⟨w,H,X,β,(ayq M.length).filter (λi=>!pk.contains i)⟩
 have a6:∀i d,i∉pk->β i=some d->i∈C'.fx:=λi d hi hd=>by
  have:i<M.length:=by
   rcases axT i M.length with h' | h'
   ·exact h'
   ·rw[hW.fresh i h']at hd;cases hd
  simp[C',this,hi]
 have a7:cM C' β H M w:=⟨rfl,rfl,rfl,axq _,λ_ _ _=>rfl,λ_ _ h=>h,λ_ _ h=>.inl h,hW.inv,hW.dF,
  λi e d hi hd=>⟨(hW.own i e d hi hd).1,.inr ((hX _).2 ⟨i,e,d,zx hi,hd,rfl⟩)⟩,hW.inj,hW.fresh,λ_ _ _ h=>h,hW.fM⟩
 refine wp_mono (oO (C:=C') c _ (λ_ _ h=>h) (λ_ _ h=>h) (h C' rfl) _ w ⟨β,H,uK hd hn hW.fM rfl (by simp),a7⟩) ?_;rintro e a w' ⟨st,hq,β',H',hF,ac⟩;have ak:∀i d,i∉pk->β i=some d->β' i=some d:=λi d hi hd=>ac.iK i d (a6 i d hi hd) hd;have a8:cM C β' H' st.M w':=⟨ac.os.trans hW.os,ac.tape.trans hW.tape,ac.output.trans hW.output,ayr hW.size ac.size,
  λb hb hx=>by rw[ac.frame b (ays hb hW.size) (λaD=>by rcases ao b aD with h' | h';omega;exact hx h')];exact hW.frame b hb hx,
  λb cs hb=>ac.ext b cs (hW.ext b cs hb),
  λb cs hb=>by
   rcases ac.new b cs hb with h' | h' | h'
   ·exact hW.new b cs h'
   ·exact .inr (.inl (ayr hW.size h'))
   ·exact .inr (ao b h'),
  ac.inv,ac.dF,
  λi e d hi hd=>⟨(ac.own i e d hi hd).1,by
   rcases(ac.own i e d hi hd).2 with h' | h'
   ·exact .inl (ayr hW.size h')
   ·exact ao _ h'⟩,
  ac.inj,ac.fresh,λi d hi hd=>ak i d (λhp=>a0 i hp hi) (hW.iK i d hi hd),ac.fM⟩
 have key:(match k8 P st fn.results.toList with | some (c,x)=>c∧k st.M pk x | none=>False) ->
   a.defers=[]∧∃v,(results fn a.tmps).run P w'=.ok v w'∧∃β' H' M' v' x pk,Ending.returned v=.returned v'∧Den β' H' x v'∧cM C β' H' M' w'∧(∀k d,k∉pk->β k=some d->β' k=some d)∧(∀b cs,H b=some cs->H' b=some cs)∧k M' pk x ∧
    w.heap.size<=w'.heap.size∧∀ks,W=some ks->pk=[]∧∀b,b<w.heap.size->(∀k∈ks,∀d,β k=some (some d)->b≠d.b)->w'.heap[b]?=w.heap[b]?:=by
  intro hq;refine⟨hF.1.1,?_⟩;split at hq
  ·rename_i c' x hr;obtain⟨v,aq,ar⟩:=A7 hF ac hr hq.1;refine⟨v,aq,β',H',st.M,v,x,pk,rfl,ar,a8,ak,ac.ext,hq.2,ac.size,λks a9=>?_⟩;obtain⟨g1,g2⟩:=a5 ks a9;refine⟨g1,λb hb hn=>ac.frame b hb λaD=>?_⟩;obtain⟨i,e,d,h1,h2,rfl⟩:=(hX b).1 aD;exact hn i (g2 i e h1) d h2 rfl
  ·exact hq.elim
 cases e<;>simp only[im]at hq<;>simp only[bodyPost]
 case normal=>exact key hq
 case ret=>exact key hq
end
/-! ### Less is known -/
def Le(C:Ctx)(st st':St):Prop:=∀a w,Sc C st a w->Sc C st' a w
theorem Le.refl(C:Ctx)(st:St):Le C st st:=λ_ _ h=>h
theorem Le.trans{C:Ctx}{a b c:St}(h:Le C a b)(k:Le C b c):Le C a c:=λx w hs=>k x w (h x w hs)
mutual
def SV.lt(n:Nat):SV->Bool
 | .ptr k _ _=>decide (k<n)
 | .view k _ _=>decide (k<n)
 | .agg l=>SV.j3 n l
 | .bM l=>SV.j3 n l
 | .ju _ x=>x.lt n
 | .j7 _ l r=>SV.j3 n l&&SV.j3 n r
 | .mp k=>decide (k<n)
 | _=>true
def SV.j3(n:Nat):List SV->Bool
 | []=>true
 | x::l=>x.lt n&&SV.j3 n l
end
mutual
theorem SV.yY{n k:Nat}(hk:n<=k):∀x:SV,x.lt n=true->x.cD k=false
 | .val _,_=>rfl
 | .ptr k' _ _,h=>by simp[SV.lt]at h;simp[SV.cD];omega
 | .view k' _ _,h=>by simp[SV.lt]at h;simp[SV.cD];omega
 | .mp k',h=>by simp[SV.lt]at h;simp[SV.cD];omega
 | .ro _,_=>rfl
 | .dG _ _,_=>rfl
 | .fT _ _,_=>rfl
 | .any,_=>rfl
 | .j7 _ l r,h=>by simp only[SV.lt,ayt]at h;simp[SV.cD,SV.me hk l h.1,SV.me hk r h.2]
 | .agg l,h=>by simp only[SV.cD];exact SV.me hk l (by simpa[SV.lt]using h)
 | .bM l,h=>by simp only[SV.cD];exact SV.me hk l (by simpa[SV.lt]using h)
 | .ju _ x,h=>by simp only[SV.cD];exact SV.yY hk x (by simpa[SV.lt]using h)
theorem SV.me{n k:Nat}(hk:n<=k):∀l:List SV,SV.j3 n l=true->SV.aY k l=false
 | [],_=>rfl
 | x::l,h=>by simp only[SV.j3,ayt]at h;simp[SV.aY,SV.yY hk x h.1,SV.me hk l h.2]
end
theorem kA{α:Type}(n:Nat)(f:α->SV)(xs:List α):SV.j3 n (xs.map f)=xs.all λx=>(f x).lt n:=by
 induction xs with
 | nil=>rfl
 | cons x xs ih=>simp[SV.j3,ih]
theorem wY{α:Type}(f:α->SV)(xs:List α):SV.bF (xs.map f)=xs.all λx=>(f x).pure:=by
 induction xs with
 | nil=>rfl
 | cons x xs ih=>simp[SV.bF,ih]
theorem gU{α:Type}(k:Nat)(f:α->SV)(xs:List α):SV.aY k (xs.map f)=xs.any λx=>(f x).cD k:=by
 induction xs with
 | nil=>rfl
 | cons x xs ih=>simp[SV.aY,ih]
def bY(fr:List (Nat × SV)):List (Nat × SV)->Prop
 | []=>True
 | (t,x)::r=>get fr t=some x∧bY fr r
def fj:aC->aC->Prop
 | _,[]=>True
 | x::M,y::M'=>(y=none∨x=y)∧fj M M'
 | [],_::_=>False
def gK(n:Nat):List (Nat × SV)->Prop
 | []=>True
 | (_,x)::r=>x.lt n=true∧gK n r
def eA(n:Nat):aC->Prop
 | []=>True
 | none::M=>eA n M
 | some e::M=>SV.j3 n e.es=true∧eA n M
def aP(C:Ctx)(st st':St):Prop:=st.n=st'.n∧bY st.fr st'.fr∧fj st.M st'.M∧(st.M.length=st'.M.length∨(gK st'.M.length st'.fr∧eA st'.M.length st'.M∧∀k∈C.fx,k<st'.M.length))
theorem y3{fr:List (Nat × SV)}:∀{fr':List (Nat × SV)},bY fr fr'->∀t x,get fr' t=some x->get fr t=some x
 | [],_,t,x,hg=>by simp[get]at hg
 | (s,y)::r,h,t,x,hg=>by
  simp only[bY]at h;simp only[get]at hg;by_cases e:s=t
  ·rw[if_pos e]at hg;simp only[awR]at hg;rw[<-e,<-hg];exact h.1
  ·rw[if_neg e]at hg;exact y3 h.2 t x hg
theorem ER:∀{M M':aC},fj M M'->∀(k:Nat) (e:cJ),M'[k]?=some (some e)->M[k]?=some (some e)
 | M,[],_,k,e,hk=>by simp at hk
 | [],_::_,h,k,e,hk=>by simp[fj]at h
 | x::M,y::M',h,k,e,hk=>by
  simp only[fj]at h;cases k with
  | zero =>
   simp at hk;subst hk;rcases h.1 with h | h
   ·cases h
   ·simp[h]
  | succ k=>simp at hk ⊢;exact ER h.2 k e hk
theorem Rp:∀{M M':aC},fj M M'->M'.length<=M.length
 | M,[],_=>by simp
 | [],_::_,h=>by simp[fj]at h
 | x::M,y::M',h=>by simp only[fj]at h;simpa using Rp h.2
theorem Ky{n:Nat}:∀{fr:List (Nat × SV)},gK n fr->∀t x,get fr t=some x->x.lt n=true
 | [],_,t,x,hg=>by simp[get]at hg
 | (s,y)::r,h,t,x,hg=>by
  simp only[gK]at h;simp only[get]at hg;by_cases e:s=t
  ·rw[if_pos e]at hg;simp only[awR]at hg;rw[<-hg];exact h.1
  ·rw[if_neg e]at hg;exact Ky h.2 t x hg
theorem vD{n:Nat}:∀{M:aC},eA n M->∀(k:Nat) (e:cJ),M[k]?=some (some e)->SV.j3 n e.es=true
 | [],_,k,e,hk=>by simp at hk
 | none::M,h,k,e,hk=>by
  simp only[eA]at h;cases k with
  | zero=>simp at hk
  | succ k=>exact vD h k e (by simpa using hk)
 | some e'::M,h,k,e,hk=>by
  simp only[eA]at h;cases k with
  | zero=>simp at hk;subst hk;exact h.1
  | succ k=>exact vD h.2 k e (by simpa using hk)
theorem Le.dE{C:Ctx}{st st':St}(h:aP C st st'):Le C st st':=by
 rintro a w ⟨β,H,hF,hW⟩;obtain⟨h1,h2,h3,h4⟩:=h;have au:jl β H st'.n st'.fr a:=by rw[<-h1];exact hF.sub (y3 h2)
 have ae:=ER h3;rcases h4 with h4 | ⟨h4,h5,h6⟩
 ·exact⟨β,H,au,hW.os,hW.tape,hW.output,hW.size,hW.frame,hW.ext,hW.new,hW.inv,λk e hk=>hW.dF k e (ae k e hk),λk e d hk=>hW.own k e d (ae k e hk),
   λk k' e e' d d' hk av=>hW.inj k k' e e' d d' (ae k e hk) (ae k' e' av),λk hk=>hW.fresh k (by omega),hW.iK,hW.fM⟩
 ·have hb:∀k d,k<st'.M.length->β k=some d->(λi=>if i<st'.M.length then β i else none:cu) k=some d:=λk d hk hd=>by simp[hk,hd]
  have aR:∀k e,st'.M[k]?=some (some e)->k<st'.M.length:=λk e hk=>by
   rcases axT k st'.M.length with h' | h'
   ·exact h'
   ·rw[awT h']at hk;cases hk
  have bb:∀n k (x:SV),x.lt n=true->x.cD k=true->k<n:=λn k x h1 h2=>by
   rcases axT k n with h' | h'
   ·exact h'
   ·rw[SV.yY h' x h1]at h2;cases h2
  have aH:∀n k (l:List SV),SV.j3 n l=true->SV.aY k l=true->k<n:=λn k l h1 h2=>by
   rcases axT k n with h' | h'
   ·exact h'
   ·rw[SV.me h' l h1]at h2;cases h2
  refine⟨λi=>if i<st'.M.length then β i else none,H,⟨au.1,au.2.1,λt x hg=>?_⟩,hW.os,hW.tape,hW.output,hW.size,hW.frame,hW.ext,hW.new,hW.inv,λk e hk=>?_,λk e d hk hd=>?_,
   λk k' e e' d d' hk av hd ah=>?_,λk hk=>by simp;omega,λk d hk hd=>by rw[if_pos (h6 k hk)];exact hW.iK k d hk hd,hW.fM⟩
  ·obtain⟨v,hv,hd⟩:=au.2.2 t x hg;exact⟨v,hv,Den.mono (λ_ _ h=>h) x v (λk d hk hd=>hb k d (bb _ k x (Ky h4 t x hg) hk) hd) hd⟩
  ·have aI:=vD h5 k e hk;rcases hW.dF k e (ae k e hk)with⟨g1,g2⟩ | ⟨d,cs,T,vs,g1,g2,g3,g4,g5,g6⟩ | ⟨d,ms,g1,g2,g3,g4⟩
   ·exact .inl ⟨hb _ _ (aR k e hk) g1,g2⟩
   ·exact .inr (.inl ⟨d,cs,T,vs,hb _ _ (aR k e hk) g1,g2,g3,g4,ba.mono (λ_ _ h=>h) _ _ _ (λj d hj hd=>hb j d (aH _ j _ aI hj) hd) g5,g6⟩)
   ·exact .inr (.inr ⟨d,ms,hb _ _ (aR k e hk) g1,g2,g3,cS.mono (λ_ _ h=>h) _ _ _ (λj d hj hd=>hb j d (aH _ j _ aI hj) hd) g4⟩)
  ·simp only[aR k e hk,if_true]at hd;exact hW.own k e d (ae k e hk) hd
  ·simp only[aR k e hk,aR k' e' av,if_true]at hd ah;exact hW.inj k k' e e' d d' (ae k e hk) (ae k' e' av) hd ah
theorem aa.le{P:Program}{C:Ctx}{c:Code}{st st':St}{Q:bf}(hl:Le C st st')(h:aa P C c st' Q):aa P C c st Q:=λa w hs=>h a w (hl a w hs)
def Dn(C:Ctx)(Q:bf):bf:=λe st=>∃st',Le C st st'∧Q e st'
theorem aqQ{C:Ctx}{Q:bf}{e:Exit}{a:Act}{w:World}(h:QQ C (Dn C Q) e a w):QQ C Q e a w:=by obtain⟨st,⟨st',hl,hq⟩,hs⟩:=h;exact⟨st',hq,hl a w hs⟩
theorem MK(p:Nat->Prop):(∃n,p n)->∃n,p n∧∀m,p m->n<=m:=by
 rintro⟨n,hn⟩
 induction n using Nat.strongRecOn with
 | _ n ih =>
  by_cases h:∃m,m<n∧p m
  ·obtain⟨m,h1,h2⟩:=h;exact ih m h1 h2
  ·exact⟨n,hn,λm hm=>by
    rcases axT m n with h' | h'
    ·exact absurd ⟨m,h',hm⟩ h
    ·exact h'⟩
theorem Bb{P:Program}{c:Code}{Q:Exit->Act->World->Prop}{a:Act}{w:World}{ι:Type}(I:ι->Act->World->Prop)(μ:ι->Nat)(i0:ι)(h0:I i0 a w)
  (round:∀i a w,I i a w->c.wp P (Exit.then (λa' w'=>∃j,I j a' w'∧μ j<μ i) Q) a w):(Code.loop c).wp P Q a w:=by
 have hex:∀a w,(∃i,I i a w)->∃n,(∃i,I i a w∧μ i=n)∧∀m,(∃i,I i a w∧μ i=m)->n<=m:=λa w ⟨i,hi⟩=>MK _ ⟨μ i,i,hi,rfl⟩;have hf:∃ν:Act->World->Nat,∀a w,(∃i,I i a w)->(∃i,I i a w∧μ i=ν a w)∧∀j,I j a w->ν a w<=μ j:=by refine⟨λa w=>(Classical.epsilon λn=>(∃i,I i a w∧μ i=n)∧∀m,(∃i,I i a w∧μ i=m)->n<=m),λa w h=>?_⟩;have:=Classical.epsilon_spec (hex a w h);exact⟨this.1,λj hj=>this.2 _ ⟨j,hj,rfl⟩⟩
 obtain⟨ν,hν⟩:=hf;refine wp_loop (λa w=>∃i,I i a w) ν ⟨i0,h0⟩ ?_;intro a w h;obtain⟨⟨i,hi,he⟩, -⟩:=hν a w h;refine wp_mono (round i a w hi) ?_;intro e a' w' hq;cases e<;>simp only[Exit.then]at hq ⊢<;>first | exact hq | skip
 obtain⟨j,hj,aR⟩:=hq;exact⟨⟨j,hj⟩,Nat.lt_of_le_of_lt ((hν a' w' ⟨j,hj⟩).2 j hj) (by rw[<-he];exact aR)⟩
theorem aa.loop{P:Program}{C:Ctx}{c:Code}{st:St}{Q:bf}{ι:Type}(I:ι->St)(Cn:ι->Prop)(μ:ι->Nat)(i0:ι)(h0:Cn i0)(hl:aP C st (I i0))
  (hr:∀i,Cn i->vc P C c (I i) (uI (λst'=>∃j,Cn j∧μ j<μ i∧aP C st' (I j)) Q) (uI (λst'=>∃j,Cn j∧μ j<μ i∧aP C st' (I j)) Q)):aa P C (.loop c) st Q:=by
 intro a w hs;refine Bb (λi a w=>Cn i∧Sc C (I i) a w) μ i0 ⟨h0,Le.dE hl a w hs⟩ ?_;rintro i a w ⟨hc,hs⟩;refine wp_mono (oO c _ (λ_ _ h=>h) (λ_ _ h=>h) (hr i hc) a w hs) ?_;rintro e a' w' ⟨st',h1,h2⟩;cases e<;>simp only[uI,Exit.then]at h1 ⊢<;>first | exact⟨st',h1,h2⟩ | skip
 obtain⟨j,g1,g2,g3⟩:=h1;exact⟨j,⟨g1,Le.dE g3 a' w' h2⟩,g2⟩
theorem aa.cut{P:Program}{C:Ctx}{c:Code}{st:St}{Q:bf}(Q1:bf)(h1:aa P C c st Q1)(h2:∀e st',Q1 e st'->∃ag,aP C st' ag∧Q e ag):aa P C c st Q:=by intro a w hs;refine wp_mono (h1 a w hs) ?_;rintro e a' w' ⟨st',h3,h4⟩;obtain⟨ag,h5,h6⟩:=h2 e st' h3;exact⟨ag,h6,Le.dE h5 a' w' h4⟩
theorem aa.nil{P:Program}{C:Ctx}{c:Code}{st:St}{Q:bf}(t s:Nat)(h:get st.fr t=some (.val (.slice none 0 0)))(h':aa P C c ⟨st.n,(t,.view st.M.length 0 0)::st.fr,st.M++[some ⟨s,[],false⟩]⟩ Q):aa P C c st Q:=by
 rintro a w ⟨β,H,hF,hW⟩;refine h' a w ⟨β.eK st.M.length none,H,⟨hF.1,hF.2.1,λt' x hg=>?_⟩,hW.nil s⟩;simp only[get]at hg;split at hg
 ·rename_i e;subst e;simp only[awR]at hg;subst hg;obtain⟨v,hv,hd⟩:=hF.2.2 t _ h;simp only[Den]at hd;refine⟨v,hv,?_⟩;simp only[Den];exact .inl (by simp[cu.eK,hd.1])
 ·obtain⟨v,hv,hd⟩:=hF.2.2 t' x hg;exact⟨v,hv,hd.up (λk d hk=>iN hW _ k d hk) (λ_ _ h=>h)⟩
end Go.Sv


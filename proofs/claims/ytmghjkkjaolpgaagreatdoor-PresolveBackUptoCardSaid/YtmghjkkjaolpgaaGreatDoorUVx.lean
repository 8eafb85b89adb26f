/- A text of the prover's own. -/
import Derived.Test.YtmghjkkjaolpgaaGreatDoorUVw
open List renaming mem_cons→amM,mem_singleton→amN,mem_append→amO,getElem?_eq_none→al2,range→amP
open Option.some renaming injEq→al0
open Nat renaming le_trans→amQ,lt_of_lt_of_le→amR,lt_or_ge→amz,le_refl→amk
open Bool renaming and_eq_true→amS
namespace Go.Sv
open Go Go.RowKit
def mn(H:Hp)(w:World):Prop:=(∀b cs,H b=some cs→∃T z,w.heap[b]?=some (.cells cs T z))∧JS H
theorem cv.zj{C:Ctx}{β:bO}{H:Hp}{M:aJ}{w:World}(h:cv C β H M w):mn H w:=⟨h.inv,h.eW⟩
def nS(P:Program)(f:FuncId)(args:List SV)(Φ:SV→Prop):Prop :=
 ∀(H:Hp) (w:World) (vals:List Value),mn H w→bF lF H args vals→Calls P f vals.toArray w fun e w' =>
  ∃H' v x,e=.returned v∧Den lF H' x v∧Φ x∧(∀b cs,H b=some cs→H' b=some cs)∧(∀b cs,H' b=some cs→H b=some cs∨w.heap.size≤b)∧mn H' w'∧Below w.heap.size w w'
def aI(P:Program)(f:FuncId)(args:List SV)(y:SV):Prop:=nS P f args (fun x=>x=y)
/-! ### A symbolic value with own entries, read as one without -/
mutual
def Sub(M:aJ):SV→SV→Prop
 | .view k i n,y=>match y with
  | .ro es=>match ao M k with
   | some e=>SV.ba e.es=true∧i+n≤e.es.length∧(e.es.drop i).take n=es
   | none=>False
  | _=>False
 | .ptr k i j,y=>match y with
  | .bU x j'=>match ao M k with
   | some e=>SV.ba e.es=true∧i<e.es.length∧(aA e.es i).aM=false∧aA e.es i=x∧j=j'
   | none=>False
  | _=>False
 | .agg l,y=>match y with
  | .agg l'=>cA M l l'
  | _=>False
 | .bG l,y=>match y with
  | .bG l'=>cA M l l'
  | _=>False
 | .iw t x,y=>match y with
  | .iw t' x'=>t=t'∧Sub M x x'
  | _=>False
 | .val v,y=>match y with
  | .ro es=>v=.slice none 0 0∧es=[]
  | .val v'=>v=v'
  | _=>False
 | .ro es,y=>y=.ro es
 | .bU x j,y=>y=.bU x j
 | .fp t g,y=>y=.fp t g
 | .any,y=>y=.any
 | .gA f l r,y=>match y with
  | .gA f' l' r'=>f=f'∧cA M l l'∧cA M r r'
  | _=>False
 | .mp _,_=>False
def cA(M:aJ):List SV→List SV→Prop
 | [],y=>y=[]
 | x::l,y=>match y with
  | x'::l'=>Sub M x x'∧cA M l l'
  | []=>False
end
def Gq:List Nat→aJ→aJ
 | [],M=>M
 | k::r,M=>match ao M k with
  | some e=>Gq r (aN M k (some ⟨e.sz,e.es,true⟩))
  | none=>Gq r M
theorem DX{M:aJ}{k:Nat}{e:cx}(h:M[k]?=some (some e)):ao M k=some e:=by
 induction M generalizing k with
 | nil=>simp at h
 | cons x l ih=>cases k with
  | zero=>simp at h;simp[ao,h]
  | succ k=>simpa[ao]using ih (by simpa using h)
theorem nw(M:aJ)(k j:Nat)(e:cx)(hk:∃e',ao M k=some e'):ao (aN M k (some e)) j=if j=k then some e else ao M j:=by
 induction M generalizing k j with
 | nil=>obtain⟨e',h⟩:=hk;simp[ao]at h
 | cons x l ih =>
  cases k with
  | zero=>cases j<;>simp[aN,ao]
  | succ k=>cases j with
   | zero=>simp[aN,ao]
   | succ j=>simpa[aN,ao]using ih k j (by simpa[ao]using hk)
section
variable {P:Program} {C:Ctx} {β:bO} {H:Hp} {M:aJ} {w:World}
theorem nq:∀(ks:List Nat) {H:Hp} {M:aJ},cv C β H M w→(∀k∈ks,∀e,ao M k=some e→SV.ba e.es=true) →
  ∃H',(∀b cs,H b=some cs→H' b=some cs)∧cv C β H' (Gq ks M) w ∧
   (∀k e,ao M k=some e→∃e',ao (Gq ks M) k=some e'∧e'.es=e.es∧e'.sz=e.sz∧((e.fz=true∨k∈ks)→e'.fz=true))
 | [],H,M,h,_=>⟨H,fun _ _ h=>h,h,fun k e he=>⟨e,he,rfl,rfl,fun h=>h.resolve_right (by simp)⟩⟩
 | k::r,H,M,h,hp=>by
  simp only[Gq];cases hk:ao M k with
  | none =>
   obtain⟨H',h1,h2,h3⟩:=nq r h (fun j hj=>hp j (by simp[hj]));refine⟨H',h1,h2,fun j e he=>?_⟩;obtain⟨e',g1,g2,g3,g4⟩:=h3 j e he;refine⟨e',g1,g2,g3,fun hh=>g4 ?_⟩;rcases hh with hh | hh
   ·exact .inl hh
   ·rcases amM.1 hh with rfl | hh
    ·rw[hk]at he;cases he
    ·exact .inr hh
  | some e =>
   obtain⟨H1,a1,a2⟩:=h.freeze (aL hk) (hp k (by simp) e hk);rw[←ez]at a2;simp only;have hts:=fun j=>nw M k j ⟨e.sz,e.es,true⟩ ⟨e,hk⟩;obtain⟨H',h1,h2,h3⟩:=nq r a2 (fun j hj e' he'=>by
    rw[hts]at he';split at he'
    ·simp only[al0]at he';subst he';exact hp k (by simp) e hk
    ·exact hp j (by simp[hj]) e' he')
   refine⟨H',fun b cs hb=>h1 b cs (a1 b cs hb),h2,fun j e' he'=>?_⟩;by_cases hj:j=k
   ·subst hj;rw[hk]at he';simp only[al0]at he';subst he';obtain⟨e'',g1,g2,g3,g4⟩:=h3 j ⟨e.sz,e.es,true⟩ (by rw[hts];simp);exact⟨e'',g1,g2,g3,fun _=>g4 (.inl rfl)⟩
   ·obtain⟨e'',g1,g2,g3,g4⟩:=h3 j e' (by rw[hts,if_neg hj];exact he');refine⟨e'',g1,g2,g3,fun hh=>g4 ?_⟩;rcases hh with hh | hh
    ·exact .inl hh
    ·rcases amM.1 hh with rfl | hh
     ·exact absurd rfl hj
     ·exact .inr hh
mutual
theorem nD:∀{x y:SV},Sub M x y→∀k∈x.ks,∀e,ao M k=some e→SV.ba e.es=true
 | .view k i n,y,h,k',hk,e,he=>by
  simp only[SV.ks,amN]at hk;subst hk;simp only[Sub]at h;split at h
  ·rw[he]at h;exact h.1
  ·exact h.elim
 | .ptr k i j,y,h,k',hk,e,he=>by
  simp only[SV.ks,amN]at hk;subst hk;simp only[Sub]at h;split at h
  ·rw[he]at h;exact h.1
  ·exact h.elim
 | .agg l,y,h,k',hk,e,he=>by
  simp only[Sub]at h;split at h
  ·exact ig h k' (by simpa[SV.ks]using hk) e he
  ·exact h.elim
 | .bG l,y,h,k',hk,e,he=>by
  simp only[Sub]at h;split at h
  ·exact ig h k' (by simpa[SV.ks]using hk) e he
  ·exact h.elim
 | .iw t x,y,h,k',hk,e,he=>by
  simp only[Sub]at h;split at h
  ·exact nD h.2 k' (by simpa[SV.ks]using hk) e he
  ·exact h.elim
 | .val v,y,h,k',hk,e,he=>by simp[SV.ks]at hk
 | .ro es,y,h,k',hk,e,he=>by simp[SV.ks]at hk
 | .bU x j,y,h,k',hk,e,he=>by simp[SV.ks]at hk
 | .fp t g,y,h,k',hk,e,he=>by simp[SV.ks]at hk
 | .any,y,h,k',hk,e,he=>by simp[SV.ks]at hk
 | .mp _,y,h,k',hk,e,he=>by simp only[Sub]at h
 | .gA f l r,y,h,k',hk,e,he=>by
  simp only[Sub]at h;split at h
  ·simp only[SV.ks,amO]at hk;rcases hk with hk | hk
   ·exact ig h.2.1 k' hk e he
   ·exact ig h.2.2 k' hk e he
  ·exact h.elim
theorem ig:∀{l l':List SV},cA M l l'→∀k∈SV.qk l,∀e,ao M k=some e→SV.ba e.es=true
 | [],l',h,k',hk,e,he=>by simp[SV.qk]at hk
 | x::l,l',h,k',hk,e,he=>by
  simp only[cA]at h;split at h
  ·simp only[SV.qk,amO]at hk;rcases hk with hk | hk
   ·exact nD h.1 k' hk e he
   ·exact ig h.2 k' hk e he
  ·exact h.elim
end
structure Fz(M M1:aJ)(ks:List Nat):Prop where
 h:∀k e,ao M k=some e→k∈ks→∃e',ao M1 k=some e'∧e'.es=e.es∧e'.fz=true
theorem oN{s:Nat}{l:List SV}{vs:List Value}(h:aU β H s l vs)(hp:SV.ba l=true):aU lF H s l vs:=h.any hp (fun _ _ h=>h)
mutual
theorem oL{M1:aJ}(hW:cv C β H M1 w):∀{x y:SV} {v:Value},Sub M x y→Fz M M1 x.ks→Den β H x v→Den lF H y v
 | .view k i n,y,v,h,hf,hd=>by
  simp only[Sub]at h;split at h
  ·split at h
   ·rename_i es e he;obtain⟨h1,h2,h3⟩:=h;obtain⟨e',g1,g2,g3⟩:=hf.h k e he (by simp[SV.ks]);have hlen:((e.es.drop i).take n).length=n:=by simp;omega
    simp only[Den]at hd ⊢;rcases hd with⟨a1,rfl,rfl,rfl⟩ | ⟨d,c,o,a1,a2,a3,a4,rfl⟩
    ·left;exact⟨by rw[←h3];simp,_,_,rfl⟩
    ·rcases hW.da k e' (aL g1)with⟨b1,_⟩ | ⟨d',cs,T,vs,b1,b2,b3,b4,b5,b6,b7,b8⟩ | ⟨d',ms,b1,b2,b3,b4⟩
     rotate_left 2
     ·rw[a1]at b1;simp only[al0]at b1;subst b1;rw[b2.2.1,b2.2.2]at a3;have hn0:n=0:=by omega
      subst hn0;left;exact⟨by rw[←h3];simp,_,_,rfl⟩
     ·rw[a1]at b1;simp at b1
     ·rw[a1]at b1;simp only[al0]at b1;subst b1;obtain⟨c1,c2⟩:=b8 g3;have b5':=oN b5 c2;rw[g2]at b5';have hl:=b5'.length;right;rcases Nat.eq_zero_or_pos n with rfl | hn
      ·exact⟨d.b,o,c,e'.sz,cs,[],by rw[←h3];simp,by rw[←h3];simp,c1,by rw[←h3];simp[aU],by simp⟩
      ·have ho:=a4 (by omega);refine⟨d.b,o,c,e'.sz,cs,(vs.drop (i*e'.sz)).take (n*e'.sz),by rw[←h3,hlen],by rw[←h3,hlen];exact a2,c1,by rw[←h3];exact(b5'.drop i).take n,fun q hq=>?_⟩;simp only[List.length_take,List.length_drop]at hq;rw[List.getElem?_take_of_lt (by omega),List.getElem?_drop,ho,b2];exact b7 _ (by omega)
   ·exact h.elim
  ·exact h.elim
 | .ptr k i j,y,v,h,hf,hd=>by
  simp only[Sub]at h;split at h
  ·split at h
   ·rename_i x j' e he;obtain⟨h1,h2,h2',h3,rfl⟩:=h;obtain⟨e',g1,g2,g3⟩:=hf.h k e he (by simp[SV.ks]);simp only[Den]at hd ⊢;obtain⟨d,a1,rfl⟩:=hd;rcases hW.da k e' (aL g1)with⟨b1,_⟩ | ⟨d',cs,T,vs,b1,b2,b3,b4,b5,b6,b7,b8⟩ | ⟨d',ms,b1,b2,b3,b4⟩
    rotate_left 2
    ·rw[g2]at b4;obtain⟨l,hl⟩:=b4.Fu _ h2;rw[hl]at h2';simp[SV.aM]at h2'
    ·rw[a1]at b1;simp at b1
    ·rw[a1]at b1;simp only[al0]at b1;subst b1;obtain⟨c1,c2⟩:=b8 g3;have b5':=oN b5 c2;rw[g2]at b5';have hl:=b5'.length;obtain⟨u,u1,u2,u3⟩:=b5'.get h2;refine⟨d.b,i*e'.sz,cs,u,by rw[b2],c1,by rw[←h3];exact u1,fun q hq=>?_⟩;rw[u2]at hq;have:=Nat.mul_le_mul_right e'.sz (show i+1≤e.es.length from h2);rw[Nat.add_mul,Nat.one_mul]at this;rw[b7 _ (by omega)];exact u3 q hq
   ·exact h.elim
  ·exact h.elim
 | .agg l,y,v,h,hf,hd=>by
  simp only[Sub]at h;split at h
  ·simp only[Den]at hd ⊢;obtain⟨vs,rfl,hvs⟩:=hd;exact⟨vs,rfl,yo hW h ⟨fun k e he hk=>hf.h k e he (by simpa[SV.ks]using hk)⟩ hvs⟩
  ·exact h.elim
 | .bG l,y,v,h,hf,hd=>by
  simp only[Sub]at h;split at h
  ·simp only[Den]at hd ⊢;obtain⟨vs,rfl,hvs⟩:=hd;exact⟨vs,rfl,fL hW h ⟨fun k e he hk=>hf.h k e he (by simpa[SV.ks]using hk)⟩ hvs⟩
  ·exact h.elim
 | .iw t x,y,v,h,hf,hd=>by
  simp only[Sub]at h;split at h
  ·obtain⟨rfl,h⟩:=h;simp only[Den]at hd ⊢;obtain⟨u,rfl,hu⟩:=hd;exact⟨u,rfl,oL hW h ⟨fun k e he hk=>hf.h k e he (by simpa[SV.ks]using hk)⟩ hu⟩
  ·exact h.elim
 | .val u,y,v,h,hf,hd=>by
  simp only[Sub]at h;split at h
  ·obtain⟨rfl,rfl⟩:=h;simp only[Den]at hd ⊢;left;exact⟨trivial,_,_,hd.1⟩
  ·subst h;simpa only[Den]using hd
  ·exact h.elim
 | .ro es,y,v,h,hf,hd=>by simp only[Sub]at h;subst h;exact Den.any hd rfl (fun _ _ h=>h)
 | .bU x j,y,v,h,hf,hd=>by simp only[Sub]at h;subst h;exact Den.any hd rfl (fun _ _ h=>h)
 | .fp t g,y,v,h,hf,hd=>by simp only[Sub]at h;subst h;exact Den.any hd rfl (fun _ _ h=>h)
 | .any,y,v,h,hf,hd=>by simp only[Sub]at h;subst h;exact Den.any hd rfl (fun _ _ h=>h)
 | .mp _,y,v,h,hf,hd=>by simp only[Sub]at h
 | .gA f l r,y,v,h,hf,hd=>by
  simp only[Sub]at h;split at h
  ·obtain⟨rfl,h1,h2⟩:=h;simp only[Den]at hd ⊢;obtain⟨vs,ws,rfl,hv,hw⟩:=hd;exact⟨vs,ws,rfl,fL hW h1 ⟨fun k e he hk=>hf.h k e he (by simp[SV.ks,hk])⟩ hv,fL hW h2 ⟨fun k e he hk=>hf.h k e he (by simp[SV.ks,hk])⟩ hw⟩
  ·exact h.elim
theorem yo{M1:aJ}(hW:cv C β H M1 w):∀{l l':List SV} {vs:List Value},cA M l l'→Fz M M1 (SV.qk l)→bh β H l vs→bh lF H l' vs
 | [],l',vs,h,hf,hd=>by simp only[cA]at h;subst h;simpa[bh]using hd
 | x::l,l',vs,h,hf,hd=>by
  simp only[cA]at h;split at h
  ·simp only[bh]at hd ⊢;obtain⟨v,r,rfl,h2,h3,h4⟩:=hd;have h3':=oL hW h.1 ⟨fun k e he hk=>hf.h k e he (by simp[SV.qk,hk])⟩ h3;refine⟨v,r,rfl,?_,h3',yo hW h.2 ⟨fun k e he hk=>hf.h k e he (by simp[SV.qk,hk])⟩ h4⟩;rename_i x' l'';have h1:=h.1;cases x<;>simp only[Sub,SV.one]at h1 h2
   case val u=>split at h1<;>first | rfl | (subst h1;exact h2) | exact h1.elim
   case ro=>subst h1;rfl
   case bU=>subst h1;rfl
   case fp=>subst h1;rfl
   case any=>subst h1;rfl
   case gA=>split at h1<;>first | rfl | exact h1.elim
   case ptr=>split at h1<;>first | rfl | exact h1.elim
   case view=>split at h1<;>first | rfl | exact h1.elim
   case iw=>split at h1<;>first | rfl | exact h1.elim
   all_goals cases h2
  ·exact h.elim
theorem fL{M1:aJ}(hW:cv C β H M1 w):∀{l l':List SV} {vs:List Value},cA M l l'→Fz M M1 (SV.qk l)→bF β H l vs→bF lF H l' vs
 | [],l',vs,h,hf,hd=>by simp only[cA]at h;subst h;simpa[bF]using hd
 | x::l,l',vs,h,hf,hd=>by
  simp only[cA]at h;split at h
  ·simp only[bF]at hd ⊢;obtain⟨v,r,rfl,h3,h4⟩:=hd;exact⟨v,r,rfl,oL hW h.1 ⟨fun k e he hk=>hf.h k e he (by simp[SV.qk,hk])⟩ h3,fL hW h.2 ⟨fun k e he hk=>hf.h k e he (by simp[SV.qk,hk])⟩ h4⟩
  ·exact h.elim
end
theorem cv.after{H':Hp}{w':World}(h:cv C β H M w)(hb:Below w.heap.size w w')(hH:∀b cs,H b=some cs→H' b=some cs)
  (hn:∀b cs,H' b=some cs→H b=some cs∨w.heap.size≤b) (hi:mn H' w'):cv C β H' M w' where
 os:=hb.os.trans h.os
 tape:=hb.tape.trans h.tape
 output:=hb.output.trans h.output
 size:=amQ h.size hb.size
 frame b hb' hx:=by rw[hb.block b (amR hb' h.size)];exact h.frame b hb' hx
 ext b cs hb':=hH _ _ (h.ext b cs hb')
 new b cs hb':=by
  rcases hn b cs hb' with h' | h'
  ·exact h.new b cs h'
  ·exact .inr (.inl (amQ h.size h'))
 inv:=hi.1
 da k e hk:=(h.da k e hk).up (fun _ _ h=>h) hH (fun d hd=>hb.block _ (h.lt hk hd))
 own k e d hk hd:=by
  refine⟨fun hf=>?_,(h.own k e d hk hd).2⟩;cases hH':H' d.b with
  | none=>rfl
  | some cs =>
   rcases hn _ _ hH' with h' | h'
   ·rw[(h.own k e d hk hd).1 hf]at h';cases h'
   ·have:=h.lt hk hd;omega
 inj:=h.inj
 fresh:=h.fresh
 fU:=h.fU
 eW:=hi.2
theorem vZ{f:FuncId}{args args':List SV}{Φ:SV→Prop}{W:Option (List Nat)}{K:aJ→List Nat→SV→Prop}(h:nS P f args' Φ)(hs:cA M args args')(hk:∀x,Φ x→K (Gq (SV.qk args) M) [] x):dH P C f args M W K:=by
 intro β H w vals hd hW;obtain⟨H1,h1,h2,h3⟩:=nq (SV.qk args) hW (ig hs);have hd':=fL h2 hs ⟨fun k e he hk=>by
  obtain⟨e',g1,g2, -,g4⟩:=h3 k e he;exact⟨e',g1,g2,g4 (.inr hk)⟩⟩ (bF.mono h1 _ _ (fun _ _ _ h=>h) hd)
 refine Calls.mono (h H1 w vals h2.zj hd') ?_;rintro e w' ⟨H',v,x,rfl,g1,g2,g3,g4,g5,g6⟩;exact⟨β,H',_,v,x,[],rfl,Den.up g1 (fun k d hd=>by simp[lF]at hd) (fun _ _ h=>h),h2.after g6 g3 g4 g5,fun _ _ _ h=>h,fun b cs hb=>g3 b cs (h1 b cs hb),hk x g2,g6.size,fun ks _=>⟨rfl,fun b hb _=>g6.block b hb⟩⟩
mutual
def SV.flat:SV→Bool
 | .val _=>true
 | .fp t g=>pX.contains g&&t==eM
 | .agg l=>SV.vV l
 | .bG l=>SV.vV l
 | .iw _ x=>x.flat
 | .any=>true
 | _=>false
def SV.vV:List SV→Bool
 | []=>true
 | x::l=>x.flat&&SV.vV l
end
mutual
theorem qo{β:bO}{H H':Hp}(hg:JS H)(hH:∀b cs,H b=some cs→H' b=some cs):∀{x:SV} {v:Value},x.flat=true→Den lF H' x v→Den β H x v
 | .val u,v,_,h=>by simpa only[Den]using h
 | .any,v,_,h=>by simpa only[Den]using h
 | .fp t g,v,hf,h=>by
  simp only[SV.flat,amS,beq_iff_eq]at hf;obtain⟨h1,rfl⟩:=hf;simp only[Den]at h ⊢;obtain⟨b,h2,rfl⟩:=h;obtain⟨u,h3,h4⟩:=hg.at_ g (.fp eM g) (by unfold gl;rw[if_pos h1]);simp only[Den]at h3;obtain⟨b',h5,h6⟩:=h3;have:=hH _ _ h5;rw[h2]at this;simp only[al0,Array.mk.injEq,List.cons.injEq,Value.iface.injEq,Value.pointer.injEq,and_true,true_and]at this;subst this;exact⟨b,h5,rfl⟩
 | .agg l,v,hf,h=>by
  simp only[Den]at h ⊢;obtain⟨vs,rfl,h⟩:=h;exact⟨vs,rfl,v5 hg hH (by simpa[SV.flat]using hf) h⟩
 | .bG l,v,hf,h=>by
  simp only[Den]at h ⊢;obtain⟨vs,rfl,h⟩:=h;exact⟨vs,rfl,vS hg hH (by simpa[SV.flat]using hf) h⟩
 | .iw t x,v,hf,h=>by
  simp only[Den]at h ⊢;obtain⟨u,rfl,h⟩:=h;exact⟨u,rfl,qo hg hH (by simpa[SV.flat]using hf) h⟩
 | .ro _,v,hf,h=>by simp[SV.flat]at hf
 | .bU _ _,v,hf,h=>by simp[SV.flat]at hf
 | .ptr _ _ _,v,hf,h=>by simp[SV.flat]at hf
 | .view _ _ _,v,hf,h=>by simp[SV.flat]at hf
 | .gA _ _ _,v,hf,h=>by simp[SV.flat]at hf
 | .mp _,v,hf,h=>by simp[SV.flat]at hf
theorem v5{β:bO}{H H':Hp}(hg:JS H)(hH:∀b cs,H b=some cs→H' b=some cs):∀{l:List SV} {vs:List Value},SV.vV l=true→bh lF H' l vs→bh β H l vs
 | [],vs,_,h=>by simpa only[bh]using h
 | x::l,vs,hf,h=>by
  simp only[SV.vV,amS]at hf;simp only[bh]at h ⊢;obtain⟨v,r,rfl,h1,h2,h3⟩:=h;exact⟨v,r,rfl,h1,qo hg hH hf.1 h2,v5 hg hH hf.2 h3⟩
theorem vS{β:bO}{H H':Hp}(hg:JS H)(hH:∀b cs,H b=some cs→H' b=some cs):∀{l:List SV} {vs:List Value},SV.vV l=true→bF lF H' l vs→bF β H l vs
 | [],vs,_,h=>by simpa only[bF]using h
 | x::l,vs,hf,h=>by
  simp only[SV.vV,amS]at hf;simp only[bF]at h ⊢;obtain⟨v,r,rfl,h2,h3⟩:=h;exact⟨v,r,rfl,qo hg hH hf.1 h2,vS hg hH hf.2 h3⟩
end
theorem ahm{f:FuncId}{args args':List SV}{Φ:SV→Prop}{W:Option (List Nat)}{K:aJ→List Nat→SV→Prop}(h:nS P f args' Φ)(hs:cA M args args')(hk:∀x,Φ x→x.flat=true∧K M [] x):dH P C f args M W K:=by
 intro β H w vals hd hW;obtain⟨H1,h1,h2,h3⟩:=nq (SV.qk args) hW (ig hs);have hd':=fL h2 hs ⟨fun k e he hk=>by
  obtain⟨e',g1,g2, -,g4⟩:=h3 k e he;exact⟨e',g1,g2,g4 (.inr hk)⟩⟩ (bF.mono h1 _ _ (fun _ _ _ h=>h) hd)
 refine Calls.mono (h H1 w vals h2.zj hd') ?_;rintro e w' ⟨H',v,x,rfl,g1,g2,g3,g4,g5,g6⟩;have hinv:mn H w':=⟨fun b cs hb=>by
  obtain⟨T,z,hh⟩:=hW.inv b cs hb;exact⟨T,z,by rw[g6.block b (gn hh)];exact hh⟩,hW.eW⟩
 exact⟨β,H,_,v,x,[],rfl,qo hW.eW (fun b cs hb=>g3 b cs (h1 b cs hb)) (hk x g2).1 g1,hW.after g6 (fun _ _ h=>h) (fun _ _ h=>.inl h) hinv,fun _ _ _ h=>h,fun _ _ h=>h,(hk x g2).2,g6.size,fun ks _=>⟨rfl,fun b hb _=>g6.block b hb⟩⟩
/-! ### A function's own body -/
def kO:Nat→List SV→List (Nat × SV)
 | _,[]=>[]
 | i,x::l=>(i,x)::kO (i+1) l
def pU(P:Program)(st:St):ResultVar→Option (Prop × SV)
 | .tmp t=>match get st.fr t with
  | some x=>some (True,x)
  | none=>none
 | .cell t T=>match g9 st.M (az P T) (get st.fr t)with
  | .q c x=>some (c,x)
  | _=>none
def rW(P:Program)(st:St):List ResultVar→Option (Prop × List SV)
 | []=>some (True,[])
 | r::l=>match pU P st r,rW P st l with
  | some (c,x),some (c',xs)=>some (c∧c',x::xs)
  | _,_=>none
def jS(P:Program)(st:St)(rs:List ResultVar):Option (Prop × SV) :=
 match rW P st rs with
 | some (c,[x])=>some (c,x)
 | some (c,l)=>some (c,.bG l)
 | none=>none
def jX(P:Program)(rs:List ResultVar)(Φ:SV→Prop):aV:=fun e st =>
 match e with
 | .normal | .ret=>match jS P st rs with
  | some (c,x)=>c∧∃y,Sub st.M x y∧Φ y
  | none=>False
 | _=>False
theorem F4{n:Nat}{fr:List (Nat × SV)}{a:Act}(hF:gI β H n fr a)(hW:cv C β H M w){r:ResultVar}{c:Prop}{x:SV}(h:pU P ⟨n,fr,M⟩ r=some (c,x))(hc:c) :
  ∃v,(match r with | .tmp t=>pure (a.tmps.getD t undef) | .cell t T=>do loadVar T (←asAddr (a.tmps.getD t undef)):Sem Value).run P w=.ok v w∧Den β H x v:=by
 cases r with
 | tmp t =>
  simp only[pU]at h;split at h
  ·rename_i y hy;simp only[al0,Prod.mk.injEq]at h;obtain⟨-,rfl⟩:=h;obtain⟨v,hv,hd⟩:=hF.2.2 t _ hy;exact⟨v,by simp[hv],hd⟩
  ·cases h
 | cell t T =>
  simp only[pU]at h;split at h
  ·rename_i c' x' hl;simp only[al0,Prod.mk.injEq]at h;obtain⟨rfl,rfl⟩:=h;have hu:∀s,get fr t=some s→Den β H s (a.tmps.getD t undef):=fun s hs=>by
    obtain⟨v,hv,hd⟩:=hF.2.2 t s hs;simpa[Array.getD_eq_getD_getElem?,hv]using hd
   obtain⟨z,hz1,hz2⟩:=oR (P:=P) hW hl hc hu;replace hz1:=hz1 w (fun _ _ _ _=>rfl);refine⟨z,?_,hz2⟩;simp only[Instr.loadAt]at hz1;unfold Instr.sureAddr at hz1;unfold asAddr;split at hz1
   ·rename_i a' ha';simp only[ha'];simpa using hz1
   ·simp at hz1
  ·cases h
theorem DH{n:Nat}{fr:List (Nat × SV)}{a:Act}(hF:gI β H n fr a)(hW:cv C β H M w):∀(rs:List ResultVar) {c:Prop} {xs:List SV},rW P ⟨n,fr,M⟩ rs=some (c,xs)→c →
  ∃vs,(rs.mapM (fun r=>match r with | .tmp t=>pure (a.tmps.getD t undef) | .cell t T=>do loadVar T (←asAddr (a.tmps.getD t undef)):ResultVar→Sem Value)).run P w=.ok vs w∧bF β H xs vs
 | [],c,xs,h,_=>by
  simp only[rW,al0,Prod.mk.injEq]at h;obtain⟨-,rfl⟩:=h;exact⟨[],by simp,by simp[bF]⟩
 | r::l,c,xs,h,hc=>by
  simp only[rW]at h;split at h
  ·rename_i c1 x c2 xs' h1 h2;simp only[al0,Prod.mk.injEq]at h;obtain⟨rfl,rfl⟩:=h;obtain⟨v,hv1,hv2⟩:=F4 (P:=P) hF hW h1 hc.1;obtain⟨vs,hvs1,hvs2⟩:=DH hF hW l h2 hc.2;refine⟨v::vs,?_,by simp only[bF];exact⟨v,vs,rfl,hv2,hvs2⟩⟩;rw[List.mapM_cons];simp only[Sem.run_bind,hv1,hvs1,Result.andThen_ok,Sem.run_pure]
  ·cases h
theorem rm{n:Nat}{args:List SV}{vals:List Value}(hd:bF β H args vals)(hn:args.length≤n){a:Act}(hg0:JS H)(ha:a.defers=[])(ht:a.tmps=vals.toArray++Array.replicate (n - vals.length) undef):gI β H n (kO 0 args) a:=by
 have hlen:vals.length=args.length:=by
  have:∀(l:List SV) (vs:List Value),bF β H l vs→vs.length=l.length:=by
   intro l
   induction l with
   | nil=>intro vs h;simp[bF]at h;simp[h]
   | cons x l ih=>intro vs h;simp only[bF]at h;obtain⟨v,r,rfl,_,h⟩:=h;simp[ih r h]
  exact this args vals hd
 refine⟨⟨ha,hg0⟩,by rw[ht];simp[hlen];omega,fun t x hg=>?_⟩;have key:∀(l:List SV) (vs:List Value) (i:Nat),bF β H l vs→get (kO i l) t=some x→∃v,i≤t∧vs[t - i]?=some v∧Den β H x v:=by
  intro l
  induction l with
  | nil=>intro vs i _ hgi;simp[kO,get]at hgi
  | cons y l ih =>
   intro vs i hd hgi;simp only[bF]at hd;obtain⟨v,r,rfl,hd1,hd2⟩:=hd;simp only[kO,get]at hgi;by_cases e:i=t
   ·rw[if_pos e]at hgi;simp only[al0]at hgi;rw[←hgi];exact⟨v,by omega,by simp[e],hd1⟩
   ·rw[if_neg e]at hgi;obtain⟨u,h1,h2,h3⟩:=ih r (i+1) hd2 hgi;refine⟨u,by omega,?_,h3⟩;rw[show t - i=(t - (i+1))+1 from by omega];simpa using h2
 obtain⟨v,_,hv,hdv⟩:=key args vals 0 hd hg;refine⟨v,?_,hdv⟩;have aF:t<vals.length:=by
  rcases amz t vals.length with h' | h'
  ·exact h'
  ·rw[al2 (by simpa using h')]at hv;cases hv
 rw[ht,Array.getElem?_append_left (by simpa using aF)];simpa using hv
theorem u5{fn:Func}{st:St}{a:Act}(hF:gI β H st.n st.fr a)(hW:cv C β H st.M w){c:Prop}{x:SV}(hr:jS P st fn.results.toList=some (c,x))(hc:c):∃v,(results fn a.tmps).run P w=.ok v w∧Den β H x v:=by
 unfold jS at hr;have hrl:∀c xs,rW P st fn.results.toList=some (c,xs)→c→∃vs,(fn.results.mapM (fun r=>match r with | .tmp t=>pure (a.tmps.getD t undef) | .cell t T=>do loadVar T (←asAddr (a.tmps.getD t undef)):ResultVar→Sem Value)).run P w=.ok vs.toArray w∧bF β H xs vs:=fun c xs h1 h2=>by
  obtain⟨vs,g1,g2⟩:=DH (P:=P) hF hW _ h1 h2;refine⟨vs,?_,g2⟩;rw[Array.mapM_eq_mapM_toList];simp only[Sem.run_map,g1,Result.andThen_ok]
 split at hr
 ·rename_i c0 x0 h0;simp only[al0,Prod.mk.injEq]at hr;obtain⟨rfl,rfl⟩:=hr;obtain⟨vs,g1,g2⟩:=hrl _ _ h0 hc;simp only[bF]at g2;obtain⟨v,r,rfl,g3,rfl⟩:=g2;refine⟨v,?_,g3⟩;unfold results;simp only[Sem.run_bind,Sem.run_pure]
  erw [g1]
  simp
 ·rename_i c0 l hl h0;simp only[al0,Prod.mk.injEq]at hr;obtain⟨rfl,rfl⟩:=hr;obtain⟨vs,g1,g2⟩:=hrl _ _ h0 hc;refine⟨.tuple vs.toArray,?_,by simp only[Den];exact⟨vs,rfl,g2⟩⟩;unfold results;simp only[Sem.run_bind,Sem.run_pure]
  erw [g1]
  have hne:vs.length≠1:=fun h1=>by
   obtain⟨v,rfl⟩:=List.length_eq_one_iff.1 h1;cases l with
   | nil=>simp[bF]at g2
   | cons y l=>cases l with
    | nil=>exact hl _ rfl
    | cons z l =>
     simp only[bF]at g2;obtain⟨a,r,e1,_,b,r',e2,_⟩:=g2;simp[e2]at e1
  simp[hne]
 ·cases hr
theorem aj{f:FuncId}{fn:Func}{c:Code}{args:List SV}{Φ:SV→Prop}(hf:P.funcs[f]?=some fn)(hb:fn.body=some c)(hn:args.length≤fn.ntmps)
  (h:∀C:Ctx,C.fx=[]→vc P C c ⟨fn.ntmps,kO 0 args,[]⟩ (jX P fn.results.toList Φ) (jX P fn.results.toList Φ)):nS P f args Φ:=by
 intro H w vals hi hd;refine calls_of_wp hf hb ?_;have hj:=lN (C:=⟨w,H,[],lF,[]⟩) c _ (fun _ _ h=>h) (fun _ _ h=>h) (h ⟨w,H,[],lF,[]⟩ rfl);refine wp_mono (hj _ w ⟨lF,H,rm hd hn hi.2 rfl (by simp),?_⟩) ?_
 ·exact⟨rfl,rfl,rfl,amk _,fun _ _ _=>rfl,fun _ _ h=>h,fun _ _ h=>.inl h,hi.1,fun k e hk=>by simp at hk,fun k e d hk=>by simp at hk,fun k k' e e' d d' hk=>by simp at hk,fun _ _=>rfl,(fun k d hk=>by cases hk),hi.2⟩
 ·rintro e a w' ⟨st,hq,β,H',hF,hW⟩;have key:(match jS P st fn.results.toList with | some (c,x)=>c∧∃y,Sub st.M x y∧Φ y | none=>False) →
    a.defers=[]∧∃v,(results fn a.tmps).run P w'=.ok v w'∧∃H' v' x,Ending.returned v=.returned v'∧Den lF H' x v'∧Φ x∧(∀b cs,H b=some cs→H' b=some cs)∧(∀b cs,H' b=some cs→H b=some cs∨w.heap.size≤b)∧mn H' w'∧Below w.heap.size w w':=by
   intro hq;refine⟨hF.1.1,?_⟩;split at hq
   ·rename_i c' x hr;obtain⟨hc,y,hs,hΦ⟩:=hq;obtain⟨v,hv1,hv2⟩:=u5 hF hW hr hc;obtain⟨H1,h1,h2,h3⟩:=nq x.ks hW (nD hs);have hd':=oL h2 hs ⟨fun k e he hk=>by
     obtain⟨e',g1,g2, -,g4⟩:=h3 k e he;exact⟨e',g1,g2,g4 (.inr hk)⟩⟩ (Den.up hv2 (fun _ _ h=>h) h1)
    exact⟨v,hv1,H1,v,y,rfl,hd',hΦ,h2.ext,fun b cs hb=>(h2.new b cs hb).imp id (fun h=>h.resolve_right (by simp)),h2.zj,h2.os,h2.tape,h2.output,h2.size,fun k hk=>h2.frame k hk (by simp)⟩
   ·exact hq.elim
  cases e<;>simp only[jX]at hq<;>simp only[bodyPost]
  case normal=>exact key hq
  case ret=>exact key hq
def l8(P:Program)(rs:List ResultVar)(pk:List Nat)(k:aJ→List Nat→SV→Prop):aV:=fun e st =>
 match e with
 | .ret | .normal=>match jS P st rs with
  | some (c,x)=>c∧k st.M pk x
  | none=>False
 | _=>False
theorem eI{f:FuncId}{fn:Func}{c:Code}{args:List SV}{W:Option (List Nat)}{k:aJ→List Nat→SV→Prop}(hf:P.funcs[f]?=some fn)(hb:fn.body=some c)(hn:args.length≤fn.ntmps)(pk:List Nat)
  (hpk:∀i∈pk,i∉C.fx) (hWk:∀ks,W=some ks→pk=[]∧∀i e,ao M i=some e→i∈ks)
  (h:∀C':Ctx,C'.fx=(amP M.length).filter (fun i=>!pk.contains i)→vc P C' c ⟨fn.ntmps,kO 0 args,M⟩ (l8 P fn.results.toList pk k) (l8 P fn.results.toList pk k)):dH P C f args M W k:=by
 intro β H w vals hd hW;refine calls_of_wp hf hb ?_
 let X:List Nat:=(amP M.length).filterMap fun i=>match ao M i,β i with
  | some _,some (some d)=>some d.b
  | _,_=>none
 have hX:∀b,b∈X↔∃i e d,ao M i=some e∧β i=some (some d)∧d.b=b:=fun b=>by
  simp only[X,List.mem_filterMap,List.mem_range];constructor
  ·rintro⟨i,hi,he⟩;split at he
   ·rename_i e d h1 h2;simp only[al0]at he;exact⟨i,e,d,h1,h2,he⟩
   ·cases he
  ·rintro⟨i,e,d,hi,hd,rfl⟩;refine⟨i,?_,by simp[hi,hd]⟩;have:=aL hi;exact(List.getElem?_eq_some_iff.1 this).1
 have hown:∀b,b∈X→C.w0.heap.size≤b∨b∈C.X:=fun b hb=>by
  obtain⟨i,e,d,h1,h2,rfl⟩:=(hX b).1 hb;exact(hW.own i e d (aL h1) h2).2
 let C':Ctx:=⟨w,H,X,β,(amP M.length).filter (fun i=>!pk.contains i)⟩
 have hfx:∀i d,i∉pk→β i=some d→i∈C'.fx:=fun i d hi hd=>by
  have:i<M.length:=by
   rcases amz i M.length with h' | h'
   ·exact h'
   ·rw[hW.fresh i h']at hd;cases hd
  simp[C',this,hi]
 have hW0:cv C' β H M w:=⟨rfl,rfl,rfl,amk _,fun _ _ _=>rfl,fun _ _ h=>h,fun _ _ h=>.inl h,hW.inv,hW.da,
  fun i e d hi hd=>⟨(hW.own i e d hi hd).1,.inr ((hX _).2 ⟨i,e,d,DX hi,hd,rfl⟩)⟩,hW.inj,hW.fresh,fun _ _ _ h=>h,hW.eW⟩
 refine wp_mono (lN (C:=C') c _ (fun _ _ h=>h) (fun _ _ h=>h) (h C' rfl) _ w ⟨β,H,rm hd hn hW.eW rfl (by simp),hW0⟩) ?_;rintro e a w' ⟨st,hq,β',H',hF,hW'⟩;have hkeep:∀i d,i∉pk→β i=some d→β' i=some d:=fun i d hi hd=>hW'.fU i d (hfx i d hi hd) hd;have hWC:cv C β' H' st.M w':=⟨hW'.os.trans hW.os,hW'.tape.trans hW.tape,hW'.output.trans hW.output,amQ hW.size hW'.size,
  fun b hb hx=>by
   rw[hW'.frame b (amR hb hW.size) (fun hbX=>by rcases hown b hbX with h' | h';omega;exact hx h')];exact hW.frame b hb hx,
  fun b cs hb=>hW'.ext b cs (hW.ext b cs hb),
  fun b cs hb=>by
   rcases hW'.new b cs hb with h' | h' | h'
   ·exact hW.new b cs h'
   ·exact .inr (.inl (amQ hW.size h'))
   ·exact .inr (hown b h'),
  hW'.inv,hW'.da,
  fun i e d hi hd=>⟨(hW'.own i e d hi hd).1,by
   rcases(hW'.own i e d hi hd).2 with h' | h'
   ·exact .inl (amQ hW.size h')
   ·exact hown _ h'⟩,
  hW'.inj,hW'.fresh,fun i d hi hd=>hkeep i d (fun hp=>hpk i hp hi) (hW.fU i d hi hd),hW'.eW⟩
 have key:(match jS P st fn.results.toList with | some (c,x)=>c∧k st.M pk x | none=>False) →
   a.defers=[]∧∃v,(results fn a.tmps).run P w'=.ok v w'∧∃β' H' M' v' x pk,Ending.returned v=.returned v'∧Den β' H' x v'∧cv C β' H' M' w'∧(∀k d,k∉pk→β k=some d→β' k=some d)∧(∀b cs,H b=some cs→H' b=some cs)∧k M' pk x ∧
    w.heap.size≤w'.heap.size∧∀ks,W=some ks→pk=[]∧∀b,b<w.heap.size→(∀k∈ks,∀d,β k=some (some d)→b≠d.b)→w'.heap[b]?=w.heap[b]?:=by
  intro hq;refine⟨hF.1.1,?_⟩;split at hq
  ·rename_i c' x hr;obtain⟨v,hv1,hv2⟩:=u5 hF hW' hr hq.1;refine⟨v,hv1,β',H',st.M,v,x,pk,rfl,hv2,hWC,hkeep,hW'.ext,hq.2,hW'.size,fun ks hks=>?_⟩;obtain⟨g1,g2⟩:=hWk ks hks;refine⟨g1,fun b hb hn=>hW'.frame b hb fun hbX=>?_⟩;obtain⟨i,e,d,h1,h2,rfl⟩:=(hX b).1 hbX;exact hn i (g2 i e h1) d h2 rfl
  ·exact hq.elim
 cases e<;>simp only[l8]at hq<;>simp only[bodyPost]
 case normal=>exact key hq
 case ret=>exact key hq
end
/-! ### Less is known -/
def Le(C:Ctx)(st st':St):Prop:=∀a w,JO C st a w→JO C st' a w
theorem Le.refl(C:Ctx)(st:St):Le C st st:=fun _ _ h=>h
theorem Le.trans{C:Ctx}{a b c:St}(h:Le C a b)(k:Le C b c):Le C a c:=fun x w hs=>k x w (h x w hs)
mutual
def SV.lt(n:Nat):SV→Bool
 | .ptr k _ _=>decide (k<n)
 | .view k _ _=>decide (k<n)
 | .agg l=>SV.lS n l
 | .bG l=>SV.lS n l
 | .iw _ x=>x.lt n
 | .gA _ l r=>SV.lS n l&&SV.lS n r
 | .mp k=>decide (k<n)
 | _=>true
def SV.lS(n:Nat):List SV→Bool
 | []=>true
 | x::l=>x.lt n&&SV.lS n l
end
mutual
theorem SV.tY{n k:Nat}(hk:n≤k):∀x:SV,x.lt n=true→x.bC k=false
 | .val _,_=>rfl
 | .ptr k' _ _,h=>by simp[SV.lt]at h;simp[SV.bC];omega
 | .view k' _ _,h=>by simp[SV.lt]at h;simp[SV.bC];omega
 | .mp k',h=>by simp[SV.lt]at h;simp[SV.bC];omega
 | .ro _,_=>rfl
 | .bU _ _,_=>rfl
 | .fp _ _,_=>rfl
 | .any,_=>rfl
 | .gA _ l r,h=>by
  simp only[SV.lt,amS]at h;simp[SV.bC,SV.kb hk l h.1,SV.kb hk r h.2]
 | .agg l,h=>by simp only[SV.bC];exact SV.kb hk l (by simpa[SV.lt]using h)
 | .bG l,h=>by simp only[SV.bC];exact SV.kb hk l (by simpa[SV.lt]using h)
 | .iw _ x,h=>by simp only[SV.bC];exact SV.tY hk x (by simpa[SV.lt]using h)
theorem SV.kb{n k:Nat}(hk:n≤k):∀l:List SV,SV.lS n l=true→SV.aX k l=false
 | [],_=>rfl
 | x::l,h=>by
  simp only[SV.lS,amS]at h;simp[SV.aX,SV.tY hk x h.1,SV.kb hk l h.2]
end
theorem Ew{α:Type}(n:Nat)(f:α→SV)(xs:List α):SV.lS n (xs.map f)=xs.all fun x=>(f x).lt n:=by
 induction xs with
 | nil=>rfl
 | cons x xs ih=>simp[SV.lS,ih]
theorem yp{α:Type}(f:α→SV)(xs:List α):SV.ba (xs.map f)=xs.all fun x=>(f x).pure:=by
 induction xs with
 | nil=>rfl
 | cons x xs ih=>simp[SV.ba,ih]
theorem oO{α:Type}(k:Nat)(f:α→SV)(xs:List α):SV.aX k (xs.map f)=xs.any fun x=>(f x).bC k:=by
 induction xs with
 | nil=>rfl
 | cons x xs ih=>simp[SV.aX,ih]
def FV(fr:List (Nat × SV)):List (Nat × SV)→Prop
 | []=>True
 | (t,x)::r=>get fr t=some x∧FV fr r
def iS:aJ→aJ→Prop
 | _,[]=>True
 | x::M,y::M'=>(y=none∨x=y)∧iS M M'
 | [],_::_=>False
def Xu(n:Nat):List (Nat × SV)→Prop
 | []=>True
 | (_,x)::r=>x.lt n=true∧Xu n r
def j6(n:Nat):aJ→Prop
 | []=>True
 | none::M=>j6 n M
 | some e::M=>SV.lS n e.es=true∧j6 n M
def ar(C:Ctx)(st st':St):Prop:=st.n=st'.n∧FV st.fr st'.fr∧iS st.M st'.M∧(st.M.length=st'.M.length∨(Xu st'.M.length st'.fr∧j6 st'.M.length st'.M∧∀k∈C.fx,k<st'.M.length))
theorem zd{fr:List (Nat × SV)}:∀{fr':List (Nat × SV)},FV fr fr'→∀t x,get fr' t=some x→get fr t=some x
 | [],_,t,x,hg=>by simp[get]at hg
 | (s,y)::r,h,t,x,hg=>by
  simp only[FV]at h;simp only[get]at hg;by_cases e:s=t
  ·rw[if_pos e]at hg;simp only[al0]at hg;rw[←e,←hg];exact h.1
  ·rw[if_neg e]at hg;exact zd h.2 t x hg
theorem yN:∀{M M':aJ},iS M M'→∀(k:Nat) (e:cx),M'[k]?=some (some e)→M[k]?=some (some e)
 | M,[],_,k,e,hk=>by simp at hk
 | [],_::_,h,k,e,hk=>by simp[iS]at h
 | x::M,y::M',h,k,e,hk=>by
  simp only[iS]at h;cases k with
  | zero =>
   simp at hk;subst hk;rcases h.1 with h | h
   ·cases h
   ·simp[h]
  | succ k=>simp at hk ⊢;exact yN h.2 k e hk
theorem J8:∀{M M':aJ},iS M M'→M'.length≤M.length
 | M,[],_=>by simp
 | [],_::_,h=>by simp[iS]at h
 | x::M,y::M',h=>by simp only[iS]at h;simpa using J8 h.2
theorem Es{n:Nat}:∀{fr:List (Nat × SV)},Xu n fr→∀t x,get fr t=some x→x.lt n=true
 | [],_,t,x,hg=>by simp[get]at hg
 | (s,y)::r,h,t,x,hg=>by
  simp only[Xu]at h;simp only[get]at hg;by_cases e:s=t
  ·rw[if_pos e]at hg;simp only[al0]at hg;rw[←hg];exact h.1
  ·rw[if_neg e]at hg;exact Es h.2 t x hg
theorem tX{n:Nat}:∀{M:aJ},j6 n M→∀(k:Nat) (e:cx),M[k]?=some (some e)→SV.lS n e.es=true
 | [],_,k,e,hk=>by simp at hk
 | none::M,h,k,e,hk=>by
  simp only[j6]at h;cases k with
  | zero=>simp at hk
  | succ k=>exact tX h k e (by simpa using hk)
 | some e'::M,h,k,e,hk=>by
  simp only[j6]at h;cases k with
  | zero=>simp at hk;subst hk;exact h.1
  | succ k=>exact tX h.2 k e (by simpa using hk)
theorem Le.ct{C:Ctx}{st st':St}(h:ar C st st'):Le C st st':=by
 rintro a w ⟨β,H,hF,hW⟩;obtain⟨h1,h2,h3,h4⟩:=h;have hF':gI β H st'.n st'.fr a:=by rw[←h1];exact hF.sub (zd h2)
 have hget:=yN h3;rcases h4 with h4 | ⟨h4,h5,h6⟩
 ·exact⟨β,H,hF',hW.os,hW.tape,hW.output,hW.size,hW.frame,hW.ext,hW.new,hW.inv,fun k e hk=>hW.da k e (hget k e hk),fun k e d hk=>hW.own k e d (hget k e hk),
   fun k k' e e' d d' hk hk'=>hW.inj k k' e e' d d' (hget k e hk) (hget k' e' hk'),fun k hk=>hW.fresh k (by omega),hW.fU,hW.eW⟩
 ·have hb:∀k d,k<st'.M.length→β k=some d→(fun i=>if i<st'.M.length then β i else none:bO) k=some d:=fun k d hk hd=>by simp[hk,hd]
  have aF:∀k e,st'.M[k]?=some (some e)→k<st'.M.length:=fun k e hk=>by
   rcases amz k st'.M.length with h' | h'
   ·exact h'
   ·rw[al2 h']at hk;cases hk
  have hnm:∀n k (x:SV),x.lt n=true→x.bC k=true→k<n:=fun n k x h1 h2=>by
   rcases amz k n with h' | h'
   ·exact h'
   ·rw[SV.tY h' x h1]at h2;cases h2
  have hnl:∀n k (l:List SV),SV.lS n l=true→SV.aX k l=true→k<n:=fun n k l h1 h2=>by
   rcases amz k n with h' | h'
   ·exact h'
   ·rw[SV.kb h' l h1]at h2;cases h2
  refine⟨fun i=>if i<st'.M.length then β i else none,H,⟨hF'.1,hF'.2.1,fun t x hg=>?_⟩,hW.os,hW.tape,hW.output,hW.size,hW.frame,hW.ext,hW.new,hW.inv,fun k e hk=>?_,fun k e d hk hd=>?_,
   fun k k' e e' d d' hk hk' hd hd'=>?_,fun k hk=>by simp;omega,fun k d hk hd=>by rw[if_pos (h6 k hk)];exact hW.fU k d hk hd,hW.eW⟩
  ·obtain⟨v,hv,hd⟩:=hF'.2.2 t x hg;exact⟨v,hv,Den.mono (fun _ _ h=>h) x v (fun k d hk hd=>hb k d (hnm _ k x (Es h4 t x hg) hk) hd) hd⟩
  ·have hel:=tX h5 k e hk;rcases hW.da k e (hget k e hk)with⟨g1,g2⟩ | ⟨d,cs,T,vs,g1,g2,g3,g4,g5,g6⟩ | ⟨d,ms,g1,g2,g3,g4⟩
   ·exact .inl ⟨hb _ _ (aF k e hk) g1,g2⟩
   ·exact .inr (.inl ⟨d,cs,T,vs,hb _ _ (aF k e hk) g1,g2,g3,g4,aU.mono (fun _ _ h=>h) _ _ _ (fun j d hj hd=>hb j d (hnl _ j _ hel hj) hd) g5,g6⟩)
   ·exact .inr (.inr ⟨d,ms,hb _ _ (aF k e hk) g1,g2,g3,cH.mono (fun _ _ h=>h) _ _ _ (fun j d hj hd=>hb j d (hnl _ j _ hel hj) hd) g4⟩)
  ·simp only[aF k e hk,if_true]at hd;exact hW.own k e d (hget k e hk) hd
  ·simp only[aF k e hk,aF k' e' hk',if_true]at hd hd';exact hW.inj k k' e e' d d' (hget k e hk) (hget k' e' hk') hd hd'
theorem ae.le{P:Program}{C:Ctx}{c:Code}{st st':St}{Q:aV}(hl:Le C st st')(h:ae P C c st' Q):ae P C c st Q:=fun a w hs=>h a w (hl a w hs)
def Dn(C:Ctx)(Q:aV):aV:=fun e st=>∃st',Le C st st'∧Q e st'
theorem ahc{C:Ctx}{Q:aV}{e:Exit}{a:Act}{w:World}(h:QQ C (Dn C Q) e a w):QQ C Q e a w:=by
 obtain⟨st,⟨st',hl,hq⟩,hs⟩:=h;exact⟨st',hq,hl a w hs⟩
theorem Fb(p:Nat→Prop):(∃n,p n)→∃n,p n∧∀m,p m→n≤m:=by
 rintro⟨n,hn⟩
 induction n using Nat.strongRecOn with
 | _ n ih =>
  by_cases h:∃m,m<n∧p m
  ·obtain⟨m,h1,h2⟩:=h;exact ih m h1 h2
  ·exact⟨n,hn,fun m hm=>by
    rcases amz m n with h' | h'
    ·exact absurd ⟨m,h',hm⟩ h
    ·exact h'⟩
theorem pC{P:Program}{c:Code}{Q:Exit→Act→World→Prop}{a:Act}{w:World}{ι:Type}(I:ι→Act→World→Prop)(μ:ι→Nat)(i0:ι)(h0:I i0 a w)
  (round:∀i a w,I i a w→c.wp P (Exit.then (fun a' w'=>∃j,I j a' w'∧μ j<μ i) Q) a w):(Code.loop c).wp P Q a w:=by
 have hex:∀a w,(∃i,I i a w)→∃n,(∃i,I i a w∧μ i=n)∧∀m,(∃i,I i a w∧μ i=m)→n≤m:=fun a w ⟨i,hi⟩=>Fb _ ⟨μ i,i,hi,rfl⟩;have hf:∃ν:Act→World→Nat,∀a w,(∃i,I i a w)→(∃i,I i a w∧μ i=ν a w)∧∀j,I j a w→ν a w≤μ j:=by
  refine⟨fun a w=>(Classical.epsilon fun n=>(∃i,I i a w∧μ i=n)∧∀m,(∃i,I i a w∧μ i=m)→n≤m),fun a w h=>?_⟩;have:=Classical.epsilon_spec (hex a w h);exact⟨this.1,fun j hj=>this.2 _ ⟨j,hj,rfl⟩⟩
 obtain⟨ν,hν⟩:=hf;refine wp_loop (fun a w=>∃i,I i a w) ν ⟨i0,h0⟩ ?_;intro a w h;obtain⟨⟨i,hi,he⟩, -⟩:=hν a w h;refine wp_mono (round i a w hi) ?_;intro e a' w' hq;cases e<;>simp only[Exit.then]at hq ⊢<;>first | exact hq | skip
 obtain⟨j,hj,aF⟩:=hq;exact⟨⟨j,hj⟩,Nat.lt_of_le_of_lt ((hν a' w' ⟨j,hj⟩).2 j hj) (by rw[←he];exact aF)⟩
theorem ae.loop{P:Program}{C:Ctx}{c:Code}{st:St}{Q:aV}{ι:Type}(I:ι→St)(Cn:ι→Prop)(μ:ι→Nat)(i0:ι)(h0:Cn i0)(hl:ar C st (I i0))
  (hr:∀i,Cn i→vc P C c (I i) (qE (fun st'=>∃j,Cn j∧μ j<μ i∧ar C st' (I j)) Q) (qE (fun st'=>∃j,Cn j∧μ j<μ i∧ar C st' (I j)) Q)):ae P C (.loop c) st Q:=by
 intro a w hs;refine pC (fun i a w=>Cn i∧JO C (I i) a w) μ i0 ⟨h0,Le.ct hl a w hs⟩ ?_;rintro i a w ⟨hc,hs⟩;refine wp_mono (lN c _ (fun _ _ h=>h) (fun _ _ h=>h) (hr i hc) a w hs) ?_;rintro e a' w' ⟨st',h1,h2⟩;cases e<;>simp only[qE,Exit.then]at h1 ⊢<;>first | exact⟨st',h1,h2⟩ | skip
 obtain⟨j,g1,g2,g3⟩:=h1;exact⟨j,⟨g1,Le.ct g3 a' w' h2⟩,g2⟩
theorem ae.cut{P:Program}{C:Ctx}{c:Code}{st:St}{Q:aV}(Q1:aV)(h1:ae P C c st Q1)(h2:∀e st',Q1 e st'→∃st'',ar C st' st''∧Q e st''):ae P C c st Q:=by
 intro a w hs;refine wp_mono (h1 a w hs) ?_;rintro e a' w' ⟨st',h3,h4⟩;obtain⟨st'',h5,h6⟩:=h2 e st' h3;exact⟨st'',h6,Le.ct h5 a' w' h4⟩
theorem ae.nil{P:Program}{C:Ctx}{c:Code}{st:St}{Q:aV}(t s:Nat)(h:get st.fr t=some (.val (.slice none 0 0)))(h':ae P C c ⟨st.n,(t,.view st.M.length 0 0)::st.fr,st.M++[some ⟨s,[],false⟩]⟩ Q):ae P C c st Q:=by
 rintro a w ⟨β,H,hF,hW⟩;refine h' a w ⟨β.dT st.M.length none,H,⟨hF.1,hF.2.1,fun t' x hg=>?_⟩,hW.nil s⟩;simp only[get]at hg;split at hg
 ·rename_i e;subst e;simp only[al0]at hg;subst hg;obtain⟨v,hv,hd⟩:=hF.2.2 t _ h;simp only[Den]at hd;refine⟨v,hv,?_⟩;simp only[Den];exact .inl (by simp[bO.dT,hd.1])
 ·obtain⟨v,hv,hd⟩:=hF.2.2 t' x hg;exact⟨v,hv,hd.up (fun k d hk=>fS hW _ k d hk) (fun _ _ h=>h)⟩
end Go.Sv


/- A text of the prover's own. -/
import Derived.Test.YtmghjkkjaolpgaaGreatDoorWPl
open Bool renaming and_eq_true→alL
open Option.some renaming injEq→akR
open Nat renaming lt_or_ge→alr,le_trans→alJ
open List renaming length_take→amx,getElem?_take_of_lt→ak4,getElem?_map→ak6,map_cons→ak3,getElem?_eq_none→akT,getElem?_append_left→akO,mem_cons→alF,range→alI,getElem?_eq_some_iff→alA,mem_map→al1
open Classical renaming choose→anG,choose_spec→anH
namespace Go.Sv
open Go Go.RowKit
mutual
def j5(k:Nat)(es:List SV):SV→SV
 | .view k' i n=>if k'=k∧i+n≤es.length then .ro ((es.drop i).take n) else .view k' i n
 | .ptr k' i j=>if k'=k∧i<es.length∧(aB es i).aO=false then .bK (aB es i) j else .ptr k' i j
 | .agg l=>.agg (j8 k es l)
 | .bO l=>.bO (j8 k es l)
 | .iH t x=>.iH t (j5 k es x)
 | .gG f l r=>.gG f (j8 k es l) (j8 k es r)
 | .val v=>.val v
 | .ro l=>.ro l
 | .bK x j=>.bK x j
 | .fc t g=>.fc t g
 | .any=>.any
 | .mp k'=>.mp k'
def j8(k:Nat)(es:List SV):List SV→List SV
 | []=>[]
 | x::l=>j5 k es x::j8 k es l
end
mutual
theorem vS(k:Nat)(es:List SV):∀x:SV,x.pure=true→j5 k es x=x
 | .mp _,_=>rfl
 | .view _ _ _,h=>by simp[SV.pure]at h
 | .ptr _ _ _,h=>by simp[SV.pure]at h
 | .agg l,h=>by simp only[j5];rw[dB k es l (by simpa[SV.pure]using h)]
 | .bO l,h=>by simp only[j5];rw[dB k es l (by simpa[SV.pure]using h)]
 | .iH _ x,h=>by simp only[j5];rw[vS k es x (by simpa[SV.pure]using h)]
 | .gG _ l r,h=>by
  simp only[SV.pure,alL]at h;simp only[j5];rw[dB k es l h.1,dB k es r h.2]
 | .val _,_=>rfl
 | .ro _,_=>rfl
 | .bK _ _,_=>rfl
 | .fc _ _,_=>rfl
 | .any,_=>rfl
theorem dB(k:Nat)(es:List SV):∀l:List SV,SV.bf l=true→j8 k es l=l
 | [],_=>rfl
 | x::l,h=>by
  simp only[SV.bf,alL]at h;simp only[j8];rw[vS k es x h.1,dB k es l h.2]
end
theorem Kl(k:Nat)(es:List SV):∀l:List SV,(j8 k es l).length=l.length
 | []=>rfl
 | x::l=>by simp[j8,Kl k es l]
theorem Ks(k:Nat)(es:List SV)(x:SV)(h:x.one=true):(j5 k es x).one=true:=by
 cases x with
 | ptr k' i j=>simp only[j5];by_cases hc:k'=k∧i<es.length∧(aB es i).aO=false<;>simp[hc,SV.one]
 | view k' i n=>simp only[j5];by_cases hc:k'=k∧i+n≤es.length<;>simp[hc,SV.one]
 | agg l=>cases h
 | bO l=>cases h
 | val v=>exact h
 | _=>rfl
section
variable {P:Program} {C:Ctx} {β:bU} {H:Hp} {M:aJ} {w:World}
mutual
theorem o3(hW:cv C β H M w){k:Nat}{e:cx}(hk:ax M k=some e)(hf:e.fz=true):∀{x:SV} {v:Value},Den β H x v→Den β H (j5 k e.es x) v
 | .val _,v,h=>h
 | .ro _,v,h=>h
 | .bK _ _,v,h=>h
 | .fc _ _,v,h=>h
 | .any,v,h=>h
 | .mp _,v,h=>h
 | .agg l,v,h=>by
  simp only[Den,j5]at h ⊢;obtain⟨vs,rfl,h⟩:=h;exact⟨vs,rfl,Ay hW hk hf h⟩
 | .bO l,v,h=>by
  simp only[Den,j5]at h ⊢;obtain⟨vs,rfl,h⟩:=h;exact⟨vs,rfl,nL hW hk hf h⟩
 | .iH t x,v,h=>by
  simp only[Den,j5]at h ⊢;obtain⟨u,rfl,h⟩:=h;exact⟨u,rfl,o3 hW hk hf h⟩
 | .gG f l r,v,h=>by
  simp only[Den,j5]at h ⊢;obtain⟨vs,ws,rfl,h1,h2⟩:=h;exact⟨vs,ws,rfl,nL hW hk hf h1,nL hW hk hf h2⟩
 | .view k' i n,v,h=>by
  simp only[j5];split
  ·rename_i hc;obtain⟨rfl,hin⟩:=hc;have hlen:((e.es.drop i).take n).length=n:=by simp;omega
   simp only[Den]at h ⊢;rcases h with⟨a1,rfl,rfl,rfl⟩ | ⟨d,c,o,a1,a2,a3,a4,rfl⟩
   ·left;exact⟨by simp,_,_,rfl⟩
   ·rcases hW.db k' e (aM hk)with⟨b1,_⟩ | ⟨d',cs,T,vs,b1,b2,b3,b4,b5,b6,b7,b8⟩ | ⟨d',ms,b1,b2,b3,b4⟩
    rotate_left 2
    ·rw[a1]at b1;simp only[akR]at b1;subst b1;rw[b2.2.1,b2.2.2]at a3;have hn0:n=0:=by omega
     subst hn0;left;exact⟨by simp,_,_,rfl⟩
    ·rw[a1]at b1;simp at b1
    ·right;rw[a1]at b1;simp only[akR]at b1;subst b1;obtain⟨c1,c2⟩:=b8 hf;have b5':=oB b5 c2;have hl:=b5'.length;rcases Nat.eq_zero_or_pos n with rfl | hn
     ·exact⟨d.b,o,c,e.sz,cs,[],by simp,by simp,c1,by simp[aU],by simp⟩
     ·have ho:=a4 (by omega);refine⟨d.b,o,c,e.sz,cs,(vs.drop (i*e.sz)).take (n*e.sz),by rw[hlen],by rw[hlen];exact a2,c1,(b5'.drop i).take n,fun q hq=>?_⟩;simp only[amx,List.length_drop]at hq;rw[ak4 (by omega),List.getElem?_drop,ho,b2];exact b7 _ (by omega)
  ·exact h
 | .ptr k' i j,v,h=>by
  simp only[j5];split
  ·rename_i hc;obtain⟨rfl,hin,hnt⟩:=hc;simp only[Den]at h ⊢;obtain⟨d,a1,rfl⟩:=h;rcases hW.db k' e (aM hk)with⟨b1,_⟩ | ⟨d',cs,T,vs,b1,b2,b3,b4,b5,b6,b7,b8⟩ | ⟨d',ms,b1,b2,b3,b4⟩
   rotate_left 2
   ·obtain⟨l,hl⟩:=b4.EC _ hin;rw[hl]at hnt;simp[SV.aO]at hnt
   ·rw[a1]at b1;simp at b1
   ·rw[a1]at b1;simp only[akR]at b1;subst b1;obtain⟨c1,c2⟩:=b8 hf;have b5':=oB b5 c2;have hl:=b5'.length;obtain⟨u,u1,u2,u3⟩:=b5'.get hin;refine⟨d.b,i*e.sz,cs,u,by rw[b2],c1,u1,fun q hq=>?_⟩;rw[u2]at hq;have:=Nat.mul_le_mul_right e.sz (show i+1≤e.es.length from hin);rw[Nat.add_mul,Nat.one_mul]at this;rw[b7 _ (by omega)];exact u3 q hq
  ·exact h
theorem Ay(hW:cv C β H M w){k:Nat}{e:cx}(hk:ax M k=some e)(hf:e.fz=true):∀{l:List SV} {vs:List Value},bj β H l vs→bj β H (j8 k e.es l) vs
 | [],vs,h=>h
 | x::l,vs,h=>by
  simp only[bj,j8]at h ⊢;obtain⟨v,r,rfl,h1,h2,h3⟩:=h;exact⟨v,r,rfl,Ks k e.es x h1,o3 hW hk hf h2,Ay hW hk hf h3⟩
theorem nL(hW:cv C β H M w){k:Nat}{e:cx}(hk:ax M k=some e)(hf:e.fz=true):∀{l:List SV} {vs:List Value},bF β H l vs→bF β H (j8 k e.es l) vs
 | [],vs,h=>h
 | x::l,vs,h=>by
  simp only[bF,j8]at h ⊢;obtain⟨v,r,rfl,h2,h3⟩:=h;exact⟨v,r,rfl,o3 hW hk hf h2,nL hW hk hf h3⟩
end
theorem AV(hW:cv C β H M w){k:Nat}{e:cx}(hk:ax M k=some e)(hf:e.fz=true){s:Nat}:∀{l:List SV} {vs:List Value},aU β H s l vs→aU β H s (j8 k e.es l) vs
 | [],vs,h=>h
 | x::l,vs,h=>by
  simp only[aU,j8]at h ⊢;obtain⟨v,r,rfl,h1,h2,h3⟩:=h;exact⟨v,r,rfl,h1,o3 hW hk hf h2,AV hW hk hf h3⟩
theorem Ag(hW:cv C β H M w){k:Nat}{e:cx}(hk:ax M k=some e)(hf:e.fz=true):∀{l:List SV} {ms:List MapEntry} {n:Nat},cH β H l ms n→cH β H (j8 k e.es l) ms n
 | [],ms,n,h=>h
 | x::l,ms,n,h=>by
  simp only[cH,j8]at h ⊢;obtain⟨key,y,m,r,rfl,h2,h3,h4,h5,h6,h7⟩:=h;exact⟨key,j5 k e.es y,m,r,by simp only[j5,j8],h2,h3,h4,h5,o3 hW hk hf h6,Ag hW hk hf h7⟩
def FC(k:Nat)(es:List SV)(M:aJ):aJ:=M.map fun oe=>oe.map fun e=>⟨e.sz,j8 k es e.es,e.fz⟩
def LI(k:Nat)(es:List SV)(fr:List (Nat × SV)):List (Nat × SV):=fr.map fun q=>(q.1,j5 k es q.2)
theorem cv.sb(h:cv C β H M w){k:Nat}{e:cx}(hk:ax M k=some e)(hf:e.fz=true):cv C β H (FC k e.es M) w:=by
 have at_:∀(i:Nat) (x:cx),(FC k e.es M)[i]?=some (some x)→∃e0:cx,M[i]?=some (some e0)∧x=⟨e0.sz,j8 k e.es e0.es,e0.fz⟩:=fun i x hi=>by
  simp only[FC,ak6]at hi;cases hm:M[i]? with
  | none=>rw[hm]at hi;cases hi
  | some oe =>
   rw[hm]at hi;cases oe with
   | none=>simp at hi
   | some e0=>simp at hi;exact⟨e0,rfl,hi.symm⟩
 refine⟨h.os,h.tape,h.output,h.size,h.frame,h.ext,h.new,h.inv,fun i x hi=>?_,fun i x d hi hd=>?_,fun i i' e1 e2 d1 d2 hi hi' hd1 hd2 hb=>?_,fun i hi=>h.fresh i (by simpa[FC]using hi),h.fO,h.eN⟩
 ·obtain⟨e0,he0,rfl⟩:=at_ i x hi;rcases h.db i e0 he0 with⟨h1,h2⟩ | ⟨d,cs,T,vs,h1,h2,h3,h4,h5,h6,h7,h8⟩ | ⟨d,ms,h1,h2,h3,h4⟩
  ·exact .inl ⟨h1,by simp[h2,j8]⟩
  ·refine .inr (.inl ⟨d,cs,T,vs,h1,h2,h3,h4,AV h hk hf h5,h6,h7,fun hfz=>?_⟩);obtain⟨g1,g2⟩:=h8 hfz;exact⟨g1,by simp only;rw[dB k e.es _ g2];exact g2⟩
  ·exact .inr (.inr ⟨d,ms,h1,h2,h3,Ag h hk hf h4⟩)
 ·obtain⟨e0,he0,rfl⟩:=at_ i x hi;exact h.own i e0 d he0 hd
 ·obtain⟨e0,he0,rfl⟩:=at_ i e1 hi;obtain⟨e0',he0',rfl⟩:=at_ i' e2 hi';exact h.inj i i' e0 e0' d1 d2 he0 he0' hd1 hd2 hb
theorem Dq{k:Nat}{es:List SV}:∀{fr:List (Nat × SV)} {t:Nat} {x:SV},get (LI k es fr) t=some x→∃y,get fr t=some y∧x=j5 k es y
 | [],t,x,h=>by simp[LI,get]at h
 | (s,y)::r,t,x,h=>by
  simp only[LI,ak3,get]at h ⊢;split at h
  ·rename_i e;simp only[akR]at h;exact⟨y,by rw[if_pos e],h.symm⟩
  ·rename_i e;obtain⟨z,h1,h2⟩:=Dq (fr:=r) h;exact⟨z,by rw[if_neg e];exact h1,h2⟩
def dH(k:Nat)(st:St):St:=match ax st.M k with
 | some e=>⟨st.n,LI k e.es st.fr,FC k e.es (aK st.M k (some ⟨e.sz,e.es,true⟩))⟩
 | none=>st
theorem Le.je{st:St}(k:Nat){e:cx}(hk:ax st.M k=some e)(hp:SV.bf e.es=true):Le C st (dH k st):=by
 rintro a w ⟨β,H,hF,hW⟩;obtain⟨H',h1,h2⟩:=hW.freeze (aM hk) hp;rw[←eh]at h2;have hk':ax (aK st.M k (some ⟨e.sz,e.es,true⟩)) k=some ⟨e.sz,e.es,true⟩:=by
  rw[oq _ _ _ _ ⟨e,hk⟩,if_pos rfl]
 have hF':=hF.mono (β':=β) (H':=H') (fun _ _ h=>h) h1;unfold dH;rw[hk];show IZ C ⟨st.n,LI k e.es st.fr,FC k e.es (aK st.M k (some ⟨e.sz,e.es,true⟩))⟩ a w;refine⟨β,H',⟨⟨hF'.1.1,hF'.1.2⟩,hF'.2.1,fun t x hg=>?_⟩,h2.sb (e:=⟨e.sz,e.es,true⟩) hk' rfl⟩;obtain⟨y,hy,rfl⟩:=Dq hg;obtain⟨v,hv,hd⟩:=hF'.2.2 t y hy;exact⟨v,hv,o3 (e:=⟨e.sz,e.es,true⟩) h2 hk' rfl hd⟩
theorem aa.je{c:Code}{st:St}{Q:aX}(k:Nat){e:cx}(hk:ax st.M k=some e)(hp:SV.bf e.es=true)(h:aa P C c (dH k st) Q):aa P C c st Q:=aa.le (Le.je k hk hp) h
def SI(C:Ctx)(Q:aX):aX:=fun e st=>∃st',Le C st st'∧Q e st'
theorem Vb{C:Ctx}{Q:aX}:∀e a w,QQ C (SI C Q) e a w→QQ C Q e a w:=fun e a w ⟨st,⟨st',h1,h2⟩,h3⟩=>⟨st',h2,h1 a w h3⟩
theorem aa.wk{c:Code}{st:St}{Q:aX}(h:aa P C c st (SI C Q)):aa P C c st Q:=fun a w hs=>wp_mono (h a w hs) Vb
theorem gk{f:FuncId}{fn:Func}{c:Code}{args:List SV}{Φ:SV→Prop}(hf:P.funcs[f]?=some fn)(hb:fn.body=some c)(hn:args.length≤fn.ntmps)
  (h:∀C:Ctx,C.fx=[]→vc P C c ⟨fn.ntmps,lC 0 args,[]⟩ (SI C (ka P fn.results.toList Φ)) (SI C (ka P fn.results.toList Φ))):m8 P f args Φ :=
 fg hf hb hn fun C hC=>aa.wk (lP c _ (fun _ _ h=>h) (fun _ _ h=>h) (h C hC))
@[simp] theorem YQ{k:Nat}{es:List SV}:FC k es []=[]:=rfl
@[simp] theorem RK{k:Nat}{es:List SV}{M:aJ}:FC k es (none::M)=none::FC k es M:=rfl
@[simp] theorem SB{k sz:Nat}{es l:List SV}{f:Bool}{M:aJ}:FC k es (some ⟨sz,l,f⟩::M)=some ⟨sz,j8 k es l,f⟩::FC k es M:=rfl
@[simp] theorem XU{k:Nat}{es:List SV}:LI k es []=[]:=rfl
@[simp] theorem Tq{k t:Nat}{es:List SV}{x:SV}{fr:List (Nat × SV)}:LI k es ((t,x)::fr)=(t,j5 k es x)::LI k es fr:=rfl
@[simp] theorem Y8{k:Nat}{es:List SV}:j8 k es []=[]:=rfl
@[simp] theorem Ux{k:Nat}{es l:List SV}{x:SV}:j8 k es (x::l)=j5 k es x::j8 k es l:=rfl
@[simp] theorem Sl{k k' i n:Nat}{es:List SV}:j5 k es (.view k' i n)=if k'=k∧i+n≤es.length then .ro ((es.drop i).take n) else .view k' i n:=by simp only[j5]
@[simp] theorem aa0{k k' i j:Nat}{es:List SV}:j5 k es (.ptr k' i j)=if k'=k∧i<es.length∧(aB es i).aO=false then .bK (aB es i) j else .ptr k' i j:=by simp only[j5]
@[simp] theorem abC{k:Nat}{es l:List SV}:j5 k es (.agg l)=.agg (j8 k es l):=by simp only[j5]
@[simp] theorem Ya{k:Nat}{es l:List SV}:j5 k es (.bO l)=.bO (j8 k es l):=by simp only[j5]
@[simp] theorem aaL{k:Nat}{es:List SV}{v:Value}:j5 k es (.val v)=.val v:=by simp only[j5]
@[simp] theorem aeg{k:Nat}{es l:List SV}:j5 k es (.ro l)=.ro l:=by simp only[j5]
@[simp] theorem Zu{k j:Nat}{es:List SV}{x:SV}:j5 k es (.bK x j)=.bK x j:=by simp only[j5]
@[simp] theorem Yy{k t g:Nat}{es:List SV}:j5 k es (.fc t g)=.fc t g:=by simp only[j5]
@[simp] theorem Yo{k:Nat}{es:List SV}:j5 k es .any=.any:=by simp only[j5]
@[simp] theorem ac1{k k':Nat}{es:List SV}:j5 k es (.mp k')=.mp k':=by simp only[j5]
end
section
variable {P:Program} {C:Ctx} {β:bU} {H:Hp} {M:aJ} {w:World}
theorem uQ:∀{n:Nat} {l:List SV},SV.bf l=true→SV.bf (l.take n)=true
 | 0,l,_=>by simp[SV.bf]
 | n+1,[],_=>by simp[SV.bf]
 | n+1,x::l,h=>by
  simp only[SV.bf,List.take_succ_cons,alL]at h ⊢;exact⟨h.1,uQ h.2⟩
theorem cv.KZ(h:cv C β H M w){k:Nat}{e:cx}(hk:ax M k=some e)(hz:e.sz≠0)(n:Nat):cv C β H (aK M k (some ⟨e.sz,e.es.take n,e.fz⟩)) w:=by
 rw[eh];have hk':=aM hk;have back:∀(i:Nat) (x:cx),(M.set k (some ⟨e.sz,e.es.take n,e.fz⟩))[i]?=some (some x)→∃e0:cx,M[i]?=some (some e0)∧(x=e0∨(i=k∧x=⟨e.sz,e.es.take n,e.fz⟩∧e0=e)):=fun i x hi=>by
  rcases getElem?_set_cases hi with⟨rfl,he,_⟩ | ⟨_,hi'⟩
  ·simp only[akR]at he;exact⟨e,hk',.inr ⟨rfl,he.symm,rfl⟩⟩
  ·exact⟨x,hi',.inl rfl⟩
 refine⟨h.os,h.tape,h.output,h.size,h.frame,h.ext,h.new,h.inv,fun i x hi=>?_,fun i x d hi hd=>?_,fun i i' e1 e2 d1 d2 hi hi' hd1 hd2 hb=>?_,fun i hi=>h.fresh i (by simpa using hi),h.fO,h.eN⟩
 ·obtain⟨e0,he0,rfl | ⟨rfl,rfl,rfl⟩⟩:=back i x hi
  ·exact h.db i x he0
  ·rcases h.db i e0 he0 with⟨h1,h2⟩ | ⟨d,cs,T,vs,h1,h2,h3,h4,h5,h6,h7,h8⟩ | ⟨d,ms,h1,h2,h3,h4⟩
   rotate_left 2
   ·exact absurd h2.1 hz
   ·exact .inl ⟨h1,by simp[h2]⟩
   ·refine .inr (.inl ⟨d,cs,T,vs.take (n*e0.sz),h1,h2,h3,h4,h5.take n,by simp;omega,fun q hq=>?_,fun hf=>⟨(h8 hf).1,uQ (h8 hf).2⟩⟩);simp only[amx]at hq;rw[ak4 (by omega)];exact h7 q (by omega)
 ·obtain⟨e0,he0,rfl | ⟨rfl,rfl,rfl⟩⟩:=back i x hi
  ·exact h.own i x d he0 hd
  ·exact h.own i e0 d he0 hd
 ·obtain⟨e0,he0, -⟩:=back i e1 hi;obtain⟨e0',he0', -⟩:=back i' e2 hi';exact h.inj i i' e0 e0' d1 d2 he0 he0' hd1 hd2 hb
theorem Le.KZ{st:St}(k n:Nat){e:cx}(hk:ax st.M k=some e)(hz:e.sz≠0):Le C st ⟨st.n,st.fr,aK st.M k (some ⟨e.sz,e.es.take n,e.fz⟩)⟩:=by
 rintro a w ⟨β,H,hF,hW⟩;exact⟨β,H,hF,hW.KZ hk hz n⟩
theorem aa.bG{c:Code}{st:St}{Q:aX}{ι:Type}(I:ι→St)(Cn:ι→Prop)(μ:ι→Nat)(i0:ι)(h0:Cn i0)(hl:aw C st (I i0))
  (hr:∀i,Cn i→vc P C c (I i) (rk (fun st'=>∃j,Cn j∧μ j<μ i∧Le C st' (I j)) Q) (rk (fun st'=>∃j,Cn j∧μ j<μ i∧Le C st' (I j)) Q)):aa P C (.loop c) st Q:=by
 intro a w hs;refine pS (fun i a w=>Cn i∧IZ C (I i) a w) μ i0 ⟨h0,Le.bA hl a w hs⟩ ?_;rintro i a w ⟨hc,hs⟩;refine wp_mono (lP c _ (fun _ _ h=>h) (fun _ _ h=>h) (hr i hc) a w hs) ?_;rintro e a' w' ⟨st',h1,h2⟩;cases e<;>simp only[rk,Exit.then]at h1 ⊢<;>first | exact⟨st',h1,h2⟩ | skip
 obtain⟨j,g1,g2,g3⟩:=h1;exact⟨j,⟨g1,g3 a' w' h2⟩,g2⟩
theorem Le.bB{st:St}(k j s:Nat){e:cx}{l:List SV}(hk:ax st.M k=some e)(hes:e.es=[.agg l])(hfz:e.fz=false)(hj:aB l j=.val (.slice none 0 0))(hjl:j<l.length) :
  Le C st ⟨st.n,st.fr,aK st.M k (some ⟨e.sz,[.agg (bl l j (.view st.M.length 0 0))],false⟩)++[some ⟨s,[],false⟩]⟩:=by
 rintro a w ⟨β,H,hF,hW⟩;have hk':=aM hk;have hkl:k<st.M.length:=by
  rcases alr k st.M.length with h' | h'
  ·exact h'
  ·rw[akT h']at hk';cases hk'
 have hW2:=hW.nil s;refine⟨β.dS st.M.length none,H,hF.mono (fI hW none) (fun _ _ h=>h),?_⟩;have hden:∀{l:List SV} {vs:List Value} {j:Nat},bj (β.dS st.M.length none) H l vs→aB l j=.val (.slice none 0 0)→j<l.length→bj (β.dS st.M.length none) H (bl l j (.view st.M.length 0 0)) vs:=by
  intro l
  induction l with
  | nil=>intro vs j _ _ hj;simp at hj
  | cons x l ih =>
   intro vs j h hj hjl;simp only[bj]at h;obtain⟨v,r,rfl,h1,h2,h3⟩:=h;cases j with
   | zero =>
    simp only[aB]at hj;subst hj;simp only[bl,bj];refine⟨v,r,rfl,rfl,?_,h3⟩;simp only[Den]at h2 ⊢;left;exact⟨by simp[bU.dS],trivial,trivial,h2.1⟩
   | succ j =>
    simp only[bl,bj];exact⟨v,r,rfl,h1,h2,ih h3 (by simpa[aB]using hj) (by simpa using hjl)⟩
 have e1:aK st.M k (some ⟨e.sz,[.agg (bl l j (.view st.M.length 0 0))],false⟩)++[some (⟨s,[],false⟩:cx)]=(st.M++[some (⟨s,[],false⟩:cx)]).set k (some ⟨e.sz,[.agg (bl l j (.view st.M.length 0 0))],false⟩):=by
  rw[eh,List.set_append_left _ _ hkl]
 show cv C _ H (aK st.M k _++_) w;rw[e1];have hkM:(st.M++[some (⟨s,[],false⟩:cx)])[k]?=some (some e):=by rw[akO hkl];exact hk'
 refine⟨hW2.os,hW2.tape,hW2.output,hW2.size,hW2.frame,hW2.ext,hW2.new,hW2.inv,fun i x hi=>?_,fun i x d hi hd=>?_,fun i i' x1 x2 d1 d2 hi hi' hd1 hd2 hb=>?_,fun i hi=>hW2.fresh i (by simpa using hi),hW2.fO,hW2.eN⟩
 ·rcases getElem?_set_cases hi with⟨rfl,he,_⟩ | ⟨_,hi'⟩
  ·simp only[akR]at he;subst he;rcases hW2.db i e hkM with⟨h1,h2⟩ | ⟨d,cs,T,vs,h1,h2,h3,h4,h5,h6,h7,h8⟩ | ⟨d,ms,h1,h2,h3,h4⟩
   rotate_left 2
   ·rw[hes]at h4;obtain⟨q,hq⟩:=h4.EC 0 (by simp);simp[aB]at hq
   ·rw[hes]at h2;cases h2
   ·refine .inr (.inl ⟨d,cs,T,vs,h1,h2,h3,h4,?_,h6,h7,fun hf=>by cases hf⟩);rw[hes]at h5;simp only[aU]at h5 ⊢;obtain⟨v,r,rfl,g1,g2,g3⟩:=h5;refine⟨v,r,rfl,g1,?_,g3⟩;simp only[Den]at g2 ⊢;obtain⟨us,rfl,g4⟩:=g2;exact⟨us,rfl,hden g4 hj hjl⟩
  ·exact hW2.db i x hi'
 ·rcases getElem?_set_cases hi with⟨rfl,he,_⟩ | ⟨_,hi'⟩
  ·simp only[akR]at he;subst he;have:=hW2.own i e d hkM hd;exact⟨fun _=>this.1 hfz,this.2⟩
  ·exact hW2.own i x d hi' hd
 ·have aux:∀(q:Nat) (x:cx),((st.M++[some (⟨s,[],false⟩:cx)]).set k (some ⟨e.sz,[.agg (bl l j (.view st.M.length 0 0))],false⟩))[q]?=some (some x)→∃x0:cx,(st.M++[some (⟨s,[],false⟩:cx)])[q]?=some (some x0):=fun q x hq=>by
   rcases getElem?_set_cases hq with⟨rfl,_,_⟩ | ⟨_,hq'⟩
   ·exact⟨e,hkM⟩
   ·exact⟨x,hq'⟩
  obtain⟨y1,hy1⟩:=aux i x1 hi;obtain⟨y2,hy2⟩:=aux i' x2 hi';exact hW2.inj i i' y1 y2 d1 d2 hy1 hy2 hd1 hd2 hb
end
mutual
def jj:SV→SV
 | .val (.slice none 0 0)=>.ro []
 | .val v=>.val v
 | .agg l=>.agg (kQ l)
 | .bO l=>.bO (kQ l)
 | .iH t x=>.iH t (jj x)
 | x=>x
def kQ:List SV→List SV
 | []=>[]
 | x::l=>jj x::kQ l
end
theorem ug{v:Value}:jj (.val v)=.val v∨(v=.slice none 0 0∧jj (.val v)=.ro []):=by
 by_cases h:v=.slice none 0 0
 ·right;subst h;exact⟨rfl,rfl⟩
 ·left;unfold jj;split<;>simp_all
theorem KO(x:SV)(h:x.one=true):(jj x).one=true:=by
 cases x with
 | val v=>rcases ug (v:=v)with e | ⟨_,e⟩<;>rw[e];exact h;rfl
 | agg l=>cases h
 | bO l=>cases h
 | _=>rfl
section
variable {P:Program} {C:Ctx} {β:bU} {H:Hp} {M:aJ} {w:World}
mutual
theorem oY:∀{x:SV} {v:Value},Den β H x v→Den β H (jj x) v
 | .val u,v,h=>by
  rcases ug (v:=u)with e | ⟨e1,e⟩
  ·rw[e];exact h
  ·rw[e];subst e1;simp only[Den]at h ⊢;left;exact⟨trivial,_,_,h.1⟩
 | .agg l,v,h=>by
  simp only[Den,jj]at h ⊢;obtain⟨vs,rfl,h⟩:=h;exact⟨vs,rfl,A7 h⟩
 | .bO l,v,h=>by
  simp only[Den,jj]at h ⊢;obtain⟨vs,rfl,h⟩:=h;exact⟨vs,rfl,nF h⟩
 | .iH t x,v,h=>by
  simp only[Den,jj]at h ⊢;obtain⟨u,rfl,h⟩:=h;exact⟨u,rfl,oY h⟩
 | .gG f l r,v,h=>h
 | .view _ _ _,v,h=>h
 | .ptr _ _ _,v,h=>h
 | .ro _,v,h=>h
 | .bK _ _,v,h=>h
 | .fc _ _,v,h=>h
 | .any,v,h=>h
 | .mp _,v,h=>h
theorem A7:∀{l:List SV} {vs:List Value},bj β H l vs→bj β H (kQ l) vs
 | [],vs,h=>h
 | x::l,vs,h=>by
  simp only[bj,kQ]at h ⊢;obtain⟨v,r,rfl,h1,h2,h3⟩:=h;exact⟨v,r,rfl,KO x h1,oY h2,A7 h3⟩
theorem nF:∀{l:List SV} {vs:List Value},bF β H l vs→bF β H (kQ l) vs
 | [],vs,h=>h
 | x::l,vs,h=>by
  simp only[bF,kQ]at h ⊢;obtain⟨v,r,rfl,h2,h3⟩:=h;exact⟨v,r,rfl,oY h2,nF h3⟩
end
theorem Ah{s:Nat}:∀{l:List SV} {vs:List Value},aU β H s l vs→aU β H s (kQ l) vs
 | [],vs,h=>h
 | x::l,vs,h=>by
  simp only[aU,kQ]at h ⊢;obtain⟨v,r,rfl,h1,h2,h3⟩:=h;exact⟨v,r,rfl,h1,oY h2,Ah h3⟩
mutual
theorem A0:∀{x:SV},x.pure=true→(jj x).pure=true
 | .val u,h=>by
  rcases ug (v:=u)with e | ⟨e1,e⟩<;>rw[e]<;>rfl
 | .agg l,h=>by simp only[jj,SV.pure]at h ⊢;exact rG h
 | .bO l,h=>by simp only[jj,SV.pure]at h ⊢;exact rG h
 | .iH t x,h=>by simp only[jj,SV.pure]at h ⊢;exact A0 h
 | .gG f l r,h=>h
 | .view _ _ _,h=>h
 | .ptr _ _ _,h=>h
 | .ro _,h=>h
 | .bK _ _,h=>h
 | .fc _ _,h=>h
 | .any,h=>h
 | .mp _,h=>h
theorem rG:∀{l:List SV},SV.bf l=true→SV.bf (kQ l)=true
 | [],h=>h
 | x::l,h=>by
  simp only[SV.bf,kQ,alL]at h ⊢;exact⟨A0 h.1,rG h.2⟩
end
theorem As:∀{l:List SV} {ms:List MapEntry} {n:Nat},cH β H l ms n→(∀x∈l,∀u y,x=.bO [.val u,y]→jj (.val u)=.val u)→cH β H (kQ l) ms n
 | [],ms,n,h,_=>h
 | x::l,ms,n,h,hn=>by
  simp only[cH,kQ]at h ⊢;obtain⟨key,y,m,r,rfl,h2,h3,h4,h5,h6,h7⟩:=h;refine⟨key,jj y,m,r,by simp only[jj,kQ];rw[hn (.bO [.val key,y]) (List.mem_cons_self ..) key y rfl],h2,h3,h4,h5,oY h6,As h7 fun x hx=>hn x (by simp[hx])⟩
theorem D5:∀{l:List SV} {ms:List MapEntry} {n:Nat},cH β H l ms n→∀x∈l,∀u y,x=.bO [.val u,y]→jj (.val u)=.val u
 | [],ms,n,h,x,hx,_,_,_=>by cases hx
 | z::l,ms,n,h,x,hx,u,y,e=>by
  simp only[cH]at h;obtain⟨key,y',m,r,rfl,h2,h3,h4,h5,h6,h7⟩:=h;rcases alF.1 hx with rfl | hx
  ·simp only[SV.bO.injEq,List.cons.injEq,SV.val.injEq]at e;obtain⟨rfl, -⟩:=e;rcases ug (v:=key)with e | ⟨e1, -⟩
   ·exact e
   ·subst e1;cases h4
  ·exact D5 h7 x hx u y e
def wW(M:aJ):aJ:=M.map fun oe=>oe.map fun e=>⟨e.sz,kQ e.es,e.fz⟩
def E7(fr:List (Nat × SV)):List (Nat × SV):=fr.map fun q=>(q.1,jj q.2)
theorem cv.nl(h:cv C β H M w):cv C β H (wW M) w:=by
 have at_:∀(i:Nat) (x:cx),(wW M)[i]?=some (some x)→∃e0:cx,M[i]?=some (some e0)∧x=⟨e0.sz,kQ e0.es,e0.fz⟩:=fun i x hi=>by
  simp only[wW,ak6]at hi;cases hm:M[i]? with
  | none=>rw[hm]at hi;cases hi
  | some oe =>
   rw[hm]at hi;cases oe with
   | none=>simp at hi
   | some e0=>simp at hi;exact⟨e0,rfl,hi.symm⟩
 refine⟨h.os,h.tape,h.output,h.size,h.frame,h.ext,h.new,h.inv,fun i x hi=>?_,fun i x d hi hd=>?_,fun i i' e1 e2 d1 d2 hi hi' hd1 hd2 hb=>?_,fun i hi=>h.fresh i (by simpa[wW]using hi),h.fO,h.eN⟩
 ·obtain⟨e0,he0,rfl⟩:=at_ i x hi;rcases h.db i e0 he0 with⟨h1,h2⟩ | ⟨d,cs,T,vs,h1,h2,h3,h4,h5,h6,h7,h8⟩ | ⟨d,ms,h1,h2,h3,h4⟩
  ·exact .inl ⟨h1,by simp[h2,kQ]⟩
  ·exact .inr (.inl ⟨d,cs,T,vs,h1,h2,h3,h4,Ah h5,h6,h7,fun hfz=>⟨(h8 hfz).1,rG (h8 hfz).2⟩⟩)
  ·exact .inr (.inr ⟨d,ms,h1,h2,h3,As h4 (D5 h4)⟩)
 ·obtain⟨e0,he0,rfl⟩:=at_ i x hi;exact h.own i e0 d he0 hd
 ·obtain⟨e0,he0,rfl⟩:=at_ i e1 hi;obtain⟨e0',he0',rfl⟩:=at_ i' e2 hi';exact h.inj i i' e0 e0' d1 d2 he0 he0' hd1 hd2 hb
theorem DY:∀{fr:List (Nat × SV)} {t:Nat} {x:SV},get (E7 fr) t=some x→∃y,get fr t=some y∧x=jj y
 | [],t,x,h=>by simp[E7,get]at h
 | (s,y)::r,t,x,h=>by
  simp only[E7,ak3,get]at h ⊢;split at h
  ·rename_i e;simp only[akR]at h;exact⟨y,by rw[if_pos e],h.symm⟩
  ·rename_i e;obtain⟨z,h1,h2⟩:=DY (fr:=r) h;exact⟨z,by rw[if_neg e];exact h1,h2⟩
def nlS(st:St):St:=⟨st.n,E7 st.fr,wW st.M⟩
theorem Le.nl(st:St):Le C st (nlS st):=by
 rintro a w ⟨β,H,hF,hW⟩;refine⟨β,H,⟨⟨hF.1.1,hF.1.2⟩,hF.2.1,fun t x hg=>?_⟩,hW.nl⟩;obtain⟨y,hy,rfl⟩:=DY hg;obtain⟨v,hv,hd⟩:=hF.2.2 t y hy;exact⟨v,hv,oY hd⟩
@[simp] theorem aaf:wW []=[]:=rfl
@[simp] theorem TQ{M:aJ}:wW (none::M)=none::wW M:=rfl
@[simp] theorem Ry{sz:Nat}{l:List SV}{f:Bool}{M:aJ}:wW (some ⟨sz,l,f⟩::M)=some ⟨sz,kQ l,f⟩::wW M:=rfl
@[simp] theorem Xr:E7 []=[]:=rfl
@[simp] theorem Uj{t:Nat}{x:SV}{fr:List (Nat × SV)}:E7 ((t,x)::fr)=(t,jj x)::E7 fr:=rfl
@[simp] theorem ZP:kQ []=[]:=rfl
@[simp] theorem WC{l:List SV}{x:SV}:kQ (x::l)=jj x::kQ l:=rfl
@[simp] theorem Ye:jj (.val (.slice none 0 0))=.ro []:=rfl
@[simp] theorem Xw{k:IntKind}{n:Int}:jj (.val (.int k n))=.val (.int k n):=rfl
@[simp] theorem UM{b:Bool}:jj (.val (.bool b))=.val (.bool b):=rfl
@[simp] theorem aak{b:ByteArray}:jj (.val (.string b))=.val (.string b):=rfl
@[simp] theorem Po:jj (.val .nilIface)=.val .nilIface:=rfl
@[simp] theorem RT:jj (.val (.pointer none))=.val (.pointer none):=rfl
@[simp] theorem aaX{l:List SV}:jj (.agg l)=.agg (kQ l):=by simp only[jj]
@[simp] theorem abu{l:List SV}:jj (.bO l)=.bO (kQ l):=by simp only[jj]
@[simp] theorem RP{k i n:Nat}:jj (.view k i n)=.view k i n:=by simp only[jj]
@[simp] theorem Zk{k i n:Nat}:jj (.ptr k i n)=.ptr k i n:=by simp only[jj]
@[simp] theorem adh{l:List SV}:jj (.ro l)=.ro l:=by simp only[jj]
@[simp] theorem ZH{x:SV}{j:Nat}:jj (.bK x j)=.bK x j:=by simp only[jj]
@[simp] theorem aaw{t g:Nat}:jj (.fc t g)=.fc t g:=by simp only[jj]
end
end Go.Sv
namespace Go.Sv
open Go Go.RowKit
mutual
def gV(σ:Nat→Nat):SV→SV
 | .ptr k i j=>.ptr (σ k) i j
 | .view k i n=>.view (σ k) i n
 | .mp k=>.mp (σ k)
 | .agg l=>.agg (dj σ l)
 | .bO l=>.bO (dj σ l)
 | .iH t x=>.iH t (gV σ x)
 | .gG f l r=>.gG f (dj σ l) (dj σ r)
 | .val v=>.val v
 | .ro l=>.ro l
 | .bK x j=>.bK x j
 | .fc t g=>.fc t g
 | .any=>.any
def dj(σ:Nat→Nat):List SV→List SV
 | []=>[]
 | x::l=>gV σ x::dj σ l
end
mutual
theorem uY(σ:Nat→Nat):∀x:SV,x.pure=true→gV σ x=x
 | .ptr _ _ _,h=>by simp[SV.pure]at h
 | .view _ _ _,h=>by simp[SV.pure]at h
 | .mp _,h=>by simp[SV.pure]at h
 | .agg l,h=>by simp only[gV];rw[cG σ l (by simpa[SV.pure]using h)]
 | .bO l,h=>by simp only[gV];rw[cG σ l (by simpa[SV.pure]using h)]
 | .iH _ x,h=>by simp only[gV];rw[uY σ x (by simpa[SV.pure]using h)]
 | .gG _ l r,h=>by
  simp only[SV.pure,alL]at h;simp only[gV];rw[cG σ l h.1,cG σ r h.2]
 | .val _,_=>rfl
 | .ro _,_=>rfl
 | .bK _ _,_=>rfl
 | .fc _ _,_=>rfl
 | .any,_=>rfl
theorem cG(σ:Nat→Nat):∀l:List SV,SV.bf l=true→dj σ l=l
 | [],_=>rfl
 | x::l,h=>by
  simp only[SV.bf,alL]at h;simp only[dj];rw[uY σ x h.1,cG σ l h.2]
end
mutual
theorem Ba(σ:Nat→Nat):∀x:SV,(gV σ x).pure=x.pure
 | .ptr _ _ _=>rfl
 | .view _ _ _=>rfl
 | .mp _=>rfl
 | .agg l=>by simp only[gV,SV.pure];exact kf σ l
 | .bO l=>by simp only[gV,SV.pure];exact kf σ l
 | .iH _ x=>by simp only[gV,SV.pure];exact Ba σ x
 | .gG _ l r=>by simp only[gV,SV.pure];rw[kf σ l,kf σ r]
 | .val _=>rfl
 | .ro _=>rfl
 | .bK _ _=>rfl
 | .fc _ _=>rfl
 | .any=>rfl
theorem kf(σ:Nat→Nat):∀l:List SV,SV.bf (dj σ l)=SV.bf l
 | []=>rfl
 | x::l=>by simp only[dj,SV.bf];rw[Ba σ x,kf σ l]
end
theorem Kp(σ:Nat→Nat)(x:SV):(gV σ x).one=x.one:=by cases x<;>rfl
section
variable {β:bU} {H:Hp} {σ:Nat→Nat}
mutual
theorem lz:∀{x:SV} {v:Value},Den β H (gV σ x) v↔Den (fun k=>β (σ k)) H x v
 | .ptr _ _ _,_=>by simp only[gV,Den]
 | .view _ _ _,_=>by simp only[gV,Den]
 | .mp _,_=>by simp only[gV,Den]
 | .agg l,v=>by simp only[gV,Den];exact exists_congr fun vs=>and_congr Iff.rfl Ap
 | .bO l,v=>by simp only[gV,Den];exact exists_congr fun vs=>and_congr Iff.rfl nZ
 | .iH _ x,v=>by simp only[gV,Den];exact exists_congr fun u=>and_congr Iff.rfl lz
 | .gG _ l r,v=>by simp only[gV,Den];exact exists_congr fun vs=>exists_congr fun ws=>and_congr Iff.rfl (and_congr nZ nZ)
 | .val _,_=>by simp only[gV,Den]
 | .ro _,_=>by simp only[gV,Den]
 | .bK _ _,_=>by simp only[gV,Den]
 | .fc _ _,_=>by simp only[gV,Den]
 | .any,_=>by simp only[gV,Den]
theorem Ap:∀{l:List SV} {vs:List Value},bj β H (dj σ l) vs↔bj (fun k=>β (σ k)) H l vs
 | [],_=>by simp only[dj,bj]
 | x::l,vs=>by
  simp only[dj,bj,Kp];exact exists_congr fun v=>exists_congr fun r=>and_congr Iff.rfl (and_congr Iff.rfl (and_congr lz Ap))
theorem nZ:∀{l:List SV} {vs:List Value},bF β H (dj σ l) vs↔bF (fun k=>β (σ k)) H l vs
 | [],_=>by simp only[dj,bF]
 | x::l,vs=>by
  simp only[dj,bF];exact exists_congr fun v=>exists_congr fun r=>and_congr Iff.rfl (and_congr lz nZ)
end
theorem AN{s:Nat}:∀{l:List SV} {vs:List Value},aU β H s (dj σ l) vs↔aU (fun k=>β (σ k)) H s l vs
 | [],_=>by simp only[dj,aU]
 | x::l,vs=>by
  simp only[dj,aU];exact exists_congr fun v=>exists_congr fun r=>and_congr Iff.rfl (and_congr Iff.rfl (and_congr lz AN))
theorem vP:∀{l:List SV} {ms:List MapEntry} {n:Nat},cH β H (dj σ l) ms n↔cH (fun k=>β (σ k)) H l ms n
 | [],_,_=>by simp only[dj,cH]
 | x::l,ms,n=>by
  simp only[dj,cH];constructor
  ·rintro⟨key,y,m,r,e,h2,h3,h4,h5,h6,h7⟩;cases x with
   | bO q =>
    simp only[gV,SV.bO.injEq]at e
    match q,e with
    | [a,b],e =>
     simp only[dj,List.cons.injEq,and_true]at e;obtain⟨e1,rfl⟩:=e;cases a<;>simp only[gV,SV.val.injEq,reduceCtorEq]at e1;subst e1;exact⟨_,b,m,r,rfl,h2,h3,h4,h5,lz.1 h6,vP.1 h7⟩
    | [],e=>simp[dj]at e
    | [a],e=>simp[dj]at e
    | a::b::c::d,e=>simp[dj]at e
   | _=>simp[gV]at e
  ·rintro⟨key,y,m,r,rfl,h2,h3,h4,h5,h6,h7⟩;exact⟨key,gV σ y,m,r,by simp only[gV,dj],h2,h3,h4,h5,lz.2 h6,vP.2 h7⟩
end
def gE(σ:Nat→Nat)(e:cx):cx:=⟨e.sz,dj σ e.es,e.fz⟩
theorem FU{σ:Nat→Nat}{l:List SV}:dj σ l=[]↔l=[]:=by cases l<;>simp[dj]
theorem nR.gV{β:bU}{H:Hp}{σ:Nat→Nat}{e:cx}{k:Nat}{w:World}:nR β H (gE σ e) (σ k) w↔nR (fun i=>β (σ i)) H e k w:=by
 unfold nR gE;simp only[AN,vP,kf,FU]
def sg:List Nat→Nat→Nat→Nat
 | [],m,i=>m+i
 | k::_,_,0=>k
 | _::s,m,i+1=>sg s m i
def rq(σ:Nat→Nat):aJ→List Nat→aJ→aJ
 | M,k::s,e::T=>rq σ (aK M k (e.map (gE σ))) s T
 | M,_,T=>M++T.map fun e=>e.map (gE σ)
def lF(σ:Nat→Nat)(M:aJ):List Nat→aJ→Prop
 | k::s,some e::T=>ax M k=some (gE σ e)∧lF σ M s T
 | [],[]=>True
 | _,_=>False
def F4(s:List Nat)(k:Nat):Nat→aJ→Bool
 | _,[]=>true
 | i,none::M=>F4 s k (i+1) M
 | i,some e::M=>(s.contains i||!SV.aY k e.es)&&F4 s k (i+1) M
def lH:List Nat→aJ→aJ
 | [],M=>M
 | k::ks,M=>lH ks (Cq k M)
theorem Gs{s:List Nat}{m i:Nat}(h:i<s.length):∃k∈s,sg s m i=k:=by
 induction s generalizing i with
 | nil=>simp at h
 | cons a s ih=>cases i with
  | zero=>exact⟨a,by simp,rfl⟩
  | succ i =>
   obtain⟨k,h1,h2⟩:=ih (i:=i) (by simpa using h);exact⟨k,by simp[h1],h2⟩
theorem LF{s:List Nat}{m i:Nat}(h:s.length≤i):sg s m i=m+(i - s.length):=by
 induction s generalizing i with
 | nil=>simp[sg]
 | cons a s ih=>cases i with
  | zero=>simp at h
  | succ i=>simp only[sg,List.length_cons];rw[ih (by simpa using h)];congr 1;omega
theorem IP{s:List Nat}{m k:Nat}(h:k∈s):∃i,i<s.length∧sg s m i=k:=by
 induction s with
 | nil=>cases h
 | cons a s ih =>
  rcases alF.1 h with rfl | h
  ·exact⟨0,by simp,rfl⟩
  ·obtain⟨i,h1,h2⟩:=ih h;exact⟨i+1,by simpa using h1,h2⟩
theorem Ob{s:List Nat}{m:Nat}(hd:s.Nodup)(hm:∀k∈s,k<m):∀{i j:Nat},sg s m i=sg s m j→i=j:=by
 induction s with
 | nil=>intro i j h;simp only[sg]at h;omega
 | cons a s ih =>
  have hd':=List.nodup_cons.1 hd;have key:∀i,sg s m i=a→False:=fun i h=>by
   rcases alr i s.length with h' | h'
   ·obtain⟨k,h1,h2⟩:=Gs (m:=m) h';rw[h2]at h;subst h;exact hd'.1 h1
   ·rw[LF h']at h;have:=hm a (by simp);omega
  intro i j h;cases i with
  | zero=>cases j with
   | zero=>rfl
   | succ j=>exact(key j h.symm).elim
  | succ i=>cases j with
   | zero=>exact(key i h).elim
   | succ j=>rw[ih hd'.2 (fun k hk=>hm k (by simp[hk])) h]
theorem xd{σ:Nat→Nat}:∀{s:List Nat} {T M:aJ} {i:Nat} {e':cx},s.length≤T.length→(rq σ M s T)[i]?=some (some e') →
  (∃(k:Nat) (e:cx),sg s M.length k=i∧T[k]?=some (some e)∧e'=gE σ e)∨((∀k,k<T.length→sg s M.length k≠i)∧M[i]?=some (some e'))
 | [],T,M,i,e',_,h=>by
  cases T with
  | nil =>
   simp only[rq,List.map_nil,List.append_nil]at h;exact .inr ⟨fun k hk=>by simp at hk,h⟩
  | cons t T =>
   simp only[rq]at h;rcases alr i M.length with hi | hi
   ·rw[akO hi]at h;exact .inr ⟨fun k _=>by simp only[sg];omega,h⟩
   ·rw[List.getElem?_append_right hi,ak6]at h;left;cases ht:(t::T)[i - M.length]? with
    | none=>rw[ht]at h;cases h
    | some oe =>
     rw[ht]at h;cases oe with
     | none=>simp at h
     | some e=>simp at h;exact⟨i - M.length,e,by simp only[sg];omega,ht,h.symm⟩
 | a::s,[],M,i,e',hl,h=>by simp at hl
 | a::s,t::T,M,i,e',hl,h=>by
  simp only[rq]at h;rcases xd (s:=s) (by simpa using hl) h with⟨k,e,h1,h2,h3⟩ | ⟨h1,h2⟩
  ·rw[qC]at h1;exact .inl ⟨k+1,e,h1,by simpa using h2,h3⟩
  ·rw[qC]at h1;rw[eh]at h2;rcases getElem?_set_cases h2 with⟨rfl,he,_⟩ | ⟨hne,hi'⟩
   ·cases t with
    | none=>simp at he
    | some e=>simp at he;exact .inl ⟨0,e,rfl,by simp,he.symm⟩
   ·refine .inr ⟨fun k hk=>?_,hi'⟩;cases k with
    | zero=>exact Ne.symm hne
    | succ k=>exact h1 k (by simpa using hk)
theorem AE{σ:Nat→Nat}:∀{s:List Nat} {T M:aJ},s.length≤T.length→(rq σ M s T).length=M.length+(T.length - s.length)
 | [],T,M,_=>by cases T<;>simp[rq]
 | a::s,[],M,hl=>by simp at hl
 | a::s,t::T,M,hl=>by
  simp only[rq];rw[AE (by simpa using hl),qC];simp
theorem rV{σ:Nat→Nat}{M:aJ}:∀{s:List Nat} {T:aJ} {m:Nat},lF σ M s T→s.length=T.length∧∀i,i<s.length→∃e:cx,T[i]?=some (some e)∧ax M (sg s m i)=some (gE σ e)
 | [],[],_,_=>⟨rfl,fun i hi=>by simp at hi⟩
 | k::s,some e::T,m,h=>by
  simp only[lF]at h;obtain⟨h1,h2⟩:=rV (m:=m) h.2;refine⟨by simp[h1],fun i hi=>?_⟩;cases i with
  | zero=>exact⟨e,rfl,h.1⟩
  | succ i=>simpa[sg]using h2 i (by simpa using hi)
 | [],_::_,_,h=>by simp[lF]at h
 | _::_,[],_,h=>by simp[lF]at h
 | _::_,none::_,_,h=>by simp[lF]at h
theorem B0{s:List Nat}{k:Nat}:∀{M:aJ} {o i:Nat} {e:cx},F4 s k o M=true→M[i]?=some (some e)→o+i∉s→SV.aY k e.es=false
 | [],o,i,e,_,h,_=>by simp at h
 | none::M,o,i,e,h,hi,hs=>by
  simp only[F4]at h;cases i with
  | zero=>simp at hi
  | succ i=>exact B0 h (by simpa using hi) (by rw[show o+1+i=o+(i+1) by omega];exact hs)
 | some e0::M,o,i,e,h,hi,hs=>by
  simp only[F4,alL,Bool.or_eq_true,Bool.not_eq_true',List.contains_iff_mem]at h;cases i with
  | zero =>
   simp only[List.getElem?_cons_zero,akR]at hi;subst hi;exact h.1.resolve_left (by simpa using hs)
  | succ i=>exact B0 h.2 (by simpa using hi) (by rw[show o+1+i=o+(i+1) by omega];exact hs)
theorem Kn(k:Nat)(M:aJ):(Cq k M).length=M.length:=by unfold Cq wu;split<;>simp
theorem zZ:∀(ks:List Nat) (M:aJ),(lH ks M).length=M.length
 | [],M=>rfl
 | k::ks,M=>by simp only[lH];rw[zZ,Kn]
theorem cv.lH{C:Ctx}{β:bU}{H:Hp}{w:World}:∀{ks:List Nat} {M:aJ},cv C β H M w→cv C β H (Sv.lH ks M) w
 | [],_,h=>h
 | k::ks,M,h=>by simp only[Sv.lH];exact cv.lH (h.Cq k)
def ji(P:Program)(f:FuncId)(args:List SV)(T:aJ)(pk:List Nat)(Φ:aJ→SV→Prop):Prop :=
 ∀C:Ctx,C.fx=[]→cU P C f args T none fun T' pk' x=>pk'=pk∧∃T1 y,Φ T1 y∧x=y∧dX T' T1∧T.length≤T1.length∧(T'.length=T1.length∨(y.lt T1.length=true∧eP T1.length T1))
section
variable {P:Program} {C:Ctx}
def Kf(T:aJ)(pk:List Nat)(Φ:aJ→SV→Prop):aJ→List Nat→SV→Prop:=fun T' pk' x=>pk'=pk∧∃T1 y,Φ T1 y∧x=y∧dX T' T1∧T.length≤T1.length∧(T'.length=T1.length∨(y.lt T1.length=true∧eP T1.length T1))
theorem rP{f:FuncId}{fn:Func}{c:Code}{args:List SV}{T:aJ}{pk:List Nat}{Φ:aJ→SV→Prop}(hf:P.funcs[f]?=some fn)(hb:fn.body=some c)(hn:args.length≤fn.ntmps)
  (h:∀C':Ctx,C'.fx=(alI T.length).filter (fun i=>!pk.contains i)→vc P C' c ⟨fn.ntmps,lC 0 args,T⟩ (mm P fn.results.toList pk (Kf T pk Φ)) (mm P fn.results.toList pk (Kf T pk Φ))):ji P f args T pk Φ:=by
 intro C hC;exact ez hf hb hn pk (fun i _ hi=>by rw[hC]at hi;cases hi) (fun ks h=>by cases h) h
def mZ(β:bU)(n:Nat):bU:=fun k=>if k<n then β k else none
theorem cv.UX{β:bU}{H:Hp}{M M':aJ}{w:World}(h:cv C β H M w)(hle:dX M M')(hj:M.length=M'.length∨eP M'.length M')(hfx:C.fx=[]):cv C (mZ β M'.length) H M' w:=by
 have hget:=yJ hle;have az:∀k e,M'[k]?=some (some e)→k<M'.length:=fun k e hk=>by
  rcases alr k M'.length with h' | h'
  ·exact h'
  ·rw[akT h']at hk;cases hk
 have hin:∀(k:Nat) (e:cx),M'[k]?=some (some e)→∀j d,SV.aY j e.es=true→β j=some d→mZ β M'.length j=some d:=fun k e hk j d hu hd=>by
  have:j<M'.length:=by
   rcases hj with hj | hj
   ·rcases alr j M'.length with h' | h'
    ·exact h'
    ·rw[h.fresh j (by omega)]at hd;cases hd
   ·rcases alr j M'.length with h' | h'
    ·exact h'
    ·rw[SV.kL h' _ (ur hj k e hk)]at hu;cases hu
  simp[mZ,this,hd]
 have hc:∀{k d},k<M'.length→mZ β M'.length k=some d→β k=some d:=fun hk hd=>by simpa[mZ,hk]using hd
 refine⟨h.os,h.tape,h.output,h.size,h.frame,h.ext,h.new,h.inv,fun k e hk=>?_,fun k e d hk hd=>h.own k e d (hget k e hk) (hc (az k e hk) hd),
  fun k k' e e' d d' hk hk' hd hd'=>h.inj k k' e e' d d' (hget k e hk) (hget k' e' hk') (hc (az k e hk) hd) (hc (az k' e' hk') hd'),fun k hk=>by simp[mZ];omega,fun k d hk=>(by rw[hfx]at hk;cases hk),h.eN⟩
 have hb:∀d,β k=some d→mZ β M'.length k=some d:=fun d hd=>by simp[mZ,az k e hk,hd]
 rcases h.db k e (hget k e hk)with⟨g1,g2⟩ | ⟨d,cs,T,vs,g1,g2,g3,g4,g5,g6⟩ | ⟨d,ms,g1,g2,g3,g4⟩
 ·exact .inl ⟨hb _ g1,g2⟩
 ·exact .inr (.inl ⟨d,cs,T,vs,hb _ g1,g2,g3,g4,aU.mono (fun _ _ h=>h) _ _ _ (hin k e hk) g5,g6⟩)
 ·exact .inr (.inr ⟨d,ms,hb _ g1,g2,g3,cH.mono (fun _ _ h=>h) _ _ _ (hin k e hk) g4⟩)
open Classical in
theorem cN{f:FuncId}{args args0:List SV}{T M:aJ}{pk:List Nat}{Φ:aJ→SV→Prop}{W:Option (List Nat)}{K:aJ→List Nat→SV→Prop}(h:ji P f args0 T pk Φ)(s:List Nat)(hd:s.Nodup)
  (hT:lF (sg s M.length) M s T) (ha:args=dj (sg s M.length) args0) (hpk:∀k∈pk,k<T.length∧sg s M.length k∉C.fx∧F4 s (sg s M.length k) 0 (lH (pk.map (sg s M.length)) M)=true)
  (hW:∀ks,W=some ks→pk=[]∧∀k∈s,k∈ks)
  (hK:∀T1 y,Φ T1 y→K (rq (sg s M.length) (lH (pk.map (sg s M.length)) M) s T1) (pk.map (sg s M.length)) (gV (sg s M.length) y)):cU P C f args M W K:=by
 intro β H w vals hdv hWM;have hlen:s.length=T.length:=(rV (m:=0) hT).1;have hσ:=(rV (m:=M.length) hT).2;have hsl:∀k∈s,k<M.length:=fun k hk=>by
  obtain⟨i,hi,rfl⟩:=IP (m:=M.length) hk;obtain⟨e, -,h2⟩:=hσ i hi;exact(alA.1 (aM h2)).1
 have hinj:=fun{i j}=>Ob (s:=s) (m:=M.length) hd hsl (i:=i) (j:=j);have hσlt:∀i,i<s.length→sg s M.length i<M.length:=fun i hi=>by
  obtain⟨k,hk,e⟩:=Gs (m:=M.length) hi;rw[e];exact hsl k hk
 have hge:∀i,s.length≤i→sg s M.length i=M.length+(i - s.length):=fun i hi=>LF hi;generalize hsig:sg s M.length=σ at *
 let β0:bU:=fun k=>β (σ k)
 have hD:bF β0 H args0 vals:=by rw[ha]at hdv;exact nZ.1 hdv
 let X:List Nat:=(alI s.length).filterMap fun i=>match β0 i with
  | some (some d)=>some d.b
  | _=>none
 have hX:∀b,b∈X↔∃i d,i<s.length∧β (σ i)=some (some d)∧d.b=b:=fun b=>by
  simp only[X,List.mem_filterMap,List.mem_range];constructor
  ·rintro⟨i,hi,he⟩;split at he
   ·rename_i d h2;simp only[akR]at he;exact⟨i,d,hi,h2,he⟩
   ·cases he
  ·rintro⟨i,d,hi,hd,rfl⟩;refine⟨i,hi,?_⟩;have:β0 i=some (some d):=hd;rw[this]
 have hown:∀b,b∈X→C.w0.heap.size≤b∨b∈C.X:=fun b hb=>by
  obtain⟨i,d,h1,h2,rfl⟩:=(hX b).1 hb;obtain⟨e, -,h3⟩:=hσ i h1;exact(hWM.own (σ i) _ d (aM h3) h2).2
 let C0:Ctx:=⟨w,H,X,β0,[]⟩
 have hTlt:∀(k:Nat) (e:cx),T[k]?=some (some e)→k<s.length∧ax M (σ k)=some (gE σ e):=fun k e hk=>by
  have hk':k<s.length:=by
   have:=(alA.1 hk).1;omega
  obtain⟨e2,h2,h3⟩:=hσ k hk';rw[hk]at h2;simp only[akR]at h2;subst h2;exact⟨hk',h3⟩
 have hW0:cv C0 β0 H T w:=⟨rfl,rfl,rfl,Nat.le_refl _,fun _ _ _=>rfl,fun _ _ h=>h,fun _ _ h=>.inl h,hWM.inv,
  fun k e hk=>nR.gV.1 (hWM.db (σ k) _ (aM (hTlt k e hk).2)),
  fun k e d hk hd=>⟨(hWM.own (σ k) (gE σ e) d (aM (hTlt k e hk).2) hd).1,.inr ((hX _).2 ⟨k,d,(hTlt k e hk).1,hd,rfl⟩)⟩,
  fun k k' e e' d d' hk hk' hd hd' hb=>hinj (hWM.inj (σ k) (σ k') (gE σ e) (gE σ e') d d' (aM (hTlt k e hk).2) (aM (hTlt k' e' hk').2) hd hd' hb),
  fun k hk=>hWM.fresh _ (by rw[hge k (by omega)];omega),fun k d hk=>(by cases hk),hWM.eN⟩
 refine Calls.mono (h C0 rfl β0 H w vals hD hW0) ?_;rintro e w1 ⟨β1,H1,T',v,x,pk',rfl,g1,g2,g3,g4,⟨rfl,T1,y,hΦ,rfl,hle,hlenT,hj⟩,g6, -⟩;have hj':T'.length=T1.length∨eP T1.length T1:=hj.imp id And.right;have g2w:cv C0 (mZ β1 T1.length) H1 T1 w1:=g2.UX hle hj' rfl;have hw0:=hWM.lH (ks:=pk'.map σ);have hcut:∀{k d},k<s.length→β1 k=some d→mZ β1 T1.length k=some d:=fun{k d} hk hd=>by
  have:k<T1.length:=by omega
  simp[mZ,this,hd]
 have g1w:Den (mZ β1 T1.length) H1 x v:=by
  refine Den.mono (fun _ _ h=>h) x v (fun k d hu hd=>?_) g1;have:k<T1.length:=by
   rcases hj with hj | ⟨hj, -⟩
   ·rcases alr k T1.length with h' | h'
    ·exact h'
    ·rw[g2.fresh k (by omega)]at hd;cases hd
   ·rcases alr k T1.length with h' | h'
    ·exact h'
    ·rw[SV.um h' x hj]at hu;cases hu
  simp[mZ,this,hd]
 let β':bU:=fun i=>if hx:∃k,σ k=i then mZ β1 T1.length (anG hx) else β i
 have hβσ:∀k,β' (σ k)=mZ β1 T1.length k:=fun k=>by
  have hx:∃k',σ k'=σ k:=⟨k,rfl⟩;show(if hx:∃k',σ k'=σ k then mZ β1 T1.length (anG hx) else β (σ k))=_;rw[dif_pos hx];rw[hinj (anH hx)]
 have hβo:∀i,(∀k,σ k≠i)→β' i=β i:=fun i hi=>by
  show(if hx:∃k',σ k'=i then mZ β1 T1.length (anG hx) else β i)=_;rw[dif_neg (fun⟨k,hk⟩=>hi k hk)]
 have hβfun:(fun k=>β' (σ k))=mZ β1 T1.length:=funext hβσ;have hmono:∀i d,i∉pk'.map σ→β i=some d→β' i=some d:=fun i d hi hd=>by
  by_cases hx:∃k,σ k=i
  ·obtain⟨k,rfl⟩:=hx;rw[hβσ];have hks:k<s.length:=by
    rcases alr k s.length with h' | h'
    ·exact h'
    ·rw[hWM.fresh _ (by rw[hge k h'];omega)]at hd;cases hd
   exact hcut hks (g3 k d (fun hp=>hi (al1.2 ⟨k,hp,rfl⟩)) hd)
  ·rw[hβo i fun k hk=>hx ⟨k,hk⟩];exact hd
 have hout:∀i,(∀k,k<T1.length→σ k≠i)→i<M.length→∀k,σ k≠i:=fun i hi hil k hk=>by
  rcases alr k T1.length with h' | h'
  ·exact hi k h' hk
  ·rw[hge k (by omega)]at hk;omega
 have hheap:∀b,b<w.heap.size→b∉X→w1.heap[b]?=w.heap[b]?:=fun b hb hx=>g2.frame b hb hx;have hM0:(lH (pk'.map σ) M).length=M.length:=zZ _ _;have hspec:∀(i:Nat) (e':cx),(rq σ (lH (pk'.map σ) M) s T1)[i]?=some (some e') →
   (∃(k:Nat) (e:cx),σ k=i∧T1[k]?=some (some e)∧e'=gE σ e)∨((∀k,σ k≠i)∧i<M.length∧(lH (pk'.map σ) M)[i]?=some (some e')):=fun i e' hi=>by
  rcases xd (by omega) hi with h1 | ⟨h1,h2⟩
  ·rw[hM0,hsig]at h1;exact .inl h1
  ·rw[hM0,hsig]at h1;have hil:i<M.length:=by rw[←hM0];exact(alA.1 h2).1
   exact .inr ⟨hout i h1 hil,hil,h2⟩
 have hnX:∀(i:Nat) (e':cx) (d:Bd),(∀k,σ k≠i)→(lH (pk'.map σ) M)[i]?=some (some e')→β i=some (some d)→d.b∉X:=fun i e' d hi he hd' hb=>by
  obtain⟨k,d2,h1,h2,h3⟩:=(hX _).1 hb;obtain⟨e2, -,h4⟩:=hσ k h1;have hi1:∃e0:cx,(lH (pk'.map σ) M)[σ k]?=some (some e0):=by
   have aux:∀(ks:List Nat) (M:aJ) (q:Nat),(∃e0:cx,M[q]?=some (some e0))→∃e0:cx,(lH ks M)[q]?=some (some e0):=fun ks=>by
    induction ks with
    | nil=>intro M q h;exact h
    | cons a ks ih =>
     rintro M q ⟨e0,h⟩;refine ih _ _ ?_;unfold Cq;split
     ·exact⟨e0,h⟩
     ·simp only[wu,ak6,h];exact⟨_,rfl⟩
   exact aux _ _ _ ⟨_,aM h4⟩
  obtain⟨e0,hi1⟩:=hi1;exact hi k (hw0.inj (σ k) i e0 e' d2 d hi1 he h2 hd' h3)
 refine⟨β',H1,rq σ (lH (pk'.map σ) M) s T1,v,gV σ x,pk'.map σ,rfl,lz.2 (by rw[hβfun];exact g1w),?_,hmono,g4,hK T1 x hΦ,g6,fun ks hks=>?_⟩
 ·refine⟨g2.os.trans hWM.os,g2.tape.trans hWM.tape,g2.output.trans hWM.output,alJ hWM.size g6,fun b hb hx=>?_,fun b cs hb=>g4 b cs (hWM.ext b cs hb),fun b cs hb=>?_,g2.inv,fun i e' hi=>?_,fun i e' d hi hd'=>?_,fun i i' e1 e2 d1 d2 hi hi' hd1 hd2 hb=>?_,fun i hi=>?_,fun i d hi hd'=>?_,g2.eN⟩
  ·rw[hheap b (Nat.lt_of_lt_of_le hb hWM.size) (fun hbX=>by rcases hown b hbX with h' | h';omega;exact hx h')];exact hWM.frame b hb hx
  ·rcases g2.new b cs hb with h' | h' | h'
   ·exact hWM.new b cs h'
   ·exact .inr (.inl (alJ hWM.size h'))
   ·exact .inr (hown b h')
  ·rcases hspec i e' hi with⟨k,e0,rfl,h2,rfl⟩ | ⟨h1,hil,h2⟩
   ·refine nR.gV.2 ?_;rw[hβfun];exact g2w.db k e0 h2
   ·have hbi:∀d,β i=some d→β' i=some d:=fun d hd'=>by rw[hβo i h1];exact hd'
    have hus:∀j d,SV.aY j e'.es=true→β j=some d→β' j=some d:=fun j d hu hd'=>by
     refine hmono j d (fun hp=>?_) hd';obtain⟨k,hk,rfl⟩:=al1.1 hp;have:=B0 (hpk k hk).2.2 h2 (by
      rw[Nat.zero_add];intro hs;obtain⟨q, -,e⟩:=IP (m:=M.length) hs;rw[hsig]at e;exact h1 q e)
     rw[this]at hu;cases hu
    have hhp:∀d,β i=some (some d)→w1.heap[d.b]?=w.heap[d.b]?:=fun d hd'=>hheap _ (hw0.lt h2 hd') (hnX i e' d h1 h2 hd');rcases hw0.db i e' h2 with⟨q1,q2⟩ | ⟨d,cs,Tt,vs,q1,q2,q3,q4,q5,q6,q7,q8⟩ | ⟨d,ms,q1,q2,q3,q4⟩
    ·exact .inl ⟨hbi _ q1,q2⟩
    ·exact .inr (.inl ⟨d,cs,Tt,vs,hbi _ q1,q2,by rw[hhp d q1];exact q3,q4,aU.mono g4 _ _ _ hus q5,q6,q7,fun hf=>⟨g4 _ _ (q8 hf).1,(q8 hf).2⟩⟩)
    ·exact .inr (.inr ⟨d,ms,hbi _ q1,q2,by rw[hhp d q1];exact q3,cH.mono g4 _ _ _ hus q4⟩)
  ·rcases hspec i e' hi with⟨k,e0,rfl,h2,rfl⟩ | ⟨h1,hil,h2⟩
   ·rw[hβσ]at hd';obtain⟨q1,q2⟩:=g2w.own k e0 d h2 hd';refine⟨q1,?_⟩;rcases q2 with h' | h'
    ·exact .inl (alJ hWM.size h')
    ·exact hown _ h'
   ·rw[hβo i h1]at hd';obtain⟨q1,q2⟩:=hw0.own i e' d h2 hd';refine⟨fun hf=>?_,q2⟩;cases hH:H1 d.b with
    | none=>rfl
    | some cs =>
     rcases g2.new _ _ hH with h' | h' | h'
     ·have h'':H d.b=some cs:=h';rw[q1 hf]at h'';cases h''
     ·have az:=hw0.lt h2 hd';have h'':w.heap.size≤d.b:=h';omega
     ·exact absurd h' (hnX i e' d h1 h2 hd')
  ·rcases hspec i e1 hi with⟨k,e0,rfl,h2,rfl⟩ | ⟨h1,hil,h2⟩<;>rcases hspec i' e2 hi' with⟨k',e0',rfl,h2',rfl⟩ | ⟨h1',hil',h2'⟩
   ·rw[hβσ]at hd1 hd2;rw[g2w.inj k k' e0 e0' d1 d2 h2 h2' hd1 hd2 hb]
   ·rw[hβσ]at hd1;rw[hβo i' h1']at hd2;exfalso;rcases(g2w.own k e0 d1 h2 hd1).2 with h' | h'
    ·have az:=hw0.lt h2' hd2;have h'':w.heap.size≤d1.b:=h';omega
    ·rw[hb]at h';exact hnX i' e2 d2 h1' h2' hd2 h'
   ·rw[hβσ]at hd2;rw[hβo i h1]at hd1;exfalso;rcases(g2w.own k' e0' d2 h2' hd2).2 with h' | h'
    ·have az:=hw0.lt h2 hd1;have h'':w.heap.size≤d2.b:=h';omega
    ·rw[←hb]at h';exact hnX i e1 d1 h1 h2 hd1 h'
   ·rw[hβo i h1]at hd1;rw[hβo i' h1']at hd2;exact hw0.inj i i' e1 e2 d1 d2 h2 h2' hd1 hd2 hb
  ·rw[AE (by omega),hM0]at hi;have e:σ (s.length+(i - M.length))=i:=by rw[hge _ (by omega)];omega
   have hT1:¬s.length+(i - M.length)<T1.length:=by omega
   rw[←e,hβσ];simp[mZ,hT1]
  ·refine hmono i d (fun hp=>?_) (hWM.fO i d hi hd');obtain⟨k,hk,rfl⟩:=al1.1 hp;exact(hpk k hk).2.1 hi
 ·obtain⟨q1,q2⟩:=hW ks hks;subst q1;refine⟨rfl,fun b hb hn=>hheap b hb fun hbX=>?_⟩;obtain⟨k,d,h1,h2,h3⟩:=(hX _).1 hbX;obtain⟨q,hq,e⟩:=Gs (m:=M.length) h1;rw[hsig]at e;exact hn (σ k) (by rw[e];exact q2 q hq) d h2 h3.symm
end
@[simp] theorem Qj{C:Ctx}{Q:aX}{c:List PanicEntry}{st:St}:SI C Q (.panic c) st=∃st',Le C st st'∧Q (.panic c) st':=rfl
def isP(x:SV):Prop:=x.pure=true
@[simp] theorem abU(x:SV):isP x=(x.pure=true):=propext Iff.rfl
def NL(x:List SV):Prop:=SV.bf x=true
@[simp] theorem YL(x:List SV):NL x=(SV.bf x=true):=propext Iff.rfl
@[simp] theorem Wo{σ:Nat→Nat}{x:SV}(h:isP x):gV σ x=x:=uY σ x h
@[simp] theorem OZ{σ:Nat→Nat}{l:List SV}(h:NL l):dj σ l=l:=cG σ l h
@[simp] theorem S5{k:Nat}{es:List SV}{x:SV}(h:isP x):j5 k es x=x:=vS k es x h
@[simp] theorem Uw{k:Nat}{es:List SV}{l:List SV}(h:NL l):j8 k es l=l:=dB k es l h
@[simp] theorem Xz{k:Nat}{es a b:List SV}:j8 k es (a++b)=j8 k es a++j8 k es b:=by
 induction a with
 | nil=>simp
 | cons x a ih=>simp[ih]
@[simp] theorem X0{k:Nat}{es l r:List SV}{f:FuncId}:j5 k es (.gG f l r)=.gG f (j8 k es l) (j8 k es r):=by simp only[j5]
@[simp] theorem Zh{α:Type}(f:α→SV)(l:List α):List.take l.length (l.map f)=l.map f:=List.take_of_length_le (by simp)
@[simp] theorem aa1{σ:Nat→Nat}{k i j:Nat}:gV σ (.ptr k i j)=.ptr (σ k) i j:=by simp only[gV]
@[simp] theorem Vt{σ:Nat→Nat}{k i n:Nat}:gV σ (.view k i n)=.view (σ k) i n:=by simp only[gV]
@[simp] theorem aeu{σ:Nat→Nat}{k:Nat}:gV σ (.mp k)=.mp (σ k):=by simp only[gV]
@[simp] theorem XI{σ:Nat→Nat}{l:List SV}:gV σ (.agg l)=.agg (dj σ l):=by simp only[gV]
@[simp] theorem ZL{σ:Nat→Nat}{l:List SV}:gV σ (.bO l)=.bO (dj σ l):=by simp only[gV]
@[simp] theorem abD{σ:Nat→Nat}{t:TypeId}{x:SV}:gV σ (.iH t x)=.iH t (gV σ x):=by simp only[gV]
@[simp] theorem Yz{σ:Nat→Nat}{f:FuncId}{l r:List SV}:gV σ (.gG f l r)=.gG f (dj σ l) (dj σ r):=by simp only[gV]
@[simp] theorem abK{σ:Nat→Nat}{v:Value}:gV σ (.val v)=.val v:=by simp only[gV]
@[simp] theorem L5{σ:Nat→Nat}{l:List SV}:gV σ (.ro l)=.ro l:=by simp only[gV]
@[simp] theorem aan{σ:Nat→Nat}{x:SV}{j:Nat}:gV σ (.bK x j)=.bK x j:=by simp only[gV]
@[simp] theorem Y4{σ:Nat→Nat}{t g:Nat}:gV σ (.fc t g)=.fc t g:=by simp only[gV]
@[simp] theorem abv{σ:Nat→Nat}:gV σ .any=.any:=by simp only[gV]
@[simp] theorem PE{σ:Nat→Nat}:dj σ []=[]:=by simp only[dj]
@[simp] theorem Qz{σ:Nat→Nat}{x:SV}{l:List SV}:dj σ (x::l)=gV σ x::dj σ l:=by simp only[dj]
@[simp] theorem UK{σ:Nat→Nat}{a b:List SV}:dj σ (a++b)=dj σ a++dj σ b:=by
 induction a with
 | nil=>simp
 | cons x a ih=>simp[ih]
@[simp] theorem aaS{σ:Nat→Nat}{s:Nat}{l:List SV}{f:Bool}:gE σ ⟨s,l,f⟩=⟨s,dj σ l,f⟩:=rfl
@[simp] theorem ab7{m i:Nat}:sg [] m i=m+i:=rfl
@[simp] theorem Xe{k m:Nat}{s:List Nat}:sg (k::s) m 0=k:=rfl
@[simp] theorem Zn{k m i:Nat}{s:List Nat}:sg (k::s) m (i+1)=sg s m i:=rfl
@[simp] theorem Pb{σ:Nat→Nat}{M T:aJ}{k:Nat}{s:List Nat}{e:Option cx}:rq σ M (k::s) (e::T)=rq σ (aK M k (e.map (gE σ))) s T:=rfl
@[simp] theorem UJ{σ:Nat→Nat}{M T:aJ}:rq σ M [] T=M++T.map fun e=>e.map (gE σ):=by cases T<;>rfl
@[simp] theorem Lf{σ:Nat→Nat}{M T:aJ}{k:Nat}{s:List Nat}{e:cx}:lF σ M (k::s) (some e::T)=(ax M k=some (gE σ e)∧lF σ M s T):=rfl
@[simp] theorem NR{σ:Nat→Nat}{M:aJ}:lF σ M [] []=True:=rfl
@[simp] theorem XL{s:List Nat}{k i:Nat}:F4 s k i []=true:=rfl
@[simp] theorem Wl{s:List Nat}{k i:Nat}{M:aJ}:F4 s k i (none::M)=F4 s k (i+1) M:=rfl
@[simp] theorem TV{s:List Nat}{k i:Nat}{e:cx}{M:aJ}:F4 s k i (some e::M)=((s.contains i||!SV.aY k e.es)&&F4 s k (i+1) M):=rfl
@[simp] theorem WD{M:aJ}:lH [] M=M:=rfl
@[simp] theorem Ou{k:Nat}{ks:List Nat}{M:aJ}:lH (k::ks) M=lH ks (Cq k M):=rfl
@[simp] theorem WO{T T':aJ}{pk pk':List Nat}{Φ:aJ→SV→Prop}{x:SV}:Kf T pk Φ T' pk' x=(pk'=pk∧∃T1 y,Φ T1 y∧x=y∧dX T' T1∧T.length≤T1.length∧(T'.length=T1.length∨(y.lt T1.length=true∧eP T1.length T1))):=rfl
end Go.Sv


/- A text of the prover's own. -/
import Derived.Test.YtnimjdcaajmfcaaGreatDoorUPl
namespace Go.Sv
open Go Go.RowKit
mutual
def sbV (k:Nat) (es:List SV):SV→SV
 | .view k' i n=>if k'=k∧i+n≤es.length then .ro ((es.drop i).take n) else .view k' i n
 | .ptr k' i j=>if k'=k∧i<es.length∧(lget es i).isTup=false then .rop (lget es i) j else .ptr k' i j
 | .agg l=>.agg (sbL k es l)
 | .tup l=>.tup (sbL k es l)
 | .ifc t x=>.ifc t (sbV k es x)
 | .fnv f l r=>.fnv f (sbL k es l) (sbL k es r)
 | .val v=>.val v
 | .ro l=>.ro l
 | .rop x j=>.rop x j
 | .sen t g=>.sen t g
 | .any=>.any
 | .mp k'=>.mp k'
def sbL (k:Nat) (es:List SV):List SV→List SV
 | []=>[]
 | x::l=>sbV k es x::sbL k es l
end
mutual
theorem sbV_pure (k:Nat) (es:List SV):∀x:SV,x.pure=true→sbV k es x=x
 | .mp _,_=>rfl
 | .view _ _ _,h=>by simp [SV.pure] at h
 | .ptr _ _ _,h=>by simp [SV.pure] at h
 | .agg l,h=>by simp only [sbV];rw [sbL_pure k es l (by simpa [SV.pure] using h)]
 | .tup l,h=>by simp only [sbV];rw [sbL_pure k es l (by simpa [SV.pure] using h)]
 | .ifc _ x,h=>by simp only [sbV];rw [sbV_pure k es x (by simpa [SV.pure] using h)]
 | .fnv _ l r,h=>by
  simp only [SV.pure,Bool.and_eq_true] at h
  simp only [sbV];rw [sbL_pure k es l h.1,sbL_pure k es r h.2]
 | .val _,_=>rfl
 | .ro _,_=>rfl
 | .rop _ _,_=>rfl
 | .sen _ _,_=>rfl
 | .any,_=>rfl
theorem sbL_pure (k:Nat) (es:List SV):∀l:List SV,SV.pureL l=true→sbL k es l=l
 | [],_=>rfl
 | x::l,h=>by
  simp only [SV.pureL,Bool.and_eq_true] at h
  simp only [sbL];rw [sbV_pure k es x h.1,sbL_pure k es l h.2]
end
theorem sbV_one (k:Nat) (es:List SV) (x:SV) (h:x.one=true):(sbV k es x).one=true:=by
 cases x with
 | ptr k' i j=>simp only [sbV];by_cases hc:k'=k∧i<es.length∧(lget es i).isTup=false<;>simp [hc,SV.one]
 | view k' i n=>simp only [sbV];by_cases hc:k'=k∧i+n≤es.length<;>simp [hc,SV.one]
 | agg l=>cases h
 | tup l=>cases h
 | val v=>exact h
 | _=>rfl
section
variable {P:Program} {C:Ctx} {β:Bnd} {H:Hp} {M:Tab} {w:World}
mutual
theorem sbV_den (hW:WOK C β H M w) {k:Nat} {e:Ent} (hk:tget M k=some e) (hf:e.fz=true):∀{x:SV} {v:Value},Den β H x v→Den β H (sbV k e.es x) v
 | .val _,v,h=>h
 | .ro _,v,h=>h
 | .rop _ _,v,h=>h
 | .sen _ _,v,h=>h
 | .any,v,h=>h
 | .mp _,v,h=>h
 | .agg l,v,h=>by
  simp only [Den,sbV] at h ⊢
  obtain ⟨vs,rfl,h⟩:=h
  exact ⟨vs,rfl,sbL_denL hW hk hf h⟩
 | .tup l,v,h=>by
  simp only [Den,sbV] at h ⊢
  obtain ⟨vs,rfl,h⟩:=h
  exact ⟨vs,rfl,sbL_denT hW hk hf h⟩
 | .ifc t x,v,h=>by
  simp only [Den,sbV] at h ⊢
  obtain ⟨u,rfl,h⟩:=h
  exact ⟨u,rfl,sbV_den hW hk hf h⟩
 | .fnv f l r,v,h=>by
  simp only [Den,sbV] at h ⊢
  obtain ⟨vs,ws,rfl,h1,h2⟩:=h
  exact ⟨vs,ws,rfl,sbL_denT hW hk hf h1,sbL_denT hW hk hf h2⟩
 | .view k' i n,v,h=>by
  simp only [sbV]
  split
  ·rename_i hc
   obtain ⟨rfl,hin⟩:=hc
   have hlen:((e.es.drop i).take n).length=n:=by simp;omega
   simp only [Den] at h ⊢
   rcases h with ⟨a1,rfl,rfl,rfl⟩ | ⟨d,c,o,a1,a2,a3,a4,rfl⟩
   ·left;exact ⟨by simp,_,_,rfl⟩
   ·rcases hW.ents k' e (tget_some hk) with ⟨b1,_⟩ | ⟨d',cs,T,vs,b1,b2,b3,b4,b5,b6,b7,b8⟩ | ⟨d',ms,b1,b2,b3,b4⟩
    rotate_left 2
    ·rw [a1] at b1;simp only [Option.some.injEq] at b1;subst b1
     rw [b2.2.1,b2.2.2] at a3
     have hn0:n=0:=by omega
     subst hn0
     left;exact ⟨by simp,_,_,rfl⟩
    ·rw [a1] at b1;simp at b1
    ·right
     rw [a1] at b1;simp only [Option.some.injEq] at b1;subst b1
     obtain ⟨c1,c2⟩:=b8 hf
     have b5':=pureL_den b5 c2
     have hl:=b5'.length
     rcases Nat.eq_zero_or_pos n with rfl | hn
     ·exact ⟨d.b,o,c,e.sz,cs,[],by simp,by simp,c1,by simp [DenE],by simp⟩
     ·have ho:=a4 (by omega)
      refine ⟨d.b,o,c,e.sz,cs,(vs.drop (i*e.sz)).take (n*e.sz),by rw [hlen],by rw [hlen];exact a2,c1,(b5'.drop i).take n,fun q hq=>?_⟩
      simp only [List.length_take,List.length_drop] at hq
      rw [List.getElem?_take_of_lt (by omega),List.getElem?_drop,ho,b2]
      exact b7 _ (by omega)
  ·exact h
 | .ptr k' i j,v,h=>by
  simp only [sbV]
  split
  ·rename_i hc
   obtain ⟨rfl,hin,hnt⟩:=hc
   simp only [Den] at h ⊢
   obtain ⟨d,a1,rfl⟩:=h
   rcases hW.ents k' e (tget_some hk) with ⟨b1,_⟩ | ⟨d',cs,T,vs,b1,b2,b3,b4,b5,b6,b7,b8⟩ | ⟨d',ms,b1,b2,b3,b4⟩
   rotate_left 2
   ·obtain ⟨l,hl⟩:=b4.tups _ hin
    rw [hl] at hnt;simp [SV.isTup] at hnt
   ·rw [a1] at b1;simp at b1
   ·rw [a1] at b1;simp only [Option.some.injEq] at b1;subst b1
    obtain ⟨c1,c2⟩:=b8 hf
    have b5':=pureL_den b5 c2
    have hl:=b5'.length
    obtain ⟨u,u1,u2,u3⟩:=b5'.get hin
    refine ⟨d.b,i*e.sz,cs,u,by rw [b2],c1,u1,fun q hq=>?_⟩
    rw [u2] at hq
    have:=Nat.mul_le_mul_right e.sz (show i+1≤e.es.length from hin)
    rw [Nat.add_mul,Nat.one_mul] at this
    rw [b7 _ (by omega)]
    exact u3 q hq
  ·exact h
theorem sbL_denL (hW:WOK C β H M w) {k:Nat} {e:Ent} (hk:tget M k=some e) (hf:e.fz=true):∀{l:List SV} {vs:List Value},DenL β H l vs→DenL β H (sbL k e.es l) vs
 | [],vs,h=>h
 | x::l,vs,h=>by
  simp only [DenL,sbL] at h ⊢
  obtain ⟨v,r,rfl,h1,h2,h3⟩:=h
  exact ⟨v,r,rfl,sbV_one k e.es x h1,sbV_den hW hk hf h2,sbL_denL hW hk hf h3⟩
theorem sbL_denT (hW:WOK C β H M w) {k:Nat} {e:Ent} (hk:tget M k=some e) (hf:e.fz=true):∀{l:List SV} {vs:List Value},DenT β H l vs→DenT β H (sbL k e.es l) vs
 | [],vs,h=>h
 | x::l,vs,h=>by
  simp only [DenT,sbL] at h ⊢
  obtain ⟨v,r,rfl,h2,h3⟩:=h
  exact ⟨v,r,rfl,sbV_den hW hk hf h2,sbL_denT hW hk hf h3⟩
end
theorem sbL_denE (hW:WOK C β H M w) {k:Nat} {e:Ent} (hk:tget M k=some e) (hf:e.fz=true) {s:Nat}:∀{l:List SV} {vs:List Value},DenE β H s l vs→DenE β H s (sbL k e.es l) vs
 | [],vs,h=>h
 | x::l,vs,h=>by
  simp only [DenE,sbL] at h ⊢
  obtain ⟨v,r,rfl,h1,h2,h3⟩:=h
  exact ⟨v,r,rfl,h1,sbV_den hW hk hf h2,sbL_denE hW hk hf h3⟩
theorem sbL_denK (hW:WOK C β H M w) {k:Nat} {e:Ent} (hk:tget M k=some e) (hf:e.fz=true):∀{l:List SV} {ms:List MapEntry} {n:Nat},DenK β H l ms n→DenK β H (sbL k e.es l) ms n
 | [],ms,n,h=>h
 | x::l,ms,n,h=>by
  simp only [DenK,sbL] at h ⊢
  obtain ⟨key,y,m,r,rfl,h2,h3,h4,h5,h6,h7⟩:=h
  exact ⟨key,sbV k e.es y,m,r,by simp only [sbV,sbL],h2,h3,h4,h5,sbV_den hW hk hf h6,sbL_denK hW hk hf h7⟩
def sbM (k:Nat) (es:List SV) (M:Tab):Tab:=M.map fun oe=>oe.map fun e=>⟨e.sz,sbL k es e.es,e.fz⟩
def sbF (k:Nat) (es:List SV) (fr:List (Nat × SV)):List (Nat × SV):=fr.map fun q=>(q.1,sbV k es q.2)
theorem WOK.sb (h:WOK C β H M w) {k:Nat} {e:Ent} (hk:tget M k=some e) (hf:e.fz=true):WOK C β H (sbM k e.es M) w:=by
 have at_:∀(i:Nat) (x:Ent),(sbM k e.es M)[i]?=some (some x)→∃e0:Ent,M[i]?=some (some e0)∧x=⟨e0.sz,sbL k e.es e0.es,e0.fz⟩:=fun i x hi=>by
  simp only [sbM,List.getElem?_map] at hi
  cases hm:M[i]? with
  | none=>rw [hm] at hi;cases hi
  | some oe =>
   rw [hm] at hi
   cases oe with
   | none=>simp at hi
   | some e0=>simp at hi;exact ⟨e0,rfl,hi.symm⟩
 refine ⟨h.os,h.tape,h.output,h.size,h.frame,h.ext,h.new,h.inv,fun i x hi=>?_,fun i x d hi hd=>?_,fun i i' e1 e2 d1 d2 hi hi' hd1 hd2 hb=>?_,fun i hi=>h.fresh i (by simpa [sbM] using hi),h.keep,h.glob⟩
 ·obtain ⟨e0,he0,rfl⟩:=at_ i x hi
  rcases h.ents i e0 he0 with ⟨h1,h2⟩ | ⟨d,cs,T,vs,h1,h2,h3,h4,h5,h6,h7,h8⟩ | ⟨d,ms,h1,h2,h3,h4⟩
  ·exact .inl ⟨h1,by simp [h2,sbL]⟩
  ·refine .inr (.inl ⟨d,cs,T,vs,h1,h2,h3,h4,sbL_denE h hk hf h5,h6,h7,fun hfz=>?_⟩)
   obtain ⟨g1,g2⟩:=h8 hfz
   exact ⟨g1,by simp only;rw [sbL_pure k e.es _ g2];exact g2⟩
  ·exact .inr (.inr ⟨d,ms,h1,h2,h3,sbL_denK h hk hf h4⟩)
 ·obtain ⟨e0,he0,rfl⟩:=at_ i x hi
  exact h.own i e0 d he0 hd
 ·obtain ⟨e0,he0,rfl⟩:=at_ i e1 hi
  obtain ⟨e0',he0',rfl⟩:=at_ i' e2 hi'
  exact h.inj i i' e0 e0' d1 d2 he0 he0' hd1 hd2 hb
theorem get_sbF {k:Nat} {es:List SV}:∀{fr:List (Nat × SV)} {t:Nat} {x:SV},get (sbF k es fr) t=some x→∃y,get fr t=some y∧x=sbV k es y
 | [],t,x,h=>by simp [sbF,get] at h
 | (s,y)::r,t,x,h=>by
  simp only [sbF,List.map_cons,get] at h ⊢
  split at h
  ·rename_i e
   simp only [Option.some.injEq] at h
   exact ⟨y,by rw [if_pos e],h.symm⟩
  ·rename_i e
   obtain ⟨z,h1,h2⟩:=get_sbF (fr:=r) h
   exact ⟨z,by rw [if_neg e];exact h1,h2⟩
def frzS (k:Nat) (st:St):St:=match tget st.M k with
 | some e=>⟨st.n,sbF k e.es st.fr,sbM k e.es (tset st.M k (some ⟨e.sz,e.es,true⟩))⟩
 | none=>st
theorem Le.frz {st:St} (k:Nat) {e:Ent} (hk:tget st.M k=some e) (hp:SV.pureL e.es=true):Le C st (frzS k st):=by
 rintro a w ⟨β,H,hF,hW⟩
 obtain ⟨H',h1,h2⟩:=hW.freeze (tget_some hk) hp
 rw [←tset_eq] at h2
 have hk':tget (tset st.M k (some ⟨e.sz,e.es,true⟩)) k=some ⟨e.sz,e.es,true⟩:=by
  rw [tget_set _ _ _ _ ⟨e,hk⟩,if_pos rfl]
 have hF':=hF.mono (β':=β) (H':=H') (fun _ _ h=>h) h1
 unfold frzS
 rw [hk]
 show SIM C ⟨st.n,sbF k e.es st.fr,sbM k e.es (tset st.M k (some ⟨e.sz,e.es,true⟩))⟩ a w
 refine ⟨β,H',⟨⟨hF'.1.1,hF'.1.2⟩,hF'.2.1,fun t x hg=>?_⟩,h2.sb (e:=⟨e.sz,e.es,true⟩) hk' rfl⟩
 obtain ⟨y,hy,rfl⟩:=get_sbF hg
 obtain ⟨v,hv,hd⟩:=hF'.2.2 t y hy
 exact ⟨v,hv,sbV_den (e:=⟨e.sz,e.es,true⟩) h2 hk' rfl hd⟩
theorem CodeJ.frz {c:Code} {st:St} {Q:Post} (k:Nat) {e:Ent} (hk:tget st.M k=some e) (hp:SV.pureL e.es=true) (h:CodeJ P C c (frzS k st) Q):CodeJ P C c st Q:=CodeJ.le (Le.frz k hk hp) h
def wkQ (C:Ctx) (Q:Post):Post:=fun e st=>∃st',Le C st st'∧Q e st'
theorem QQ_wk {C:Ctx} {Q:Post}:∀e a w,QQ C (wkQ C Q) e a w→QQ C Q e a w:=fun e a w ⟨st,⟨st',h1,h2⟩,h3⟩=>⟨st',h2,h1 a w h3⟩
theorem CodeJ.wk {c:Code} {st:St} {Q:Post} (h:CodeJ P C c st (wkQ C Q)):CodeJ P C c st Q:=fun a w hs=>wp_mono (h a w hs) QQ_wk
theorem pure_enterW {f:FuncId} {fn:Func} {c:Code} {args:List SV} {Φ:SV→Prop} (hf:P.funcs[f]?=some fn) (hb:fn.body=some c) (hn:args.length≤fn.ntmps)
  (h:∀C:Ctx,C.fx=[]→vc P C c ⟨fn.ntmps,argFr 0 args,[]⟩ (wkQ C (retQ P fn.results.toList Φ)) (wkQ C (retQ P fn.results.toList Φ))):PureC P f args Φ :=
 pure_enterJ hf hb hn fun C hC=>CodeJ.wk (vc_ok c _ (fun _ _ h=>h) (fun _ _ h=>h) (h C hC))
@[simp] theorem sbM_nil {k:Nat} {es:List SV}:sbM k es []=[]:=rfl
@[simp] theorem sbM_none {k:Nat} {es:List SV} {M:Tab}:sbM k es (none::M)=none::sbM k es M:=rfl
@[simp] theorem sbM_some {k sz:Nat} {es l:List SV} {f:Bool} {M:Tab}:sbM k es (some ⟨sz,l,f⟩::M)=some ⟨sz,sbL k es l,f⟩::sbM k es M:=rfl
@[simp] theorem sbF_nil {k:Nat} {es:List SV}:sbF k es []=[]:=rfl
@[simp] theorem sbF_cons {k t:Nat} {es:List SV} {x:SV} {fr:List (Nat × SV)}:sbF k es ((t,x)::fr)=(t,sbV k es x)::sbF k es fr:=rfl
@[simp] theorem sbL_nil {k:Nat} {es:List SV}:sbL k es []=[]:=rfl
@[simp] theorem sbL_cons {k:Nat} {es l:List SV} {x:SV}:sbL k es (x::l)=sbV k es x::sbL k es l:=rfl
@[simp] theorem sbV_view {k k' i n:Nat} {es:List SV}:sbV k es (.view k' i n)=if k'=k∧i+n≤es.length then .ro ((es.drop i).take n) else .view k' i n:=by simp only [sbV]
@[simp] theorem sbV_ptr {k k' i j:Nat} {es:List SV}:sbV k es (.ptr k' i j)=if k'=k∧i<es.length∧(lget es i).isTup=false then .rop (lget es i) j else .ptr k' i j:=by simp only [sbV]
@[simp] theorem sbV_agg {k:Nat} {es l:List SV}:sbV k es (.agg l)=.agg (sbL k es l):=by simp only [sbV]
@[simp] theorem sbV_tup {k:Nat} {es l:List SV}:sbV k es (.tup l)=.tup (sbL k es l):=by simp only [sbV]
@[simp] theorem sbV_val {k:Nat} {es:List SV} {v:Value}:sbV k es (.val v)=.val v:=by simp only [sbV]
@[simp] theorem sbV_ro {k:Nat} {es l:List SV}:sbV k es (.ro l)=.ro l:=by simp only [sbV]
@[simp] theorem sbV_rop {k j:Nat} {es:List SV} {x:SV}:sbV k es (.rop x j)=.rop x j:=by simp only [sbV]
@[simp] theorem sbV_sen {k t g:Nat} {es:List SV}:sbV k es (.sen t g)=.sen t g:=by simp only [sbV]
@[simp] theorem sbV_any {k:Nat} {es:List SV}:sbV k es .any=.any:=by simp only [sbV]
@[simp] theorem sbV_mp {k k':Nat} {es:List SV}:sbV k es (.mp k')=.mp k':=by simp only [sbV]
end
section
variable {P:Program} {C:Ctx} {β:Bnd} {H:Hp} {M:Tab} {w:World}
theorem CodeJ.loopL {c:Code} {st:St} {Q:Post} {ι:Type} (I:ι→St) (Cn:ι→Prop) (μ:ι→Nat) (i0:ι) (h0:Cn i0) (hl:leS C st (I i0))
  (hr:∀i,Cn i→vc P C c (I i) (thn (fun st'=>∃j,Cn j∧μ j<μ i∧Le C st' (I j)) Q) (thn (fun st'=>∃j,Cn j∧μ j<μ i∧Le C st' (I j)) Q)):CodeJ P C (.loop c) st Q:=by
 intro a w hs
 refine wp_loop_ix (fun i a w=>Cn i∧SIM C (I i) a w) μ i0 ⟨h0,Le.syn hl a w hs⟩ ?_
 rintro i a w ⟨hc,hs⟩
 refine wp_mono (vc_ok c _ (fun _ _ h=>h) (fun _ _ h=>h) (hr i hc) a w hs) ?_
 rintro e a' w' ⟨st',h1,h2⟩
 cases e<;>simp only [thn,Exit.then] at h1 ⊢<;>first | exact ⟨st',h1,h2⟩ | skip
 obtain ⟨j,g1,g2,g3⟩:=h1
 exact ⟨j,⟨g1,g3 a' w' h2⟩,g2⟩
theorem Le.nilCell {st:St} (k j s:Nat) {e:Ent} {l:List SV} (hk:tget st.M k=some e) (hes:e.es=[.agg l]) (hfz:e.fz=false) (hj:lget l j=.val (.slice none 0 0)) (hjl:j<l.length) :
  Le C st ⟨st.n,st.fr,tset st.M k (some ⟨e.sz,[.agg (lset l j (.view st.M.length 0 0))],false⟩)++[some ⟨s,[],false⟩]⟩:=by
 rintro a w ⟨β,H,hF,hW⟩
 have hk':=tget_some hk
 have hkl:k<st.M.length:=by
  rcases Nat.lt_or_ge k st.M.length with h' | h'
  ·exact h'
  ·rw [List.getElem?_eq_none h'] at hk';cases hk'
 have hW2:=hW.nil s
 refine ⟨β.upd st.M.length none,H,hF.mono (upd_old hW none) (fun _ _ h=>h),?_⟩
 have hden:∀{l:List SV} {vs:List Value} {j:Nat},DenL (β.upd st.M.length none) H l vs→lget l j=.val (.slice none 0 0)→j<l.length→DenL (β.upd st.M.length none) H (lset l j (.view st.M.length 0 0)) vs:=by
  intro l
  induction l with
  | nil=>intro vs j _ _ hj;simp at hj
  | cons x l ih =>
   intro vs j h hj hjl
   simp only [DenL] at h
   obtain ⟨v,r,rfl,h1,h2,h3⟩:=h
   cases j with
   | zero =>
    simp only [lget] at hj
    subst hj
    simp only [lset,DenL]
    refine ⟨v,r,rfl,rfl,?_,h3⟩
    simp only [Den] at h2 ⊢
    left
    exact ⟨by simp [Bnd.upd],trivial,trivial,h2.1⟩
   | succ j =>
    simp only [lset,DenL]
    exact ⟨v,r,rfl,h1,h2,ih h3 (by simpa [lget] using hj) (by simpa using hjl)⟩
 have e1:tset st.M k (some ⟨e.sz,[.agg (lset l j (.view st.M.length 0 0))],false⟩)++[some (⟨s,[],false⟩:Ent)]=(st.M++[some (⟨s,[],false⟩:Ent)]).set k (some ⟨e.sz,[.agg (lset l j (.view st.M.length 0 0))],false⟩):=by
  rw [tset_eq,List.set_append_left _ _ hkl]
 show WOK C _ H (tset st.M k _++_) w
 rw [e1]
 have hkM:(st.M++[some (⟨s,[],false⟩:Ent)])[k]?=some (some e):=by rw [List.getElem?_append_left hkl];exact hk'
 refine ⟨hW2.os,hW2.tape,hW2.output,hW2.size,hW2.frame,hW2.ext,hW2.new,hW2.inv,fun i x hi=>?_,fun i x d hi hd=>?_,fun i i' x1 x2 d1 d2 hi hi' hd1 hd2 hb=>?_,fun i hi=>hW2.fresh i (by simpa using hi),hW2.keep,hW2.glob⟩
 ·rcases getElem?_set_cases hi with ⟨rfl,he,_⟩ | ⟨_,hi'⟩
  ·simp only [Option.some.injEq] at he
   subst he
   rcases hW2.ents i e hkM with ⟨h1,h2⟩ | ⟨d,cs,T,vs,h1,h2,h3,h4,h5,h6,h7,h8⟩ | ⟨d,ms,h1,h2,h3,h4⟩
   rotate_left 2
   ·rw [hes] at h4
    obtain ⟨q,hq⟩:=h4.tups 0 (by simp)
    simp [lget] at hq
   ·rw [hes] at h2;cases h2
   ·refine .inr (.inl ⟨d,cs,T,vs,h1,h2,h3,h4,?_,h6,h7,fun hf=>by cases hf⟩)
    rw [hes] at h5
    simp only [DenE] at h5 ⊢
    obtain ⟨v,r,rfl,g1,g2,g3⟩:=h5
    refine ⟨v,r,rfl,g1,?_,g3⟩
    simp only [Den] at g2 ⊢
    obtain ⟨us,rfl,g4⟩:=g2
    exact ⟨us,rfl,hden g4 hj hjl⟩
  ·exact hW2.ents i x hi'
 ·rcases getElem?_set_cases hi with ⟨rfl,he,_⟩ | ⟨_,hi'⟩
  ·simp only [Option.some.injEq] at he
   subst he
   have:=hW2.own i e d hkM hd
   exact ⟨fun _=>this.1 hfz,this.2⟩
  ·exact hW2.own i x d hi' hd
 ·have aux:∀(q:Nat) (x:Ent),((st.M++[some (⟨s,[],false⟩:Ent)]).set k (some ⟨e.sz,[.agg (lset l j (.view st.M.length 0 0))],false⟩))[q]?=some (some x)→∃x0:Ent,(st.M++[some (⟨s,[],false⟩:Ent)])[q]?=some (some x0):=fun q x hq=>by
   rcases getElem?_set_cases hq with ⟨rfl,_,_⟩ | ⟨_,hq'⟩
   ·exact ⟨e,hkM⟩
   ·exact ⟨x,hq'⟩
  obtain ⟨y1,hy1⟩:=aux i x1 hi
  obtain ⟨y2,hy2⟩:=aux i' x2 hi'
  exact hW2.inj i i' y1 y2 d1 d2 hy1 hy2 hd1 hd2 hb
end
mutual
def nlV:SV→SV
 | .val (.slice none 0 0)=>.ro []
 | .val v=>.val v
 | .agg l=>.agg (nlL l)
 | .tup l=>.tup (nlL l)
 | .ifc t x=>.ifc t (nlV x)
 | x=>x
def nlL:List SV→List SV
 | []=>[]
 | x::l=>nlV x::nlL l
end
theorem nlV_val {v:Value}:nlV (.val v)=.val v∨(v=.slice none 0 0∧nlV (.val v)=.ro []):=by
 by_cases h:v=.slice none 0 0
 ·right;subst h;exact ⟨rfl,rfl⟩
 ·left;unfold nlV;split<;>simp_all
theorem nlV_one (x:SV) (h:x.one=true):(nlV x).one=true:=by
 cases x with
 | val v=>rcases nlV_val (v:=v) with e | ⟨_,e⟩<;>rw [e];exact h;rfl
 | agg l=>cases h
 | tup l=>cases h
 | _=>rfl
section
variable {P:Program} {C:Ctx} {β:Bnd} {H:Hp} {M:Tab} {w:World}
mutual
theorem nlV_den:∀{x:SV} {v:Value},Den β H x v→Den β H (nlV x) v
 | .val u,v,h=>by
  rcases nlV_val (v:=u) with e | ⟨e1,e⟩
  ·rw [e];exact h
  ·rw [e];subst e1
   simp only [Den] at h ⊢
   left;exact ⟨trivial,_,_,h.1⟩
 | .agg l,v,h=>by
  simp only [Den,nlV] at h ⊢
  obtain ⟨vs,rfl,h⟩:=h
  exact ⟨vs,rfl,nlL_denL h⟩
 | .tup l,v,h=>by
  simp only [Den,nlV] at h ⊢
  obtain ⟨vs,rfl,h⟩:=h
  exact ⟨vs,rfl,nlL_denT h⟩
 | .ifc t x,v,h=>by
  simp only [Den,nlV] at h ⊢
  obtain ⟨u,rfl,h⟩:=h
  exact ⟨u,rfl,nlV_den h⟩
 | .fnv f l r,v,h=>h
 | .view _ _ _,v,h=>h
 | .ptr _ _ _,v,h=>h
 | .ro _,v,h=>h
 | .rop _ _,v,h=>h
 | .sen _ _,v,h=>h
 | .any,v,h=>h
 | .mp _,v,h=>h
theorem nlL_denL:∀{l:List SV} {vs:List Value},DenL β H l vs→DenL β H (nlL l) vs
 | [],vs,h=>h
 | x::l,vs,h=>by
  simp only [DenL,nlL] at h ⊢
  obtain ⟨v,r,rfl,h1,h2,h3⟩:=h
  exact ⟨v,r,rfl,nlV_one x h1,nlV_den h2,nlL_denL h3⟩
theorem nlL_denT:∀{l:List SV} {vs:List Value},DenT β H l vs→DenT β H (nlL l) vs
 | [],vs,h=>h
 | x::l,vs,h=>by
  simp only [DenT,nlL] at h ⊢
  obtain ⟨v,r,rfl,h2,h3⟩:=h
  exact ⟨v,r,rfl,nlV_den h2,nlL_denT h3⟩
end
theorem nlL_denE {s:Nat}:∀{l:List SV} {vs:List Value},DenE β H s l vs→DenE β H s (nlL l) vs
 | [],vs,h=>h
 | x::l,vs,h=>by
  simp only [DenE,nlL] at h ⊢
  obtain ⟨v,r,rfl,h1,h2,h3⟩:=h
  exact ⟨v,r,rfl,h1,nlV_den h2,nlL_denE h3⟩
mutual
theorem nlV_pure:∀{x:SV},x.pure=true→(nlV x).pure=true
 | .val u,h=>by
  rcases nlV_val (v:=u) with e | ⟨e1,e⟩<;>rw [e]<;>rfl
 | .agg l,h=>by simp only [nlV,SV.pure] at h ⊢;exact nlL_pure h
 | .tup l,h=>by simp only [nlV,SV.pure] at h ⊢;exact nlL_pure h
 | .ifc t x,h=>by simp only [nlV,SV.pure] at h ⊢;exact nlV_pure h
 | .fnv f l r,h=>h
 | .view _ _ _,h=>h
 | .ptr _ _ _,h=>h
 | .ro _,h=>h
 | .rop _ _,h=>h
 | .sen _ _,h=>h
 | .any,h=>h
 | .mp _,h=>h
theorem nlL_pure:∀{l:List SV},SV.pureL l=true→SV.pureL (nlL l)=true
 | [],h=>h
 | x::l,h=>by
  simp only [SV.pureL,nlL,Bool.and_eq_true] at h ⊢
  exact ⟨nlV_pure h.1,nlL_pure h.2⟩
end
theorem nlL_denK:∀{l:List SV} {ms:List MapEntry} {n:Nat},DenK β H l ms n→(∀x∈l,∀u y,x=.tup [.val u,y]→nlV (.val u)=.val u)→DenK β H (nlL l) ms n
 | [],ms,n,h,_=>h
 | x::l,ms,n,h,hn=>by
  simp only [DenK,nlL] at h ⊢
  obtain ⟨key,y,m,r,rfl,h2,h3,h4,h5,h6,h7⟩:=h
  refine ⟨key,nlV y,m,r,by simp only [nlV,nlL];rw [hn (.tup [.val key,y]) (List.mem_cons_self ..) key y rfl],h2,h3,h4,h5,nlV_den h6,nlL_denK h7 fun x hx=>hn x (by simp [hx])⟩
theorem keys_nl:∀{l:List SV} {ms:List MapEntry} {n:Nat},DenK β H l ms n→∀x∈l,∀u y,x=.tup [.val u,y]→nlV (.val u)=.val u
 | [],ms,n,h,x,hx,_,_,_=>by cases hx
 | z::l,ms,n,h,x,hx,u,y,e=>by
  simp only [DenK] at h
  obtain ⟨key,y',m,r,rfl,h2,h3,h4,h5,h6,h7⟩:=h
  rcases List.mem_cons.1 hx with rfl | hx
  ·simp only [SV.tup.injEq,List.cons.injEq,SV.val.injEq] at e
   obtain ⟨rfl, -⟩:=e
   rcases nlV_val (v:=key) with e | ⟨e1, -⟩
   ·exact e
   ·subst e1;cases h4
  ·exact keys_nl h7 x hx u y e
def nlM (M:Tab):Tab:=M.map fun oe=>oe.map fun e=>⟨e.sz,nlL e.es,e.fz⟩
def nlF (fr:List (Nat × SV)):List (Nat × SV):=fr.map fun q=>(q.1,nlV q.2)
theorem WOK.nl (h:WOK C β H M w):WOK C β H (nlM M) w:=by
 have at_:∀(i:Nat) (x:Ent),(nlM M)[i]?=some (some x)→∃e0:Ent,M[i]?=some (some e0)∧x=⟨e0.sz,nlL e0.es,e0.fz⟩:=fun i x hi=>by
  simp only [nlM,List.getElem?_map] at hi
  cases hm:M[i]? with
  | none=>rw [hm] at hi;cases hi
  | some oe =>
   rw [hm] at hi
   cases oe with
   | none=>simp at hi
   | some e0=>simp at hi;exact ⟨e0,rfl,hi.symm⟩
 refine ⟨h.os,h.tape,h.output,h.size,h.frame,h.ext,h.new,h.inv,fun i x hi=>?_,fun i x d hi hd=>?_,fun i i' e1 e2 d1 d2 hi hi' hd1 hd2 hb=>?_,fun i hi=>h.fresh i (by simpa [nlM] using hi),h.keep,h.glob⟩
 ·obtain ⟨e0,he0,rfl⟩:=at_ i x hi
  rcases h.ents i e0 he0 with ⟨h1,h2⟩ | ⟨d,cs,T,vs,h1,h2,h3,h4,h5,h6,h7,h8⟩ | ⟨d,ms,h1,h2,h3,h4⟩
  ·exact .inl ⟨h1,by simp [h2,nlL]⟩
  ·exact .inr (.inl ⟨d,cs,T,vs,h1,h2,h3,h4,nlL_denE h5,h6,h7,fun hfz=>⟨(h8 hfz).1,nlL_pure (h8 hfz).2⟩⟩)
  ·exact .inr (.inr ⟨d,ms,h1,h2,h3,nlL_denK h4 (keys_nl h4)⟩)
 ·obtain ⟨e0,he0,rfl⟩:=at_ i x hi
  exact h.own i e0 d he0 hd
 ·obtain ⟨e0,he0,rfl⟩:=at_ i e1 hi
  obtain ⟨e0',he0',rfl⟩:=at_ i' e2 hi'
  exact h.inj i i' e0 e0' d1 d2 he0 he0' hd1 hd2 hb
theorem get_nlF:∀{fr:List (Nat × SV)} {t:Nat} {x:SV},get (nlF fr) t=some x→∃y,get fr t=some y∧x=nlV y
 | [],t,x,h=>by simp [nlF,get] at h
 | (s,y)::r,t,x,h=>by
  simp only [nlF,List.map_cons,get] at h ⊢
  split at h
  ·rename_i e
   simp only [Option.some.injEq] at h
   exact ⟨y,by rw [if_pos e],h.symm⟩
  ·rename_i e
   obtain ⟨z,h1,h2⟩:=get_nlF (fr:=r) h
   exact ⟨z,by rw [if_neg e];exact h1,h2⟩
def nlS (st:St):St:=⟨st.n,nlF st.fr,nlM st.M⟩
theorem Le.nl (st:St):Le C st (nlS st):=by
 rintro a w ⟨β,H,hF,hW⟩
 refine ⟨β,H,⟨⟨hF.1.1,hF.1.2⟩,hF.2.1,fun t x hg=>?_⟩,hW.nl⟩
 obtain ⟨y,hy,rfl⟩:=get_nlF hg
 obtain ⟨v,hv,hd⟩:=hF.2.2 t y hy
 exact ⟨v,hv,nlV_den hd⟩
@[simp] theorem nlM_nil:nlM []=[]:=rfl
@[simp] theorem nlM_none {M:Tab}:nlM (none::M)=none::nlM M:=rfl
@[simp] theorem nlM_some {sz:Nat} {l:List SV} {f:Bool} {M:Tab}:nlM (some ⟨sz,l,f⟩::M)=some ⟨sz,nlL l,f⟩::nlM M:=rfl
@[simp] theorem nlF_nil:nlF []=[]:=rfl
@[simp] theorem nlF_cons {t:Nat} {x:SV} {fr:List (Nat × SV)}:nlF ((t,x)::fr)=(t,nlV x)::nlF fr:=rfl
@[simp] theorem nlL_nil:nlL []=[]:=rfl
@[simp] theorem nlL_cons {l:List SV} {x:SV}:nlL (x::l)=nlV x::nlL l:=rfl
@[simp] theorem nlV_nil:nlV (.val (.slice none 0 0))=.ro []:=rfl
@[simp] theorem nlV_int {k:IntKind} {n:Int}:nlV (.val (.int k n))=.val (.int k n):=rfl
@[simp] theorem nlV_bool {b:Bool}:nlV (.val (.bool b))=.val (.bool b):=rfl
@[simp] theorem nlV_str {b:ByteArray}:nlV (.val (.string b))=.val (.string b):=rfl
@[simp] theorem nlV_iface:nlV (.val .nilIface)=.val .nilIface:=rfl
@[simp] theorem nlV_pnil:nlV (.val (.pointer none))=.val (.pointer none):=rfl
@[simp] theorem nlV_agg {l:List SV}:nlV (.agg l)=.agg (nlL l):=by simp only [nlV]
@[simp] theorem nlV_tup {l:List SV}:nlV (.tup l)=.tup (nlL l):=by simp only [nlV]
@[simp] theorem nlV_view {k i n:Nat}:nlV (.view k i n)=.view k i n:=by simp only [nlV]
@[simp] theorem nlV_ptr {k i n:Nat}:nlV (.ptr k i n)=.ptr k i n:=by simp only [nlV]
@[simp] theorem nlV_ro {l:List SV}:nlV (.ro l)=.ro l:=by simp only [nlV]
@[simp] theorem nlV_rop {x:SV} {j:Nat}:nlV (.rop x j)=.rop x j:=by simp only [nlV]
@[simp] theorem nlV_sen {t g:Nat}:nlV (.sen t g)=.sen t g:=by simp only [nlV]
end
end Go.Sv
namespace Go.Sv
open Go Go.RowKit
mutual
def ren (σ:Nat→Nat):SV→SV
 | .ptr k i j=>.ptr (σ k) i j
 | .view k i n=>.view (σ k) i n
 | .mp k=>.mp (σ k)
 | .agg l=>.agg (renL σ l)
 | .tup l=>.tup (renL σ l)
 | .ifc t x=>.ifc t (ren σ x)
 | .fnv f l r=>.fnv f (renL σ l) (renL σ r)
 | .val v=>.val v
 | .ro l=>.ro l
 | .rop x j=>.rop x j
 | .sen t g=>.sen t g
 | .any=>.any
def renL (σ:Nat→Nat):List SV→List SV
 | []=>[]
 | x::l=>ren σ x::renL σ l
end
mutual
theorem ren_pure (σ:Nat→Nat):∀x:SV,x.pure=true→ren σ x=x
 | .ptr _ _ _,h=>by simp [SV.pure] at h
 | .view _ _ _,h=>by simp [SV.pure] at h
 | .mp _,h=>by simp [SV.pure] at h
 | .agg l,h=>by simp only [ren];rw [renL_pure σ l (by simpa [SV.pure] using h)]
 | .tup l,h=>by simp only [ren];rw [renL_pure σ l (by simpa [SV.pure] using h)]
 | .ifc _ x,h=>by simp only [ren];rw [ren_pure σ x (by simpa [SV.pure] using h)]
 | .fnv _ l r,h=>by
  simp only [SV.pure,Bool.and_eq_true] at h
  simp only [ren];rw [renL_pure σ l h.1,renL_pure σ r h.2]
 | .val _,_=>rfl
 | .ro _,_=>rfl
 | .rop _ _,_=>rfl
 | .sen _ _,_=>rfl
 | .any,_=>rfl
theorem renL_pure (σ:Nat→Nat):∀l:List SV,SV.pureL l=true→renL σ l=l
 | [],_=>rfl
 | x::l,h=>by
  simp only [SV.pureL,Bool.and_eq_true] at h
  simp only [renL];rw [ren_pure σ x h.1,renL_pure σ l h.2]
end
mutual
theorem pure_ren (σ:Nat→Nat):∀x:SV,(ren σ x).pure=x.pure
 | .ptr _ _ _=>rfl
 | .view _ _ _=>rfl
 | .mp _=>rfl
 | .agg l=>by simp only [ren,SV.pure];exact pureL_ren σ l
 | .tup l=>by simp only [ren,SV.pure];exact pureL_ren σ l
 | .ifc _ x=>by simp only [ren,SV.pure];exact pure_ren σ x
 | .fnv _ l r=>by simp only [ren,SV.pure];rw [pureL_ren σ l,pureL_ren σ r]
 | .val _=>rfl
 | .ro _=>rfl
 | .rop _ _=>rfl
 | .sen _ _=>rfl
 | .any=>rfl
theorem pureL_ren (σ:Nat→Nat):∀l:List SV,SV.pureL (renL σ l)=SV.pureL l
 | []=>rfl
 | x::l=>by simp only [renL,SV.pureL];rw [pure_ren σ x,pureL_ren σ l]
end
theorem one_ren (σ:Nat→Nat) (x:SV):(ren σ x).one=x.one:=by cases x<;>rfl
section
variable {β:Bnd} {H:Hp} {σ:Nat→Nat}
mutual
theorem ren_den:∀{x:SV} {v:Value},Den β H (ren σ x) v↔Den (fun k=>β (σ k)) H x v
 | .ptr _ _ _,_=>by simp only [ren,Den]
 | .view _ _ _,_=>by simp only [ren,Den]
 | .mp _,_=>by simp only [ren,Den]
 | .agg l,v=>by simp only [ren,Den];exact exists_congr fun vs=>and_congr Iff.rfl renL_den
 | .tup l,v=>by simp only [ren,Den];exact exists_congr fun vs=>and_congr Iff.rfl renT_den
 | .ifc _ x,v=>by simp only [ren,Den];exact exists_congr fun u=>and_congr Iff.rfl ren_den
 | .fnv _ l r,v=>by simp only [ren,Den];exact exists_congr fun vs=>exists_congr fun ws=>and_congr Iff.rfl (and_congr renT_den renT_den)
 | .val _,_=>by simp only [ren,Den]
 | .ro _,_=>by simp only [ren,Den]
 | .rop _ _,_=>by simp only [ren,Den]
 | .sen _ _,_=>by simp only [ren,Den]
 | .any,_=>by simp only [ren,Den]
theorem renL_den:∀{l:List SV} {vs:List Value},DenL β H (renL σ l) vs↔DenL (fun k=>β (σ k)) H l vs
 | [],_=>by simp only [renL,DenL]
 | x::l,vs=>by
  simp only [renL,DenL,one_ren]
  exact exists_congr fun v=>exists_congr fun r=>and_congr Iff.rfl (and_congr Iff.rfl (and_congr ren_den renL_den))
theorem renT_den:∀{l:List SV} {vs:List Value},DenT β H (renL σ l) vs↔DenT (fun k=>β (σ k)) H l vs
 | [],_=>by simp only [renL,DenT]
 | x::l,vs=>by
  simp only [renL,DenT]
  exact exists_congr fun v=>exists_congr fun r=>and_congr Iff.rfl (and_congr ren_den renT_den)
end
theorem renE_den {s:Nat}:∀{l:List SV} {vs:List Value},DenE β H s (renL σ l) vs↔DenE (fun k=>β (σ k)) H s l vs
 | [],_=>by simp only [renL,DenE]
 | x::l,vs=>by
  simp only [renL,DenE]
  exact exists_congr fun v=>exists_congr fun r=>and_congr Iff.rfl (and_congr Iff.rfl (and_congr ren_den renE_den))
theorem renK_den:∀{l:List SV} {ms:List MapEntry} {n:Nat},DenK β H (renL σ l) ms n↔DenK (fun k=>β (σ k)) H l ms n
 | [],_,_=>by simp only [renL,DenK]
 | x::l,ms,n=>by
  simp only [renL,DenK]
  constructor
  ·rintro ⟨key,y,m,r,e,h2,h3,h4,h5,h6,h7⟩
   cases x with
   | tup q =>
    simp only [ren,SV.tup.injEq] at e
    match q,e with
    | [a,b],e =>
     simp only [renL,List.cons.injEq,and_true] at e
     obtain ⟨e1,rfl⟩:=e
     cases a<;>simp only [ren,SV.val.injEq,reduceCtorEq] at e1
     subst e1
     exact ⟨_,b,m,r,rfl,h2,h3,h4,h5,ren_den.1 h6,renK_den.1 h7⟩
    | [],e=>simp [renL] at e
    | [a],e=>simp [renL] at e
    | a::b::c::d,e=>simp [renL] at e
   | _=>simp [ren] at e
  ·rintro ⟨key,y,m,r,rfl,h2,h3,h4,h5,h6,h7⟩
   exact ⟨key,ren σ y,m,r,by simp only [ren,renL],h2,h3,h4,h5,ren_den.2 h6,renK_den.2 h7⟩
end
def renE (σ:Nat→Nat) (e:Ent):Ent:=⟨e.sz,renL σ e.es,e.fz⟩
theorem renL_nil {σ:Nat→Nat} {l:List SV}:renL σ l=[]↔l=[]:=by cases l<;>simp [renL]
theorem EntOK.ren {β:Bnd} {H:Hp} {σ:Nat→Nat} {e:Ent} {k:Nat} {w:World}:EntOK β H (renE σ e) (σ k) w↔EntOK (fun i=>β (σ i)) H e k w:=by
 unfold EntOK renE
 simp only [renE_den,renK_den,pureL_ren,renL_nil]
def sg:List Nat→Nat→Nat→Nat
 | [],m,i=>m+i
 | k::_,_,0=>k
 | _::s,m,i+1=>sg s m i
def setA (σ:Nat→Nat):Tab→List Nat→Tab→Tab
 | M,k::s,e::T=>setA σ (tset M k (e.map (renE σ))) s T
 | M,_,T=>M++T.map fun e=>e.map (renE σ)
def matchT (σ:Nat→Nat) (M:Tab):List Nat→Tab→Prop
 | k::s,some e::T=>tget M k=some (renE σ e)∧matchT σ M s T
 | [],[]=>True
 | _,_=>False
def nox (s:List Nat) (k:Nat):Nat→Tab→Bool
 | _,[]=>true
 | i,none::M=>nox s k (i+1) M
 | i,some e::M=>(s.contains i||!SV.usesL k e.es)&&nox s k (i+1) M
def fgts:List Nat→Tab→Tab
 | [],M=>M
 | k::ks,M=>fgts ks (fgt k M)
theorem sg_lt {s:List Nat} {m i:Nat} (h:i<s.length):∃k∈s,sg s m i=k:=by
 induction s generalizing i with
 | nil=>simp at h
 | cons a s ih=>cases i with
  | zero=>exact ⟨a,by simp,rfl⟩
  | succ i =>
   obtain ⟨k,h1,h2⟩:=ih (i:=i) (by simpa using h)
   exact ⟨k,by simp [h1],h2⟩
theorem sg_ge {s:List Nat} {m i:Nat} (h:s.length≤i):sg s m i=m+(i - s.length):=by
 induction s generalizing i with
 | nil=>simp [sg]
 | cons a s ih=>cases i with
  | zero=>simp at h
  | succ i=>simp only [sg,List.length_cons];rw [ih (by simpa using h)];congr 1;omega
theorem sg_mem {s:List Nat} {m k:Nat} (h:k∈s):∃i,i<s.length∧sg s m i=k:=by
 induction s with
 | nil=>cases h
 | cons a s ih =>
  rcases List.mem_cons.1 h with rfl | h
  ·exact ⟨0,by simp,rfl⟩
  ·obtain ⟨i,h1,h2⟩:=ih h
   exact ⟨i+1,by simpa using h1,h2⟩
theorem sg_inj {s:List Nat} {m:Nat} (hd:s.Nodup) (hm:∀k∈s,k<m):∀{i j:Nat},sg s m i=sg s m j→i=j:=by
 induction s with
 | nil=>intro i j h;simp only [sg] at h;omega
 | cons a s ih =>
  have hd':=List.nodup_cons.1 hd
  have key:∀i,sg s m i=a→False:=fun i h=>by
   rcases Nat.lt_or_ge i s.length with h' | h'
   ·obtain ⟨k,h1,h2⟩:=sg_lt (m:=m) h'
    rw [h2] at h;subst h;exact hd'.1 h1
   ·rw [sg_ge h'] at h;have:=hm a (by simp);omega
  intro i j h
  cases i with
  | zero=>cases j with
   | zero=>rfl
   | succ j=>exact (key j h.symm).elim
  | succ i=>cases j with
   | zero=>exact (key i h).elim
   | succ j=>rw [ih hd'.2 (fun k hk=>hm k (by simp [hk])) h]
theorem setA_spec {σ:Nat→Nat}:∀{s:List Nat} {T M:Tab} {i:Nat} {e':Ent},s.length≤T.length→(setA σ M s T)[i]?=some (some e') →
  (∃(k:Nat) (e:Ent),sg s M.length k=i∧T[k]?=some (some e)∧e'=renE σ e)∨((∀k,k<T.length→sg s M.length k≠i)∧M[i]?=some (some e'))
 | [],T,M,i,e',_,h=>by
  cases T with
  | nil =>
   simp only [setA,List.map_nil,List.append_nil] at h
   exact .inr ⟨fun k hk=>by simp at hk,h⟩
  | cons t T =>
   simp only [setA] at h
   rcases Nat.lt_or_ge i M.length with hi | hi
   ·rw [List.getElem?_append_left hi] at h
    exact .inr ⟨fun k _=>by simp only [sg];omega,h⟩
   ·rw [List.getElem?_append_right hi,List.getElem?_map] at h
    left
    cases ht:(t::T)[i - M.length]? with
    | none=>rw [ht] at h;cases h
    | some oe =>
     rw [ht] at h
     cases oe with
     | none=>simp at h
     | some e=>simp at h;exact ⟨i - M.length,e,by simp only [sg];omega,ht,h.symm⟩
 | a::s,[],M,i,e',hl,h=>by simp at hl
 | a::s,t::T,M,i,e',hl,h=>by
  simp only [setA] at h
  rcases setA_spec (s:=s) (by simpa using hl) h with ⟨k,e,h1,h2,h3⟩ | ⟨h1,h2⟩
  ·rw [tset_len] at h1
   exact .inl ⟨k+1,e,h1,by simpa using h2,h3⟩
  ·rw [tset_len] at h1
   rw [tset_eq] at h2
   rcases getElem?_set_cases h2 with ⟨rfl,he,_⟩ | ⟨hne,hi'⟩
   ·cases t with
    | none=>simp at he
    | some e=>simp at he;exact .inl ⟨0,e,rfl,by simp,he.symm⟩
   ·refine .inr ⟨fun k hk=>?_,hi'⟩
    cases k with
    | zero=>exact Ne.symm hne
    | succ k=>exact h1 k (by simpa using hk)
theorem setA_len {σ:Nat→Nat}:∀{s:List Nat} {T M:Tab},s.length≤T.length→(setA σ M s T).length=M.length+(T.length - s.length)
 | [],T,M,_=>by cases T<;>simp [setA]
 | a::s,[],M,hl=>by simp at hl
 | a::s,t::T,M,hl=>by
  simp only [setA]
  rw [setA_len (by simpa using hl),tset_len]
  simp
theorem matchT_at {σ:Nat→Nat} {M:Tab}:∀{s:List Nat} {T:Tab} {m:Nat},matchT σ M s T→s.length=T.length∧∀i,i<s.length→∃e:Ent,T[i]?=some (some e)∧tget M (sg s m i)=some (renE σ e)
 | [],[],_,_=>⟨rfl,fun i hi=>by simp at hi⟩
 | k::s,some e::T,m,h=>by
  simp only [matchT] at h
  obtain ⟨h1,h2⟩:=matchT_at (m:=m) h.2
  refine ⟨by simp [h1],fun i hi=>?_⟩
  cases i with
  | zero=>exact ⟨e,rfl,h.1⟩
  | succ i=>simpa [sg] using h2 i (by simpa using hi)
 | [],_::_,_,h=>by simp [matchT] at h
 | _::_,[],_,h=>by simp [matchT] at h
 | _::_,none::_,_,h=>by simp [matchT] at h
theorem nox_at {s:List Nat} {k:Nat}:∀{M:Tab} {o i:Nat} {e:Ent},nox s k o M=true→M[i]?=some (some e)→o+i∉s→SV.usesL k e.es=false
 | [],o,i,e,_,h,_=>by simp at h
 | none::M,o,i,e,h,hi,hs=>by
  simp only [nox] at h
  cases i with
  | zero=>simp at hi
  | succ i=>exact nox_at h (by simpa using hi) (by rw [show o+1+i=o+(i+1) by omega];exact hs)
 | some e0::M,o,i,e,h,hi,hs=>by
  simp only [nox,Bool.and_eq_true,Bool.or_eq_true,Bool.not_eq_true',List.contains_iff_mem] at h
  cases i with
  | zero =>
   simp only [List.getElem?_cons_zero,Option.some.injEq] at hi
   subst hi
   exact h.1.resolve_left (by simpa using hs)
  | succ i=>exact nox_at h.2 (by simpa using hi) (by rw [show o+1+i=o+(i+1) by omega];exact hs)
theorem fgt_len (k:Nat) (M:Tab):(fgt k M).length=M.length:=by unfold fgt fgtM;split<;>simp
theorem fgts_len:∀(ks:List Nat) (M:Tab),(fgts ks M).length=M.length
 | [],M=>rfl
 | k::ks,M=>by simp only [fgts];rw [fgts_len,fgt_len]
theorem WOK.fgts {C:Ctx} {β:Bnd} {H:Hp} {w:World}:∀{ks:List Nat} {M:Tab},WOK C β H M w→WOK C β H (Sv.fgts ks M) w
 | [],_,h=>h
 | k::ks,M,h=>by simp only [Sv.fgts];exact WOK.fgts (h.fgt k)
def EffC (P:Program) (f:FuncId) (args:List SV) (T:Tab) (pk:List Nat) (Φ:Tab→SV→Prop):Prop :=
 ∀C:Ctx,C.fx=[]→CallJ P C f args T none fun T' pk' x=>pk'=pk∧∃T1 y,Φ T1 y∧x=y∧leM T' T1∧T.length≤T1.length∧(T'.length=T1.length∨(y.lt T1.length=true∧ltM T1.length T1))
section
variable {P:Program} {C:Ctx}
def effK (T:Tab) (pk:List Nat) (Φ:Tab→SV→Prop):Tab→List Nat→SV→Prop:=fun T' pk' x=>pk'=pk∧∃T1 y,Φ T1 y∧x=y∧leM T' T1∧T.length≤T1.length∧(T'.length=T1.length∨(y.lt T1.length=true∧ltM T1.length T1))
theorem eff_enter {f:FuncId} {fn:Func} {c:Code} {args:List SV} {T:Tab} {pk:List Nat} {Φ:Tab→SV→Prop} (hf:P.funcs[f]?=some fn) (hb:fn.body=some c) (hn:args.length≤fn.ntmps)
  (h:∀C':Ctx,C'.fx=(List.range T.length).filter (fun i=>!pk.contains i)→vc P C' c ⟨fn.ntmps,argFr 0 args,T⟩ (retH P fn.results.toList pk (effK T pk Φ)) (retH P fn.results.toList pk (effK T pk Φ))):EffC P f args T pk Φ:=by
 intro C hC
 exact call_here hf hb hn pk (fun i _ hi=>by rw [hC] at hi;cases hi) (fun ks h=>by cases h) h
def cutB (β:Bnd) (n:Nat):Bnd:=fun k=>if k<n then β k else none
theorem WOK.weak {β:Bnd} {H:Hp} {M M':Tab} {w:World} (h:WOK C β H M w) (hle:leM M M') (hj:M.length=M'.length∨ltM M'.length M') (hfx:C.fx=[]):WOK C (cutB β M'.length) H M' w:=by
 have hget:=leM_get hle
 have hlt:∀k e,M'[k]?=some (some e)→k<M'.length:=fun k e hk=>by
  rcases Nat.lt_or_ge k M'.length with h' | h'
  ·exact h'
  ·rw [List.getElem?_eq_none h'] at hk;cases hk
 have hin:∀(k:Nat) (e:Ent),M'[k]?=some (some e)→∀j d,SV.usesL j e.es=true→β j=some d→cutB β M'.length j=some d:=fun k e hk j d hu hd=>by
  have:j<M'.length:=by
   rcases hj with hj | hj
   ·rcases Nat.lt_or_ge j M'.length with h' | h'
    ·exact h'
    ·rw [h.fresh j (by omega)] at hd;cases hd
   ·rcases Nat.lt_or_ge j M'.length with h' | h'
    ·exact h'
    ·rw [SV.ltL_uses h' _ (ltM_get hj k e hk)] at hu;cases hu
  simp [cutB,this,hd]
 have hc:∀{k d},k<M'.length→cutB β M'.length k=some d→β k=some d:=fun hk hd=>by simpa [cutB,hk] using hd
 refine ⟨h.os,h.tape,h.output,h.size,h.frame,h.ext,h.new,h.inv,fun k e hk=>?_,fun k e d hk hd=>h.own k e d (hget k e hk) (hc (hlt k e hk) hd),
  fun k k' e e' d d' hk hk' hd hd'=>h.inj k k' e e' d d' (hget k e hk) (hget k' e' hk') (hc (hlt k e hk) hd) (hc (hlt k' e' hk') hd'),fun k hk=>by simp [cutB];omega,fun k d hk=>(by rw [hfx] at hk;cases hk),h.glob⟩
 have hb:∀d,β k=some d→cutB β M'.length k=some d:=fun d hd=>by simp [cutB,hlt k e hk,hd]
 rcases h.ents k e (hget k e hk) with ⟨g1,g2⟩ | ⟨d,cs,T,vs,g1,g2,g3,g4,g5,g6⟩ | ⟨d,ms,g1,g2,g3,g4⟩
 ·exact .inl ⟨hb _ g1,g2⟩
 ·exact .inr (.inl ⟨d,cs,T,vs,hb _ g1,g2,g3,g4,DenE.mono (fun _ _ h=>h) _ _ _ (hin k e hk) g5,g6⟩)
 ·exact .inr (.inr ⟨d,ms,hb _ g1,g2,g3,DenK.mono (fun _ _ h=>h) _ _ _ (hin k e hk) g4⟩)
open Classical in
theorem callT {f:FuncId} {args args0:List SV} {T M:Tab} {pk:List Nat} {Φ:Tab→SV→Prop} {W:Option (List Nat)} {K:Tab→List Nat→SV→Prop} (h:EffC P f args0 T pk Φ) (s:List Nat) (hd:s.Nodup)
  (hT:matchT (sg s M.length) M s T) (ha:args=renL (sg s M.length) args0) (hpk:∀k∈pk,k<T.length∧sg s M.length k∉C.fx∧nox s (sg s M.length k) 0 (fgts (pk.map (sg s M.length)) M)=true)
  (hW:∀ks,W=some ks→pk=[]∧∀k∈s,k∈ks)
  (hK:∀T1 y,Φ T1 y→K (setA (sg s M.length) (fgts (pk.map (sg s M.length)) M) s T1) (pk.map (sg s M.length)) (ren (sg s M.length) y)):CallJ P C f args M W K:=by
 intro β H w vals hdv hWM
 have hlen:s.length=T.length:=(matchT_at (m:=0) hT).1
 have hσ:=(matchT_at (m:=M.length) hT).2
 have hsl:∀k∈s,k<M.length:=fun k hk=>by
  obtain ⟨i,hi,rfl⟩:=sg_mem (m:=M.length) hk
  obtain ⟨e, -,h2⟩:=hσ i hi
  exact (List.getElem?_eq_some_iff.1 (tget_some h2)).1
 have hinj:=fun {i j}=>sg_inj (s:=s) (m:=M.length) hd hsl (i:=i) (j:=j)
 have hσlt:∀i,i<s.length→sg s M.length i<M.length:=fun i hi=>by
  obtain ⟨k,hk,e⟩:=sg_lt (m:=M.length) hi
  rw [e];exact hsl k hk
 have hge:∀i,s.length≤i→sg s M.length i=M.length+(i - s.length):=fun i hi=>sg_ge hi
 generalize hsig:sg s M.length=σ at *
 let β0:Bnd:=fun k=>β (σ k)
 have hD:DenT β0 H args0 vals:=by rw [ha] at hdv;exact renT_den.1 hdv
 let X:List Nat:=(List.range s.length).filterMap fun i=>match β0 i with
  | some (some d)=>some d.b
  | _=>none
 have hX:∀b,b∈X↔∃i d,i<s.length∧β (σ i)=some (some d)∧d.b=b:=fun b=>by
  simp only [X,List.mem_filterMap,List.mem_range]
  constructor
  ·rintro ⟨i,hi,he⟩
   split at he
   ·rename_i d h2;simp only [Option.some.injEq] at he;exact ⟨i,d,hi,h2,he⟩
   ·cases he
  ·rintro ⟨i,d,hi,hd,rfl⟩
   refine ⟨i,hi,?_⟩
   have:β0 i=some (some d):=hd
   rw [this]
 have hown:∀b,b∈X→C.w0.heap.size≤b∨b∈C.X:=fun b hb=>by
  obtain ⟨i,d,h1,h2,rfl⟩:=(hX b).1 hb
  obtain ⟨e, -,h3⟩:=hσ i h1
  exact (hWM.own (σ i) _ d (tget_some h3) h2).2
 let C0:Ctx:=⟨w,H,X,β0,[]⟩
 have hTlt:∀(k:Nat) (e:Ent),T[k]?=some (some e)→k<s.length∧tget M (σ k)=some (renE σ e):=fun k e hk=>by
  have hk':k<s.length:=by
   have:=(List.getElem?_eq_some_iff.1 hk).1
   omega
  obtain ⟨e2,h2,h3⟩:=hσ k hk'
  rw [hk] at h2
  simp only [Option.some.injEq] at h2
  subst h2
  exact ⟨hk',h3⟩
 have hW0:WOK C0 β0 H T w:=⟨rfl,rfl,rfl,Nat.le_refl _,fun _ _ _=>rfl,fun _ _ h=>h,fun _ _ h=>.inl h,hWM.inv,
  fun k e hk=>EntOK.ren.1 (hWM.ents (σ k) _ (tget_some (hTlt k e hk).2)),
  fun k e d hk hd=>⟨(hWM.own (σ k) (renE σ e) d (tget_some (hTlt k e hk).2) hd).1,.inr ((hX _).2 ⟨k,d,(hTlt k e hk).1,hd,rfl⟩)⟩,
  fun k k' e e' d d' hk hk' hd hd' hb=>hinj (hWM.inj (σ k) (σ k') (renE σ e) (renE σ e') d d' (tget_some (hTlt k e hk).2) (tget_some (hTlt k' e' hk').2) hd hd' hb),
  fun k hk=>hWM.fresh _ (by rw [hge k (by omega)];omega),fun k d hk=>(by cases hk),hWM.glob⟩
 refine Calls.mono (h C0 rfl β0 H w vals hD hW0) ?_
 rintro e w1 ⟨β1,H1,T',v,x,pk',rfl,g1,g2,g3,g4,⟨rfl,T1,y,hΦ,rfl,hle,hlenT,hj⟩,g6, -⟩
 have hj':T'.length=T1.length∨ltM T1.length T1:=hj.imp id And.right
 have g2w:WOK C0 (cutB β1 T1.length) H1 T1 w1:=g2.weak hle hj' rfl
 have hw0:=hWM.fgts (ks:=pk'.map σ)
 have hcut:∀{k d},k<s.length→β1 k=some d→cutB β1 T1.length k=some d:=fun {k d} hk hd=>by
  have:k<T1.length:=by omega
  simp [cutB,this,hd]
 have g1w:Den (cutB β1 T1.length) H1 x v:=by
  refine Den.mono (fun _ _ h=>h) x v (fun k d hu hd=>?_) g1
  have:k<T1.length:=by
   rcases hj with hj | ⟨hj, -⟩
   ·rcases Nat.lt_or_ge k T1.length with h' | h'
    ·exact h'
    ·rw [g2.fresh k (by omega)] at hd;cases hd
   ·rcases Nat.lt_or_ge k T1.length with h' | h'
    ·exact h'
    ·rw [SV.lt_uses h' x hj] at hu;cases hu
  simp [cutB,this,hd]
 let β':Bnd:=fun i=>if hx:∃k,σ k=i then cutB β1 T1.length (Classical.choose hx) else β i
 have hβσ:∀k,β' (σ k)=cutB β1 T1.length k:=fun k=>by
  have hx:∃k',σ k'=σ k:=⟨k,rfl⟩
  show (if hx:∃k',σ k'=σ k then cutB β1 T1.length (Classical.choose hx) else β (σ k))=_
  rw [dif_pos hx]
  rw [hinj (Classical.choose_spec hx)]
 have hβo:∀i,(∀k,σ k≠i)→β' i=β i:=fun i hi=>by
  show (if hx:∃k',σ k'=i then cutB β1 T1.length (Classical.choose hx) else β i)=_
  rw [dif_neg (fun ⟨k,hk⟩=>hi k hk)]
 have hβfun:(fun k=>β' (σ k))=cutB β1 T1.length:=funext hβσ
 have hmono:∀i d,i∉pk'.map σ→β i=some d→β' i=some d:=fun i d hi hd=>by
  by_cases hx:∃k,σ k=i
  ·obtain ⟨k,rfl⟩:=hx
   rw [hβσ]
   have hks:k<s.length:=by
    rcases Nat.lt_or_ge k s.length with h' | h'
    ·exact h'
    ·rw [hWM.fresh _ (by rw [hge k h'];omega)] at hd;cases hd
   exact hcut hks (g3 k d (fun hp=>hi (List.mem_map.2 ⟨k,hp,rfl⟩)) hd)
  ·rw [hβo i fun k hk=>hx ⟨k,hk⟩];exact hd
 have hout:∀i,(∀k,k<T1.length→σ k≠i)→i<M.length→∀k,σ k≠i:=fun i hi hil k hk=>by
  rcases Nat.lt_or_ge k T1.length with h' | h'
  ·exact hi k h' hk
  ·rw [hge k (by omega)] at hk;omega
 have hheap:∀b,b<w.heap.size→b∉X→w1.heap[b]?=w.heap[b]?:=fun b hb hx=>g2.frame b hb hx
 have hM0:(fgts (pk'.map σ) M).length=M.length:=fgts_len _ _
 have hspec:∀(i:Nat) (e':Ent),(setA σ (fgts (pk'.map σ) M) s T1)[i]?=some (some e') →
   (∃(k:Nat) (e:Ent),σ k=i∧T1[k]?=some (some e)∧e'=renE σ e)∨((∀k,σ k≠i)∧i<M.length∧(fgts (pk'.map σ) M)[i]?=some (some e')):=fun i e' hi=>by
  rcases setA_spec (by omega) hi with h1 | ⟨h1,h2⟩
  ·rw [hM0,hsig] at h1;exact .inl h1
  ·rw [hM0,hsig] at h1
   have hil:i<M.length:=by rw [←hM0];exact (List.getElem?_eq_some_iff.1 h2).1
   exact .inr ⟨hout i h1 hil,hil,h2⟩
 have hnX:∀(i:Nat) (e':Ent) (d:Bd),(∀k,σ k≠i)→(fgts (pk'.map σ) M)[i]?=some (some e')→β i=some (some d)→d.b∉X:=fun i e' d hi he hd' hb=>by
  obtain ⟨k,d2,h1,h2,h3⟩:=(hX _).1 hb
  obtain ⟨e2, -,h4⟩:=hσ k h1
  have hi1:∃e0:Ent,(fgts (pk'.map σ) M)[σ k]?=some (some e0):=by
   have aux:∀(ks:List Nat) (M:Tab) (q:Nat),(∃e0:Ent,M[q]?=some (some e0))→∃e0:Ent,(fgts ks M)[q]?=some (some e0):=fun ks=>by
    induction ks with
    | nil=>intro M q h;exact h
    | cons a ks ih =>
     rintro M q ⟨e0,h⟩
     refine ih _ _ ?_
     unfold fgt
     split
     ·exact ⟨e0,h⟩
     ·simp only [fgtM,List.getElem?_map,h]
      exact ⟨_,rfl⟩
   exact aux _ _ _ ⟨_,tget_some h4⟩
  obtain ⟨e0,hi1⟩:=hi1
  exact hi k (hw0.inj (σ k) i e0 e' d2 d hi1 he h2 hd' h3)
 refine ⟨β',H1,setA σ (fgts (pk'.map σ) M) s T1,v,ren σ x,pk'.map σ,rfl,ren_den.2 (by rw [hβfun];exact g1w),?_,hmono,g4,hK T1 x hΦ,g6,fun ks hks=>?_⟩
 ·refine ⟨g2.os.trans hWM.os,g2.tape.trans hWM.tape,g2.output.trans hWM.output,Nat.le_trans hWM.size g6,fun b hb hx=>?_,fun b cs hb=>g4 b cs (hWM.ext b cs hb),fun b cs hb=>?_,g2.inv,fun i e' hi=>?_,fun i e' d hi hd'=>?_,fun i i' e1 e2 d1 d2 hi hi' hd1 hd2 hb=>?_,fun i hi=>?_,fun i d hi hd'=>?_,g2.glob⟩
  ·rw [hheap b (Nat.lt_of_lt_of_le hb hWM.size) (fun hbX=>by rcases hown b hbX with h' | h';omega;exact hx h')]
   exact hWM.frame b hb hx
  ·rcases g2.new b cs hb with h' | h' | h'
   ·exact hWM.new b cs h'
   ·exact .inr (.inl (Nat.le_trans hWM.size h'))
   ·exact .inr (hown b h')
  ·rcases hspec i e' hi with ⟨k,e0,rfl,h2,rfl⟩ | ⟨h1,hil,h2⟩
   ·refine EntOK.ren.2 ?_
    rw [hβfun]
    exact g2w.ents k e0 h2
   ·have hbi:∀d,β i=some d→β' i=some d:=fun d hd'=>by rw [hβo i h1];exact hd'
    have hus:∀j d,SV.usesL j e'.es=true→β j=some d→β' j=some d:=fun j d hu hd'=>by
     refine hmono j d (fun hp=>?_) hd'
     obtain ⟨k,hk,rfl⟩:=List.mem_map.1 hp
     have:=nox_at (hpk k hk).2.2 h2 (by
      rw [Nat.zero_add]
      intro hs
      obtain ⟨q, -,e⟩:=sg_mem (m:=M.length) hs
      rw [hsig] at e
      exact h1 q e)
     rw [this] at hu;cases hu
    have hhp:∀d,β i=some (some d)→w1.heap[d.b]?=w.heap[d.b]?:=fun d hd'=>hheap _ (hw0.lt h2 hd') (hnX i e' d h1 h2 hd')
    rcases hw0.ents i e' h2 with ⟨q1,q2⟩ | ⟨d,cs,Tt,vs,q1,q2,q3,q4,q5,q6,q7,q8⟩ | ⟨d,ms,q1,q2,q3,q4⟩
    ·exact .inl ⟨hbi _ q1,q2⟩
    ·exact .inr (.inl ⟨d,cs,Tt,vs,hbi _ q1,q2,by rw [hhp d q1];exact q3,q4,DenE.mono g4 _ _ _ hus q5,q6,q7,fun hf=>⟨g4 _ _ (q8 hf).1,(q8 hf).2⟩⟩)
    ·exact .inr (.inr ⟨d,ms,hbi _ q1,q2,by rw [hhp d q1];exact q3,DenK.mono g4 _ _ _ hus q4⟩)
  ·rcases hspec i e' hi with ⟨k,e0,rfl,h2,rfl⟩ | ⟨h1,hil,h2⟩
   ·rw [hβσ] at hd'
    obtain ⟨q1,q2⟩:=g2w.own k e0 d h2 hd'
    refine ⟨q1,?_⟩
    rcases q2 with h' | h'
    ·exact .inl (Nat.le_trans hWM.size h')
    ·exact hown _ h'
   ·rw [hβo i h1] at hd'
    obtain ⟨q1,q2⟩:=hw0.own i e' d h2 hd'
    refine ⟨fun hf=>?_,q2⟩
    cases hH:H1 d.b with
    | none=>rfl
    | some cs =>
     rcases g2.new _ _ hH with h' | h' | h'
     ·have h'':H d.b=some cs:=h'
      rw [q1 hf] at h'';cases h''
     ·have hlt:=hw0.lt h2 hd'
      have h'':w.heap.size≤d.b:=h'
      omega
     ·exact absurd h' (hnX i e' d h1 h2 hd')
  ·rcases hspec i e1 hi with ⟨k,e0,rfl,h2,rfl⟩ | ⟨h1,hil,h2⟩<;>rcases hspec i' e2 hi' with ⟨k',e0',rfl,h2',rfl⟩ | ⟨h1',hil',h2'⟩
   ·rw [hβσ] at hd1 hd2
    rw [g2w.inj k k' e0 e0' d1 d2 h2 h2' hd1 hd2 hb]
   ·rw [hβσ] at hd1
    rw [hβo i' h1'] at hd2
    exfalso
    rcases (g2w.own k e0 d1 h2 hd1).2 with h' | h'
    ·have hlt:=hw0.lt h2' hd2
     have h'':w.heap.size≤d1.b:=h'
     omega
    ·rw [hb] at h';exact hnX i' e2 d2 h1' h2' hd2 h'
   ·rw [hβσ] at hd2
    rw [hβo i h1] at hd1
    exfalso
    rcases (g2w.own k' e0' d2 h2' hd2).2 with h' | h'
    ·have hlt:=hw0.lt h2 hd1
     have h'':w.heap.size≤d2.b:=h'
     omega
    ·rw [←hb] at h';exact hnX i e1 d1 h1 h2 hd1 h'
   ·rw [hβo i h1] at hd1
    rw [hβo i' h1'] at hd2
    exact hw0.inj i i' e1 e2 d1 d2 h2 h2' hd1 hd2 hb
  ·rw [setA_len (by omega),hM0] at hi
   have e:σ (s.length+(i - M.length))=i:=by rw [hge _ (by omega)];omega
   have hT1:¬s.length+(i - M.length)<T1.length:=by omega
   rw [←e,hβσ]
   simp [cutB,hT1]
  ·refine hmono i d (fun hp=>?_) (hWM.keep i d hi hd')
   obtain ⟨k,hk,rfl⟩:=List.mem_map.1 hp
   exact (hpk k hk).2.1 hi
 ·obtain ⟨q1,q2⟩:=hW ks hks
  subst q1
  refine ⟨rfl,fun b hb hn=>hheap b hb fun hbX=>?_⟩
  obtain ⟨k,d,h1,h2,h3⟩:=(hX _).1 hbX
  obtain ⟨q,hq,e⟩:=sg_lt (m:=M.length) h1
  rw [hsig] at e
  exact hn (σ k) (by rw [e];exact q2 q hq) d h2 h3.symm
end
@[simp] theorem wkQ_panic {C:Ctx} {Q:Post} {c:List PanicEntry} {st:St}:wkQ C Q (.panic c) st=∃st',Le C st st'∧Q (.panic c) st':=rfl
def isP (x:SV):Prop:=x.pure=true
@[simp] theorem isP_eq (x:SV):isP x=(x.pure=true):=propext Iff.rfl
def isPL (x:List SV):Prop:=SV.pureL x=true
@[simp] theorem isPL_eq (x:List SV):isPL x=(SV.pureL x=true):=propext Iff.rfl
@[simp] theorem ren_same {σ:Nat→Nat} {x:SV} (h:isP x):ren σ x=x:=ren_pure σ x h
@[simp] theorem renL_same {σ:Nat→Nat} {l:List SV} (h:isPL l):renL σ l=l:=renL_pure σ l h
@[simp] theorem sbV_same {k:Nat} {es:List SV} {x:SV} (h:isP x):sbV k es x=x:=sbV_pure k es x h
@[simp] theorem sbL_same {k:Nat} {es:List SV} {l:List SV} (h:isPL l):sbL k es l=l:=sbL_pure k es l h
@[simp] theorem sbL_two {k:Nat} {es a b:List SV}:sbL k es (a++b)=sbL k es a++sbL k es b:=by
 induction a with
 | nil=>simp
 | cons x a ih=>simp [ih]
@[simp] theorem sbV_fnv {k:Nat} {es l r:List SV} {f:FuncId}:sbV k es (.fnv f l r)=.fnv f (sbL k es l) (sbL k es r):=by simp only [sbV]
@[simp] theorem take_ml {α:Type} (f:α→SV) (l:List α):List.take l.length (l.map f)=l.map f:=List.take_of_length_le (by simp)
@[simp] theorem ren_ptr {σ:Nat→Nat} {k i j:Nat}:ren σ (.ptr k i j)=.ptr (σ k) i j:=by simp only [ren]
@[simp] theorem ren_view {σ:Nat→Nat} {k i n:Nat}:ren σ (.view k i n)=.view (σ k) i n:=by simp only [ren]
@[simp] theorem ren_mp {σ:Nat→Nat} {k:Nat}:ren σ (.mp k)=.mp (σ k):=by simp only [ren]
@[simp] theorem ren_agg {σ:Nat→Nat} {l:List SV}:ren σ (.agg l)=.agg (renL σ l):=by simp only [ren]
@[simp] theorem ren_tup {σ:Nat→Nat} {l:List SV}:ren σ (.tup l)=.tup (renL σ l):=by simp only [ren]
@[simp] theorem ren_ifc {σ:Nat→Nat} {t:TypeId} {x:SV}:ren σ (.ifc t x)=.ifc t (ren σ x):=by simp only [ren]
@[simp] theorem ren_fnv {σ:Nat→Nat} {f:FuncId} {l r:List SV}:ren σ (.fnv f l r)=.fnv f (renL σ l) (renL σ r):=by simp only [ren]
@[simp] theorem ren_val {σ:Nat→Nat} {v:Value}:ren σ (.val v)=.val v:=by simp only [ren]
@[simp] theorem ren_ro {σ:Nat→Nat} {l:List SV}:ren σ (.ro l)=.ro l:=by simp only [ren]
@[simp] theorem ren_rop {σ:Nat→Nat} {x:SV} {j:Nat}:ren σ (.rop x j)=.rop x j:=by simp only [ren]
@[simp] theorem ren_sen {σ:Nat→Nat} {t g:Nat}:ren σ (.sen t g)=.sen t g:=by simp only [ren]
@[simp] theorem ren_any {σ:Nat→Nat}:ren σ .any=.any:=by simp only [ren]
@[simp] theorem renL_nil' {σ:Nat→Nat}:renL σ []=[]:=by simp only [renL]
@[simp] theorem renL_cons {σ:Nat→Nat} {x:SV} {l:List SV}:renL σ (x::l)=ren σ x::renL σ l:=by simp only [renL]
@[simp] theorem renL_app {σ:Nat→Nat} {a b:List SV}:renL σ (a++b)=renL σ a++renL σ b:=by
 induction a with
 | nil=>simp
 | cons x a ih=>simp [ih]
@[simp] theorem renE_eq {σ:Nat→Nat} {s:Nat} {l:List SV} {f:Bool}:renE σ ⟨s,l,f⟩=⟨s,renL σ l,f⟩:=rfl
@[simp] theorem sg_nil {m i:Nat}:sg [] m i=m+i:=rfl
@[simp] theorem sg_zero {k m:Nat} {s:List Nat}:sg (k::s) m 0=k:=rfl
@[simp] theorem sg_succ {k m i:Nat} {s:List Nat}:sg (k::s) m (i+1)=sg s m i:=rfl
@[simp] theorem setA_cons {σ:Nat→Nat} {M T:Tab} {k:Nat} {s:List Nat} {e:Option Ent}:setA σ M (k::s) (e::T)=setA σ (tset M k (e.map (renE σ))) s T:=rfl
@[simp] theorem setA_end {σ:Nat→Nat} {M T:Tab}:setA σ M [] T=M++T.map fun e=>e.map (renE σ):=by cases T<;>rfl
@[simp] theorem matchT_cons {σ:Nat→Nat} {M T:Tab} {k:Nat} {s:List Nat} {e:Ent}:matchT σ M (k::s) (some e::T)=(tget M k=some (renE σ e)∧matchT σ M s T):=rfl
@[simp] theorem matchT_nil {σ:Nat→Nat} {M:Tab}:matchT σ M [] []=True:=rfl
@[simp] theorem nox_nil {s:List Nat} {k i:Nat}:nox s k i []=true:=rfl
@[simp] theorem nox_none {s:List Nat} {k i:Nat} {M:Tab}:nox s k i (none::M)=nox s k (i+1) M:=rfl
@[simp] theorem nox_some {s:List Nat} {k i:Nat} {e:Ent} {M:Tab}:nox s k i (some e::M)=((s.contains i||!SV.usesL k e.es)&&nox s k (i+1) M):=rfl
@[simp] theorem fgts_nil {M:Tab}:fgts [] M=M:=rfl
@[simp] theorem fgts_cons {k:Nat} {ks:List Nat} {M:Tab}:fgts (k::ks) M=fgts ks (fgt k M):=rfl
@[simp] theorem effK_app {T T':Tab} {pk pk':List Nat} {Φ:Tab→SV→Prop} {x:SV}:effK T pk Φ T' pk' x=(pk'=pk∧∃T1 y,Φ T1 y∧x=y∧leM T' T1∧T.length≤T1.length∧(T'.length=T1.length∨(y.lt T1.length=true∧ltM T1.length T1))):=rfl
end Go.Sv


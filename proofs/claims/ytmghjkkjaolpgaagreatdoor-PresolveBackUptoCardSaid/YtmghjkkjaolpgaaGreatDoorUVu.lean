/- A text of the prover's own. -/
import Derived.Test.YtmghjkkjaolpgaaGreatDoorUIi
import Derived.Test.YtmghjkkjaolpgaaGreatDoorUVz
import Derived.Test.YtmghjkkjaolpgaaGreatDoorUVe
open Option.some renaming injEq→al0
open List renaming getElem?_set_ne→amw,any_eq_true→ana,mem_map→am8,getElem?_eq_none→al2,mem_append→amO,mem_singleton→amN,map_append→anb,nodup_append→anc,map_cons→amc,map_nil→ane,getElem?_append_left→alX,all_eq_true→am1,contains_iff_mem→amX
open Bool renaming and_eq_true→amS,not_eq_true'→am6,or_eq_true→am2
open Array renaming ext'→amq,getElem?_setIfInBounds_ne→al1
namespace Go.Sv
open Go Go.RowKit
def jZ(P:Program)(o:Oper)(st:St)(K:St→Prop):Prop:=match o.op with
 | .call ⟨.value (.func f),args,_⟩=>match rQ st.fr args.toList with
  | some xs=>al P f∧sS o.dst st.n∧qH P f xs st.M fun x=>K ⟨st.n,dd o.dst (some x) st.fr,st.M⟩
  | none=>False
 | .call ⟨.value (.tmp t),args,_⟩=>match get st.fr t,rQ st.fr args.toList with
  | some (.gA f l r),some xs=>al P f∧sS o.dst st.n∧qH P f (l++xs++r) st.M fun x=>K ⟨st.n,dd o.dst (some x) st.fr,st.M⟩
  | _,_=>False
 | _=>False
def tU(P:Program)(C:Ctx)(ops:Array Oper):List dc→Pz→St→aV→aV→Prop
 | D,.d i r,st,Q,QJ=>(match ops[i]? with
  | some ⟨some t,.alloc T,_,_,_,none⟩=>match az P T with
   | some ti=>t<st.n∧tU P C ops (D++[⟨i,t,st.M.length,ti⟩]) r ⟨st.n,del st.fr t,st.M++[none]⟩ Q QJ
   | none=>False
  | _=>False)
 | D,.q i ks r,st,Q,QJ=>match ops[i]? with
  | none=>False
  | some o=>gd ops o st (fun st'=>w8 ks ⟨st'.n,st'.fr,iW D st'.M⟩ o.op∧cE P C none o st' (fun st''=>tU P C ops D r st'' Q QJ) (fun _=>False)) (fun st'=>tU P C ops D r st' Q QJ)
 | D,.p i r,st,Q,QJ=>match ops[i]? with
  | none=>False
  | some o=>gd ops o st (fun st'=>jZ P o st' (fun st''=>tU P C ops D r st'' QJ QJ)) (fun st'=>tU P C ops D r st' Q QJ)
 | D,.b r,st,Q,QJ=>eN P C ops r ⟨st.n,ld D st.fr,iW D st.M⟩ Q QJ
section
variable {P:Program} {C:Ctx} {ops:Array Oper} {L:Array Bool} {Q QJ:aV} {st:St} {β:bO} {H:Hp} {a:Act} {w:World} {M:aJ}
theorem K3{ks:List Nat}{o:Oper}{c:Prop}{x:SV}{U:Nat→Prop}{M2:aJ}(hW:cv C β H st.M w)(hF:gI β H st.n st.fr a)(hq:xA P st.M st.fr o.op=.q c x)(hc:c)(hi:w8 ks ⟨st.n,st.fr,M2⟩ o.op)
  (hinj:∀(k:Nat) (e:cx) (d:Bd),ao st.M k=some e→β k=some (some d)→∀k',qc M2 k'→∀d',β k'=some (some d')→d.b=d'.b→k=k')
  (hU:(∃t x,o.op=.load t x)→∀b,U b→b<w.heap.size→o8∈ks∨∃k∈ks,∃d,β k=some (some d)∧d.b=b) :
  ∃v,(∀w',(RS U w w'∧nG H w')→(execOp a.eval o).run P w'=.ok (.value v) w')∧Den β H x v:=by
 by_cases hl:∃t x,o.op=.load t x
 ·obtain⟨t,y,ho⟩:=hl;obtain⟨dst,op,type,pos,after,guard⟩:=o;simp only at ho;subst ho;simp only[xA]at hq;by_cases hr:∃y' j',ev st.fr y=some (.bU y' j')
  ·obtain⟨y',j',hr⟩:=hr;have hden:=iJ hF y _ hr;rw[hr]at hq;obtain⟨z,h1,h2⟩:=vL (P:=P) hq hc hden;refine⟨z,fun w' hs=>?_,h2⟩;have:=h1 w' hs.2;simp[execOp,this]
  ·obtain⟨z,h1,h2⟩:=oR (P:=P) hW hq hc (iJ hF y);obtain⟨b,o,p,hu,hb,hk⟩:=uU hW hq (iJ hF y);refine⟨z,fun w' hs=>?_,h2⟩;have:=h1 w' (fun b' o' p' he=>by
    rw[hu]at he;simp only[Value.pointer.injEq,al0]at he;cases he;refine hs.1.2 b hb (fun hUb=>?_);rcases hk with⟨k,i,j,d,e,hx,hd,hdb,he⟩ | ⟨y',j,cs,hx,hH⟩
    ·simp only[w8,hx]at hi;rcases hi with rfl | ⟨hne,hbig,hlv⟩
     ·rcases hU ⟨_,_,rfl⟩ b hUb hb with h | ⟨k',hk',_⟩
      ·cases h
      ·cases hk'
     ·rcases hU ⟨_,_,rfl⟩ b hUb hb with h | ⟨k',hk',d',hd',hb'⟩
      ·exact hbig h
      ·exact hne (hinj k e d he hd k' (hlv k' hk') d' hd' (hdb.trans hb'.symm) ▸ hk')
    ·exact hr ⟨y',j,hx⟩)
   simp[execOp,this]
 ·by_cases hcv:∃s d x el a b z,o.op=.convert s d x∧az P s=some ⟨.sl el,a,b,z⟩
  ·obtain⟨s,d,y,el,a',b,z,ho,hts⟩:=hcv;obtain⟨dst,op,type,pos,after,guard⟩:=o;simp only at ho;subst ho;obtain⟨v,h1,h2,h3⟩:=wL hW hF hq hc hts;refine⟨v,fun w' hs=>h3 (fun k i n e=>?_) w' hs.2,h2⟩;simp only[w8,e,Qg]at hi
  ·obtain⟨v,h1,h2⟩:=sB (P:=P) hW.pW hF hq hc (fun t x e=>hl ⟨t,x,e⟩) (fun s d x e el a' b z e'=>hcv ⟨s,d,x,el,a',b,z,e,e'⟩);exact⟨v,fun w' _=>h1 w',h2⟩
theorem HD{ks:List Nat}{n:Nat}{fr:List (Nat × SV)}{M M':aJ}{o:Op}(h:w8 ks ⟨n,fr,M⟩ o):w8 [] ⟨n,fr,M'⟩ o:=by
 unfold w8 at h ⊢;split
 ·exact .inl rfl
 ·exact h
 ·exact h
 ·trivial
theorem vw{x:Nat→Bool}:∀{D:List dc} {M:aJ} {k:Nat} {e:cx},(iW D M)[k]?=some (some e)→(∀d∈D,d.k=k→x d.i=true)→∃e',(dJ x D M)[k]?=some (some e')
 | [],M,k,e,h,_=>⟨e,h⟩
 | d::D,M,k,e,h,hx=>by
  simp only[iW]at h;have hlen:k<(iW D M).length:=by
   have:=(List.getElem?_eq_some_iff.1 h).1;simpa using this
  have hl2:(dJ x D M).length=(iW D M).length:=by rw[←sK (x:=fun _=>true) (D:=D) (fun _ _=>rfl) M,j0,j0]
  simp only[dJ];by_cases e1:d.k=k
  ·rw[if_pos (hx d (by simp) e1),e1];exact⟨_,by rw[List.getElem?_set_self (by rw[hl2];exact hlen)];rfl⟩
  ·rw[amw e1]at h;obtain⟨e',h'⟩:=vw h fun d' hd'=>hx d' (by simp[hd']);split
   ·exact⟨e',by rw[amw e1];exact h'⟩
   ·exact⟨e',h'⟩
theorem rY{R:aV}(np:∀c st,¬R (.panic c) st):∀(pl:Pz) (D:List dc) (st:St) {Q QJ:aV},(∀e st,Q e st→R e st)→(∀e st,QJ e st→R e st)→tU P C ops D pl st Q QJ→ZJ P C ops pl D st R
 | .d i r,D,st,Q,QJ,hQ,hJ,h=>fun hns L hL hD m x β H a w hm hZ=>by
  simp only[tU]at h;split at h
  ·rename_i t T ty p af ho;split at h
   ·rename_i ti hti;obtain⟨htn,h⟩:=h;simp only[kV,ho,amS,am6]at hL;obtain⟨h1,h2,h3⟩:=hL;have hni:∀d∈D,d.i≠i:=fun d hd e=>by
     have:(mY.fJ D).any (fun d=>d.1==i)=true:=by
      simp only[mY.fJ,ana,am8];exact⟨(d.i,d.t),⟨d,hd,rfl⟩,by simp[e]⟩
     rw[this]at h1;cases h1
    have hkl:∀d∈D,d.k<st.M.length:=fun d hd=>by
     have:=hD.M d hd;rcases Nat.lt_or_ge d.k st.M.length with h' | h'
     ·exact h'
     ·rw[al2 h']at this;cases this
    have hntt:∀d∈D,d.t≠t:=fun d hd e=>by
     have:(mY.fJ D).any (fun d=>d.2==t)=true:=by
      simp only[mY.fJ,ana,am8];exact⟨(d.i,d.t),⟨d,hd,rfl⟩,by simp[e]⟩
     rw[this]at h2;cases h2
    have hD':mY P ops st.n (del st.fr t) (st.M++[none]) (D++[⟨i,t,st.M.length,ti⟩]):=by
     refine⟨fun d hd=>?_,?_,?_,fun d hd=>?_,fun d hd=>?_,?_,fun d hd=>?_⟩
     ·rcases amO.1 hd with hd | hd
      ·exact hD.o d hd
      ·simp only[amN]at hd;subst hd;exact⟨T,ty,p,af,ho,hti⟩
     ·rw[anb,anc];exact⟨hD.ni,by simp,fun a ha b hb=>by
       obtain⟨d,hd,rfl⟩:=am8.1 ha;simp only[amc,ane,amN]at hb;subst hb;exact hni d hd⟩
     ·rw[anb,anc];exact⟨hD.nk,by simp,fun a ha b hb=>by
       obtain⟨d,hd,rfl⟩:=am8.1 ha;simp only[amc,ane,amN]at hb;subst hb;have:=hkl d hd;omega⟩
     ·rcases amO.1 hd with hd | hd
      ·rw[alX (hkl d hd)];exact hD.M d hd
      ·simp only[amN]at hd;subst hd;simp
     ·rcases amO.1 hd with hd | hd
      ·exact hD.t d hd
      ·simp only[amN]at hd;subst hd;exact htn
     ·rw[anb,anc];exact⟨hD.nt,by simp,fun a ha b hb=>by
       obtain⟨d,hd,rfl⟩:=am8.1 ha;simp only[amc,ane,amN]at hb;subst hb;exact hntt d hd⟩
     ·rcases amO.1 hd with hd | hd
      ·exact iP (.inl (hD.fr d hd))
      ·simp only[amN]at hd;subst hd;exact iP (.inr rfl)
    obtain⟨y,hy⟩:∃y:Nat→Bool,y=fun j=>x j&&!(j==i):=⟨_,rfl⟩;have hyD:∀d∈D,y d.i=x d.i:=fun d hd=>by simp[hy,hni d hd]
    have hyi:y i=false:=by simp[hy]
    have hb:dJ y (D++[⟨i,t,st.M.length,ti⟩]) (st.M++[none])=dJ x D st.M++[none]:=by
     rw[uY hyi,xD hkl,tx hyD]
    have hZ':ZS C st.n (del st.fr t) (st.M++[none]) (D++[⟨i,t,st.M.length,ti⟩]) y β H a w:=by
     refine⟨hZ.F.sub fun t' z hg=>(iZ hg).2,by rw[hb];exact hZ.W.grow,fun d hd hx=>?_,fun d hd hx=>?_⟩
     ·rcases amO.1 hd with hd | hd
      ·exact hZ.S d hd (by rw[←hyD d hd];exact hx)
      ·simp only[amN]at hd;subst hd;rw[hyi]at hx;cases hx
     ·rcases amO.1 hd with hd | hd
      ·exact hZ.N d hd (by rw[←hyD d hd];exact hx)
      ·simp only[amN]at hd;subst hd;exact hZ.W.fresh _ (by rw[j0];exact Nat.le_refl _)
    have hcnt:pV y (D++[⟨i,t,st.M.length,ti⟩])=m+1:=by
     simp only[pV,List.filter_append,List.length_append];have e1:(D.filter fun d=>!y d.i)=D.filter fun d=>!x d.i:=List.filter_congr fun d hd=>by rw[hyD d hd]
     rw[e1];simp only[pV]at hm;simp[hm,hyi]
    have hr:=rY np r _ _ hQ hJ h hns L (by simpa[mY.fJ]using h3) hD' (m+1) y β H a w hcnt hZ';have hset:fC y ((D++[(⟨i,t,st.M.length,ti⟩:dc)]).map (·.i)) L=fC x (D.map (·.i)) L:=by
     rw[anb,amc,ane,x9 hyi];exact mb (fun j hj=>by obtain⟨d,hd,rfl⟩:=am8.1 hj;exact hyD d hd) L
    rw[hset]at hr;have e:(Pz.d i r).len+m=r.len+(m+1):=by simp only[Pz.len];omega
    rw[e];exact hr
   ·exact h.elim
  ·exact h.elim
 | .b r,D,st,Q,QJ,hQ,hJ,h=>fun hns L hL hD=>by
  simp only[tU]at h;simp only[kV,amS]at hL;refine qx hD fun x β H a w hZ hcome=>?_;obtain⟨q,hq1,hq2⟩:=im x _ _ _ hL.1;have hmap:(mY.fJ D).map (·.1)=D.map (·.i):=by simp[mY.fJ]
  rw[hmap]at hq1 hq2 hL;by_cases hall:∀d∈D,x d.i=true
  ·rw[Ai hall];have hset:fC x (D.map (·.i)) L=fC (fun _=>true) (D.map (·.i)) L:=mb (fun j hj=>by obtain⟨d,hd,rfl⟩:=am8.1 hj;exact hall d hd) L;rw[hset];have hW:=hZ.W;rw[sK hall]at hW;exact dS np r _ hQ hJ h hns _ hL.2 β H a w (sL hZ.F D fun d hd=>hZ.S d hd (hall d hd)) hW
  ·obtain⟨d0,hd0,hx0⟩:∃d∈D,x d.i=false:=by
    refine Classical.byContradiction fun hno=>hall fun d hd=>?_;cases hx:x d.i with
    | true=>rfl
    | false=>exact absurd ⟨d,hd,hx⟩ hno
   have hne:q.isEmpty=false:=by
    cases q with
    | nil=>have:=(hq2 d0.i).2 (.inr ⟨am8.2 ⟨d0,hd0,rfl⟩,hx0⟩);exact absurd this (by simp)
    | cons _ _=>rfl
   rw[hne]at hq1;simp only[Bool.false_or,amS,am6,am1,amX]at hq1;have hc:=qy hd0 hD.ni hx0;have e:(Pz.b r).len+pV x D=((Pz.b r).len+pV x D - 1)+1:=by omega
   rw[e];refine⟨fun h0=>(by rw[h0]at hq1;simp at hq1),fun j hj=>?_⟩;rcases(hq2 j).1 (hq1.2 j hj)with h' | ⟨h',hx'⟩
   ·cases h'
   ·obtain⟨d,hd,rfl⟩:=am8.1 h';exact hcome d hd hx'
 | .p i r,D,st,Q,QJ,hQ,hJ,h=>fun hns L hL hD=>by
  simp only[tU]at h;split at h
  ·exact fun _ _ _ _ _ _ _ _=>h.elim
  ·rename_i o ho;simp only[kV,amS,am6]at hL;obtain⟨hdst, -,hall,hr⟩:=hL;refine qx hD fun x β H a w hZ hcome=>?_;obtain⟨q,hq1,hq2⟩:=im x _ _ _ hall;have hmap:(mY.fJ D).map (·.1)=D.map (·.i):=by simp[mY.fJ]
   rw[hmap]at hq1 hq2;simp only[amS,am1,amX,am2,beq_iff_eq]at hq1;have e:(Pz.p i r).len+pV x D=((Pz.p i r).len+pV x D - 1)+1:=by simp only[Pz.len];omega
   rw[e];refine⟨fun h0=>(by rw[h0]at hq1;simp at hq1),fun j hj=>?_⟩;have done:j∈q→wpOp P ops (QQ C R) j (fun a' w'=>GG H (Wb β w.heap.size ((Pz.p i r).Y j)) w w'∧pj P ops (QQ C R) (fun j w1 w2=>GG H (Wb β w.heap.size ((Pz.p i r).Y j)) w1 w2) ((Pz.p i r).len+pV x D - 1) ((fC x (D.map (·.i)) L).setIfInBounds j true) a' w') a w:=fun hjq=>by
    rcases(hq2 j).1 hjq with h' | ⟨h',hx'⟩
    ·cases h'
    ·obtain⟨d,hd,rfl⟩:=am8.1 h';exact hcome d hd hx'
   rcases hq1.2 j hj with rfl | hjq
   ·have hlen:(Pz.p j r).len+pV x D - 1=r.len+pV x D:=by simp only[Pz.len];omega
    rw[hlen];unfold wpOp;simp only[ho];rcases yT h hZ.F with⟨hw,fr,hfr,hF',hyes⟩ | ⟨hw,fr,hfr,hF',hno⟩
    ·rw[if_pos hw];left;unfold jZ at hyes;split at hyes
     ·rename_i f args ts hop;split at hyes
      ·rename_i xs hxs;obtain⟨hf,hdk,hks,args',Φ,hsub,hpure,hk⟩:=hyes;have hrun:(execOp a.eval o).run P w=.ok (.enter f (args.map a.eval)) w:=by
        obtain⟨dst,op,type,pos,after,guard⟩:=o;simp only at hop;subst hop;simp only[execOp,resolve,Act.eval,Deferred.ofValue,Sem.run_bind,Sem.run_pure,Result.andThen_ok,invoke];simpa using hf (args.map a.eval) w
       simp only[Oper.wp,hrun,Oper.upon];have hvals:=jr hF' _ _ hxs;have hWM:=hZ.SO hD;have hvals':=fL hWM hsub ⟨fun k e _ hk=>by rw[hks]at hk;cases hk⟩ hvals;have hcall:=hpure H w _ hWM.zj hvals';rw[show(args.toList.map a.eval).toArray=args.map a.eval from by apply amq;simp]at hcall;refine Calls.mono hcall ?_;rintro e' w' ⟨H',v,z,rfl,g1,g2,g3,g4,g5,g6⟩;have hF2:gI β H' st.n (dd o.dst (some z) fr) (a.put o.dst v):=(hF'.mono (fun _ _ h=>h) g3).dd hdk (g1.up (fun k d hd=>by simp[lF]at hd) (fun _ _ h=>h));have hslot:=kf ho hdst;have hZ2:ZS C st.n (dd o.dst (some z) fr) st.M D x β H' (a.put o.dst v) w':=by
        refine⟨hF2,hZ.W.after g6 g3 g4 g5,fun d hd hx=>?_,hZ.N⟩;obtain⟨v',hv',hden⟩:=hZ.S d hd hx;refine⟨v',?_,hden.up (fun _ _ h=>h) g3⟩;cases hd0:o.dst with
        | none=>exact hv'
        | some s=>simp only[Act.put];rw[al1 (hslot d hd s hd0)];exact hv'
       have hih:=rY np r D ⟨st.n,dd o.dst (some z) fr,st.M⟩ hJ hJ (hk z g2) hns _ hr (hD.frame fun d hd=>iC (hfr _ (hD.fr d hd)) (hslot d hd)) _ x β H' _ w' rfl hZ2;rw[ik]at hih;refine⟨⟨⟨g6.size,fun b hb _=>g6.block b hb⟩,nG.mono (H':=H') g5.1 g3⟩,?_⟩;refine ki _ _ _ _ (fun j' w1 w2 _ hr'=>⟨hr'.1.mono fun b _ hb=>?_,hr'.2.mono g3⟩) hih;obtain⟨b1,b2⟩:=hb;exact⟨b1,b2.imp id (Or.imp (fun h=>Nat.le_trans g6.size h) id)⟩
      ·exact hyes.elim
     ·rename_i t args ts hop;split at hyes
      ·rename_i f l r' xs hfn hxs;obtain⟨hf,hdk,hks,args',Φ,hsub,hpure,hk⟩:=hyes;obtain⟨vf,hv,hden⟩:=hF'.2.2 t _ hfn;simp only[Den]at hden;obtain⟨vl,vr,rfl,hdl,hdr⟩:=hden;have hgv:a.eval (.tmp t)=.func (.func f) vl.toArray vr.toArray:=by
        simp only[Act.eval,Array.getD_eq_getD_getElem?,hv];rfl
       have hrun:(execOp a.eval o).run P w=.ok (.enter f (vl.toArray++args.map a.eval++vr.toArray)) w:=by
        obtain⟨dst,op,type,pos,after,guard⟩:=o;simp only at hop;subst hop;simp only[execOp,resolve,hgv,Deferred.ofValue,Sem.run_bind,Sem.run_pure,Result.andThen_ok,invoke];simpa using hf (vl.toArray++args.map a.eval++vr.toArray) w
       simp only[Oper.wp,hrun,Oper.upon];have hvals:=gf (gf hdl (jr hF' _ _ hxs)) hdr;have hWM:=hZ.SO hD;have hvals':=fL hWM hsub ⟨fun k e _ hk=>by rw[hks]at hk;cases hk⟩ hvals;have hcall:=hpure H w _ hWM.zj hvals';rw[show(vl++args.toList.map a.eval++vr).toArray=vl.toArray++args.map a.eval++vr.toArray from by apply amq;simp]at hcall;refine Calls.mono hcall ?_;rintro e' w' ⟨H',v,z,rfl,g1,g2,g3,g4,g5,g6⟩;have hF2:gI β H' st.n (dd o.dst (some z) fr) (a.put o.dst v):=(hF'.mono (fun _ _ h=>h) g3).dd hdk (g1.up (fun k d hd=>by simp[lF]at hd) (fun _ _ h=>h));have hslot:=kf ho hdst;have hZ2:ZS C st.n (dd o.dst (some z) fr) st.M D x β H' (a.put o.dst v) w':=by
        refine⟨hF2,hZ.W.after g6 g3 g4 g5,fun d hd hx=>?_,hZ.N⟩;obtain⟨v',hv',hden⟩:=hZ.S d hd hx;refine⟨v',?_,hden.up (fun _ _ h=>h) g3⟩;cases hd0:o.dst with
        | none=>exact hv'
        | some s=>simp only[Act.put];rw[al1 (hslot d hd s hd0)];exact hv'
       have hih:=rY np r D ⟨st.n,dd o.dst (some z) fr,st.M⟩ hJ hJ (hk z g2) hns _ hr (hD.frame fun d hd=>iC (hfr _ (hD.fr d hd)) (hslot d hd)) _ x β H' _ w' rfl hZ2;rw[ik]at hih;refine⟨⟨⟨g6.size,fun b hb _=>g6.block b hb⟩,nG.mono (H':=H') g5.1 g3⟩,?_⟩;refine ki _ _ _ _ (fun j' w1 w2 _ hr'=>⟨hr'.1.mono fun b _ hb=>?_,hr'.2.mono g3⟩) hih;obtain⟨b1,b2⟩:=hb;exact⟨b1,b2.imp id (Or.imp (fun h=>Nat.le_trans g6.size h) id)⟩
      ·exact hyes.elim
     ·exact hyes.elim
    ·rw[if_neg (by simp[hw])];have hslot:=kf ho hdst;have hZ2:=hZ.put hF' hslot;have hih:=rY np r D ⟨st.n,fr,st.M⟩ hQ hJ hno hns _ hr (hD.frame fun d hd=>hfr _ (hD.fr d hd) (hslot d hd)) _ x β H _ w rfl hZ2;rw[ik]at hih;exact⟨⟨RS.xc w,hZ.W.inv⟩,hih⟩
   ·exact done hjq
 | .q i ks r,D,st,Q,QJ,hQ,hJ,h=>fun hns L hL hD m x β H a w hm hZ=>by
  simp only[kV,amS,am6]at hL;obtain⟨hdst, -,hall,hL⟩:=hL;obtain⟨qq,hq, -⟩:=im x _ _ _ hall;have hmap:(mY.fJ D).map (·.1)=D.map (·.i):=by simp[mY.fJ]
  rw[hmap]at hq;have hF:=hZ.F;have hW:=hZ.SO hD;simp only[tU]at h;split at h
  ·exact h.elim
  ·rename_i o ho;have hslot:=kf ho hdst;simp only[Ve,ho,amS]at hq;obtain⟨h1,h2,h3,h4,h5⟩:=hq;simp only[am1,amS,am6]at h4
   let Dd:Nat→Bool:=fun j=>(LQ ops i).contains j
   let U:Nat→Prop:=fun b=>∃j,j<ops.size∧j≠i∧Dd j=false∧(fC x (D.map (·.i)) L).getD j true=false∧Wb β w.heap.size (r.Y j) b
   have hUk:(∃t x,o.op=.load t x)→∀b,U b→b<w.heap.size→o8∈ks∨∃k∈ks,∃d,β k=some (some d)∧d.b=b:=by
    rintro⟨t',x',hop⟩ b ⟨j,hj1,hj2,hj3,hj4,hw1,hw2⟩ hb;obtain⟨dst,op,type,pos,after,guard⟩:=o;simp only at hop;subst hop;simp only[am1,List.mem_range,am2,beq_iff_eq]at h5;have hks:∀k∈r.Y j,k∈ks:=fun k hk=>by
     rcases h5 j hj1 with h | h | h | h
     ·exact absurd h hj2
     ·rw[hj4]at h;cases h
     ·rw[show(LQ ops i).contains j=false from hj3]at h;cases h
     ·have:=h k hk;simpa using this
    rcases hw2 with hw2 | hw2 | ⟨k,hk,d,hd,hdb⟩
    ·exact .inl (hks _ hw2)
    ·omega
    ·exact .inr ⟨k,hks k hk,d,hd,hdb⟩
   have core:∀v,YieldsIf P ops (fun w'=>RS U w w'∧nG H w') o v a→(∃fr,(∀d∈D,get fr d.t=none)∧gI β H st.n fr (a.put o.dst v)∧tU P C ops D r ⟨st.n,fr,st.M⟩ Q QJ)→pj P ops (QQ C R) (fun j w1 w2=>GG H (Wb β w.heap.size ((Pz.q i ks r).Y j)) w1 w2) ((Pz.q i ks r).len+m) (fC x (D.map (·.i)) L) a w:=by
    rintro v hy ⟨fr,hfr,hF',hv⟩;have e:(Pz.q i ks r).len+m=(r.len+m)+1:=by simp only[Pz.len];omega
    rw[e];refine sF (D:=Dd) (S:=fun w'=>RS U w w'∧nG H w') ho (Region.noSelect_spec hns) (fun c a' w' ⟨st',hp,_⟩=>absurd hp (np c st')) (fun j oj hj hoj=>?_) (fun w1 hs=>⟨RS.xc w1,hs.2⟩) _ _ a w ?_ (fun j hj=>?_) (Region.free_spec ho h2) (by simpa using h3) hy ⟨RS.xc w,hW.inv⟩ ?_
    ·have:=h4 j (by simpa[Dd]using hj);rw[hoj]at this;simp only[Array.any_eq_true',amS,am2,beq_iff_eq]at this;exact this.2
    ·intro j w1 w2 hj1 hj2 hj3 hj4 hs hg;exact⟨hs.1.trans hg.1 fun b _ hb=>⟨j,hj1,hj2,hj3,hj4,hb⟩,hg.2⟩
    ·exact(h4 j (by simpa[Dd]using hj)).1
    ·have hih:=rY np r D ⟨st.n,fr,st.M⟩ hQ hJ hv hns _ hL (hD.frame hfr) m x β H _ w hm (hZ.put hF' hslot);rw[ik]at hih;exact hih
   rcases yT h hF with⟨hw,fr,hfr,hF',hi,hyes⟩ | ⟨hw,fr,hfr,hF',hno'⟩
   ·obtain⟨c,y,hy,hc,hd,hnx⟩:=pM h1 (HD hi) hyes;have hinj:∀(k:Nat) (e:cx) (d:Bd),ao st.M k=some e→β k=some (some d)→∀k',qc (iW D st.M) k'→∀d',β k'=some (some d')→d.b=d'.b→k=k':=fun k e d he hd k' hl d' hd' hb=>by
     unfold qc at hl;split at hl
     ·rename_i e2 he2;obtain⟨e3,he3⟩:=vw (x:=x) (aL he2) fun d2 hd2 e4=>by
       cases hx:x d2.i with
       | true=>rfl
       | false=>have:=hZ.N d2 hd2 hx;rw[e4,hd']at this;cases this
      exact hZ.W.inj k k' e e3 d d' (xG hD.M (aL he)) he3 hd hd' hb
     ·exact hl.elim
    obtain⟨v,hv1,hv2⟩:=K3 (st:=⟨st.n,fr,st.M⟩) hW hF' hy hc hi hinj hUk;exact core v (.inl ⟨hw,hv1⟩) ⟨_,fun d hd'=>iC (hfr _ (hD.fr d hd')) (hslot d hd'),hF'.dd hd hv2,hnx⟩
   ·exact core undef (.inr ⟨hw,rfl⟩) ⟨fr,fun d hd'=>hfr _ (hD.fr d hd') (hslot d hd'),hF',hno'⟩
theorem ae.Bf{id:Nat}(pl:Pz)(hm:P.follows .mixedOrders=true)(hp:(Region.noSelect ops&&(kV ops [] (Array.replicate ops.size false) pl&&decide (pl.len≤ops.size)))=true)(np:∀c st,¬QJ (.panic c) st)
  (h:tU P C ops [] pl st QJ QJ):ae P C (.region id ops true) st QJ:=by
 simp only[amS,decide_eq_true_eq]at hp;rintro a w ⟨β,H,hF,hW⟩;have hD:mY P ops st.n st.fr st.M []:=⟨by simp,by simp,by simp,by simp,by simp,by simp,by simp⟩;have hj:=rY np pl [] st (fun _ _ h=>h) (fun _ _ h=>h) h hp.1 _ hp.2.1 hD 0 (fun _=>false) β H a _ rfl ⟨hF,hW.drew,by simp,by simp⟩;exact wp_region_any hm (ur _ _ _ _ (yC hp.2.2 hj))
end
/-! how simp runs it -/
def OO(P:Program)(C:Ctx)(ops:Array Oper)(D:List dc)(r:Pz)(Q QJ:aV)(st:St):Prop:=tU P C ops D r st Q QJ
def njY(P:Program)(C:Ctx)(ops:Array Oper)(D:List dc)(r:Pz)(QJ:aV)(st:St):Prop:=tU P C ops D r st QJ QJ
def zG(P:Program)(x:Option SV)(xs:Option (List SV))(d:Option Tmp)(st:St)(next:St→Prop):Prop:=match x,xs with
 | some (.gA f l r),some xs=>al P f∧sS d st.n∧qH P f (l++xs++r) st.M (KU d st next)
 | _,_=>False
section
variable {P:Program} {C:Ctx} {st:St} {Q QJ:aV} {l:List Oper} {D:List dc} {d:Option Tmp} {op:Op} {t:TypeId} {p:String} {af:Array Edge} {g:Option (Nat × Bool)} {o:Oper} {r:Pz} {i:Nat} {ks:List Nat} {next:St→Prop}
@[simp] theorem aaN:OO P C l.toArray D r Q QJ st=tU P C l.toArray D r st Q QJ:=rfl
@[simp] theorem ab9:njY P C l.toArray D r QJ st=tU P C l.toArray D r st QJ QJ:=rfl
def yQQ(P:Program)(C:Ctx)(l:List Oper)(D:List dc)(ks:List Nat)(o:Oper)(r:Pz)(Q QJ:aV)(st:St):Prop:=w8 ks ⟨st.n,st.fr,iW D st.M⟩ o.op∧cE P C none o st (OO P C l.toArray D r Q QJ) Sg
def yPP(P:Program)(C:Ctx)(l:List Oper)(D:List dc)(o:Oper)(r:Pz)(QJ:aV)(st:St):Prop:=jZ P o st (njY P C l.toArray D r QJ)
@[simp] theorem aad:yQQ P C l D ks o r Q QJ st=(w8 ks ⟨st.n,st.fr,iW D st.M⟩ o.op∧cE P C none o st (OO P C l.toArray D r Q QJ) Sg):=rfl
@[simp] theorem KW{f:FuncId}{l r xs:List SV}:zG P (some (.gA f l r)) (some xs) d st next=(al P f∧sS d st.n∧qH P f (l++xs++r) st.M (KU d st next)):=rfl
@[simp ↓] theorem Gx{x:Nat}{os:List Operand}{ts:Array TypeId}:jZ P ⟨d,.call ⟨.value (.tmp x),os.toArray,ts⟩,t,p,af,g⟩ st next=zG P (get st.fr x) (rQ st.fr os) d st next:=by
 simp only[jZ,zG];cases get st.fr x with
 | none=>rfl
 | some v=>cases v<;>cases rQ st.fr os<;>rfl
@[simp] theorem Z3:yPP P C l D o r QJ st=jZ P o st (njY P C l.toArray D r QJ):=rfl
def oQy(P:Program)(C:Ctx)(l:List Oper)(D:List dc)(ks:List Nat)(o:Option Oper)(r:Pz)(st:St)(Q QJ:aV):Prop:=match o with
 | some o=>gd l.toArray o st (yQQ P C l D ks o r Q QJ) (OO P C l.toArray D r Q QJ)
 | none=>False
def oPy(P:Program)(C:Ctx)(l:List Oper)(D:List dc)(o:Option Oper)(r:Pz)(st:St)(Q QJ:aV):Prop:=match o with
 | some o=>gd l.toArray o st (yPP P C l D o r QJ) (OO P C l.toArray D r Q QJ)
 | none=>False
def oTy(P:Program)(C:Ctx)(l:List Oper)(D:List dc)(i t:Nat)(ti:Option TI)(r:Pz)(st:St)(Q QJ:aV):Prop:=match ti with
 | some ti=>t<st.n∧tU P C l.toArray (D++[⟨i,t,st.M.length,ti⟩]) r ⟨st.n,del st.fr t,st.M++[none]⟩ Q QJ
 | none=>False
def oDy(P:Program)(C:Ctx)(l:List Oper)(D:List dc)(i:Nat)(o:Option Oper)(r:Pz)(st:St)(Q QJ:aV):Prop:=match o with
 | some ⟨some t,.alloc T,_,_,_,none⟩=>oTy P C l D i t (az P T) r st Q QJ
 | _=>False
@[simp] theorem W8:oQy P C l D ks (some o) r st Q QJ=gd l.toArray o st (yQQ P C l D ks o r Q QJ) (OO P C l.toArray D r Q QJ):=rfl
@[simp] theorem Xf:oPy P C l D (some o) r st Q QJ=gd l.toArray o st (yPP P C l D o r QJ) (OO P C l.toArray D r Q QJ):=rfl
@[simp] theorem VN{t:Nat}{ti:TI}:oTy P C l D i t (some ti) r st Q QJ=(t<st.n∧tU P C l.toArray (D++[⟨i,t,st.M.length,ti⟩]) r ⟨st.n,del st.fr t,st.M++[none]⟩ Q QJ):=rfl
@[simp] theorem Ug{t':Nat}{T:TypeId}:oDy P C l D i (some ⟨some t',.alloc T,t,p,af,none⟩) r st Q QJ=oTy P C l D i t' (az P T) r st Q QJ:=rfl
@[simp ↓] theorem aiG{r:Pl}:tU P C l.toArray D (.b r) st Q QJ=eN P C l.toArray r ⟨st.n,ld D st.fr,iW D st.M⟩ Q QJ:=rfl
@[simp ↓] theorem aiD:tU P C l.toArray D (.q i ks r) st Q QJ=oQy P C l D ks (jD l i) r st Q QJ:=by
 simp only[tU,gU];cases jD l i<;>rfl
@[simp ↓] theorem aia:tU P C l.toArray D (.p i r) st Q QJ=oPy P C l D (jD l i) r st Q QJ:=by
 simp only[tU,gU];cases jD l i<;>rfl
@[simp ↓] theorem aim:tU P C l.toArray D (.d i r) st Q QJ=oDy P C l D i (jD l i) r st Q QJ:=by
 simp only[tU,gU,oDy,oTy]
end
end Go.Sv
namespace Go.Sv
open Go Go.RowKit
theorem DU{β:bO}{H:Hp}{s:Nat}:∀{es:List SV} {vs:List Value} {i:Nat} {x y:SV},aU β H s es vs→aA es i=x→i<es.length→(∀v,Den β H x v→Den β H y v)→aU β H s (bD es i y) vs
 | [],_,i,_,_,_,_,hi,_=>by simp at hi
 | z::es,vs,0,x,y,h,hx,_,hy=>by
  simp only[aU]at h;obtain⟨v,r,rfl,h2,h3,h4⟩:=h;simp only[aA]at hx;subst hx;simp only[bD,aU];exact⟨v,r,rfl,h2,hy v h3,h4⟩
 | z::es,vs,i+1,x,y,h,hx,hi,hy=>by
  simp only[aU]at h;obtain⟨v,r,rfl,h2,h3,h4⟩:=h;simp only[bD,aU];exact⟨v,r,rfl,h2,h3,DU h4 (by simpa[aA]using hx) (by simpa using hi) hy⟩
section
variable {C:Ctx}
theorem Le.HJ{st:St}(k i0 j s:Nat){e:cx}{l:List SV}(hk:ao st.M k=some e)(hes:aA e.es i0=.agg l)(hil:i0<e.es.length)(hpz:0<e.sz)(hfz:e.fz=false)(hj:aA l j=.val (.slice none 0 0))(hjl:j<l.length) :
  Le C st ⟨st.n,st.fr,aN st.M k (some ⟨e.sz,bD e.es i0 (.agg (bD l j (.view st.M.length 0 0))),false⟩)++[some ⟨s,[],false⟩]⟩:=by
 rintro a w ⟨β,H,hF,hW⟩;have hk':=aL hk;have hkl:k<st.M.length:=by
  rcases Nat.lt_or_ge k st.M.length with h' | h'
  ·exact h'
  ·rw[al2 h']at hk';cases hk'
 have hW2:=hW.nil s;refine⟨β.dT st.M.length none,H,hF.mono (fS hW none) (fun _ _ h=>h),?_⟩;have hden:∀{l:List SV} {vs:List Value} {j:Nat},bh (β.dT st.M.length none) H l vs→aA l j=.val (.slice none 0 0)→j<l.length→bh (β.dT st.M.length none) H (bD l j (.view st.M.length 0 0)) vs:=by
  intro l
  induction l with
  | nil=>intro vs j _ _ hj;simp at hj
  | cons x l ih =>
   intro vs j h hj hjl;simp only[bh]at h;obtain⟨v,r,rfl,h1,h2,h3⟩:=h;cases j with
   | zero =>
    simp only[aA]at hj;subst hj;simp only[bD,bh];refine⟨v,r,rfl,rfl,?_,h3⟩;simp only[Den]at h2 ⊢;left;exact⟨by simp[bO.dT],trivial,trivial,h2.1⟩
   | succ j =>
    simp only[bD,bh];exact⟨v,r,rfl,h1,h2,ih h3 (by simpa[aA]using hj) (by simpa using hjl)⟩
 have e1:aN st.M k (some ⟨e.sz,bD e.es i0 (.agg (bD l j (.view st.M.length 0 0))),false⟩)++[some (⟨s,[],false⟩:cx)]=(st.M++[some (⟨s,[],false⟩:cx)]).set k (some ⟨e.sz,bD e.es i0 (.agg (bD l j (.view st.M.length 0 0))),false⟩):=by
  rw[ez,List.set_append_left _ _ hkl]
 show cv C _ H (aN st.M k _++_) w;rw[e1];have hkM:(st.M++[some (⟨s,[],false⟩:cx)])[k]?=some (some e):=by rw[alX hkl];exact hk'
 refine⟨hW2.os,hW2.tape,hW2.output,hW2.size,hW2.frame,hW2.ext,hW2.new,hW2.inv,fun i x hi=>?_,fun i x d hi hd=>?_,fun i i' x1 x2 d1 d2 hi hi' hd1 hd2 hb=>?_,fun i hi=>hW2.fresh i (by simpa using hi),hW2.fU,hW2.eW⟩
 ·rcases getElem?_set_cases hi with⟨rfl,he,_⟩ | ⟨_,hi'⟩
  ·simp only[al0]at he;subst he;rcases hW2.da i e hkM with⟨h1,h2⟩ | ⟨d,cs,T,vs,h1,h2,h3,h4,h5,h6,h7,h8⟩ | ⟨d,ms,h1,h2,h3,h4⟩
   rotate_left 2
   ·exact absurd h2.1 (by omega)
   ·rw[h2]at hil;simp at hil
   ·exact .inr (.inl ⟨d,cs,T,vs,h1,h2,h3,h4,DU h5 hes hil fun v hv=>by
     simp only[Den]at hv ⊢;obtain⟨us,rfl,g4⟩:=hv;exact⟨us,rfl,hden g4 hj hjl⟩,h6,h7,fun hf=>by cases hf⟩)
  ·exact hW2.da i x hi'
 ·rcases getElem?_set_cases hi with⟨rfl,he,_⟩ | ⟨_,hi'⟩
  ·simp only[al0]at he;subst he;have:=hW2.own i e d hkM hd;exact⟨fun _=>this.1 hfz,this.2⟩
  ·exact hW2.own i x d hi' hd
 ·have aux:∀(q:Nat) (x:cx),((st.M++[some (⟨s,[],false⟩:cx)]).set k (some ⟨e.sz,bD e.es i0 (.agg (bD l j (.view st.M.length 0 0))),false⟩))[q]?=some (some x)→∃x0:cx,(st.M++[some (⟨s,[],false⟩:cx)])[q]?=some (some x0):=fun q x hq=>by
   rcases getElem?_set_cases hq with⟨rfl,_,_⟩ | ⟨_,hq'⟩
   ·exact⟨e,hkM⟩
   ·exact⟨x,hq'⟩
  obtain⟨y1,hy1⟩:=aux i x1 hi;obtain⟨y2,hy2⟩:=aux i' x2 hi';exact hW2.inj i i' y1 y2 d1 d2 hy1 hy2 hd1 hd2 hb
end
end Go.Sv


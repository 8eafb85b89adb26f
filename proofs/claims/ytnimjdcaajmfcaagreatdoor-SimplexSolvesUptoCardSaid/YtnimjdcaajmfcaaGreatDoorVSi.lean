/- A text of the prover's own. -/
import Derived.Test.YtnimjdcaajmfcaaGreatDoorVUj
open List renaming cons_append->ayb,nil_append->aAf,map_set->aAq,getElem?_eq_some_iff->ayd,getElem?_map->aw9
open Bool renaming and_self->aBZ,and_eq_true->ayt
namespace Go.Proofs
open Go.Sv Go Go.Tb Go.Pl Go.Ut Go.Mx Go.Li Go.Dt Go.Sx
theorem cU(b:Bo):aM (dA b).cells 0=dr b.has:=rfl
end Go.Proofs
set_option maxRecDepth 10000
namespace Go.Sx
open Go Go.Sv Go.Pl Go.Proofs Go.Tb Go.Ut Go.Mx Go.Li Go.Dt
def Us(b:Bo)(x:Rat):Bool:=!b.has||decide (x<b.at')
def Uz(b:Bo)(x:Rat):Bool:=!b.has||decide (b.at'<x)
theorem r5{b:Bo}{x:Rat}:Us b x=true↔mW b x:=by unfold Us mW;cases b.has<;>simp
theorem sr{b:Bo}{x:Rat}:Uz b x=true↔nC b x:=by unfold Uz nC;cases b.has<;>simp
end Go.Sx
namespace Go.Proofs
open Go.Sv Go Go.Tb Go.Pl Go.Ut Go.Mx Go.Li Go.Dt Go.Sx
theorem oq(c:Tc)(s:Tb)(hc:qe c)(t:wg c s){Z W Y j:Nat}{y:Rat}(hj:j<c.N)(hy:qw Y y)(hW:∀i,i<c.m->Wd W (gt s.R i))(hx:qw Z (gt s.x j))(hz:∀i,i<=c.m->∀k,k<c.N->qw Z (gt (gj s j y i) k))(h1:1<=W)(hZ:Z<=10000000000)(ar:W+Y<=10000000000) :
  kZ Tryz.prog 171 [.ptr 0 0 0,iv j,aS y] (tT c s []) [] (λT v=>T=tT c { s with x:=gj s j y c.m } []∧v=.bM []):=by
 have h7:=hc.m7;have aj:=hc.ur;have hR:=t.R;have ac:=t.x;have hb:=t.b;have lx:=ch (l:=s.x) (i:=j) (by omega);refine gV Tryz.func171 rfl (by simp) (λC hC=>?_);have fx:=qm hR hC;simp only[tT,tH,tS,ayb,aAf];simp(disch:=omega)[hR];repeat refine awG ?_
 refine aa.awH (.qs [0,1,2,3,4,5,6,7,8,9,10,11,12]<|.l 13 []<|.qs [14]<|.l 15 [2]<|.nil) ?_;simp(disch:=omega)[cN hR,hj,ac,lx, -aAq];repeat refine awG ?_
 refine awI (pX (gt s.x j) y (aq hx hZ) (aq hy (by omega))) ?_;simp(disch:=omega)[hj,ac,lx,cx, -aAq];repeat refine awG ?_
 refine aa.bB (ι:=Nat) (λi=>⟨68,[(0,.ptr 0 0 0),(1,iv j),(5,.ptr (c.m+6) 0 0),(27,.view 5 0 c.m),(28,iv c.m),(29,iv i)],tT c { s with x:=gj s j y i } [some ⟨4,[aS y],false⟩]⟩)
  (λi=>i<=c.m) (λi=>c.m - i) 0 (by simp) ?_ ?_
 ·exact⟨rfl,by simp[bY,Go.Sv.get],ao _,.inl rfl⟩
 ·rintro i hi;by_cases ad:i<c.m
  ·have au:=gM (N:=c.N) (m:=c.m) (i:=i) ad;have tg:=λtl:aC=>fE (C:=s.R) (tl:=tl) (e:=i) (by omega);have Ri:=t.Rr i ad;have lj:=ch (l:=gt s.R i) (i:=j) (by omega);have av:=fI (l:=s.basic) (i:=i) (by omega);have ag:=t.bb i ad;have xl:(gj s j y i).length=c.N:=by rw[fU,ac]
   have ah:=ch (l:=gj s j y i) (i:=gt s.basic i) (by omega);have q1:=hW i ad j (by omega);have q2:=hz i hi (gt s.basic i) ag;have ax:=Ns (s:=s) (j:=j) (i:=i) (y:=y) (by omega);have nx:gj s j y (i+1)=(gj s j y i).set (gt s.basic i) (gt (gj s j y i) (gt s.basic i)+gt (gt s.R i) j*y):=rfl;simp only[tT,tH,tS,ayb,aAf];generalize gj s j y i=X at *;simp(disch:=omega)[ad,au,tg,lj,Ri,hj];repeat refine awG ?_
   refine awI (iy (gt (gt s.R i) j)) ?_;simp(disch:=omega)[aD,Int.sign_eq_zero_iff_zero,Rat.num_eq_zero];repeat refine awG ?_
   refine⟨λz=>?_,λz=>?_⟩
   ·simp(disch:=omega)[hb,ad,av];repeat refine awG ?_
    refine aa.awH (.qs [0,1,2,3,4,5,6,7,8,9,10,11,12,13,14,15,16]<|.l 17 []<|.l 18 []<|.qs [19]<|.l 20 [2]<|.nil) ?_;simp(disch:=omega)[tg,lj,Ri,hj,cN hR,ag,xl,ah, -aAq];repeat refine awG ?_
    refine awI (pA (gt (gt s.R i) j) y (aq q1 (by omega)) (aq hy (by omega))) ?_;simp(disch:=omega)[-aAq];repeat refine awG ?_
    refine awI (pX (gt X (gt s.basic i)) (gt (gt s.R i) j*y) (aq q2 hZ) (aq (cy q1 hy (by omega)) ar)) ?_;simp(disch:=omega)[ag,xl,ah,cx,aD, -aAq];repeat refine awG ?_
    refine⟨i+1,by omega,by omega,?_⟩;rw[nx];exact Le.dE ⟨rfl,by simp(disch:=omega)[bY,Go.Sv.get],ao _,.inl rfl⟩
   ·refine⟨i+1,by omega,by omega,?_⟩;rw[ax z];exact Le.dE ⟨rfl,by simp(disch:=omega)[bY,Go.Sv.get],ao _,.inl rfl⟩
  ·obtain rfl:i=c.m:=by omega
   simp only[tT,tH,tS,ayb,aAf];simp(disch:=omega)[hR];repeat refine awG ?_
   exact⟨_,_,⟨rfl,rfl⟩,rfl,I8 c { s with x:=gj s j y c.m } _,by simp[hR],.inr ⟨by simp,Dr (c:=c) (s:={ s with x:=gj s j y c.m }) hR⟩⟩
theorem Fs{x y:Rat}:(if x<y then(-1:Int) else if y<x then 1 else 0)<0↔x<y:=by
 by_cases h1:x<y
 ·rw[if_pos h1];simp[h1]
 ·rw[if_neg h1];by_cases h2:y<x
  ·rw[if_pos h2];simp[h1]
  ·rw[if_neg h2];simp[h1]
theorem AE{x y:Rat}:0<(if x<y then(-1:Int) else if y<x then 1 else 0)↔y<x:=by
 by_cases h1:x<y
 ·rw[if_pos h1];constructor
  ·intro h;omega
  ·intro h;exact absurd h (by grind)
 ·rw[if_neg h1];by_cases h2:y<x
  ·rw[if_pos h2];simp[h2]
  ·rw[if_neg h2];simp[h2]
theorem rL(c:Tc)(s:Tb)(hc:qe c)(t:wg c s){Z j:Nat}(hj:j<c.N)(hx:qw Z (gt s.x j))(hb:qw Z (gt c.high j).at')(hZ:Z<=10000000000) :
  kZ Tryz.prog 169 [.ptr 0 0 0,iv j] (tT c s []) [] (λT v=>T=tT c s []∧v=dr (Us (gt c.high j) (gt s.x j))):=by
 have aj:=hc.ur;have hR:=t.R;have ac:=t.x;have ak:=hc.hi;have lx:=ch (l:=s.x) (i:=j) (by omega);have al:aM (c.high.map dA) j=dA (gt c.high j):=ct _ (by omega);refine gV Tryz.func169 rfl (by simp) (λC hC=>?_);have fx:=qm hR hC;simp only[tT,tH,tS,ayb,aAf];simp(disch:=omega)[];repeat refine awG ?_
 refine aa.awH (.qs [0,1,2,3,4,5,6,7,8,9,10,11,12,13,14,15,16,17,18,19,20,21,22,23,24]<|.l 25 []<|.qs [26,27,28]<|.nil) ?_;by_cases hh:(gt c.high j).has=true
 ·simp(disch:=omega)[hj,ac,ak,lx,al,hh];repeat refine awG ?_
  have cm:=rP (gt s.x j) (gt c.high j).at' (aq hx hZ) (aq hb hZ);have cl:=@Fs (gt s.x j) (gt c.high j).at';generalize (if gt s.x j<(gt c.high j).at' then(-1:Int) else if(gt c.high j).at'<gt s.x j then 1 else 0)=z at *;refine awI (cm) ?_;simp;exact⟨_,_,⟨rfl,rfl⟩,by simp[Us,hh,cl],ao _,by simp[hR],.inl (by simp[hR])⟩
 ·simp(disch:=omega)[hR,hj,ak,al,hh];repeat refine awG ?_
  exact⟨_,_,⟨rfl,rfl⟩,by simp[Us,hh],ao _,by simp[hR],.inl (by simp[hR])⟩
theorem qL(c:Tc)(s:Tb)(hc:qe c)(t:wg c s){Z j:Nat}(hj:j<c.N)(hx:qw Z (gt s.x j))(hb:qw Z (gt c.low j).at')(hZ:Z<=10000000000) :
  kZ Tryz.prog 170 [.ptr 0 0 0,iv j] (tT c s []) [] (λT v=>T=tT c s []∧v=dr (Uz (gt c.low j) (gt s.x j))):=by
 have aj:=hc.ur;have hR:=t.R;have ac:=t.x;have am:=hc.lo;have lx:=ch (l:=s.x) (i:=j) (by omega);have an:aM (c.low.map dA) j=dA (gt c.low j):=ct _ (by omega);refine gV Tryz.func170 rfl (by simp) (λC hC=>?_);have fx:=qm hR hC;simp only[tT,tH,tS,ayb,aAf];simp(disch:=omega)[];repeat refine awG ?_
 refine aa.awH (.qs [0,1,2,3,4,5,6,7,8,9,10,11,12,13,14,15,16,17,18,19,20,21,22,23,24]<|.l 25 []<|.qs [26,27,28]<|.nil) ?_;by_cases hh:(gt c.low j).has=true
 ·simp(disch:=omega)[hj,ac,am,lx,an,hh];repeat refine awG ?_
  have cm:=rP (gt s.x j) (gt c.low j).at' (aq hx hZ) (aq hb hZ);have cl:=@AE (gt s.x j) (gt c.low j).at';generalize (if gt s.x j<(gt c.low j).at' then(-1:Int) else if(gt c.low j).at'<gt s.x j then 1 else 0)=z at *;refine awI (cm) ?_;simp;exact⟨_,_,⟨rfl,rfl⟩,by simp[Uz,hh,cl],ao _,by simp[hR],.inl (by simp[hR])⟩
 ·simp(disch:=omega)[hR,hj,am,an,hh];repeat refine awG ?_
  exact⟨_,_,⟨rfl,rfl⟩,by simp[Uz,hh],ao _,by simp[hR],.inl (by simp[hR])⟩
end Go.Proofs
namespace Go.Sv
open Go
theorem Le.perm{C:Ctx}(hC:C.fx=[])(σ:Nat->Nat){st st':St}(hn:st.n=st'.n)(hi:∀k k',k<st'.M.length->k'<st'.M.length->σ k=σ k'->k=k')(hl:∀k,st'.M.length<=k->st.M.length<=σ k)
  (hM:∀(k:Nat) (e:cJ),st'.M[k]?=some (some e)->st.M[σ k]?=some (some (fP σ e))) (hf:∀t x,get st'.fr t=some x->get st.fr t=some (gJ σ x)):Le C st st':=by
 rintro a w ⟨β,H,hF,hW⟩;have lt:∀(k:Nat) (e:cJ),st'.M[k]?=some (some e)->k<st'.M.length:=λk e h=>(ayd.1 h).1;refine⟨λk=>β (σ k),H,⟨⟨hF.1.1,hF.1.2⟩,by rw[<-hn];exact hF.2.1,λt x hg=>?_⟩,?_⟩
 ·obtain⟨v,h1,h2⟩:=hF.2.2 t _ (hf t x hg);exact⟨v,h1,lJ.1 h2⟩
 ·refine⟨hW.os,hW.tape,hW.output,hW.size,hW.frame,hW.ext,hW.new,hW.inv,λk e hk=>qn.gJ.1 (hW.dF _ _ (hM k e hk)),λk e d hk hd=>hW.own (σ k) (fP σ e) d (hM k e hk) hd,
   λk k' e e' d d' hk ae hd ai he=>hi k k' (lt k e hk) (lt k' e' ae) (hW.inj _ _ _ _ _ _ (hM k e hk) (hM k' e' ae) hd ai he),λk hk=>hW.fresh _ (hl k hk),λk d hk=>absurd hk (by rw[hC];simp),hW.fM⟩
def avu(C:Ctx)(az:St):bf:=λe s=>match e with
 | .normal=>Le C s az
 | _=>False
theorem aa.Ol{P:Program}{C:Ctx}{c:Code}{st:St}{Q:bf}(Q1:bf)(h1:aa P C c st Q1)(h2:∀e st',Q1 e st'->∃ab,Le C st' ab∧Q e ab):aa P C c st Q:=by intro a w hs;refine wp_mono (h1 a w hs) ?_;rintro e a' w' ⟨st',h3,h4⟩;obtain⟨ab,h5,h6⟩:=h2 e st' h3;exact⟨ab,h6,h5 a' w' h4⟩
/-! plans whose equal parts are told once -/
section
variable {P:Program} {C:Ctx} {ops:Array Oper} {st:St} {R:bf}
theorem bJ{L:Array Bool}{i:Nat}{ks:List Nat}{r:Pl}(h1:Vr ops L i ks r.Y=true)(h2:ay ops (L.setIfInBounds i true) r=true):ay ops L (.q i ks r)=true:=by simp only[ay,h1,h2,aBZ]
theorem dT{L:Array Bool}{i:Nat}{ks:List Nat}{r:Pl}(h1:(Region.ready .any ops L==[i])=true)(h2:ay ops (L.setIfInBounds i true) r=true):ay ops L (.l i ks r)=true:=by simp only[ay,h1,h2,aBZ]
theorem bH{L:Array Bool}{i:Nat}{ks:List Nat}{r p:Pl}(h1:(Region.ready .any ops L==i::p.s7)=true)(h2:jJ ops L (.alt i ks r p)=true):ay ops L (.alt i ks r p)=true:=by simp only[jJ]at h2;simp only[ay,h1,h2,aBZ]
theorem aT{L:Array Bool}{i:Nat}{ks:List Nat}{r p:Pl}(h1:ay ops (L.setIfInBounds i true) r=true)(h2:jJ ops L p=true):jJ ops L (.alt i ks r p)=true:=by simp only[jJ,h1,h2,aBZ]
theorem aw{L L':Array Bool}{r:Pl}(h:ay ops L' r=true)(e:L=L'):ay ops L r=true:=by rw[e];exact h
theorem bj.stop:bj P C ops .stop st R:=λ_ L _ β H a w _ _ Y' n _ _ j hj=>by simp[Pl.s7]at hj
theorem bj.cons {i:Nat} {ks:List Nat} {r p:Pl} (h:match ops[i]? with
  | none=>False
  | some o=>gd ops o st (λst'=>((okW ks st' o.op∧AD ks r o.op)∧r.there st'.M)∧cO P C (some (nb ks)) o st' (λab=>cj P C ops r ab R) (λab=>cj P C ops r ab R)) (λst'=>cj P C ops r st' R)) (hp:bj P C ops p st R):bj P C ops (.alt i ks r p) st R:=λaf L hL β H a w hF hW Y' n hY hn j hj=>by
 simp only[jJ,ayt]at hL;split at h
 ·exact h.elim
 ·rename_i o ho;simp only[Pl.len]at hn;simp only[Pl.s7,List.mem_cons]at hj;rcases hj with rfl | hj
  ·exact kn ho af hL.1 (λ_ h=>h) (λ_ h=>h) (λ_ h=>h) h hF hW (λk hk=>hY j k (by simp[Pl.Y,one,hk])) (λj' k hk=>hY j' k (by simp[Pl.Y,hk])) (by omega)
  ·exact hp af L hL.2 β H a w hF hW Y' n (λj' k hk=>hY j' k (by simp[Pl.Y,hk])) (by omega) j hj
theorem cj.jE{i:Nat}{ks:List Nat}{r p:Pl}(h:bj P C ops (.alt i ks r p) st R):cj P C ops (.alt i ks r p) st R:=λaf L hL β H a w hF hW=>by
 simp only[ay,ayt,beq_iff_eq]at hL;have hlen:(Pl.alt i ks r p).len=(max r.len (p.len - 1))+1:=by simp only[Pl.len];omega
 rw[hlen];refine KH hL.1 (by simp) λj hj=>?_;exact h af L (by simp only[jJ,ayt];exact hL.2) β H a w hF hW _ _ (λj k hk=>hk) (by omega) j (by simpa[Pl.s7]using hj)
theorem cj.alF(h:R .normal st):cj P C ops .nil st R:=λ_ L hL β H a w hF hW=>by simp only[ay,List.isEmpty_iff]at hL;exact⟨hL,st,h,β,H,hF,hW⟩
theorem cj.perm(hC:C.fx=[])(σ:Nat->Nat){st':St}{pl:Pl}(hn:st.n=st'.n)(hi:∀k k',k<st'.M.length->k'<st'.M.length->σ k=σ k'->k=k')(hl:∀k,st'.M.length<=k->st.M.length<=σ k)
  (hM:∀(k:Nat) (e:cJ),st'.M[k]?=some (some e)->st.M[σ k]?=some (some (fP σ e))) (hf:∀t x,get st'.fr t=some x->get st.fr t=some (gJ σ x)) (hY:∀j,∀k∈pl.Y j,σ k=k) (h:cj P C ops pl st' R):cj P C ops pl st R:=λaf L hL β H a w hF hW=>by
 have lt:∀(k:Nat) (e:cJ),st'.M[k]?=some (some e)->k<st'.M.length:=λk e h=>(ayd.1 h).1;have aB:jl (λk=>β (σ k)) H st'.n st'.fr a:=⟨⟨hF.1.1,hF.1.2⟩,by rw[<-hn];exact hF.2.1,λt x hg=>by obtain⟨v,h1,h2⟩:=hF.2.2 t _ (hf t x hg);exact⟨v,h1,lJ.1 h2⟩⟩
 have aE:cM C (λk=>β (σ k)) H st'.M w:=⟨hW.os,hW.tape,hW.output,hW.size,hW.frame,hW.ext,hW.new,hW.inv,λk e hk=>qn.gJ.1 (hW.dF _ _ (hM k e hk)),λk e d hk hd=>hW.own (σ k) (fP σ e) d (hM k e hk) hd,
   λk k' e e' d d' hk ae hd ai he=>hi k k' (lt k e hk) (lt k' e' ae) (hW.inj _ _ _ _ _ _ (hM k e hk) (hM k' e' ae) hd ai he),λk hk=>hW.fresh _ (hl k hk),λk d hk=>absurd hk (by rw[hC];simp),hW.fM⟩
 refine oA _ _ _ _ (λj w1 w2 _ hr=>⟨hr.1.mono λb _ hb=>?_,hr.2⟩) (h af L hL _ H a w aB aE);rcases hb with⟨h1,h2 | h2 | ⟨k,hk,d,hd,aF⟩⟩
 ·exact⟨h1,.inl h2⟩
 ·exact⟨h1,.inr (.inl h2)⟩
 ·exact⟨h1,.inr (.inr ⟨k,hk,d,by rw[<-hY j k hk];exact hd,aF⟩)⟩
def Kr(l:List Nat)(k:Nat):Nat:=if k<l.length then l.getD k 0 else k
theorem cj.acJ(hC:C.fx=[])(l:List Nat)(hl:∀a,a<l.length->∀b,b<l.length->l.getD a 0=l.getD b 0->a=b){st':St}{pl:Pl}(hn:st.n=st'.n)(h1:st.M.length=l.length)(h2:st'.M.length=l.length)(hM:st'.M.map (λoe=>oe.map (fP (Kr l)))=l.map λi=>aA st.M i)
  (hf:bY st.fr (st'.fr.map λq=>(q.1,gJ (Kr l) q.2))) (hY:∀j,∀k∈pl.Y j,Kr l k=k) (h:cj P C ops pl st' R):cj P C ops pl st R:=by
 have at':∀k (hk:k<l.length),Kr l k=l[k]:=λk hk=>by unfold Kr;rw[if_pos hk];simp[hk]
 refine cj.perm hC (Kr l) hn (λk k' hk ae e=>?_) (λk hk=>?_) (λk e hk=>?_) (λt x hg=>?_) hY h
 ·unfold Kr at e;rw[if_pos (by omega),if_pos (by omega)]at e;exact hl k (by omega) k' (by omega) e
 ·unfold Kr;rw[if_neg (by omega)];omega
 ·have ap:k<l.length:=by rw[<-h2];exact(ayd.1 hk).1
  have e1:(st'.M.map (λoe=>oe.map (fP (Kr l))))[k]?=some (some (fP (Kr l) e)):=by rw[aw9,hk];rfl
  rw[hM,aw9,List.getElem?_eq_getElem ap]at e1;simp only[Option.map_some,Option.some.injEq]at e1;rw[at' k ap];exact aU e1
 ·refine y3 hf t _ ?_;clear hf;revert hg
  induction st'.fr with
  | nil=>intro hg;simp[get]at hg
  | cons q r ih =>
   intro hg;simp only[get,List.map_cons]at hg ⊢;split at hg
   ·rename_i e;rw[if_pos e];cases hg;rfl
   ·rename_i e;rw[if_neg e];exact ih hg
theorem cj.qO{i:Nat}{ks:List Nat}{r:Pl}{o:Oper}(ho:ops[i]?=some o)(np:∀c st,¬R (.panic c) st)(h:gd ops o st (λst'=>H8 ks st' o.op∧cO P C none o st' (λab=>cj P C ops r ab R) (λ_=>False)) (λst'=>cj P C ops r st' R)):cj P C ops (.q i ks r) st R :=
 cj.qI np (by rw[ho];exact h)
theorem cj.lO{i:Nat}{ks:List Nat}{r:Pl}{o:Oper}(ho:ops[i]?=some o)(h:gd ops o st (λst'=>((okW ks st' o.op∧AD ks r o.op)∧r.there st'.M)∧cO P C (some (nb ks)) o st' (λab=>cj P C ops r ab R) (λab=>cj P C ops r ab R)) (λst'=>cj P C ops r st' R)):cj P C ops (.l i ks r) st R :=
 cj.lI (by rw[ho];exact h)
theorem bj.bg{i:Nat}{ks:List Nat}{r p:Pl}{o:Oper}(ho:ops[i]?=some o)(h:gd ops o st (λst'=>((okW ks st' o.op∧AD ks r o.op)∧r.there st'.M)∧cO P C (some (nb ks)) o st' (λab=>cj P C ops r ab R) (λab=>cj P C ops r ab R)) (λst'=>cj P C ops r st' R))(hp:bj P C ops p st R):bj P C ops (.alt i ks r p) st R :=
 bj.cons (by rw[ho];exact h) hp
end
end Go.Sv


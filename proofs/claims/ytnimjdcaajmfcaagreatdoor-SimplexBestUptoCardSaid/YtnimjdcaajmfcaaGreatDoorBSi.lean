/- A text of the prover's own. -/
import Derived.Test.YtnimjdcaajmfcaaGreatDoorBUj
open List renaming cons_append->as8,nil_append->at3,map_set->aue,getElem?_eq_some_iff->ata,getElem?_map->asI
open Bool renaming and_self->avI,and_eq_true->atl
namespace Go.Proofs
open Go.Sv Go Go.Tb Go.Pl Go.Ut Go.Mx Go.Li Go.Dt Go.Sx
theorem cM(b:Bo):aL (dh b).cells 0=cX b.has:=rfl
end Go.Proofs
set_option maxRecDepth 10000
namespace Go.Sx
open Go Go.Sv Go.Pl Go.Proofs Go.Tb Go.Ut Go.Mx Go.Li Go.Dt
def Rx(b:Bo)(x:Rat):Bool:=!b.has||decide (x<b.at')
def Qx(b:Bo)(x:Rat):Bool:=!b.has||decide (b.at'<x)
theorem qy{b:Bo}{x:Rat}:Rx b x=true↔mb b x:=by unfold Rx mb;cases b.has<;>simp
theorem qN{b:Bo}{x:Rat}:Qx b x=true↔me b x:=by unfold Qx me;cases b.has<;>simp
end Go.Sx
namespace Go.Proofs
open Go.Sv Go Go.Tb Go.Pl Go.Ut Go.Mx Go.Li Go.Dt Go.Sx
theorem m6(c:Tc)(s:Tb)(hc:oR c)(t:ui c s){Z W Y j:Nat}{y:Rat}(hj:j<c.N)(hy:qw Y y)(hW:∀i,i<c.m->Wd W (gt s.R i))(hx:qw Z (gt s.x j))(hz:∀i,i<=c.m->∀k,k<c.N->qw Z (gt (fK s j y i) k))(h1:1<=W)(hZ:Z<=10000000000)(ar:W+Y<=10000000000) :
  kv Tryz.prog 171 [.ptr 0 0 0,iv j,aU y] (tT c s []) [] (λT v=>T=tT c { s with x:=fK s j y c.m } []∧v=.bP []):=by
 have h7:=hc.m7;have aj:=hc.sq;have hR:=t.R;have ac:=t.x;have hb:=t.b;have lx:=bS (l:=s.x) (i:=j) (by omega);refine gu Tryz.func171 rfl (by simp) (λC hC=>?_);have fx:=oJ hR hC;simp only[tT,tH,tS,as8,at3];simp(disch:=omega)[hR];repeat refine asi ?_
 refine aa.asj (.qs [0,1,2,3,4,5,6,7,8,9,10,11,12]<|.l 13 []<|.qs [14]<|.l 15 [2]<|.nil) ?_;simp(disch:=omega)[cE hR,hj,ac,lx, -aue];repeat refine asi ?_
 refine asl (nW (gt s.x j) y (ao hx hZ) (ao hy (by omega))) ?_;simp(disch:=omega)[hj,ac,lx,cg, -aue];repeat refine asi ?_
 refine aa.bM (ι:=Nat) (λi=>⟨68,[(0,.ptr 0 0 0),(1,iv j),(5,.ptr (c.m+6) 0 0),(27,.view 5 0 c.m),(28,iv c.m),(29,iv i)],tT c { s with x:=fK s j y i } [some ⟨4,[aU y],false⟩]⟩)
  (λi=>i<=c.m) (λi=>c.m - i) 0 (by simp) ?_ ?_
 ·exact⟨rfl,by simp[bU,Go.Sv.get],aq _,.inl rfl⟩
 ·rintro i hi;by_cases ad:i<c.m
  ·have au:=gj (N:=c.N) (m:=c.m) (i:=i) ad;have tg:=λtl:aD=>e9 (C:=s.R) (tl:=tl) (e:=i) (by omega);have Ri:=t.Rr i ad;have lj:=bS (l:=gt s.R i) (i:=j) (by omega);have av:=iF (l:=s.basic) (i:=i) (by omega);have ag:=t.bb i ad;have xl:(fK s j y i).length=c.N:=by rw[fD,ac]
   have ah:=bS (l:=fK s j y i) (i:=gt s.basic i) (by omega);have q1:=hW i ad j (by omega);have q2:=hz i hi (gt s.basic i) ag;have ay:=NL (s:=s) (j:=j) (i:=i) (y:=y) (by omega);have nx:fK s j y (i+1)=(fK s j y i).set (gt s.basic i) (gt (fK s j y i) (gt s.basic i)+gt (gt s.R i) j*y):=rfl;simp only[tT,tH,tS,as8,at3];generalize fK s j y i=X at *;simp(disch:=omega)[ad,au,tg,lj,Ri,hj];repeat refine asi ?_
   refine asl (gM (gt (gt s.R i) j)) ?_;simp(disch:=omega)[aK,Int.sign_eq_zero_iff_zero,Rat.num_eq_zero];repeat refine asi ?_
   refine⟨λz=>?_,λz=>?_⟩
   ·simp(disch:=omega)[hb,ad,av];repeat refine asi ?_
    refine aa.asj (.qs [0,1,2,3,4,5,6,7,8,9,10,11,12,13,14,15,16]<|.l 17 []<|.l 18 []<|.qs [19]<|.l 20 [2]<|.nil) ?_;simp(disch:=omega)[tg,lj,Ri,hj,cE hR,ag,xl,ah, -aue];repeat refine asi ?_
    refine asl (nV (gt (gt s.R i) j) y (ao q1 (by omega)) (ao hy (by omega))) ?_;simp(disch:=omega)[-aue];repeat refine asi ?_
    refine asl (nW (gt X (gt s.basic i)) (gt (gt s.R i) j*y) (ao q2 hZ) (ao (cx q1 hy (by omega)) ar)) ?_;simp(disch:=omega)[ag,xl,ah,cg,aK, -aue];repeat refine asi ?_
    refine⟨i+1,by omega,by omega,?_⟩;rw[nx];exact Le.fm ⟨rfl,by simp(disch:=omega)[bU,Go.Sv.get],aq _,.inl rfl⟩
   ·refine⟨i+1,by omega,by omega,?_⟩;rw[ay z];exact Le.fm ⟨rfl,by simp(disch:=omega)[bU,Go.Sv.get],aq _,.inl rfl⟩
  ·obtain rfl:i=c.m:=by omega
   simp only[tT,tH,tS,as8,at3];simp(disch:=omega)[hR];repeat refine asi ?_
   exact⟨_,_,⟨rfl,rfl⟩,rfl,FC c { s with x:=fK s j y c.m } _,by simp[hR],.inr ⟨by simp,Ct (c:=c) (s:={ s with x:=fK s j y c.m }) hR⟩⟩
theorem Fu{x y:Rat}:(if x<y then(-1:Int) else if y<x then 1 else 0)<0↔x<y:=by
 by_cases h1:x<y
 ·rw[if_pos h1];simp[h1]
 ·rw[if_neg h1];by_cases h2:y<x
  ·rw[if_pos h2];simp[h1]
  ·rw[if_neg h2];simp[h1]
theorem yv{x y:Rat}:0<(if x<y then(-1:Int) else if y<x then 1 else 0)↔y<x:=by
 by_cases h1:x<y
 ·rw[if_pos h1];constructor
  ·intro h;omega
  ·intro h;exact absurd h (by grind)
 ·rw[if_neg h1];by_cases h2:y<x
  ·rw[if_pos h2];simp[h2]
  ·rw[if_neg h2];simp[h2]
theorem pf(c:Tc)(s:Tb)(hc:oR c)(t:ui c s){Z j:Nat}(hj:j<c.N)(hx:qw Z (gt s.x j))(hb:qw Z (gt c.high j).at')(hZ:Z<=10000000000) :
  kv Tryz.prog 169 [.ptr 0 0 0,iv j] (tT c s []) [] (λT v=>T=tT c s []∧v=cX (Rx (gt c.high j) (gt s.x j))):=by
 have aj:=hc.sq;have hR:=t.R;have ac:=t.x;have ak:=hc.hi;have lx:=bS (l:=s.x) (i:=j) (by omega);have al:aL (c.high.map dh) j=dh (gt c.high j):=cy _ (by omega);refine gu Tryz.func169 rfl (by simp) (λC hC=>?_);have fx:=oJ hR hC;simp only[tT,tH,tS,as8,at3];simp(disch:=omega)[];repeat refine asi ?_
 refine aa.asj (.qs [0,1,2,3,4,5,6,7,8,9,10,11,12,13,14,15,16,17,18,19,20,21,22,23,24]<|.l 25 []<|.qs [26,27,28]<|.nil) ?_;by_cases hh:(gt c.high j).has=true
 ·simp(disch:=omega)[hj,ac,ak,lx,al,hh];repeat refine asi ?_
  have cm:=p6 (gt s.x j) (gt c.high j).at' (ao hx hZ) (ao hb hZ);have cl:=@Fu (gt s.x j) (gt c.high j).at';generalize (if gt s.x j<(gt c.high j).at' then(-1:Int) else if(gt c.high j).at'<gt s.x j then 1 else 0)=z at *;refine asl (cm) ?_;simp;exact⟨_,_,⟨rfl,rfl⟩,by simp[Rx,hh,cl],aq _,by simp[hR],.inl (by simp[hR])⟩
 ·simp(disch:=omega)[hR,hj,ak,al,hh];repeat refine asi ?_
  exact⟨_,_,⟨rfl,rfl⟩,by simp[Rx,hh],aq _,by simp[hR],.inl (by simp[hR])⟩
theorem pK(c:Tc)(s:Tb)(hc:oR c)(t:ui c s){Z j:Nat}(hj:j<c.N)(hx:qw Z (gt s.x j))(hb:qw Z (gt c.low j).at')(hZ:Z<=10000000000) :
  kv Tryz.prog 170 [.ptr 0 0 0,iv j] (tT c s []) [] (λT v=>T=tT c s []∧v=cX (Qx (gt c.low j) (gt s.x j))):=by
 have aj:=hc.sq;have hR:=t.R;have ac:=t.x;have am:=hc.lo;have lx:=bS (l:=s.x) (i:=j) (by omega);have an:aL (c.low.map dh) j=dh (gt c.low j):=cy _ (by omega);refine gu Tryz.func170 rfl (by simp) (λC hC=>?_);have fx:=oJ hR hC;simp only[tT,tH,tS,as8,at3];simp(disch:=omega)[];repeat refine asi ?_
 refine aa.asj (.qs [0,1,2,3,4,5,6,7,8,9,10,11,12,13,14,15,16,17,18,19,20,21,22,23,24]<|.l 25 []<|.qs [26,27,28]<|.nil) ?_;by_cases hh:(gt c.low j).has=true
 ·simp(disch:=omega)[hj,ac,am,lx,an,hh];repeat refine asi ?_
  have cm:=p6 (gt s.x j) (gt c.low j).at' (ao hx hZ) (ao hb hZ);have cl:=@yv (gt s.x j) (gt c.low j).at';generalize (if gt s.x j<(gt c.low j).at' then(-1:Int) else if(gt c.low j).at'<gt s.x j then 1 else 0)=z at *;refine asl (cm) ?_;simp;exact⟨_,_,⟨rfl,rfl⟩,by simp[Qx,hh,cl],aq _,by simp[hR],.inl (by simp[hR])⟩
 ·simp(disch:=omega)[hR,hj,am,an,hh];repeat refine asi ?_
  exact⟨_,_,⟨rfl,rfl⟩,by simp[Qx,hh],aq _,by simp[hR],.inl (by simp[hR])⟩
end Go.Proofs
namespace Go.Sv
open Go
theorem Le.perm{C:Ctx}(hC:C.fx=[])(σ:Nat->Nat){st st':St}(hn:st.n=st'.n)(hi:∀k k',k<st'.M.length->k'<st'.M.length->σ k=σ k'->k=k')(hl:∀k,st'.M.length<=k->st.M.length<=σ k)
  (hM:∀(k:Nat) (e:cz),st'.M[k]?=some (some e)->st.M[σ k]?=some (some (fv σ e))) (hf:∀t x,get st'.fr t=some x->get st.fr t=some (fU σ x)):Le C st st':=by
 rintro a w ⟨β,H,hF,hW⟩;have lt:∀(k:Nat) (e:cz),st'.M[k]?=some (some e)->k<st'.M.length:=λk e h=>(ata.1 h).1;refine⟨λk=>β (σ k),H,⟨⟨hF.1.1,hF.1.2⟩,by rw[<-hn];exact hF.2.1,λt x hg=>?_⟩,?_⟩
 ·obtain⟨v,h1,h2⟩:=hF.2.2 t _ (hf t x hg);exact⟨v,h1,kF.1 h2⟩
 ·refine⟨hW.os,hW.tape,hW.output,hW.size,hW.frame,hW.ext,hW.new,hW.inv,λk e hk=>oO.fU.1 (hW.dt _ _ (hM k e hk)),λk e d hk hd=>hW.own (σ k) (fv σ e) d (hM k e hk) hd,
   λk k' e e' d d' hk ae hd ai he=>hi k k' (lt k e hk) (lt k' e' ae) (hW.inj _ _ _ _ _ _ (hM k e hk) (hM k' e' ae) hd ai he),λk hk=>hW.fresh _ (hl k hk),λk d hk=>absurd hk (by rw[hC];simp),hW.fT⟩
def apI(C:Ctx)(az:St):bf:=λe s=>match e with
 | .normal=>Le C s az
 | _=>False
theorem aa.LS{P:Program}{C:Ctx}{c:Code}{st:St}{Q:bf}(Q1:bf)(h1:aa P C c st Q1)(h2:∀e st',Q1 e st'->∃ab,Le C st' ab∧Q e ab):aa P C c st Q:=by intro a w hs;refine wp_mono (h1 a w hs) ?_;rintro e a' w' ⟨st',h3,h4⟩;obtain⟨ab,h5,h6⟩:=h2 e st' h3;exact⟨ab,h6,h5 a' w' h4⟩
/-! plans whose equal parts are told once -/
section
variable {P:Program} {C:Ctx} {ops:Array Oper} {st:St} {R:bf}
theorem bC{L:Array Bool}{i:Nat}{ks:List Nat}{r:Pl}(h1:Uu ops L i ks r.Y=true)(h2:ax ops (L.setIfInBounds i true) r=true):ax ops L (.q i ks r)=true:=by simp only[ax,h1,h2,avI]
theorem dB{L:Array Bool}{i:Nat}{ks:List Nat}{r:Pl}(h1:(Region.ready .any ops L==[i])=true)(h2:ax ops (L.setIfInBounds i true) r=true):ax ops L (.l i ks r)=true:=by simp only[ax,h1,h2,avI]
theorem bz{L:Array Bool}{i:Nat}{ks:List Nat}{r p:Pl}(h1:(Region.ready .any ops L==i::p.ry)=true)(h2:ja ops L (.alt i ks r p)=true):ax ops L (.alt i ks r p)=true:=by simp only[ja]at h2;simp only[ax,h1,h2,avI]
theorem aS{L:Array Bool}{i:Nat}{ks:List Nat}{r p:Pl}(h1:ax ops (L.setIfInBounds i true) r=true)(h2:ja ops L p=true):ja ops L (.alt i ks r p)=true:=by simp only[ja,h1,h2,avI]
theorem aw{L L':Array Bool}{r:Pl}(h:ax ops L' r=true)(e:L=L'):ax ops L r=true:=by rw[e];exact h
theorem ba.stop:ba P C ops .stop st R:=λ_ L _ β H a w _ _ Y' n _ _ j hj=>by simp[Pl.ry]at hj
theorem ba.cons {i:Nat} {ks:List Nat} {r p:Pl} (h:match ops[i]? with
  | none=>False
  | some o=>gd ops o st (λst'=>((okW ks st' o.op∧xH ks r o.op)∧r.there st'.M)∧cH P C (some (nb ks)) o st' (λab=>bR P C ops r ab R) (λab=>bR P C ops r ab R)) (λst'=>bR P C ops r st' R)) (hp:ba P C ops p st R):ba P C ops (.alt i ks r p) st R:=λaf L hL β H a w hF hW Y' n hY hn j hj=>by
 simp only[ja,atl]at hL;split at h
 ·exact h.elim
 ·rename_i o ho;simp only[Pl.len]at hn;simp only[Pl.ry,List.mem_cons]at hj;rcases hj with rfl | hj
  ·exact jG ho af hL.1 (λ_ h=>h) (λ_ h=>h) (λ_ h=>h) h hF hW (λk hk=>hY j k (by simp[Pl.Y,one,hk])) (λj' k hk=>hY j' k (by simp[Pl.Y,hk])) (by omega)
  ·exact hp af L hL.2 β H a w hF hW Y' n (λj' k hk=>hY j' k (by simp[Pl.Y,hk])) (by omega) j hj
theorem bR.iV{i:Nat}{ks:List Nat}{r p:Pl}(h:ba P C ops (.alt i ks r p) st R):bR P C ops (.alt i ks r p) st R:=λaf L hL β H a w hF hW=>by
 simp only[ax,atl,beq_iff_eq]at hL;have hlen:(Pl.alt i ks r p).len=(max r.len (p.len - 1))+1:=by simp only[Pl.len];omega
 rw[hlen];refine Iy hL.1 (by simp) λj hj=>?_;exact h af L (by simp only[ja,atl];exact hL.2) β H a w hF hW _ _ (λj k hk=>hk) (by omega) j (by simpa[Pl.ry]using hj)
theorem bR.aie(h:R .normal st):bR P C ops .nil st R:=λ_ L hL β H a w hF hW=>by simp only[ax,List.isEmpty_iff]at hL;exact⟨hL,st,h,β,H,hF,hW⟩
theorem bR.perm(hC:C.fx=[])(σ:Nat->Nat){st':St}{pl:Pl}(hn:st.n=st'.n)(hi:∀k k',k<st'.M.length->k'<st'.M.length->σ k=σ k'->k=k')(hl:∀k,st'.M.length<=k->st.M.length<=σ k)
  (hM:∀(k:Nat) (e:cz),st'.M[k]?=some (some e)->st.M[σ k]?=some (some (fv σ e))) (hf:∀t x,get st'.fr t=some x->get st.fr t=some (fU σ x)) (hY:∀j,∀k∈pl.Y j,σ k=k) (h:bR P C ops pl st' R):bR P C ops pl st R:=λaf L hL β H a w hF hW=>by
 have lt:∀(k:Nat) (e:cz),st'.M[k]?=some (some e)->k<st'.M.length:=λk e h=>(ata.1 h).1;have aB:iM (λk=>β (σ k)) H st'.n st'.fr a:=⟨⟨hF.1.1,hF.1.2⟩,by rw[<-hn];exact hF.2.1,λt x hg=>by obtain⟨v,h1,h2⟩:=hF.2.2 t _ (hf t x hg);exact⟨v,h1,kF.1 h2⟩⟩
 have aC:cJ C (λk=>β (σ k)) H st'.M w:=⟨hW.os,hW.tape,hW.output,hW.size,hW.frame,hW.ext,hW.new,hW.inv,λk e hk=>oO.fU.1 (hW.dt _ _ (hM k e hk)),λk e d hk hd=>hW.own (σ k) (fv σ e) d (hM k e hk) hd,
   λk k' e e' d d' hk ae hd ai he=>hi k k' (lt k e hk) (lt k' e' ae) (hW.inj _ _ _ _ _ _ (hM k e hk) (hM k' e' ae) hd ai he),λk hk=>hW.fresh _ (hl k hk),λk d hk=>absurd hk (by rw[hC];simp),hW.fT⟩
 refine nq _ _ _ _ (λj w1 w2 _ hr=>⟨hr.1.mono λb _ hb=>?_,hr.2⟩) (h af L hL _ H a w aB aC);rcases hb with⟨h1,h2 | h2 | ⟨k,hk,d,hd,aE⟩⟩
 ·exact⟨h1,.inl h2⟩
 ·exact⟨h1,.inr (.inl h2)⟩
 ·exact⟨h1,.inr (.inr ⟨k,hk,d,by rw[<-hY j k hk];exact hd,aE⟩)⟩
def IP(l:List Nat)(k:Nat):Nat:=if k<l.length then l.getD k 0 else k
theorem bR.aba(hC:C.fx=[])(l:List Nat)(hl:∀a,a<l.length->∀b,b<l.length->l.getD a 0=l.getD b 0->a=b){st':St}{pl:Pl}(hn:st.n=st'.n)(h1:st.M.length=l.length)(h2:st'.M.length=l.length)(hM:st'.M.map (λoe=>oe.map (fv (IP l)))=l.map λi=>aA st.M i)
  (hf:bU st.fr (st'.fr.map λq=>(q.1,fU (IP l) q.2))) (hY:∀j,∀k∈pl.Y j,IP l k=k) (h:bR P C ops pl st' R):bR P C ops pl st R:=by
 have at':∀k (hk:k<l.length),IP l k=l[k]:=λk hk=>by unfold IP;rw[if_pos hk];simp[hk]
 refine bR.perm hC (IP l) hn (λk k' hk ae e=>?_) (λk hk=>?_) (λk e hk=>?_) (λt x hg=>?_) hY h
 ·unfold IP at e;rw[if_pos (by omega),if_pos (by omega)]at e;exact hl k (by omega) k' (by omega) e
 ·unfold IP;rw[if_neg (by omega)];omega
 ·have ap:k<l.length:=by rw[<-h2];exact(ata.1 hk).1
  have e1:(st'.M.map (λoe=>oe.map (fv (IP l))))[k]?=some (some (fv (IP l) e)):=by rw[asI,hk];rfl
  rw[hM,asI,List.getElem?_eq_getElem ap]at e1;simp only[Option.map_some,Option.some.injEq]at e1;rw[at' k ap];exact aT e1
 ·refine w8 hf t _ ?_;clear hf;revert hg
  induction st'.fr with
  | nil=>intro hg;simp[get]at hg
  | cons q r ih =>
   intro hg;simp only[get,List.map_cons]at hg ⊢;split at hg
   ·rename_i e;rw[if_pos e];cases hg;rfl
   ·rename_i e;rw[if_neg e];exact ih hg
theorem bR.qO{i:Nat}{ks:List Nat}{r:Pl}{o:Oper}(ho:ops[i]?=some o)(np:∀c st,¬R (.panic c) st)(h:gd ops o st (λst'=>G0 ks st' o.op∧cH P C none o st' (λab=>bR P C ops r ab R) (λ_=>False)) (λst'=>bR P C ops r st' R)):bR P C ops (.q i ks r) st R :=
 bR.qI np (by rw[ho];exact h)
theorem bR.lO{i:Nat}{ks:List Nat}{r:Pl}{o:Oper}(ho:ops[i]?=some o)(h:gd ops o st (λst'=>((okW ks st' o.op∧xH ks r o.op)∧r.there st'.M)∧cH P C (some (nb ks)) o st' (λab=>bR P C ops r ab R) (λab=>bR P C ops r ab R)) (λst'=>bR P C ops r st' R)):bR P C ops (.l i ks r) st R :=
 bR.lI (by rw[ho];exact h)
theorem ba.aY{i:Nat}{ks:List Nat}{r p:Pl}{o:Oper}(ho:ops[i]?=some o)(h:gd ops o st (λst'=>((okW ks st' o.op∧xH ks r o.op)∧r.there st'.M)∧cH P C (some (nb ks)) o st' (λab=>bR P C ops r ab R) (λab=>bR P C ops r ab R)) (λst'=>bR P C ops r st' R))(hp:ba P C ops p st R):ba P C ops (.alt i ks r p) st R :=
 ba.cons (by rw[ho];exact h) hp
end
end Go.Sv


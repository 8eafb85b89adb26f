/- A text of the prover's own. -/
import Derived.Test.YtnimjdcaajmfcaaGreatDoorBSo
import Derived.Test.YtnimjdcaajmfcaaGreatDoorBXa
open List renaming range->ati,map_cons->asF,take->avk,take_of_length_le->aud,length_map->atT,cons_append->as8,getElem?_cons_zero->as9,getElem?_cons_succ->avP,nil_append->at3,map_set->aue,all_eq_false->avQ,take_length->aug,mem_range->avp,all_eq_true->atu,any_eq_false->avR,getElem_of_mem->avA,any_eq_true->atD
open Option.some renaming injEq->ass
open Go.Proofs.Tryz renaming prog->awW,f126->axv,func26->axw,func30->axx
open Nat renaming le_refl->asN
open Bool renaming and_eq_true->atl,or_eq_false_iff->avS,or_eq_true->atv
open Rat renaming not_lt->avT,mul_le_mul_of_nonneg_right->avU,le_refl->avH,le_trans->avV
namespace Go.Sx
open Go Go.Sv Go.Pl Go.Proofs Go.Tb Go.Ut Go.Mx Go.Li Go.Dt
def bV(p:aB)(n m N:Nat):Tc:=⟨p,n,m,N,gO p m,dF p m,dH N n (o3 p) 0⟩
def rM(p:aB)(n m N:Nat):Tb:=⟨dH N N (wF p n) 0,dH N n (so p) 0,jD n m,dH N N (rF n) 0,gN p N m⟩
def FA(k:Nat):Nat:=if k<=2 then k else if k=3 then 7 else if k=4 then 3 else if k=5 then 8 else k+3
theorem Cj{N m k:Nat}{es:List SV}(h:k<9):nI k es (rq N m)=rq N m:=by
 unfold rq
 induction ati m with
 | nil=>rfl
 | cons a l ih=>simp only[asF,nI,ih,Tz,kj];rw[if_neg (by omega)]
theorem my{k:Nat}{es:List SV}(R:List (List Rat)):wg k es (ey R)=ey R:=by
 unfold ey
 induction R with
 | nil=>rfl
 | cons x R ih=>simp only[asF,L1,ih];rw[jU _ _ _ (by simp)]
end Go.Sx
namespace Go.Proofs
open Go.Sv Go Go.Tb Go.Pl Go.Ut Go.Mx Go.Li Go.Dt Go.Sx
theorem uD{k:Nat}{st:St}{e:cz}(h:aA st.M k=some e):rm k st=⟨st.n,Fy k e.es st.fr,wg k e.es (aX st.M k (some ⟨e.sz,e.es,true⟩))⟩:=by unfold rm;rw[h]
def VP(p:aB)(n m N:Nat):aD:=[some ⟨11,[.agg [.dc (bN p) 0,iv n,iv m,.view 5 0 N,.view 6 0 N,.ro ((dH N n (o3 p) 0).map aU),.view 1 0 N,.view 2 0 N,.view 7 0 m,.view 3 0 N,.view 8 0 m]],false⟩,some ⟨1,(dH N N (wF p n) 0).map iv,false⟩,some ⟨4,(dH N n (so p) 0).map aU,false⟩,some ⟨1,(dH N N (rF n) 0).map iv,false⟩,some ⟨4,(dH N n (o3 p) 0).map aU,true⟩,some ⟨5,(gO p m).map dh,false⟩,some ⟨5,(dF p m).map dh,false⟩,some ⟨1,(jD n m).map rp,false⟩,some ⟨1,rq N m,false⟩]++ey (gN p N m)
def Wa(p:aB)(n m N:Nat):aD:=[some ⟨11,[.agg [.dc (bN p) 0,iv n,iv m,.ro ((gO p m).map dh),.view 6 0 N,.ro ((dH N n (o3 p) 0).map aU),.view 1 0 N,.view 2 0 N,.view 7 0 m,.view 3 0 N,.view 8 0 m]],false⟩,some ⟨1,(dH N N (wF p n) 0).map iv,false⟩,some ⟨4,(dH N n (so p) 0).map aU,false⟩,some ⟨1,(dH N N (rF n) 0).map iv,false⟩,some ⟨4,(dH N n (o3 p) 0).map aU,true⟩,some ⟨5,(gO p m).map dh,true⟩,some ⟨5,(dF p m).map dh,false⟩,some ⟨1,(jD n m).map rp,false⟩,some ⟨1,rq N m,false⟩]++ey (gN p N m)
def GN(p:aB)(n m N:Nat):aD:=[some ⟨11,[.agg [.dc (bN p) 0,iv n,iv m,.ro ((gO p m).map dh),.ro ((dF p m).map dh),.ro ((dH N n (o3 p) 0).map aU),.view 1 0 N,.view 2 0 N,.view 7 0 m,.view 3 0 N,.view 8 0 m]],false⟩,some ⟨1,(dH N N (wF p n) 0).map iv,false⟩,some ⟨4,(dH N n (so p) 0).map aU,false⟩,some ⟨1,(dH N N (rF n) 0).map iv,false⟩,some ⟨4,(dH N n (o3 p) 0).map aU,true⟩,some ⟨5,(gO p m).map dh,true⟩,some ⟨5,(dF p m).map dh,true⟩,some ⟨1,(jD n m).map rp,false⟩,some ⟨1,rq N m,false⟩]++ey (gN p N m)
theorem Tx(p:aB)(n m N:Nat)(hn:p.ab.length=n)(hm:p.rows.length=m)(hN:n+m=N){C:Ctx} :
  Le C ⟨217,[(0,.dc (bN p) 0),(3,.ptr 0 0 0),(4,iv N)],fR p n m N m []⟩ ⟨217,[(3,.ptr 0 0 0)],VP p n m N⟩:=by
 refine(Le.CE 4 (e:=⟨4,(dH N n (o3 p) 0).map aU,false⟩) rfl (by simp)).trans ?_;rw[uD (e:=⟨4,(dH N n (o3 p) 0).map aU,false⟩) rfl];have tk:avk N ((dH N n (o3 p) 0).map aU)=(dH N n (o3 p) 0).map aU:=aud (by simp);have b4:nI 4 ((dH N n (o3 p) 0).map aU) (rq N m)=rq N m:=Cj (by omega);refine Le.fm ⟨rfl,?_,?_,.inl ?_⟩
 ·simp[Fy,bU,Go.Sv.get]
 ·simp[fR,VP,r5,fS,my,b4,tk,hN,aq]
 ·simp[fR,VP,r5,fS,my,b4,tk,hN]
theorem TZ(p:aB)(n m N:Nat)(hn:p.ab.length=n)(hm:p.rows.length=m)(hN:n+m=N){C:Ctx} :
  Le C ⟨217,[(3,.ptr 0 0 0)],VP p n m N⟩ ⟨217,[(3,.ptr 0 0 0)],Wa p n m N⟩:=by
 refine(Le.CE 5 (e:=⟨5,(gO p m).map dh,false⟩) rfl (by simp)).trans ?_;rw[uD (e:=⟨5,(gO p m).map dh,false⟩) rfl];have ae:N<=(gO p m).length:=by rw[show(gO p m).length=n+m by simp[gO,pI,hn,hm]];omega
 have tk:avk N ((gO p m).map dh)=(gO p m).map dh:=aud (by rw[atT,show(gO p m).length=n+m by simp[gO,pI,hn,hm]];omega);have b4:nI 5 ((gO p m).map dh) (rq N m)=rq N m:=Cj (by omega);refine Le.fm ⟨rfl,?_,?_,.inl ?_⟩
 ·simp[Fy,bU]
 ·simp[VP,Wa,ae,my,b4,tk,aq]
 ·simp[VP,Wa,ae,my,b4,tk]
theorem SM(p:aB)(n m N:Nat)(hn:p.ab.length=n)(hm:p.rows.length=m)(hN:n+m=N){C:Ctx} :
  Le C ⟨217,[(3,.ptr 0 0 0)],Wa p n m N⟩ ⟨217,[(3,.ptr 0 0 0)],GN p n m N⟩:=by
 refine(Le.CE 6 (e:=⟨5,(dF p m).map dh,false⟩) rfl (by simp)).trans ?_;rw[uD (e:=⟨5,(dF p m).map dh,false⟩) rfl];have ae:N<=(dF p m).length:=by rw[show(dF p m).length=n+m by simp[dF,j3,hn,hm]];omega
 have tk:avk N ((dF p m).map dh)=(dF p m).map dh:=aud (by rw[atT,show(dF p m).length=n+m by simp[dF,j3,hn,hm]];omega);have b4:nI 6 ((dF p m).map dh) (rq N m)=rq N m:=Cj (by omega);refine Le.fm ⟨rfl,?_,?_,.inl ?_⟩
 ·simp[Fy,bU]
 ·simp[Wa,GN,ae,my,b4,tk,aq]
 ·simp[Wa,GN,ae,my,b4,tk]
theorem PS(N m:Nat):dE FA (AB N m)=rq N m:=by
 unfold AB rq
 induction ati m with
 | nil=>simp
 | cons a l ih=>simp only[asF,mU,ih,Ru,Tz,Mo];congr 2
theorem Og{a b:Nat}(h:FA a=FA b):a=b:=by
 unfold FA at h
 repeat' split at h
 all_goals omega
theorem SR(p:aB)(n m N:Nat){C:Ctx}(hC:C.fx=[]):Le C ⟨217,[(3,.ptr 0 0 0)],GN p n m N⟩ ⟨217,[(3,.ptr 0 0 0)],tT (bV p n m N) (rM p n m N) []⟩:=by
 have al:(GN p n m N).length=m+9:=by simp[GN]
 have am:(tT (bV p n m N) (rM p n m N) []).length=m+6:=by rw[jo (by simp[rM,bV])];rfl
 refine Le.perm hC FA rfl (λa b _ _ e=>Og e) (λk hk=>?_) (λk e hk=>?_) (λt x hg=>?_)
 ·show(GN p n m N).length<=_;replace hk:(tT (bV p n m N) (rM p n m N) []).length<=k:=hk;rw[am]at hk;rw[al];unfold FA
  repeat' split
  all_goals omega
 ·replace hk:(tT (bV p n m N) (rM p n m N) [])[k]?=some (some e):=hk;show(GN p n m N)[FA k]?=_
  match k,hk with
  | 0,hk=>simp only[tT,tH,as8,as9,ass]at hk;subst hk;simp[GN,FA,fv,tS,bV]
  | 1,hk=>simp only[tT,tH,as8,avP,as9,ass]at hk;subst hk;simp[GN,FA,fv,rM]
  | 2,hk=>simp only[tT,tH,as8,avP,as9,ass]at hk;subst hk;simp[GN,FA,fv,rM]
  | 3,hk=>simp only[tT,tH,as8,avP,as9,ass]at hk;subst hk;simp[GN,FA,fv,rM]
  | 4,hk=>simp only[tT,tH,as8,avP,as9,ass]at hk;subst hk;simp[GN,FA,fv,rM]
  | 5,hk=>simp only[tT,tH,as8,avP,as9,ass]at hk;subst hk;simp[GN,FA,fv,bV,PS]
  | k+6,hk =>
   simp only[tT,tH,as8,at3,avP,List.append_nil,rM]at hk;rw[show FA (k+6)=k+9 by unfold FA;rw[if_neg (by omega),if_neg (by omega),if_neg (by omega),if_neg (by omega)]];simp only[GN,as8,at3,avP];rw[hk];unfold ey at hk;rw[List.getElem?_map]at hk
   match h:(gN p N m)[k]?,hk with
   | some r,hk=>simp at hk;rw[<-hk];simp[fv]
 ·simp only[Go.Sv.get]at hg ⊢;split at hg
  ·rename_i e;rw[if_pos e];cases hg;simp[FA]
  ·simp at hg
end Go.Proofs
set_option maxRecDepth 10000
namespace Go.Sx
open Go Go.Sv Go.Pl Go.Proofs Go.Tb Go.Ut Go.Mx Go.Li Go.Dt
theorem Hs{k:Nat}{st:St}{e:cz}(h:aA st.M k=some e):rm k st=⟨st.n,Fy k e.es st.fr,wg k e.es (aX st.M k (some ⟨e.sz,e.es,true⟩))⟩:=by unfold rm;rw[h]
theorem Oy{N m k:Nat}{es:List SV}(h:m+6<=k):nI k es (AB N m)=AB N m:=by
 unfold AB;rw[Hq];refine List.map_congr_left λi hi=>?_;have hi:i<m:=by simpa using hi
 simp only[Ru,kj];rw[if_neg (by omega)]
theorem TY{c:Tc}{s:Tb}{k:Nat}{es:List SV}{tl:aD}(h:c.m+6<=k):wg k es (tT c s tl)=tT c s (wg k es tl):=by
 unfold tT;rw[kq,kq,my];congr 1;have n1:¬1=k:=by omega
 have n2:¬2=k:=by omega
 have n3:¬3=k:=by omega
 have n4:¬4=k:=by omega
 have n5:¬5=k:=by omega
 have b:=Oy (N:=c.N) (m:=c.m) (es:=es) h;simp[tH,tS,n1,n2,n3,n4,n5,b]
theorem OR{c:Tc}{s:Tb}(hR:s.R.length=c.m){N0:Nat}{fr:List (Nat × SV)}{tl:aD}(i:Nat){e:cz}(he:aA tl i=some e) :
  rm (c.m+6+i) ⟨N0,fr,tT c s tl⟩=⟨N0,Fy (c.m+6+i) e.es fr,tT c s (wg (c.m+6+i) e.es (aX tl i (some ⟨e.sz,e.es,true⟩)))⟩:=by
 rw[Hs (e:=e) (by show aA (tT c s tl) _=_;rw[B9 hR,he])];show St.mk _ _ (wg _ _ (aX (tT c s tl) _ _))=_;rw[HP hR,TY (by omega)]
theorem Ce{C:Ctx}{c:Tc}{s:Tb}(hR:s.R.length=c.m){N0:Nat}{fr:List (Nat × SV)}{tl:aD}(i:Nat){e:cz}(he:aA tl i=some e)(hp:SV.bJ e.es=true) :
  Le C ⟨N0,fr,tT c s tl⟩ ⟨N0,Fy (c.m+6+i) e.es fr,tT c s (wg (c.m+6+i) e.es (aX tl i (some ⟨e.sz,e.es,true⟩)))⟩:=by
 have:=Le.CE (C:=C) (st:=⟨N0,fr,tT c s tl⟩) (c.m+6+i) (e:=e) (by show aA (tT c s tl) _=_;rw[B9 hR,he]) hp
 rwa [OR hR i he]at this
theorem MI{α:Type}[Inhabited α]{N j:Nat}{f:Nat->α}{d:α}(h:f j=d):dH N j f d=dH N (j+1) f d:=cO (by simp) λk hk=>by
 have hk:k<N:=by simpa using hk
 rw[jk hk,jk hk];by_cases e:k=j
 ·subst e;rw[if_neg (by omega),if_pos (by omega),h]
 ·by_cases q:k<j
  ·rw[if_pos q,if_pos (by omega)]
  ·rw[if_neg q,if_neg (by omega)]
def va(c:Tc)(s:Tb)(i:Nat):Rat:=if gt s.wh (c.n+i)=1 then 0 else if c.p.max=true then -(dL c s (c.n+i) c.m) else dL c s (c.n+i) c.m
end Go.Sx
namespace Go.Proofs
open Go.Sv Go Go.Tb Go.Pl Go.Ut Go.Mx Go.Li Go.Dt Go.Sx
theorem EP(c:Tc)(K:(Nat->Rat)->Prop)(hc:oR c)(hW:HW c K)(hV:Wd 2200 c.cost)(hN:c.n+c.m=c.N)(s:Tb)(hs:fo c K s) :
  kv awW 126 [.ptr 0 0 0] (tT c s []) [] (λT v=>T=tT c s []∧v=.ro (((ati c.m).map (va c s)).map aU)):=by
 have h7:=hc.m7;have ar:=hc.sq;have hR:=hs.t.R;have ag:=hs.t.w;refine iQ Tryz.func126 rfl (by simp) (λC hC=>?_);have fx:=oJ hR hC;refine aa.cutAt 3 (λst=>st=⟨53,[(0,.ptr 0 0 0),(3,.view (c.m+6) 0 c.m)],tT c s [some ⟨4,(dH c.m c.m (va c s) 0).map aU,false⟩]⟩) ?_ ?_
 rotate_left 1
 ·rintro st rfl;have h1:=Ce (C:=C) (c:=c) (s:=s) (N0:=53) (fr:=[(0,.ptr 0 0 0),(3,.view (c.m+6) 0 c.m)]) (tl:=[some ⟨4,(dH c.m c.m (va c s) 0).map aU,false⟩]) hR 0 rfl (by simp);refine aa.le h1 ?_;simp only[axv,ai,ah];simp only[aX,tT,tH,tS,as8,at3];refine aa.go ?_;simp;have tk:avk c.m ((dH c.m c.m (va c s) 0).map aU)=((ati c.m).map (va c s)).map aU:=by
   rw[aud (by simp)];congr 1;refine cO (by simp) λk hk=>?_;have hk:k<c.m:=by simpa using hk
   rw[jk hk,if_pos hk,bF _ hk]
  refine⟨_,_,⟨rfl,rfl⟩,?_,by simpa[tT,tH,tS]using pF c s [some ⟨4,(dH c.m c.m (va c s) 0).map aU,true⟩],by simp,.inr ⟨by simp,?_⟩⟩
  ·rw[tk];simp
  ·have:=pM (c:=c) (s:=s) hR;simpa[tT,tH,tS]using this
 simp only[axv,aN,aM];simp only[tT,tH,tS,as8,at3];simp(disch:=omega)[hR];repeat refine asi ?_
 have z0:iq (.agg [.val (.bool false),.val (.slice none 0 0),.val (.bool false),.val (.slice none 0 0)])=aU 0:=by rw[<-tI];rfl
 refine aa.le (rW (c:=c) (N0:=53) (fr':=[(0,.ptr 0 0 0),(3,.view (c.m+6) 0 c.m),(12,iv c.m),(13,iv 0)]) (tl:=[some ⟨4,List.replicate c.m (.agg [.val (.bool false),.val (.slice none 0 0),.val (.bool false),.val (.slice none 0 0)]),false⟩]) (tl':=[some ⟨4,(dH c.m 0 (va c s) 0).map aU,false⟩]) s hR fx (by simp[zI,bU,Go.Sv.get]) (by simp[sW,z0,ya]) (by simp[gz,SV.lt]) (by simp[ee])) ?_;refine aa.bM (ι:=Nat) (λi=>⟨53,[(0,.ptr 0 0 0),(3,.view (c.m+6) 0 c.m),(12,iv c.m),(13,iv i)],tT c s [some ⟨4,(dH c.m i (va c s) 0).map aU,false⟩]⟩)
  (λi=>i<=c.m) (λi=>c.m - i) 0 (by simp) ?_ ?_
 ·exact⟨rfl,by simp[bU,Go.Sv.get],aq _,.inl rfl⟩
 ·rintro i hi;by_cases ac:i<c.m
  ·have hk:c.n+i<c.N:=by omega
   have lw:=cf (l:=s.wh) (i:=c.n+i) (by omega);have uset:=ek (N:=c.m) (j:=i) (f:=va c s) (d:=0);have af:=MI (N:=c.m) (j:=i) (f:=va c s) (d:=0);have ul:=Pc c.m i (va c s) 0;generalize hU:dH c.m i (va c s) 0=U at *;simp only[tT,tH,tS,as8,at3];by_cases e1:gt s.wh (c.n+i)=1
   ·rw[e1]at lw;simp(disch:=omega)[ac,hk,lw,ag,aK];repeat refine asi ?_
    refine⟨i+1,by omega,by omega,?_⟩;rw[<-af (by unfold va;rw[if_pos e1])];exact Le.fm ⟨rfl,by simp(disch:=omega)[bU,Go.Sv.get],aq _,.inl rfl⟩
   ·simp(disch:=omega)[ac,hk,lw,ag,e1,aK];repeat refine asi ?_
    refine dS (tl:=[_]) (tz c s hc hs.t (W:=171875000) (V:=2200) (hW _ _ hs.d hs.t.Rr) hV (by omega) (by omega) hk) hR (by simp) (by simp) ?_;rintro T1 y ⟨rfl,rfl⟩;refine⟨s,rfl,hR,by simp,?_⟩;simp only[tT,tH,tS,as8,at3];simp(disch:=omega)[cE hR,cP hR,ac,ul,-aue];repeat refine asi ?_
    have l2:aL ((U.set i (dL c s (c.n+i) c.m)).map aU) i=aU (dL c s (c.n+i) c.m):=by rw[bS (by rw[List.length_set];omega),bG (by omega),if_pos rfl]
    have lU:=bS (l:=U) (i:=i) (by omega);cases hm:c.p.max with
    | true =>
     simp(disch:=omega)[ac,ul,lU,l2,hm,bN,cg, -aue];repeat refine asi ?_
     refine asl (iZ (dL c s (c.n+i) c.m)) ?_;simp(disch:=omega)[cE hR,cP hR,ac,ul,l2,cg,aK,List.set_set, -aue];repeat refine asi ?_
     refine⟨i+1,by omega,by omega,?_⟩;rw[<-uset];unfold va;rw[if_neg e1,if_pos hm];exact Le.fm ⟨rfl,by simp(disch:=omega)[bU,Go.Sv.get],aq _,.inl rfl⟩
    | false =>
     simp(disch:=omega)[ac,ul,lU,l2,hm,bN,cg,aK, -aue];repeat refine asi ?_
     refine⟨i+1,by omega,by omega,?_⟩;rw[<-uset];unfold va;rw[if_neg e1,if_neg (by simp[hm])];exact Le.fm ⟨rfl,by simp(disch:=omega)[bU,Go.Sv.get],aq _,.inl rfl⟩
  ·obtain rfl:i=c.m:=by omega
   simp only[tT,tH,tS,as8,at3];simp(disch:=omega)[];repeat refine asi ?_
   exact⟨rfl,by simp[bU,Go.Sv.get],aq _,.inl rfl⟩
end Go.Proofs
set_option maxRecDepth 10000
namespace Go.Li
open Go Go.Sv Go.Pl Go.Proofs Go.Tb Go.Ut
theorem Fj(p:aB):bh p=0∨bh p=2∨bh p=7∨bh p=4:=by
 unfold bh;split
 ·exact .inr (.inl rfl)
 ·split
  ·exact .inr (.inr (.inl rfl))
  ·split
   ·exact .inr (.inr (.inr rfl))
   ·exact .inl rfl
theorem MF(p:aB)(h:bh p≠0):0<bh p∧bh p<=10:=by rcases Fj p with e | e | e | e<;>omega
theorem jF{p:aB}(h:bh p=0):p.rows.length<=120∧p.ab.length<=120∧∀i,i<p.rows.length->fJ p.ab.length (-1) (gt p.rows i).aC=false:=by
 unfold bh at h;split at h
 ·cases h
 ·split at h
  ·cases h
  ·split at h
   ·cases h
   ·rename_i h1 h2 h3;refine⟨by omega,by omega,λi hi=>?_⟩;cases hb:fJ p.ab.length (-1) (gt p.rows i).aC with
    | false=>rfl
    | true=>exact absurd (wM hi hb) h3
theorem SP{s:dC}(h:NR s):As (dR s) where
 nc:=by simp[dR];exact h.nc
 nr:=by simp[dR];exact h.nr
 nt:=λi hi=>by
  have ad:i<s.rows.length:=by simpa[dR]using hi
  unfold dR;rw[jj _ ad];have h1:=(h.rows i ad).ab;have h2:=pT (gt s.rows i);simp only[rowOf,atT];omega
theorem HG(s:ByteArray):qw 2200 (mF s).at':=by
 unfold mF;split
 ·exact cL _ (by omega)
 ·exact xE _
theorem Dg(s:dC):cT (dR s) where
 sh:=xE _
 co:=λj hj=>by
  have an:j<s.ab.length:=by simpa[dR]using hj
  unfold dR;rw[jj _ an];exact⟨xE _,HG _,HG _⟩
 ro:=λi hi=>by
  have ad:i<s.rows.length:=by simpa[dR]using hi
  unfold dR;rw[jj _ ad];exact⟨HG _,HG _⟩
 te:=λi hi k hk=>by
  have ad:i<s.rows.length:=by simpa[dR]using hi
  unfold dR at hk ⊢;rw[jj _ ad]at hk ⊢;simp only[rowOf,atT]at hk ⊢;rw[jj _ hk];exact xE _
end Go.Li
namespace Go.Proofs
open Go.Sv Go Go.Tb Go.Pl Go.Ut Go.Li
/-! the second file of laws -/
theorem Hf{α:Type}[Inhabited α]{l:List α}{f:α->Bool}{i:Nat}(h:i<l.length)(hf:f (gt l i)=false):l.all f=false:=by rw[avQ];exact⟨_,gZ h,by simp[hf]⟩
theorem yZ{α:Type}[Inhabited α]{l:List α}{f:α->Bool}{i:Nat}(h:i<l.length)(ha:(l.take i).all f=true)(hf:f (gt l i)=true):(l.take (i+1)).all f=true:=by rw[kT _ h,ha,hf];rfl
def nM(l:List ByteArray):Bool:=decide (l.length<=40)&&l.all λs=>decide (s.size<=24)
theorem nY(l:List ByteArray)(hl:l.length<=1048576)(hs:∀i,i<l.length->(gt l i).size<=1048576):aG awW 27 [.ro (l.map eF)] (.val (.bool (nM l))):=by
 refine aj Tryz.func27 rfl (by simp) (λC hC=>?_);simp;refine⟨λc=>by simp[nM];omega,λc=>?_⟩;refine aa.bM (ι:=Nat) (λi=>⟨19,[(0,.ro (l.map eF)),(3,iv i)],[]⟩)
  (λi=>i<=l.length∧(l.take i).all (λs=>decide (s.size<=24))=true) (λi=>l.length - i) 0 (by simp) ?_ ?_
 ·simp[aR,hC]
 ·rintro i ⟨hi,ha⟩;by_cases aP:i<l.length
  ·have:=hs i aP;simp(disch:=omega)[aP,mQ,aK];repeat refine asi ?_
   refine⟨λq=>?_,λq=>⟨i+1,⟨by omega,?_⟩,by omega,Le.fm (by simp(disch:=omega)[aR,hC])⟩⟩
   ·unfold nM;rw[Hf aP (by simp;omega)];simp
   ·simpa using yZ aP ha (by simp;omega)
  ·obtain rfl:i=l.length:=by omega
   rw[aug]at ha;unfold nM;rw[ha];simp;omega
def s0:ByteArray:=⟨#[48]⟩
def s1:ByteArray:=⟨#[49]⟩
def s2:ByteArray:=⟨#[50]⟩
def s3:ByteArray:=⟨#[51]⟩
def s4:ByteArray:=⟨#[52]⟩
def s5:ByteArray:=⟨#[53]⟩
def s6:ByteArray:=⟨#[54]⟩
def sx:ByteArray:=⟨#[120]⟩
def sy:ByteArray:=⟨#[121]⟩
def PL:ByteArray:=⟨#[111,110,101]⟩
def oz:dC:=⟨true,s0,[⟨sx,false,s0,s4,s3⟩,⟨sy,false,s0,s4,s5⟩],[⟨PL,e0,s6,[0,1],[s1,s2]⟩]⟩
theorem Mr:aG awW 32 [] (eQ oz):=by refine pR Tryz.func32 rfl (by simp) (λC hC=>?_);simp;refine⟨_,(Le.CE 3 rfl rfl).trans ((Le.CE 4 rfl rfl).trans ((Le.CE 2 rfl rfl).trans (Le.CE 5 rfl rfl))),?_⟩;simp[rm,aX,oz,eQ,pB,kG,s0,s1,s2,s3,s4,s5,s6,sx,sy,PL,e0];rfl
def shC(c:lz):Bool:=nM [c.low,c.high,c.cost]
def S6(r:iX):Bool:=nM r.fi&&nM [r.low,r.high]&&decide (r.ab.length=r.fi.length)
def ug(s:dC):Bool:=decide (s.ab.length<=7)&&decide (s.rows.length<=7)&&decide (s.shift.size<=24)&&s.ab.all shC&&s.rows.all S6
theorem HI(s:dC)(h:NR s):aG awW 73 [eQ s] (.val (.bool (ug s))):=by
 have nc:=h.nc;have nr:=h.nr;have ns:=h.shift;refine aj Tryz.func73 rfl (by simp) (λC hC=>?_);simp;refine⟨λc1=>⟨λc2=>⟨λc3=>by simp[ug];omega,λc3=>?_⟩,λc2=>by simp[ug];omega⟩,λc1=>by simp[ug];omega⟩;refine aa.bM (ι:=Nat) (λi=>⟨84,[(1,.ptr 0 0 0),(3,iv i)],[some ⟨4,[eQ s],false⟩]⟩)
  (λi=>i<=s.ab.length∧(s.ab.take i).all shC=true) (λi=>s.ab.length - i) 0 (by simp) ?_ ?_
 ·simp[aR,hC]
 ·rintro i ⟨hi,ha⟩;by_cases aP:i<s.ab.length
  ·have hc:=h.ab i aP;simp(disch:=omega)[aP,uJ];repeat refine asi ?_
   refine bg (nY [(gt s.ab i).low,(gt s.ab i).high,(gt s.ab i).cost] (by simp) (λk hk=>?_)) (by simp) ?_
   ·match k,hk with
    | 0,_=>exact hc.low
    | 1,_=>exact hc.high
    | 2,_=>exact hc.cost
   simp(disch:=omega)[aK];repeat refine asi ?_
   rw[show nM [(gt s.ab i).low,(gt s.ab i).high,(gt s.ab i).cost]=shC (gt s.ab i) from rfl];refine⟨λhb=>?_,λhb=>⟨i+1,⟨by omega,by simpa using yZ aP ha hb⟩,by omega,Le.fm (by simp(disch:=omega)[aR,hC])⟩⟩;unfold ug;rw[Hf aP hb];simp
  ·obtain rfl:i=s.ab.length:=by omega
   rw[aug]at ha;simp;refine aa.bM (ι:=Nat) (λi=>⟨84,[(1,.ptr 0 0 0),(6,iv i)],[some ⟨4,[eQ s],false⟩]⟩)
    (λi=>i<=s.rows.length∧(s.rows.take i).all S6=true) (λi=>s.rows.length - i) 0 (by simp) ?_ ?_
   ·simp[aR,hC]
   ·rintro i ⟨hi,hb⟩;by_cases aP:i<s.rows.length
    ·have hr:=h.rows i aP;have no:=λ(q:S6 (gt s.rows i)=false)=>show ug s=false by unfold ug;rw[Hf aP q];simp
     simp(disch:=omega)[aP,uN];repeat refine asi ?_
     refine bg (nY (gt s.rows i).fi hr.fi.n (λk hk=>hr.fi.s _ (gZ hk))) (by simp) ?_;simp;refine bg (nY [(gt s.rows i).low,(gt s.rows i).high] (by simp) (λk hk=>?_)) (by simp) ?_
     ·match k,hk with
      | 0,_=>exact hr.low
      | 1,_=>exact hr.high
     have:=hr.ab;have:=hr.fi.n;simp(disch:=omega)[aK];repeat refine asi ?_
     refine⟨λq1=>⟨λq2=>⟨λq3=>no ?_,λq3=>?_⟩,λq2=>no ?_⟩,λq1=>no ?_⟩
     ·unfold S6;simp;omega
     ·refine⟨i+1,⟨by omega,?_⟩,by omega,Le.fm (by simp(disch:=omega)[aR,hC])⟩;simpa using yZ aP hb (by unfold S6;simp[q1,q2];omega)
     ·unfold S6;simp[q2]
     ·unfold S6;simp[q1]
    ·obtain rfl:i=s.rows.length:=by omega
     rw[aug]at hb;simp[ug,ha,hb];omega
theorem Jb(s:dC)(h:NR s)(hf:ug s=false):aG awW 26 [eQ s] (.bP [.val (.pointer none),.agg [.val (.bool false),.val (.bool false),.ro [],.val (.bool false),.ro [],.ro [],.ro []],.val (.bool false)]):=by have g:=HI s h;rw[hf]at g;refine aj axw rfl (by simp) (λC hC=>?_);simp;refine asl (g) ?_;simp
theorem HS(s:dC)(h:NR s)(hf:ug s=true):aG awW 26 [eQ s] (.bP [.dc (bN (dR s)) 0,rE s,.val (.bool (NW s))]):=by have g:=HI s h;rw[hf]at g;refine aj axw rfl (by simp) (λC hC=>?_);simp;refine asl (g) ?_;simp;refine asl (K4 s h) ?_;simp;refine asl (D6 s h) ?_;simp;refine aa.asj (.qs [0,1,2,3]<|.l 4 [1]<|.qs [5]<|.nil) ?_;simp
end Go.Proofs
namespace Go.Li
open Go Go.Sv Go.Pl Go.Proofs Go.Tb Go.Ut
theorem n0:num s0=0:=by decide +kernel
theorem n1:num s1=1:=by decide +kernel
theorem n2:num s2=2:=by decide +kernel
theorem n3:num s3=3:=by decide +kernel
theorem n4:num s4=4:=by decide +kernel
theorem n5:num s5=5:=by decide +kernel
theorem n6:num s6=6:=by decide +kernel
def P1:aB:=⟨true,0,[⟨sx,false,⟨true,0⟩,⟨true,4⟩,3⟩,⟨sy,false,⟨true,0⟩,⟨true,4⟩,5⟩],[⟨PL,[⟨0,1⟩,⟨1,2⟩],⟨false,0⟩,⟨true,6⟩⟩]⟩
theorem xx:dR oz=P1:=by
 have e:∀s:ByteArray,jz s=false->mF s=⟨true,num s⟩:=λs h=>by unfold mF;rw[h];rfl
 have e':mF e0=⟨false,0⟩:=rfl;simp[dR,oz,P1,o7,rowOf,gC,rY,n0,n1,n2,n3,n4,n5,n6,e s0 (by decide),e s4 (by decide),e s6 (by decide),e']
theorem DH:NW oz=true:=by decide +kernel
theorem JG:ug oz=true:=by decide +kernel
theorem gU:bh P1=0:=by unfold bh;decide +kernel
theorem Ml:NR oz where
 shift:=by decide
 nc:=by decide
 nr:=by decide
 ab:=λi hi=>by
  match i,hi with
  | 0,_=>exact⟨by decide,by decide,by decide,by decide⟩
  | 1,_=>exact⟨by decide,by decide,by decide,by decide⟩
 rows:=λi hi=>by
  match i,hi with
  | 0,_=>exact⟨by decide,by decide,by decide,by decide,⟨by decide,λx hx=>by
    have ap:x=s1∨x=s2:=by simpa[oz,gt]using hx
    rcases ap with e | e<;>rw[e]<;>decide⟩⟩
end Go.Li
namespace Go.Proofs
open Go.Sv Go Go.Tb Go.Pl Go.Ut Go.Li
end Go.Proofs
set_option maxRecDepth 10000
namespace Go.Li
open Go Go.Sv Go.Pl Go.Proofs Go.Tb Go.Ut
def rK(x:List Rat)(ts:List Term):Nat->Rat
 | 0=>0
 | k+1=>rK x ts k+(gt ts k).num*gt x (gt ts k).g9.toNat
def dX(p:aB)(x:List Rat):Nat->Rat
 | 0=>p.shift
 | j+1=>dX p x j+(gt p.ab j).cost*gt x j
def BY(q:Rat)(low high:Bo):Bool:=!(low.has&&decide (q<low.at'))&&!(high.has&&decide (high.at'<q))
def yW(p:aB)(x:List Rat)(whole:Bool)(j:Nat):Bool:=BY (gt x j) (gt p.ab j).low (gt p.ab j).high&&!(whole&&(gt p.ab j).whole&&!decide ((gt x j).den=1))
def L9(p:aB)(x:List Rat)(i:Nat):Bool:=BY (rK x (gt p.rows i).aC (gt p.rows i).aC.length) (gt p.rows i).low (gt p.rows i).high
def dK(p:aB)(x:List Rat)(whole:Bool):Bool:=(ati p.ab.length).all (yW p x whole)&&(ati p.rows.length).all (L9 p x)
theorem BC{n i:Nat}{f:Nat->Bool}(h:i<n)(hf:f i=false):(ati n).all f=false:=by rw[avQ];exact⟨i,avp.2 h,by simp[hf]⟩
theorem qE{n:Nat}{f:Nat->Bool}(h:∀i,i<n->f i=true):(ati n).all f=true:=by rw[atu];exact λi hi=>h i (avp.1 hi)
theorem Ro{P:Nat->Prop}{i:Nat}(h:∀k,k<i->P k)(hi:P i):∀k,k<i+1->P k:=λk hk=>by
 rcases Nat.lt_or_ge k i with h' | h'
 ·exact h k h'
 ·obtain rfl:k=i:=by omega
  exact hi
theorem uY{p:aB}{x:List Rat}{w:Bool}(h1:∀k,k<p.ab.length->yW p x w k=true)(h2:∀k,k<p.rows.length->L9 p x k=true):dK p x w=true:=by unfold dK;rw[qE h1,qE h2];rfl
theorem Bg{p:aB}{x:List Rat}{w:Bool}{j:Nat}(hj:j<p.ab.length)(h:yW p x w j=false):dK p x w=false:=by unfold dK;rw[BC hj h];rfl
theorem A3{p:aB}{x:List Rat}{w:Bool}{j:Nat}(hj:j<p.rows.length)(h:L9 p x j=false):dK p x w=false:=by unfold dK;rw[BC hj h];simp
theorem B6{x:List Rat}(hx:Wd 2200 x){ts:List Term}(ht:∀k,k<ts.length->qw 2200 (gt ts k).num∧0<=(gt ts k).g9∧(gt ts k).g9<x.length):∀k,k<=ts.length->qw (1+4401*k) (rK x ts k)
 | 0,_=>ay (fg (n:=0) (by omega) (by omega)) (by omega)
 | k+1,hk=>by obtain⟨h1,h2,h3⟩:=ht k (by omega);exact ay (kg (B6 hx ht k (by omega)) (cx h1 (hx _ (by omega)) (by omega))) (by omega)
theorem BE{p:aB}(hw:cT p){x:List Rat}(hx:Wd 2200 x)(hl:p.ab.length<=x.length):∀j,j<=p.ab.length->qw (2200+4401*j) (dX p x j)
 | 0,_=>hw.sh
 | j+1,hj=>ay (kg (BE hw hx hl j (by omega)) (cx (hw.co j (by omega)).1 (hx j (by omega)) (by omega))) (by omega)
theorem yG{p:aB}(hw:cT p)(hv:bh p=0){x:List Rat}(hl:x.length=p.ab.length){i:Nat}(hi:i<p.rows.length):∀k,k<(gt p.rows i).aC.length->qw 2200 (gt (gt p.rows i).aC k).num∧0<=(gt (gt p.rows i).aC k).g9∧(gt (gt p.rows i).aC k).g9<x.length:=λk hk=>by obtain⟨h1,h2, -, -⟩:=BO ((jF hv).2.2 i hi) k hk;exact⟨hw.te i hi k hk,by omega,by omega⟩
end Go.Li
namespace Go.Proofs
open Go.Sv Go Go.Tb Go.Pl Go.Ut Go.Li
theorem N5(r:Row)(hn:r.aC.length<=1048576)(x:List Rat)(hx:Wd 2200 x)(ht:∀k,k<r.aC.length->qw 2200 (gt r.aC k).num∧0<=(gt r.aC k).g9∧(gt r.aC k).g9<x.length):aG awW 80 [lT r,.ro (x.map cI)] (cI (rK x r.aC r.aC.length)):=by
 refine aj Tryz.func80 rfl (by simp) (λC hC=>?_);simp;refine asl (s7) ?_;simp;refine aa.bM (ι:=Nat) (λk=>⟨34,[(1,.ro (x.map cI)),(2,.ptr 0 0 0),(4,.ptr 1 0 0),(5,.ptr 2 0 0),(6,iv k)],[some ⟨13,[lT r],false⟩,some ⟨4,[.agg [.val (.bool false),.val (.slice none 0 0),.val (.bool false),.val (.slice none 0 0)]],false⟩,some ⟨4,[cI (rK x r.aC k)],false⟩]⟩)
  (λk=>k<=r.aC.length) (λk=>r.aC.length - k) 0 (by simp) ?_ ?_
 ·simp[aR,hC,rK]
 ·rintro k hk;by_cases aP:k<r.aC.length
  ·obtain⟨h1,h2,h3⟩:=ht k aP;have w1:=B6 hx ht k (by omega);have w2:=hx (gt r.aC k).g9.toNat (by omega);have l3:aL (x.map cI) (gt r.aC k).g9.toNat=cI (gt x (gt r.aC k).g9.toNat):=iR (by omega);simp(disch:=omega)[aP];repeat refine asi ?_
   refine aa.jZ (.d 14<|.qs [0,1,2,3,4,5,6,7,8,9,10,11,12]<|.p 13<|.b (.l 15 [3]<|.nil)) (by kernel_rfl) (by kernel_rfl) (by simp) ?_;simp(disch:=omega)[aP,qY,qd,l3];repeat refine asi ?_
   refine fG (mv _ _ (ao h1 (by omega)) (ao w2 (by omega))) (by simp) ?_;simp;refine asl (mi _ _ (ao w1 (by omega)) (ao (cx h1 w2 (by omega)) (by omega))) ?_;simp(disch:=omega)[aK];repeat refine asi ?_
   exact⟨k+1,by omega,by omega,Le.fm (by simp(disch:=omega)[aR,hC,rK])⟩
  ·obtain rfl:k=r.aC.length:=by omega
   simp
theorem J4(p:aB)(h:As p)(hw:cT p)(x:List Rat)(hx:Wd 2200 x)(hl:x.length=p.ab.length):aG awW 82 [bZ p,.ro (x.map cI)] (cI (dX p x p.ab.length)):=by
 have nc:=h.nc;refine aj Tryz.func82 rfl (by simp) (λC hC=>?_);simp;refine aa.bM (ι:=Nat) (λj=>⟨32,[(1,.ro (x.map cI)),(2,.ptr 0 0 0),(4,.ptr 1 0 0),(5,.ptr 2 0 0),(6,iv j)],[some ⟨7,[bZ p],false⟩,some ⟨4,[.agg [.val (.bool false),.val (.slice none 0 0),.val (.bool false),.val (.slice none 0 0)]],false⟩,some ⟨4,[cI (dX p x j)],false⟩]⟩)
  (λj=>j<=p.ab.length) (λj=>p.ab.length - j) 0 (by simp) ?_ ?_
 ·simp[aR,hC,dX]
 ·rintro j hj;by_cases aP:j<p.ab.length
  ·have w1:=BE hw hx (by omega) j (by omega);have w2:=hx j (by omega);have w3:=(hw.co j aP).1;simp(disch:=omega)[aP];repeat refine asi ?_
   refine aa.jZ (.d 11<|.qs [0,1,2,3,4,5,6,7,8,9]<|.p 10<|.b (.l 12 [3]<|.nil)) (by kernel_rfl) (by kernel_rfl) (by simp) ?_;simp(disch:=omega)[aP,dG,iR];repeat refine asi ?_
   refine fG (mv _ _ (ao w3 (by omega)) (ao w2 (by omega))) (by simp) ?_;simp;refine asl (mi _ _ (ao w1 (by omega)) (ao (cx w3 w2 (by omega)) (by omega))) ?_;simp(disch:=omega)[aK];repeat refine asi ?_
   exact⟨j+1,by omega,by omega,Le.fm (by simp(disch:=omega)[aR,hC,dX])⟩
  ·obtain rfl:j=p.ab.length:=by omega
   simp
theorem oB(q:Rat)(a b:Bo)(hq:kc q)(ha:kc a.at')(hb:kc b.at'):aG awW 79 [cI q,nB a,nB b] (.val (.bool (BY q a b))):=by
 refine aj Tryz.func79 rfl (by simp) (λC hC=>?_);simp;refine⟨λh1=>?_,λh1=>⟨λh2=>?_,λh2=>by simp[BY,h1,h2]⟩⟩
 ·rw[kS h1];refine asl (Fm q a.at' hq ha) ?_;simp;refine⟨λq1=>by simp[BY,h1,q1],λq1=>⟨λh2=>?_,λh2=>by simp[BY,h1,h2,q1]⟩⟩;rw[kS h2];refine asl (Fm q b.at' hq hb) ?_;simp;exact⟨λq2=>by simp[BY,h1,h2,q1,q2],λq2=>by simp[BY,h1,h2,q1,q2]⟩
 ·rw[kS h2];refine asl (Fm q b.at' hq hb) ?_;simp;exact⟨λq2=>by simp[BY,h1,h2,q2],λq2=>by simp[BY,h1,h2,q2]⟩
theorem vU(p:aB)(x:List Rat)(hl:x.length≠p.ab.length)(whole:Bool):aG awW 30 [bZ p,.ro (x.map cI),cX whole] (cX false):=by refine aj axx rfl (by simp) (λC hC=>?_);simp;exact λq=>by omega
theorem Kd(p:aB)(h:As p)(hw:cT p)(hv:bh p=0)(x:List Rat)(hx:Wd 2200 x)(hl:x.length=p.ab.length)(whole:Bool):aG awW 30 [bZ p,.ro (x.map cI),cX whole] (cX (dK p x whole)):=by
 have nc:=h.nc;have nr:=h.nr;refine aj axx rfl (by simp) (λC hC=>?_);simp[hl];refine aa.bM (ι:=Nat) (λj=>⟨89,[(1,.ro (x.map cI)),(2,cX whole),(3,.ptr 0 0 0),(7,iv j)],[some ⟨7,[bZ p],false⟩]⟩)
  (λj=>j<=p.ab.length∧∀k,k<j->yW p x whole k=true) (λj=>p.ab.length - j) 0 (by simp) ?_ ?_
 ·simp[aR,hC]
 ·rintro j ⟨hj,hb⟩;by_cases aP:j<p.ab.length
  ·have w1:=hx j (by omega);have w2:=hw.co j aP;have no:=Bg (x:=x) (w:=whole) aP;simp(disch:=omega)[aP,dG];repeat refine asi ?_
   refine aa.asj (.qs [0,1,2,3,4,5,6,7]<|.l 8 []<|.qs [9]<|.nil) ?_;simp(disch:=omega)[iR];repeat refine asi ?_
   refine asl (oB (gt x j) (gt p.ab j).low (gt p.ab j).high (ao w1 (by omega)) (ao w2.2.1 (by omega)) (ao w2.2.2 (by omega))) ?_;simp(disch:=omega)[iR];repeat refine asi ?_
   refine asl (vZ (gt x j)) ?_;simp(disch:=omega)[aK];repeat refine asi ?_
   repeat' (apply And.intro<;>intro _)
   all_goals first | exact no (by simp[yW, *]) | exact⟨j+1,⟨by omega,Ro hb (by simp[yW, *])⟩,by omega,Le.fm (by simp(disch:=omega)[aR,hC])⟩
  ·obtain rfl:j=p.ab.length:=by omega
   simp;refine aa.bM (ι:=Nat) (λi=>⟨89,[(1,.ro (x.map cI)),(3,.ptr 0 0 0),(11,iv i)],[some ⟨7,[bZ p],false⟩]⟩)
    (λi=>i<=p.rows.length∧∀k,k<i->L9 p x k=true) (λi=>p.rows.length - i) 0 (by simp) ?_ ?_
   ·simp[aR,hC]
   ·rintro i ⟨hi,hr⟩;by_cases aP:i<p.rows.length
    ·have to:=yG hw hv hl aP;have nt:=h.nt i aP;have ws:=B6 hx to (gt p.rows i).aC.length (by omega);have w2:=hw.ro i aP;have no:=A3 (x:=x) (w:=whole) aP;simp(disch:=omega)[aP,cS];repeat refine asi ?_
     refine asl (N5 (gt p.rows i) nt x hx to) ?_;simp;refine aa.asj (.qs [0,1,2,3,4,5,6,7,8,9,10,11,12]<|.l 13 []<|.qs [14]<|.nil) ?_;simp(disch:=omega)[aP,cS];repeat refine asi ?_
     refine asl (oB _ (gt p.rows i).low (gt p.rows i).high (ao ws (by omega)) (ao w2.1 (by omega)) (ao w2.2 (by omega))) ?_;simp(disch:=omega)[aK];repeat refine asi ?_
     exact⟨λq=>no q,λq=>⟨i+1,⟨by omega,Ro hr q⟩,by omega,Le.fm (by simp(disch:=omega)[aR,hC])⟩⟩
    ·obtain rfl:i=p.rows.length:=by omega
     simp[uY hb hr]
/-! the program's -/
end Go.Proofs
namespace Go.Li
open Go Go.Sv Go.Pl Go.Proofs Go.Tb Go.Ut
def bW(f:Nat->Rat):Nat->Rat
 | 0=>0
 | n+1=>bW f n+f n
theorem lD{f g:Nat->Rat}{n:Nat}(h:∀j,j<n->f j=g j):bW f n=bW g n:=by
 induction n with
 | zero=>rfl
 | succ n ih=>simp only[bW];rw[ih λj hj=>h j (by omega),h n (by omega)]
theorem NF{f g:Nat->Rat}{n:Nat}:bW (λj=>f j - g j) n=bW f n - bW g n:=by
 induction n with
 | zero=>simp only[bW];grind
 | succ n ih=>simp only[bW];rw[ih];grind
theorem xV{f:Nat->Rat}{c:Rat}{n:Nat}:bW (λj=>c*f j) n=c*bW f n:=by
 induction n with
 | zero=>simp[bW]
 | succ n ih=>simp only[bW];rw[ih];grind
theorem Nn{f g:Nat->Rat}{n:Nat}:bW (λj=>f j+g j) n=bW f n+bW g n:=by
 induction n with
 | zero=>simp only[bW];grind
 | succ n ih=>simp only[bW];rw[ih];grind
theorem Il{c:Nat}{v:Rat}:∀{n:Nat},bW (λj=>if j=c then v else 0) n=if c<n then v else 0
 | 0=>by simp[bW]
 | n+1=>by
  simp only[bW];rw[Il];by_cases h:n=c
  ·subst h;rw[if_neg (by omega),if_pos rfl,if_pos (by omega)];grind
  ·rw[if_neg h];by_cases h':c<n
   ·rw[if_pos h',if_pos (by omega)];grind
   ·rw[if_neg h',if_neg (by omega)];grind
theorem AD{n:Nat}{ts:List Term}(hb:fJ n (-1) ts=false)(x:List Rat):∀k,k<=ts.length->bW (λj=>gt x j*cW (ts.take k) j) n=rK x ts k
 | 0,_=>by
  have:bW (λj=>gt x j*cW (ts.take 0) j) n=bW (λ_=>0) n:=lD λj _=>by simp[cW]
  rw[this];have z:∀m,bW (λ_=>0) m=0:=λm=>by
   induction m with
   | zero=>rfl
   | succ m ih=>simp only[bW];rw[ih];grind
  rw[z];rfl
 | k+1,hk=>by
  obtain⟨h1,h2,h3,h4⟩:=BO hb k (by omega);have ih:=AD hb x k (by omega);have e:∀j,j<n->gt x j*cW (ts.take (k+1)) j=gt x j*cW (ts.take k) j+if j=(gt ts k).g9.toNat then(gt ts k).num*gt x (gt ts k).g9.toNat else 0:=λj hj=>by
   rw[fO (show k<ts.length by omega),AL];by_cases e:j=(gt ts k).g9.toNat
   ·have e':(gt ts k).g9=(j:Int):=by omega
    have hn:∀k',k'<(ts.take k).length->(gt (ts.take k) k').g9≠(j:Int):=λk' ak=>by
     simp only[List.length_take]at ak;have e2:gt (ts.take k) k'=gt ts k':=by rw[<-dY (by simpa using ak),List.getElem_take,dY (by omega)]
     have:=h4 k' (by omega);rw[e2];omega
    rw[if_pos e',if_pos hn,if_pos e,I0 hn,e];grind
   ·have e':¬(gt ts k).g9=(j:Int):=by omega
    rw[if_neg e',if_neg e];grind
  rw[lD e,Nn,ih,Il,if_pos (by omega)];rfl
theorem xp{n:Nat}{ts:List Term}(hb:fJ n (-1) ts=false)(x:List Rat):bW (λj=>gt x j*cW ts j) n=rK x ts ts.length:=by
 have:=AD hb x ts.length (asN _)
 rwa [aug]at this
def fY(p:aB)(x:List Rat)(i:Nat):Rat:=rK x (gt p.rows i).aC (gt p.rows i).aC.length
theorem N6{p:aB}(hb:∀i,i<p.rows.length->fJ p.ab.length (-1) (gt p.rows i).aC=false)(x y:List Rat):∀i,i<=p.rows.length ->
  bW (λj=>gt x j*dP p y j i) p.ab.length=bW (λj=>gt x j*(gt p.ab j).cost) p.ab.length - bW (λk=>gt y k*fY p x k) i
 | 0,_=>by simp only[bW,dP];grind
 | i+1,hi=>by
  have ih:=N6 hb x y i (by omega);have e:∀j,j<p.ab.length->gt x j*dP p y j (i+1)=gt x j*dP p y j i - gt y i*(gt x j*cW (gt p.rows i).aC j):=λj _=>by simp only[dP];grind
  rw[lD e,NF,xV,ih,xp (hb i (by omega)) x];simp only[bW,fY];grind
theorem tZ(p:aB)(x:List Rat):∀j,dX p x j=p.shift+bW (λk=>gt x k*(gt p.ab k).cost) j
 | 0=>by simp only[dX,bW];grind
 | j+1=>by simp only[dX,bW];rw[tZ p x j];grind
/-! between two ends -/
def Gn(s:Sp)(q:Rat):Prop:=(s.lo.has=true->s.lo.at'<=q)∧(s.hi.has=true->q<=s.hi.at')
theorem kK{q:Rat}{a b:Bo}:BY q a b=true↔(a.has=true->a.at'<=q)∧(b.has=true->q<=b.at'):=by
 unfold BY;simp only[atl,Bool.not_eq_true',Bool.and_eq_false_iff,decide_eq_false_iff_not,avT];constructor
 ·rintro⟨h1,h2⟩;refine⟨λh=>?_,λh=>?_⟩
  ·rcases h1 with h1 | h1
   ·rw[h]at h1;cases h1
   ·exact h1
  ·rcases h2 with h2 | h2
   ·rw[h]at h2;cases h2
   ·exact h2
 ·rintro⟨h1,h2⟩;refine⟨?_,?_⟩
  ·by_cases h:a.has=true
   ·exact .inr (h1 h)
   ·exact .inl (by simpa using h)
  ·by_cases h:b.has=true
   ·exact .inr (h2 h)
   ·exact .inl (by simpa using h)
theorem sQ{a b:Bo}{r:Rat}(h:(eU a b r).has=true):a.has=true∧b.has=true∧(eU a b r).at'=a.at'+b.at'*r:=by
 unfold eU at h ⊢;by_cases c:a.has=true∧b.has=true
 ·rw[if_pos c];exact⟨c.1,c.2,rfl⟩
 ·rw[if_neg c]at h;cases h
theorem p9{s:Sp}{q z r:Rat}{low high:Bo}(hs:Gn s q)(hz:BY z low high=true):Gn (eB s low high r) (q+z*r):=by
 obtain⟨z1,z2⟩:=kK.1 hz;unfold eB;by_cases h0:r=0
 ·rw[if_pos h0,h0];have:q+z*0=q:=by grind
  rwa [this]
 ·rw[if_neg h0];by_cases h1:r<0
  ·rw[if_pos h1];refine⟨λh=>?_,λh=>?_⟩
   ·obtain⟨g1,g2,g3⟩:=sQ h;show(eU s.lo high r).at'<=_;rw[g3];have m:=avU (z2 g2) (show 0 <= -r by grind);have:=hs.1 g1;grind
   ·obtain⟨g1,g2,g3⟩:=sQ h;show _<=(eU s.hi low r).at';rw[g3];have m:=avU (z1 g2) (show 0 <= -r by grind);have:=hs.2 g1;grind
  ·rw[if_neg h1];have hr:0<=r:=avT.1 h1;refine⟨λh=>?_,λh=>?_⟩
   ·obtain⟨g1,g2,g3⟩:=sQ h;show(eU s.lo low r).at'<=_;rw[g3];have m:=avU (z1 g2) hr;have:=hs.1 g1;grind
   ·obtain⟨g1,g2,g3⟩:=sQ h;show _<=(eU s.hi high r).at';rw[g3];have m:=avU (z2 g2) hr;have:=hs.2 g1;grind
theorem kP{p:aB}{x:List Rat}{w:Bool}(h:dK p x w=true){j:Nat}(hj:j<p.ab.length):BY (gt x j) (gt p.ab j).low (gt p.ab j).high=true:=by unfold dK at h;simp only[atl,atu,avp]at h;have:=h.1 j hj;unfold yW at this;simp only[atl]at this;exact this.1
theorem m5{p:aB}{x:List Rat}{w:Bool}(h:dK p x w=true){i:Nat}(hi:i<p.rows.length):BY (fY p x i) (gt p.rows i).low (gt p.rows i).high=true:=by unfold dK at h;simp only[atl,atu,avp]at h;exact h.2 i hi
theorem NH{p:aB}{x:List Rat}(y:List Rat)(h:dK p x false=true):∀i,i<=p.rows.length->Gn (zK p y i) (p.shift+bW (λk=>gt y k*fY p x k) i)
 | 0,_=>by
  have e:p.shift+bW (λk=>gt y k*fY p x k) 0=p.shift:=by simp only[bW];grind
  rw[e];exact⟨λ_=>avH,λ_=>avH⟩
 | i+1,hi=>by
  have:=p9 (r:=gt y i) (NH y h i (by omega)) (m5 h (i:=i) (by omega));have e:p.shift+bW (λk=>gt y k*fY p x k) (i+1)=p.shift+bW (λk=>gt y k*fY p x k) i+fY p x i*gt y i:=by simp only[bW];grind
  rw[e];exact this
theorem LZ{p:aB}{x:List Rat}(y:List Rat)(h:dK p x false=true):∀j,j<=p.ab.length->Gn (zJ p y j) (p.shift+bW (λk=>gt y k*fY p x k) p.rows.length+bW (λk=>gt x k*dP p y k p.rows.length) j)
 | 0,_=>by
  have e:p.shift+bW (λk=>gt y k*fY p x k) p.rows.length+bW (λk=>gt x k*dP p y k p.rows.length) 0=p.shift+bW (λk=>gt y k*fY p x k) p.rows.length:=by simp only[bW];grind
  rw[e];exact NH y h _ (asN _)
 | j+1,hj=>by
  have:=p9 (r:=dP p y j p.rows.length) (LZ y h j (by omega)) (kP h (j:=j) (by omega));have e:p.shift+bW (λk=>gt y k*fY p x k) p.rows.length+bW (λk=>gt x k*dP p y k p.rows.length) (j+1)=p.shift+bW (λk=>gt y k*fY p x k) p.rows.length+bW (λk=>gt x k*dP p y k p.rows.length) j+gt x j*dP p y j p.rows.length:=by simp only[bW];grind
  rw[e];exact this
theorem TL{p:aB}(hv:bh p=0){x:List Rat}(y:List Rat)(h:dK p x false=true):Gn (zJ p y p.ab.length) (dX p x p.ab.length):=by
 have h1:=LZ y h p.ab.length (asN _);rw[N6 (jF hv).2.2 x y p.rows.length (asN _)]at h1;rw[tZ];have e:p.shift+bW (λk=>gt y k*fY p x k) p.rows.length+(bW (λj=>gt x j*(gt p.ab j).cost) p.ab.length - bW (λk=>gt y k*fY p x k) p.rows.length)=p.shift+bW (λk=>gt x k*(gt p.ab k).cost) p.ab.length:=by grind
 rwa [e]at h1
/-! nothing holds -/
def gP(a b:Bo):Bool:=a.has&&b.has&&decide (b.at'<a.at')
def gm(p:aB):Bool:=p.ab.any (λc=>gP c.low c.high)||p.rows.any λr=>gP r.low r.high
theorem DI{q:Rat}{a b:Bo}(h:BY q a b=true):gP a b=false:=by
 obtain⟨h1,h2⟩:=kK.1 h;cases hc:gP a b with
 | false=>rfl
 | true =>
  unfold gP at hc;simp only[atl,decide_eq_true_eq]at hc;have:=avV (h1 hc.1.1) (h2 hc.1.2);exact absurd hc.2 (avT.2 this)
theorem FQ{p:aB}{x:List Rat}{w:Bool}(h:dK p x w=true):gm p=false:=by
 unfold gm;rw[avS];refine⟨avR.2 λc hc=>?_,avR.2 λr hr=>?_⟩
 ·obtain⟨j,hj,rfl⟩:=avA hc;rw[dY hj,DI (kP h hj)];simp
 ·obtain⟨j,hj,rfl⟩:=avA hr;rw[dY hj,DI (m5 h hj)];simp
def free(p:aB):aB:=⟨p.max,p.shift,p.ab.map λc=>{ c with cost:=0 },p.rows⟩
def FW(p:aB)(y:List Rat):Nat->Sp
 | 0=>⟨⟨true,0⟩,⟨true,0⟩⟩
 | i+1=>eB (FW p y i) (gt p.rows i).low (gt p.rows i).high (gt y i)
def IB(p:aB)(y:List Rat):Nat->Sp
 | 0=>⟨⟨true,0⟩,⟨true,0⟩⟩
 | j+1=>eB (IB p y j) (gt p.ab j).low (gt p.ab j).high (-(dP (free p) y j p.rows.length))
def An(a b:Bo):Bool:=a.has&&b.has&&decide (b.at'<a.at')
def pJ(p:aB)(y:List Rat):Bool:=An (FW p y p.rows.length).lo (IB p y p.ab.length).hi
theorem Dq{p:aB}{x:List Rat}(y:List Rat)(h:dK p x false=true):∀i,i<=p.rows.length->Gn (FW p y i) (bW (λk=>gt y k*fY p x k) i)
 | 0,_=>⟨λ_=>avH,λ_=>avH⟩
 | i+1,hi=>by
  have:=p9 (r:=gt y i) (Dq y h i (by omega)) (m5 h (i:=i) (by omega));have e:bW (λk=>gt y k*fY p x k) (i+1)=bW (λk=>gt y k*fY p x k) i+fY p x i*gt y i:=by simp only[bW];grind
  rw[e];exact this
theorem DT{p:aB}{x:List Rat}(y:List Rat)(h:dK p x false=true):∀j,j<=p.ab.length->Gn (IB p y j) (bW (λk=>gt x k * -(dP (free p) y k p.rows.length)) j)
 | 0,_=>⟨λ_=>avH,λ_=>avH⟩
 | j+1,hj=>by have:=p9 (r := -(dP (free p) y j p.rows.length)) (DT y h j (by omega)) (kP h (j:=j) (by omega));simp only[bW];exact this
theorem qT(p:aB):(free p).ab.length=p.ab.length:=by simp[free]
theorem qM{p:aB}{j:Nat}(h:j<p.ab.length):gt (free p).ab j={ gt p.ab j with cost:=0 }:=by unfold free;rw[jj _ h]
theorem Uv{p:aB}(hv:bh p=0){x:List Rat}(y:List Rat)(h:dK p x false=true):pJ p y=false:=by
 have h1:=Dq y h p.rows.length (asN _);have h2:=DT y h p.ab.length (asN _);have hb:∀i,i<(free p).rows.length->fJ (free p).ab.length (-1) (gt (free p).rows i).aC=false:=λi hi=>by rw[qT];exact(jF hv).2.2 i hi
 have h3:=N6 hb x y p.rows.length (asN _);rw[qT]at h3;have z:bW (λj=>gt x j*(gt (free p).ab j).cost) p.ab.length=0:=by
  have e:=lD (n:=p.ab.length) (f:=λj=>gt x j*(gt (free p).ab j).cost) (g:=λj=>0*(0:Rat)) λj hj=>by show gt x j*(gt (free p).ab j).cost=_;rw[qM hj];grind
  rw[e,xV];grind
 have e2:bW (λk=>gt x k * -(dP (free p) y k p.rows.length)) p.ab.length=bW (λk=>gt y k*fY p x k) p.rows.length:=by
  have e:=lD (n:=p.ab.length) (f:=λk=>gt x k * -(dP (free p) y k p.rows.length)) (g:=λk=>(-1)*(gt x k*dP (free p) y k p.rows.length)) λj _=>by show gt x j * -(dP (free p) y j p.rows.length)=_;grind
  have er:∀k,fY (free p) x k=fY p x k:=λk=>rfl;rw[e,xV,h3,z];simp only[er];grind
 rw[e2]at h2;cases hf:pJ p y with
 | false=>rfl
 | true =>
  unfold pJ An at hf;simp only[atl,decide_eq_true_eq]at hf;have:=avV (h1.1 hf.1.1) (h2.2 hf.1.2);exact absurd hf.2 (avT.2 this)
end Go.Li
namespace Go.Sv
open Go
end Go.Sv
namespace Go.Li
open Go Go.Sv Go.Pl Go.Proofs Go.Tb Go.Ut
structure j0 where
 kind:Int
 x:List Rat
 y:List Rat
 jP:List Rat
 value:Rat
structure tW where
 kind:Int
 x:List ByteArray
 y:List ByteArray
 jP:List ByteArray
 value:ByteArray
def mn(c:j0):SV:=.agg ([iv c.kind,.ro (c.x.map aU),.ro (c.y.map aU),.ro (c.jP.map aU)]++(aU c.value).cells)
@[simp] theorem ac6(c:j0):(mn c).gJ=8:=rfl
@[simp] theorem U4(c:j0):(mn c).aV=false:=rfl
@[simp] theorem WY(c:j0):(mn c).isAgg=true:=rfl
@[simp] theorem Ys(c:j0):(mn c).pure=true:=rfl
@[simp] theorem ahs(n:Nat)(c:j0):(mn c).lt n=true:=rfl
@[simp] theorem akb(c:j0):aL (mn c).cells 0=iv c.kind:=rfl
@[simp] theorem ain(c:j0):aL (mn c).cells 1=.ro (c.x.map aU):=rfl
@[simp] theorem aiq(c:j0):aL (mn c).cells 2=.ro (c.y.map aU):=rfl
@[simp] theorem ahi(c:j0):aL (mn c).cells 3=.ro (c.jP.map aU):=rfl
@[simp] theorem aiN(c:j0):SV.agg (((mn c).cells.drop 4).take 4)=aU c.value:=rfl
def JW(c:tW):SV:=.agg ([iv c.kind,.ro (c.x.map eF),.ro (c.y.map eF),.ro (c.jP.map eF),eF c.value])
@[simp] theorem af1(c:tW):(JW c).gJ=5:=rfl
@[simp] theorem WA(c:tW):(JW c).aV=false:=rfl
@[simp] theorem WO(c:tW):(JW c).isAgg=true:=rfl
@[simp] theorem YN(c:tW):(JW c).pure=true:=rfl
@[simp] theorem ahn(c:tW):aL (JW c).cells 0=iv c.kind:=rfl
@[simp] theorem aip(c:tW):aL (JW c).cells 1=.ro (c.x.map eF):=rfl
@[simp] theorem akz(c:tW):aL (JW c).cells 2=.ro (c.y.map eF):=rfl
@[simp] theorem ajt(c:tW):aL (JW c).cells 3=.ro (c.jP.map eF):=rfl
@[simp] theorem ahW(c:tW):aL (JW c).cells 4=eF c.value:=rfl
structure ClW(c:j0):Prop where
 x:Wd 2200 c.x
 y:Wd 2200 c.y
 r:Wd 2200 c.jP
 v:qw 2200 c.value
 nx:c.x.length<=1048576
 ny:c.y.length<=1048576
 nr:c.jP.length<=1048576
structure aqx(c:tW):Prop where
 x:QH c.x
 y:QH c.y
 r:QH c.jP
 v:c.value.size<=1048576
def ka(p:aB)(x:List Rat):Bool:=decide (x.length=p.ab.length)&&dK p x false
def pP(p:aB)(c:j0):Bool:=(ka p c.x&&decide (c.y.length=p.rows.length)&&decide (c.jP.length=0))&&((l6 p c.y).has&&decide (dX p c.x p.ab.length=c.value)&&decide ((l6 p c.y).at'=dX p c.x p.ab.length))
def lQ(p:aB)(c:j0):Bool:=(decide (c.x.length=0)&&decide (c.jP.length=0)&&decide (c.value=0))&&(if c.y.length=0 then gm p else decide (c.y.length=p.rows.length)&&pJ p c.y)
theorem dv{α:Type}(f:α->SV)(l:List α):lW (l.map f)=l.map λx=>iq (f x):=by
 induction l with
 | nil=>rfl
 | cons a l ih=>simp[ih]
theorem GI{p:aB}(h:cT p):cT (free p):=⟨h.sh,λj hj=>by rw[qT]at hj;rw[qM hj];exact⟨ay (fg (n:=0) (by omega) (by omega)) (by omega),(h.co j hj).2⟩,h.ro,h.te⟩
def wj(low high:Bo)(r:Rat):Bool:=!(decide (0<r)&&high.has)&&!(decide (r<0)&&low.has)
def iE(p:aB)(x:List Rat):Nat->Rat
 | 0=>0
 | j+1=>iE p x j+(gt p.ab j).cost*gt x j
def xv(p:aB)(x:List Rat)(j:Nat):Bool:=wj (gt p.ab j).low (gt p.ab j).high (gt x j)
def DZ(p:aB)(x:List Rat)(i:Nat):Bool:=wj (gt p.rows i).low (gt p.rows i).high (fY p x i)
def rh(p:aB)(c:j0):Bool:=(ka p c.x&&decide (c.jP.length=p.ab.length)&&decide (c.y.length=0)&&decide (c.value=0))&&((ati p.ab.length).all (xv p c.jP)&&(ati p.rows.length).all (DZ p c.jP))&&(decide (iE p c.jP p.ab.length≠0)&&(decide (0<iE p c.jP p.ab.length)==p.max))
def ri(p:aB)(c:j0):Bool:=if c.kind=1 then pP p c else if c.kind=2 then lQ p c else if c.kind=3 then rh p c else false
end Go.Li
namespace Go.Proofs
open Go.Sv Go Go.Tb Go.Pl Go.Ut Go.Li
theorem zB{p:aB}{j:Nat}(hj:j<p.ab.length)(h:gP (gt p.ab j).low (gt p.ab j).high=true):gm p=true:=by unfold gm;rw[atv,atD];exact .inl ⟨_,gZ hj,h⟩
theorem vP{p:aB}{j:Nat}(hj:j<p.rows.length)(h:gP (gt p.rows j).low (gt p.rows j).high=true):gm p=true:=by unfold gm;rw[atv,atD,atD];exact .inr ⟨_,gZ hj,h⟩
theorem C5{p:aB}(h1:∀j,j<p.ab.length->gP (gt p.ab j).low (gt p.ab j).high=false)(h2:∀j,j<p.rows.length->gP (gt p.rows j).low (gt p.rows j).high=false):gm p=false:=by
 unfold gm;rw[avS];refine⟨avR.2 λc hc=>?_,avR.2 λr hr=>?_⟩
 ·obtain⟨j,hj,rfl⟩:=avA hc;rw[dY hj,h1 j hj];simp
 ·obtain⟨j,hj,rfl⟩:=avA hr;rw[dY hj,h2 j hj];simp
end Go.Proofs


/- A text of the prover's own. -/
import Derived.Test.YtnimjdcaajmfcaaGreatDoorVKo
open List renaming getD_eq_getElem?_getD->aBn,replicate->awQ,any_cons->aCj,take_of_length_le->aAp,cons_append->ayb,nil_append->aAf,map_set->aAq,length_set->aBI,getElem?_eq_none->awT,range->ayq,set->aCk,map_map->aBC,map_congr_left->aBD
open Bool renaming or_eq_false_iff->aCl,and_eq_true->ayt
open Nat renaming le_refl->axq,mul_le_mul_right->axn
open Go.Proofs.Tryz renaming prog->ay9,f34->aCm,f89->aCn
namespace Go.Sx
open Go Go.Sv Go.Pl Go.Proofs Go.Tb Go.Ut Go.Mx Go.Li Go.Dt
theorem PC{α:Type}[Inhabited α]{a b:List α}{k:Nat}(h:k<a.length):gt (a++b) k=gt a k:=by simp only[gt,aBn];rw[List.getElem?_append_left h]
theorem NK{α:Type}[Inhabited α]{a b:List α}{k:Nat}(h:a.length<=k):gt (a++b) k=gt b (k - a.length):=by simp only[gt,aBn];rw[List.getElem?_append_right h]
theorem SP{α:Type}[Inhabited α]{n i:Nat}{x:α}(h:i<n):gt (awQ n x) i=x:=by simp[gt,h]
def B3(ts:List Term)(k:Nat):Bool:=ts.any λt=>decide (t.iP=(k:Int))
theorem NB{n:Nat}:∀{ts:List Term} {c:Int},gH n c ts=false->∀k:Nat,(k:Int)<=c->B3 ts k=false
 | [],_,_,_,_=>rfl
 | t::ts,c,h,k,hk=>by simp only[gH,aCl,decide_eq_false_iff_not]at h;have:=NB h.2 k (by omega);simp only[B3,aCj,aCl,decide_eq_false_iff_not];exact⟨by omega,this⟩
theorem DX{n:Nat}:∀{ts:List Term} {c:Int},gH n c ts=false -> -1<=c->∀t∈ts,∃k:Nat,t.iP=k∧k<n
 | t::ts,c,h,hc,x,hx=>by
  simp only[gH,aCl,decide_eq_false_iff_not]at h;rcases List.mem_cons.1 hx with rfl | hx
  ·exact⟨x.iP.toNat,by omega,by omega⟩
  ·exact DX h.2 (by omega) x hx
theorem wP:∀{ts:List Term} {k:Nat},B3 ts k=false->cY ts k=0
 | [],_,_=>rfl
 | t::ts,k,h=>by simp only[B3,aCj,aCl,decide_eq_false_iff_not]at h;unfold cY;rw[if_neg h.1];exact wP h.2
theorem Kv{n:Nat}:∀{ts:List Term} {c:Int} {l:List Rat} {k:Nat},gH n c ts=false -> -1<=c->k<l.length->gt (qE l ts) k=if B3 ts k=true then cY ts k else gt l k
 | [],_,l,k,_,_,_=>rfl
 | t::ts,c,l,k,h,hc,hk=>by
  simp only[gH,aCl,decide_eq_false_iff_not]at h;unfold qE;rw[Kv h.2 (by omega) (by simpa using hk),bE hk];by_cases e:t.iP=(k:Int)
  ·have no:=NB h.2 k (by omega);rw[if_neg (by simp[no]),if_pos (by omega),if_pos (by simp[B3,e])];unfold cY;rw[if_pos e]
  ·have e1:B3 (t::ts) k=B3 ts k:=by simp[B3,e]
   have e2:cY (t::ts) k=cY ts k:=if_neg e;rw[e1,e2,if_neg (show ¬t.iP.toNat=k by omega)]
theorem yK{p:aB}{n N i k:Nat}(h:gH n (-1) (gt p.rows i).aI=false)(hk:k<N):gt (DP p N i) k=cY (gt p.rows i).aI k:=by
 unfold DP;rw[Kv h (by omega) (by simpa using hk)];split
 ·rfl
 ·rename_i e;rw[wP (by simpa using e),SP hk]
theorem Ax{n k:Nat}{ts:List Term}(h:gH n (-1) ts=false)(hk:n<=k):cY ts k=0:=by refine wP ?_;unfold B3;rw[List.any_eq_false];intro t ht;obtain⟨j,e,hj⟩:=DX h (by omega) t ht;simp only[decide_eq_true_eq];omega
def Nn(p:aB)(n m N:Nat):Tb:={ tK p n m N with x:=xz (tK p n m N) N m }
theorem j8{n m i:Nat}(h:i<m):gt (kf n m) i=n+i:=by unfold kf;rw[aV _ h]
theorem vB{p:aB}{N m i:Nat}(h:i<m):gt (iB p N m) i=DP p N i:=by unfold iB;rw[aV _ h]
theorem NY{p:aB}{n m N:Nat}(hN:n+m=N):wg (bC p n m N) (tK p n m N) where
 w:=by simp[tK,bC]
 x:=by simp[tK,bC]
 b:=by simp[tK,bC,kf]
 r:=by simp[tK,bC]
 R:=by simp[tK,bC]
 Rr i hi:=by replace hi:i<m:=hi;show(gt (iB p N m) i).length=N;rw[vB hi];simp[DP]
 bb i hi:=by replace hi:i<m:=hi;show gt (kf n m) i<N;rw[j8 hi];omega
theorem Ox{p:aB}{n m N:Nat}(hN:n+m=N)(hb:∀i,i<m->gH n (-1) (gt p.rows i).aI=false):xH (Kp p n m) N m (kf n m) (iB p N m) where
 bl i hi:=by rw[j8 hi];omega
 inj i k hi hk e:=by rw[j8 hi,j8 hk]at e;omega
 z0 r i hr hi:=by rw[j8 hi,vB hr,yK (hb r hr) (by omega),Ax (hb r hr) (by omega)]
 sat z:=by
  have e:∀r,r<m->aG (λk=>gt (gt (iB p N m) r) k*z k) N=aG (λk=>cY (gt p.rows r).aI k*z k) n:=λr hr=>by rw[vB hr,aO (g:=λk=>cY (gt p.rows r).aI k*z k) N (λk hk=>by rw[yK (hb r hr) hk])];exact uR N (by omega) λk h1 _=>by rw[Ax (hb r hr) h1,Rat.zero_mul]
  constructor
  ·intro hz r hr;rw[j8 hr,e r hr];exact hz r hr
  ·intro hz r hr;have:=hz r hr;rw[j8 hr,e r hr]at this;exact this
theorem Vv{p:aB}{n m N:Nat}(hN:n+m=N):xM (bC p n m N) (tK p n m N):=λk hk=>by
 replace hk:k<N:=hk;have e:gt (tK p n m N).row k=rF n k:=by show gt (du N N (rF n) 0) k=_;rw[jL hk,if_pos hk]
 rw[e];unfold rF;by_cases h:k<n
 ·rw[if_pos h];refine .inr ⟨rfl,λi hi=>?_⟩;replace hi:i<m:=hi;show gt (kf n m) i≠k;rw[j8 hi];omega
 ·rw[if_neg h];refine .inl ⟨k - n,show k - n<m by omega,?_,by omega⟩;show gt (kf n m) (k - n)=k;rw[j8 (by omega)];omega
theorem UL{p:aB}{n m N:Nat}(hm:p.rows.length=m)(hw:cW p)(hb:∀i,i<m->gH n (-1) (gt p.rows i).aI=false):∀i,i<m->Wd 2200 (gt (iB p N m) i):=λi hi k hk=>by rw[vB hi]at hk ⊢;rw[yK (hb i hi) (by simpa[DP]using hk)];exact rO (by omega) λq hq=>hw.te i (by omega) q hq
theorem Xk{p:aB}{n m N:Nat}(hN:n+m=N)(hm:p.rows.length=m)(hw:cW p)(hb:∀i,i<m->gH n (-1) (gt p.rows i).aI=false)(w:List Int):MM (bC p n m N) (Kp p n m) w (Nn p n m N) 0 where
 t:=by have t:=NY (p:=p) hN;exact⟨t.w,by show(xz (tK p n m N) N m).length=N;rw[si];exact t.x,t.b,t.r,t.R,t.Rr,t.bb⟩
 d:=Ox hN hb
 r:=Vv hN
 a k hk:=by omega
 w:=⟨0,axq _,λi hi=>by have:=UL (N:=N) hm hw hb i hi;rw[Nat.pow_zero,Nat.mul_one];exact this⟩
theorem EJ{p:aB}{n m N:Nat}(hn:p.ai.length=n)(hm:p.rows.length=m)(hN:n+m=N)(ag:N<=14)(h7:m<=7):qe (bC p n m N) where
 m7:=h7
 ur:=ag
 lo:=by show(fW p m).length=N;simp[fW,rM,hn,hm,hN]
 hi:=by show(dt p m).length=N;simp[dt,kR,hn,hm,hN]
 co:=by show(du N n (qK p) 0).length=N;simp
theorem pG{p:aB}{n m k:Nat}(hn:p.ai.length=n)(hm:p.rows.length=m)(hk:k<n+m):gt (fW p m) k=if k<n then(gt p.ai k).low else(gt p.rows (k - n)).low:=by
 unfold fW rM;by_cases h:k<n
 ·rw[if_pos h,PC (by simp[hn,h]),jr _ (by omega)]
 ·rw[if_neg h,NK (by simp[hn];omega),aAp (by omega),jr _ (by simp[hn];omega)];simp[hn]
theorem mi{p:aB}{n m k:Nat}(hn:p.ai.length=n)(hm:p.rows.length=m)(hk:k<n+m):gt (dt p m) k=if k<n then(gt p.ai k).high else(gt p.rows (k - n)).high:=by
 unfold dt kR;by_cases h:k<n
 ·rw[if_pos h,PC (by simp[hn,h]),jr _ (by omega)]
 ·rw[if_neg h,NK (by simp[hn];omega),aAp (by omega),jr _ (by simp[hn];omega)];simp[hn]
theorem Kt{p:aB}{n m N:Nat}(hn:p.ai.length=n)(hm:p.rows.length=m)(hN:n+m=N)(hw:cW p):BN (bC p n m N) where
 lo k hk:=by
  replace hk:k<N:=hk;show qw 2200 (gt (fW p m) k).at';rw[pG hn hm (by omega)];split
  ·exact(hw.co k (by omega)).2.1
  ·exact(hw.ro _ (by omega)).1
 hi k hk:=by
  replace hk:k<N:=hk;show qw 2200 (gt (dt p m) k).at';rw[mi hn hm (by omega)];split
  ·exact(hw.co k (by omega)).2.2
  ·exact(hw.ro _ (by omega)).2
def db(p:aB)(n k:Nat):Rat:=if k<n then(gt p.ai k).cost else 0
theorem o6{p:aB}{n m N:Nat}{k:Nat}(hk:k<N):gt (bC p n m N).cost k=if p.max=true then -db p n k else db p n k:=by
 show gt (du N n (qK p) 0) k=_;rw[jL hk];unfold qK db;by_cases h:k<n
 ·simp only[if_pos h]
 ·simp only[if_neg h];split<;>rfl
end Go.Sx
set_option maxRecDepth 10000
namespace Go.Proofs
open Go.Sv Go Go.Tb Go.Pl Go.Ut Go.Mx Go.Li Go.Dt Go.Sx
theorem M9(p:aB)(fw:BF p)(n m i k:Nat)(hn:p.ai.length=n)(hm:p.rows.length=m)(hi:i<m)(hk:k<=1000)(ag:n+m<=1000):aE ay9 87 [bX p,iv i,iv k] (aZ (lW p n i k)):=by
 have nt:=fw.nt i (by omega);refine aj Tryz.func87 rfl (by simp) (λC hC=>?_);by_cases h1:k<n
 ·have e:lW p n i k=cY (gt p.rows i).aI k:=if_pos h1;simp(disch:=omega)[hn,hm,h1,hi,di];repeat refine awG ?_
  refine awI (wU (gt p.rows i) nt k (by omega)) ?_;simp[e]
 ·by_cases h2:k=n+i
  ·have e:lW p n i k = -1:=by unfold lW;rw[if_neg h1,if_pos h2]
   have am:(k:Int)=(n:Int)+i:=by omega
   simp(disch:=omega)[hn,hm,am,aD];repeat refine awG ?_
   intro _;refine awI (JA (-1) (by omega) (by omega)) ?_;simp[e]
  ·have e:lW p n i k=0:=by unfold lW;rw[if_neg h1,if_neg h2]
   have am:¬(k:Int)=(n:Int)+i:=by omega
   simp(disch:=omega)[hn,h1,am,aD];repeat refine awG ?_
   refine awI (oh) ?_;simp[e]
theorem Ah(p:aB)(n m N k:Nat)(hn:p.ai.length=n)(hm:p.rows.length=m)(hN:n+m=N)(hk:k<N)(ag:N<=1000):aE ay9 86 [bX p,iv k] (.bM [nZ (gt (fW p m) k),nZ (gt (dt p m) k)]):=by
 rw[pG hn hm (by omega),mi hn hm (by omega)];refine aj Tryz.func86 rfl (by simp) (λC hC=>?_);by_cases h1:k<n
 ·have lc:=dc (l:=p.ai) (i:=k) (by omega);simp(disch:=omega)[hn,h1];repeat refine awG ?_
  refine aa.awH (.qs [0,1,2,3,4,5,6]<|.q 7 [1]<|.qs [8,9,10]<|.q 11 [1]<|.l 12 [1]<|.l 13 [2]<|.nil) ?_;simp(disch:=omega)[hn,h1,lc];repeat refine awG ?_
  exact⟨fV _ _ rfl,fV _ _ rfl⟩
 ·have lr:=di (l:=p.rows) (i:=k - n) (by omega);have e:IntKind.i64.wrap ((k:Int) - n)=((k - n:Nat):Int):=by simp(disch:=omega)[aD];omega
  simp(disch:=omega)[hn,h1];repeat refine awG ?_
  refine aa.awH (.qs [0,1,2,3,4,5,6,7,8]<|.q 9 [1]<|.qs [10,11,12,13,14]<|.q 15 [1]<|.l 16 [1]<|.l 17 [2]<|.nil) ?_;simp(disch:=omega)[hm,e,lr];repeat refine awG ?_
  exact⟨fV _ _ rfl,fV _ _ rfl⟩
def WZ(b:List Nat)(By:List (List Rat))(x co:List Rat):SV:=.agg [.ro (b.map cv),.ro (By.map iu),.ro (x.map aZ),.ro (co.map aZ)]
def FrW(By:List (List Rat))(x co:List Rat):Prop:=(∀r,r∈By->PW r)∧PW x∧PW co
def WV(c:Tc)(K:(Nat->Rat)->Prop)(af:Nat->Rat)(w:List Int)(y:SV):Prop :=
 (HQ c K w∧∃By x co,VK c K w af By x co∧FrW By x co∧y=.bM [WZ (bL w c.N) By x co,dr true]) ∨
 (¬HQ c K w∧∃l:List Nat,y=.bM [.agg [.ro (l.map cv),.ro [],.ro [],.ro []],dr false])
noncomputable def jQ:Code:=aCm.body.getD .skip
def IY(p:aB)(w:List Int)(k:Nat):aC:=[some ⟨7,[bX p],false⟩,some ⟨4,[.agg [.val (.slice none 0 0),.val (.slice none 0 0),.val (.slice none 0 0),.val (.slice none 0 0)]],false⟩,some ⟨4,[.agg [.view 3 0 (eG w k),.val (.slice none 0 0),.val (.slice none 0 0),.val (.slice none 0 0)]],false⟩,some ⟨1,(bL w k).map cv,false⟩]
def oG(w:List Int)(n m:Nat):List (Nat × SV):=[(1,.ro (w.map iv)),(2,.ptr 0 0 0),(4,.ptr 1 0 0),(5,dr false),(6,iv n),(7,iv m),(8,.ptr 2 0 0)]
theorem aeK{c:Tc}{K:(Nat->Rat)->Prop}{af:Nat->Rat}{w:List Int}{M:aC}(an:¬HQ c K w) :
  fin M (.bM [.agg [.val (.slice none 0 0),.val (.slice none 0 0),.val (.slice none 0 0),.val (.slice none 0 0)],.val (.bool false)]) (WV c K af w) :=
 ⟨.bM [.agg [.ro [],.ro [],.ro [],.ro []],.val (.bool false)],by simp,.inr ⟨an,[],rfl⟩⟩
theorem L3{c:Tc}{K:(Nat->Rat)->Prop}{af:Nat->Rat}{w:List Int}{k:Nat}{M:aC}(an:¬HQ c K w)(hM:aA M 3=some ⟨1,(bL w k).map cv,false⟩) :
  fin M (.bM [.agg [.view 3 0 (eG w k),.val (.slice none 0 0),.val (.slice none 0 0),.val (.slice none 0 0)],.val (.bool false)]) (WV c K af w):=by
 refine⟨.bM [.agg [.ro ((bL w k).map cv),.ro [],.ro [],.ro []],.val (.bool false)],?_,.inr ⟨an,bL w k,rfl⟩⟩;have tk:((bL w k).map cv).take (eG w k)=(bL w k).map cv:=aAp (by simp[ja]);simp[hM,tk,ja]
theorem rfA(p:aB)(n m N:Nat)(hn:p.ai.length=n)(hm:p.rows.length=m)(hN:n+m=N)(ag:N<=14)(w:List Int)(aT:w.length<=1048576){C:Ctx}(hC:C.fx=[])
  (hQ:w.length=N->(∀k,k<N->Sx.fit (bC p n m N) w k)->eG w N=m->aa ay9 C (bh 8 jQ) ⟨162,oG w n m++[(9,.val (.slice none 0 0))],IY p w N⟩ (kg ay9 [.cell 4 91,.tmp 5] (WV (bC p n m N) (Kp p n m) (db p n) w))) :
  aa ay9 C jQ ⟨162,[(0,bX p),(1,.ro (w.map iv))],[]⟩ (kg ay9 [.cell 4 91,.tmp 5] (WV (bC p n m N) (Kp p n m) (db p n) w)):=by
 refine aa.cutAt 8 (λst=>st=⟨162,oG w n m++[(9,.val (.slice none 0 0))],IY p w N⟩∧w.length=N∧(∀k,k<N->Sx.fit (bC p n m N) w k)∧eG w N=m) ?_ ?_
 rotate_left 1
 ·rintro st ⟨rfl,g1,g2,g3⟩;exact hQ g1 g2 g3
 clear hQ;simp only[jQ,aCm,Option.getD_some,aN,aL];have wr:IntKind.i64.wrap ((n:Int)+m)=(N:Int):=by simp(disch:=omega)[aD];omega
 have ae:∀k,gt (bC p n m N).low k=gt (fW p m) k:=λ_=>rfl;have ac:∀k,gt (bC p n m N).high k=gt (dt p m) k:=λ_=>rfl;by_cases hl:w.length=N
 ·simp(disch:=omega)[hn,hm,wr,hl];repeat refine awG ?_
  refine aa.le (Le.iO 2 0 1 rfl rfl rfl rfl (by simp)) ?_;simp[aX,da];refine aa.bB (ι:=Nat) (λk=>⟨162,oG w n m++[(9,.val (.slice none 0 0)),(10,iv k)],IY p w k⟩)
   (λk=>k<=N∧∀q,q<k->Sx.fit (bC p n m N) w q) (λk=>N - k) 0 ⟨by omega,λq hq=>by omega⟩ ?_ ?_
  ·simp[aP,oG,IY,ao,Sx.eG,bL]
  ·rintro k ⟨hk,hq⟩;simp only[oG,IY,ayb,aAf];by_cases ab:k<N
   ·have lw:=cf (l:=w) (i:=k) (by omega);have nx:Sx.fit (bC p n m N) w k->∀q,q<k+1->Sx.fit (bC p n m N) w q:=λhf q aU=>by
     by_cases e:q=k
     ·rw[e];exact hf
     ·exact hq q (by omega)
    have cs:eG w (k+1)=eG w k+if gt w k=1 then 1 else 0:=rfl;have bs:=Ld w k;have no:¬Sx.fit (bC p n m N) w k->¬HQ (bC p n m N) (Kp p n m) w:=λh hB=>h (hB.f k ab);unfold Sx.fit at no;rw[ae,ac]at no;have yes:=nx;unfold Sx.fit at yes;rw[ae,ac]at yes;simp(disch:=omega)[ab,wr];repeat refine awG ?_
    refine awI (Ah p n m N k hn hm hN ab (by omega)) ?_;by_cases e1:gt w k=1
    ·rw[e1]at lw;rw[if_pos e1]at cs bs;simp(disch:=omega)[lw,hl,ab];repeat refine awG ?_
     refine⟨⟨by simp[hC],(ja w k).symm,by have:=tL w k;rw[ja];omega⟩,k+1,⟨by omega,nx (.inl e1)⟩,by omega,?_⟩;rw[cs,bs,List.map_append];exact Le.dE (by simp(disch:=omega)[aP,hC,aD,cv])
    ·rw[if_neg e1]at cs bs;rw[Nat.add_zero]at cs;rw[List.append_nil]at bs;have ck:=tL w k;by_cases e2:gt w k=2
     ·rw[e2]at lw;by_cases hh:(gt (fW p m) k).has=true
      ·simp(disch:=omega)[lw,hl,ab,hh,aD];repeat refine awG ?_
       refine⟨k+1,⟨by omega,nx (.inr (.inl ⟨e2,by rw[ae];exact hh⟩))⟩,by omega,?_⟩;rw[cs,bs];exact Le.dE (by simp(disch:=omega)[aP,hC])
      ·simp(disch:=omega)[lw,hl,ab,hh];repeat refine awG ?_
       exact L3 (no (by rintro(q | ⟨q,r⟩ | ⟨q,r⟩ | ⟨q,r,t⟩)<;>first | omega | simp_all)) rfl
     ·by_cases e3:gt w k=3
      ·rw[e3]at lw;by_cases hh:(gt (dt p m) k).has=true
       ·simp(disch:=omega)[lw,hl,ab,hh,aD];repeat refine awG ?_
        refine⟨k+1,⟨by omega,nx (.inr (.inr (.inl ⟨e3,by rw[ac];exact hh⟩)))⟩,by omega,?_⟩;rw[cs,bs];exact Le.dE (by simp(disch:=omega)[aP,hC])
       ·simp(disch:=omega)[lw,hl,ab,hh];repeat refine awG ?_
        exact L3 (no (by rintro(q | ⟨q,r⟩ | ⟨q,r⟩ | ⟨q,r,t⟩)<;>first | omega | simp_all)) rfl
      ·by_cases e0:gt w k=0
       ·rw[e0]at lw;by_cases hh:(gt (fW p m) k).has=true
        ·simp(disch:=omega)[lw,hl,ab,hh];repeat refine awG ?_
         exact L3 (no (by rintro(q | ⟨q,r⟩ | ⟨q,r⟩ | ⟨q,r,t⟩)<;>first | omega | simp_all)) rfl
        ·by_cases ap:(gt (dt p m) k).has=true
         ·simp(disch:=omega)[lw,hl,ab,hh,ap];repeat refine awG ?_
          exact L3 (no (by rintro(q | ⟨q,r⟩ | ⟨q,r⟩ | ⟨q,r,t⟩)<;>first | omega | simp_all)) rfl
         ·simp(disch:=omega)[lw,hl,ab,hh,ap,aD];repeat refine awG ?_
          refine⟨k+1,⟨by omega,nx (.inr (.inr (.inr ⟨e0,by rw[ae];simpa using hh,by rw[ac];simpa using ap⟩)))⟩,by omega,?_⟩;rw[cs,bs];exact Le.dE (by simp(disch:=omega)[aP,hC])
       ·simp(disch:=omega)[lw,hl,ab,e1,e2,e3,e0];repeat refine awG ?_
        exact L3 (no (by rintro(q | ⟨q,r⟩ | ⟨q,r⟩ | ⟨q,r,t⟩)<;>first | omega | simp_all)) rfl
   ·obtain rfl:k=N:=by omega
    have ck:=tL w k;simp(disch:=omega)[wr];repeat refine awG ?_
    refine⟨λq=>?_,λq=>?_⟩
    ·exact L3 (λhB=>q (by have:=hB.n;exact_mod_cast this)) rfl
    ·exact⟨_,⟨rfl,hq,by omega⟩,rfl,by simp[bY,Go.Sv.get],ao _,.inl rfl⟩
 ·have av:¬((w.length:Nat):Int)=(N:Int):=by omega
  simp(disch:=omega)[hn,hm,wr,av];repeat refine awG ?_
  exact aeK λhB=>hl hB.l
end Go.Proofs
namespace Go.Sx
open Go Go.Sv Go.Pl Go.Proofs Go.Tb Go.Ut Go.Mx Go.Li Go.Dt
theorem JR{l:List Rat}{i:Nat}{x:Rat}:da (l.map aZ) i (aZ x)=(l.set i x).map aZ:=by rw[cq,aAq]
def bD(m:Nat)(R:List (List Rat))(i k:Nat):Rat:=if k<m then 0 else -(gt (gt R i) k)
def Ey(w:List Int)(N m:Nat)(R:List (List Rat))(i:Nat):Nat->List SV
 | 0=>awQ N (aS 0)
 | k+1=>(Ey w N m R i k).set (gt (oL w N) k) (aZ (bD m R i k))
@[simp] theorem Rf(w:List Int)(N m:Nat)(R:List (List Rat))(i:Nat):∀k,(Ey w N m R i k).length=N
 | 0=>by simp[Ey]
 | k+1=>by simp only[Ey,aBI];exact Rf w N m R i k
theorem Jm{w:List Int}{N m:Nat}{R:List (List Rat)}{i:Nat}:∀k,k<=N->∀j,j<N->(Ey w N m R i k)[gt (oL w N) j]?=some (if j<k then aZ (bD m R i j) else aS 0)
 | 0,_,j,hj=>by have:=m6 (w:=w) hj;simp[Ey,this]
 | k+1,hk,j,hj=>by
  have h1:=m6 (w:=w) (N:=N) (k:=k) (by omega);simp only[Ey];by_cases e:k=j
  ·subst e;rw[List.getElem?_set_self (by simpa using h1),if_pos (by omega)]
  ·rw[List.getElem?_set_ne (λq=>e (ug (by omega) hj q)),Jm k (by omega) j hj];by_cases q:j<k
   ·rw[if_pos q,if_pos (by omega)]
   ·rw[if_neg q,if_neg (by omega)]
theorem sL(w:List Int)(N m:Nat)(R:List (List Rat))(i:Nat):(qt w N m R i).length=N:=by simp[qt]
theorem Te(w:List Int)(N m:Nat)(R:List (List Rat))(i:Nat):Ey w N m R i N=(qt w N m R i).map aZ:=by
 refine List.ext_getElem? λq=>?_;by_cases hq:q<N
 ·obtain⟨j,hj,rfl⟩:=wB (w:=w) hq;rw[Jm N (axq _) j hj,if_pos hj,List.getElem?_map];have e:=qZ (w:=w) (N:=N) (m:=m) (R:=R) (i:=i) hj;have l:=sL w N m R i;rw[List.getElem?_eq_getElem (by rw[l];exact hq)];rw[Option.map_some,dY (by rw[l];exact hq),e];rfl
 ·rw[awT (by simp;omega),awT (by simp[sL];omega)]
def sD(f:Nat->Rat)(w:List Int)(N m:Nat)(R:List (List Rat))(i k:Nat):Rat:=aG (λk=>bD m R i k*f (gt (oL w N) k)) k
def xS(f:Nat->Rat)(w:List Int)(N m:Nat)(R:List (List Rat)):Nat->List Rat
 | 0=>(ayq N).map f
 | i+1=>(xS f w N m R i).set (gt (bL w N) i) (sD f w N m R i N)
@[simp] theorem WR(f:Nat->Rat)(w:List Int)(N m:Nat)(R:List (List Rat)):∀i,(xS f w N m R i).length=N
 | 0=>by simp[xS]
 | i+1=>by simp only[xS,aBI];exact WR f w N m R i
theorem La{f:Nat->Rat}{w:List Int}{N m:Nat}{R:List (List Rat)}(hm:eG w N=m){q:Nat}(hq:q<N)(hw:gt w q≠1):∀i,i<=m->gt (xS f w N m R i) q=f q
 | 0,_=>by simp only[xS];rw[aV _ hq]
 | i+1,h=>by simp only[xS];rw[bE (by simpa using hq),if_neg (λe=>hw (by rw[<-e];exact(mf (by omega)).2))];exact La hm hq hw i (by omega)
theorem afi{f:Nat->Rat}{w:List Int}{N m:Nat}{R:List (List Rat)}(hm:eG w N=m){r:Nat}:∀i,i<=m->r<i->gt (xS f w N m R i) (gt (bL w N) r)=sD f w N m R r N
 | 0,_,hr=>by omega
 | i+1,h,hr=>by
  simp only[xS];have hb:=(mf (w:=w) (N:=N) (k:=r) (by omega)).1;rw[bE (by simpa using hb)];by_cases e:i=r
  ·subst e;rw[if_pos rfl]
  ·rw[if_neg (λq=>e (zJ (by omega) (by omega) q))];exact afi hm i (by omega) (by omega)
def HK(f:Nat->Rat)(w:List Int)(N m:Nat)(R:List (List Rat))(i q:Nat):Rat:=if gt w q=1 then 0 else f q+aG (λr=>gt (qt w N m R r) q*f (gt (bL w N) r)) i
def qz(f:Nat->Rat)(w:List Int)(N m:Nat)(R:List (List Rat))(i:Nat):Nat->List Rat
 | 0=>(ayq N).map (HK f w N m R i)
 | k+1=>(qz f w N m R i k).set (gt (oL w N) k) (gt (qz f w N m R i k) (gt (oL w N) k)+bD m R i k*f (gt (bL w N) i))
@[simp] theorem Tr(f:Nat->Rat)(w:List Int)(N m:Nat)(R:List (List Rat))(i:Nat):∀k,(qz f w N m R i k).length=N
 | 0=>by simp[qz]
 | k+1=>by simp only[qz,aBI];exact Tr f w N m R i k
theorem zL{f:Nat->Rat}{w:List Int}{N m:Nat}{R:List (List Rat)}(hm:eG w N=m){i:Nat}:∀k,k<=N->∀j,j<N->gt (qz f w N m R i k) (gt (oL w N) j)=HK f w N m R (if j<k then i+1 else i) (gt (oL w N) j)
 | 0,_,j,hj=>by simp only[qz];rw[aV _ (m6 hj),if_neg (by omega)]
 | k+1,hk,j,hj=>by
  simp only[qz];rw[bE (by simp;exact m6 hj)];by_cases e:k=j
  ·subst e;rw[if_pos rfl,zL hm k (by omega) k hj,if_neg (by omega),if_pos (by omega)];unfold HK;by_cases aw:k<m
   ·rw[if_pos (by rw[Ag (by omega)];exact(mf (by omega)).2),if_pos (by rw[Ag (by omega)];exact(mf (by omega)).2)];unfold bD;rw[if_pos aw];grind
   ·have hn:=Qt (w:=w) (N:=N) (k:=k) (by omega) hj;rw[if_neg hn,if_neg hn];simp only[aG];rw[qZ hj];unfold bD;grind
  ·rw[if_neg (λq=>e (ug (by omega) hj q)),zL hm k (by omega) j hj];by_cases q:j<k
   ·rw[if_pos q,if_pos (by omega)]
   ·rw[if_neg q,if_neg (by omega)]
theorem QW{f:Nat->Rat}{w:List Int}{N m:Nat}{R:List (List Rat)}(hm:eG w N=m)(i:Nat):qz f w N m R i N=qz f w N m R (i+1) 0:=bV (by simp) λq hq=>by
 have hq:q<N:=by simpa using hq
 obtain⟨j,hj,rfl⟩:=wB (w:=w) hq;rw[zL hm N (axq _) j hj,zL hm 0 (by omega) j hj,if_pos hj,if_neg (by omega)]
theorem NG{f:Nat->Rat}{w:List Int}{N m:Nat}{R:List (List Rat)}{i k:Nat}(hk:k<N)(h:bD m R i k*f (gt (bL w N) i)=0):qz f w N m R i (k+1)=qz f w N m R i k:=by
 simp only[qz];rw[h,Rat.add_zero];refine bV (by simp) λq hq=>?_;have hq:q<N:=by simpa using hq
 rw[bE (by simpa using hq)];split
 ·rename_i e;rw[e]
 ·rfl
theorem RT{m N W:Nat}{R:List (List Rat)}(h1:1<=W)(hR:∀i k,i<m->k<N->qw W (gt (gt R i) k)){i k:Nat}(hi:i<m)(hk:k<N):qw W (bD m R i k):=by
 unfold bD;split
 ·exact cC _ h1
 ·exact fh (hR i k hi hk)
theorem abY{f:Nat->Rat}{w:List Int}{m N W:Nat}{R:List (List Rat)}(h1:1<=W)(hR:∀i k,i<m->k<N->qw W (gt (gt R i) k))(hf:∀k,k<N->qw 2200 (f k)){i:Nat}(hi:i<m){k:Nat}(hk:k<=N):qw (1+k*(W+2200+1)) (sD f w N m R i k) :=
 uV k λq hq=>cy (RT h1 hR hi (by omega)) (hf _ (m6 (by omega))) (by omega)
theorem TA{f:Nat->Rat}{w:List Int}{m N W:Nat}{R:List (List Rat)}(h1:1<=W)(hm:eG w N=m)(hR:∀i k,i<m->k<N->qw W (gt (gt R i) k))(hf:∀k,k<N->qw 2200 (f k)){i q:Nat}(hi:i<=m)(hq:q<N):qw (2202+i*(W+2200+1)) (HK f w N m R i q):=by
 unfold HK;split
 ·exact cC _ (by omega)
 ·have h2:qw (1+i*(W+2200+1)) (aG (λr=>gt (qt w N m R r) q*f (gt (bL w N) r)) i):=uV i λr hr=>by
   have hb:=(mf (w:=w) (N:=N) (k:=r) (by omega)).1;have h3:qw W (gt (qt w N m R r) q):=by obtain⟨j,hj,rfl⟩:=wB (w:=w) hq;rw[qZ hj];exact RT h1 hR (by omega) hj
   exact cy h3 (hf _ hb) (by omega)
  exact ax (kX (hf q hq) h2) (by omega)
theorem abZ{w:List Int}{m N W:Nat}{R:List (List Rat)}(h1:1<=W)(hR:∀i k,i<m->k<N->qw W (gt (gt R i) k)){i q:Nat}(hi:i<m)(hq:q<N):qw W (gt (qt w N m R i) q):=by obtain⟨j,hj,rfl⟩:=wB (w:=w) hq;rw[qZ hj];exact RT h1 hR hi hj
theorem aaD{f:Nat->Rat}{w:List Int}{m N W:Nat}{R:List (List Rat)}(h1:1<=W)(hR:∀i k,i<m->k<N->qw W (gt (gt R i) k))(hf:∀k,k<N->qw 2200 (f k)){q:Nat}(hq:q<N):∀i,i<=m->qw (2200+N*(W+2200+1)) (gt (xS f w N m R i) q)
 | 0,_=>by simp only[xS];rw[aV _ hq];exact ax (hf q hq) (by omega)
 | i+1,h=>by
  simp only[xS];rw[bE (by simpa using hq)];split
  ·exact ax (abY h1 hR hf (by omega) (axq _)) (by omega)
  ·exact aaD h1 hR hf hq i (by omega)
theorem Nk{k:Nat}{x:List Rat}(h:∀i,i<x.length->qw k (gt x i))(hk:k<=10000000000)(hl:x.length<=1048576):PW x:=⟨hl,λq hq=>by obtain⟨i,hi,e⟩:=List.getElem_of_mem hq;have:=h i hi;rw[<-dY hi,e]at this;exact aq this hk⟩
theorem Rc{f g:Nat->Rat}{w:List Int}{m N W:Nat}{R:List (List Rat)}(h1:1<=W)(hW:W<=200000000)(ag:N<=14)(h7:m<=7)(hm:eG w N=m)(hR:∀i k,i<m->k<N->qw W (gt (gt R i) k))(hf:∀k,k<N->qw 2200 (f k))(hg:∀k,k<N->qw 2200 (g k)) :
  FrW ((ayq m).map (qt w N m R)) (xS f w N m R m) (qz g w N m R m 0):=by
 have z1:N*(W+2200+1)<=14*(W+2200+1):=axn _ ag;have z2:m*(W+2200+1)<=7*(W+2200+1):=axn _ h7;refine⟨λr hr=>?_,Nk (k:=2200+N*(W+2200+1)) (λi hi=>aaD h1 hR hf (by simpa using hi) m (axq _)) (by omega) (by simp;omega),Nk (k:=2202+m*(W+2200+1)) (λi hi=>?_) (by omega) (by simp;omega)⟩
 ·obtain⟨i,hi,rfl⟩:=List.mem_map.1 hr;have hi:i<m:=List.mem_range.1 hi;exact Nk (k:=W) (λq hq=>abZ h1 hR hi (by rw[sL]at hq;exact hq)) (by omega) (by rw[sL];omega)
 ·have hi:i<N:=by simpa using hi
  simp only[qz];rw[aV _ hi];exact TA h1 hm hR hg (axq _) hi
theorem Q5{c:Tc}{p:aB}{w:List Int}(hN:c.n+c.m=c.N)(hn:eG w c.N=c.m){s:List (List Rat) × List Nat}(h:IL c.m c.N (iq p c.n c.m c.N (oL w c.N)) s c.m)(af:Nat->Rat) :
  VK c (Kp p c.n c.m) w af ((ayq c.m).map (qt w c.N c.m s.1)) (xS (xw c w) w c.N c.m s.1 c.m) ((ayq c.N).map (HK af w c.N c.m s.1 c.m)) where
 bl:=by simp
 br i hi:=by rw[aV _ hi,sL]
 d:=Aq hN hn h
 xl:=by simp
 xn k hk hw:=La hn hk hw _ (axq _)
 xb r hr:=by
  rw[afi hn _ (axq _) hr,aV _ hr,<-sM (f:=λk=>gt (qt w c.N c.m s.1 r) k*gt (xS (xw c w) w c.N c.m s.1 c.m) k) (ord:=gt (oL w c.N)) (λk hk=>m6 hk) (λa b ha hb e=>ug ha hb e)];refine aO _ λk hk=>?_;rw[qZ hk];unfold bD;by_cases q:k<c.m
  ·rw[if_pos q,Rat.zero_mul,Rat.zero_mul]
  ·rw[if_neg q,La hn (m6 hk) (Qt (by omega) hk) _ (axq _)]
 cl:=by simp
 cn k hk:=by
  rw[aV _ hk];unfold HK;split
  ·rfl
  ·congr 1;exact aO _ λr hr=>by rw[aV _ hr];grind
end Go.Sx
set_option maxRecDepth 10000
namespace Go.Proofs
open Go.Sv Go Go.Tb Go.Pl Go.Ut Go.Mx Go.Li Go.Dt Go.Sx
noncomputable def xe:Code:=aCn.body.getD .skip
def Ly(w:List Int)(n m N:Nat)(R:List (List Rat)):List (Nat × SV):=[(0,.ptr 0 0 0),(2,.ro (w.map iv)),(3,.ro ((oL w N).map cv)),(4,.ro (R.map iu)),(6,.ptr 1 0 0),(10,iv m),(11,iv N)]
def DZ(p:aB)(w:List Int)(N i:Nat)(X Co B:List SV):aC:=[some ⟨4,[.agg [.ro ((bL w N).map cv),.view 4 0 i,.view 2 0 N,.view 3 0 N]],false⟩,some ⟨7,[bX p],false⟩,some ⟨4,X,false⟩,some ⟨4,Co,false⟩,some ⟨1,B,false⟩]
theorem Kb{N k:Nat}{f:Nat->SV}{d:SV}(h:k<N):(du N (k+1) f d)=(du N k f d).set k (f k):=ef.symm
theorem wZ{X:List SV}{k:Nat}{v:SV}(h:k<X.length):aM (X.set k v) k=v:=by rw[uH (by simpa using h)];simp
theorem Dp{N k:Nat}{f:Nat->SV}{d:SV}(h:k<N):aM (du N k f d) k=d:=by rw[uH (by simpa using h)];simp[du]
theorem ru{n:Nat}{v:SV}(hv:v.lt n=true):∀{l:List SV} {i:Nat},SV.j3 n l=true->SV.j3 n (l.set i v)=true
 | [],_,h=>h
 | x::l,0,h=>by simp only[SV.j3,ayt,aCk]at h ⊢;exact⟨hv,h.2⟩
 | x::l,i+1,h=>by simp only[SV.j3,ayt,aCk]at h ⊢;exact⟨h.1,ru hv h.2⟩
theorem KQ{n N k:Nat}{g:Nat->Rat}:SV.j3 n (du N k (λq=>aZ (g q)) (aS 0))=true:=by unfold du;rw[kA,List.all_eq_true];intro q _;split<;>rfl
theorem rlA(p:aB)(n m N:Nat)(hn:p.ai.length=n)(hm:p.rows.length=m)(hN:n+m=N)(ag:N<=14)(w:List Int)(hl:w.length=N)(hf:∀k,k<N->Sx.fit (bC p n m N) w k)(R:List (List Rat)){C:Ctx}(hC:C.fx=[0]){Q:bf}(ah:∀c st,¬Q (.panic c) st)
  (hQ:aa ay9 C (bh 6 xe) ⟨234,Ly w n m N R,DZ p w N 0 ((xS (xw (bC p n m N) w) w N m R 0).map aZ) ((qz (db p n) w N m R 0 0).map aZ) []⟩ Q) :
  aa ay9 C xe ⟨234,[(0,.ptr 0 0 0),(1,bX p),(2,.ro (w.map iv)),(3,.ro ((oL w N).map cv)),(4,.ro (R.map iu))],[some ⟨4,[.agg [.ro ((bL w N).map cv),.val (.slice none 0 0),.val (.slice none 0 0),.val (.slice none 0 0)]],false⟩]⟩ Q:=by
 refine aa.cutAt 6 (λst=>st=⟨234,Ly w n m N R,DZ p w N 0 ((xS (xw (bC p n m N) w) w N m R 0).map aZ) ((qz (db p n) w N m R 0 0).map aZ) []⟩) ?_ ?_
 rotate_left 1
 ·rintro st rfl;exact hQ
 clear hQ;simp only[xe,aCn,Option.getD_some,aN,aL];have lo:=nN w N;have ay:∀k,gt w k=2->xw (bC p n m N) w k=(gt (fW p m) k).at':=λk h=>abh h;have ar:∀k,gt w k=3->xw (bC p n m N) w k=(gt (dt p m) k).at':=λk h=>abN h;have au:∀k,gt w k≠2->gt w k≠3->xw (bC p n m N) w k=0:=λk h h'=>by unfold xw;rw[if_neg h,if_neg h']
 have az:∀k,k<N->gt w k=2->(gt (fW p m) k).has=true:=λk hk h=>by
  rcases hf k hk with q | ⟨q,r⟩ | ⟨q,r⟩ | ⟨q,r,t⟩
  ·omega
  ·exact r
  ·omega
  ·omega
 have aF:∀k,k<N->gt w k=3->(gt (dt p m) k).has=true:=λk hk h=>by
  rcases hf k hk with q | ⟨q,r⟩ | ⟨q,r⟩ | ⟨q,r,t⟩
  ·omega
  ·omega
  ·exact r
  ·omega
 have aH:∀k,HK (db p n) w N m R 0 k=if gt w k=1 then 0 else db p n k:=λk=>by
  unfold HK;split
  ·rfl
  ·simp only[aG];grind
 generalize xw (bC p n m N) w=f at *;simp(disch:=omega)[hm,lo];repeat refine awG ?_
 refine aa.le (Le.iO 0 1 1 rfl rfl rfl rfl (by simp)) ?_;refine aa.le (Le.nl _) ?_;have zz:ig (.agg [.val (.bool false),.val (.slice none 0 0),.val (.bool false),.val (.slice none 0 0)])=aS 0:=by rw[<-ou];rfl
 have nb:kT ((bL w N).map cv)=(bL w N).map cv:=cR cv (λ_=>rfl) _;simp[aX,da,LW,ry,p9,ig];refine aa.bB (ι:=Nat) (λk=>⟨234,Ly w n m N R++[(12,iv k)],DZ p w N 0 (du N k (λq=>aZ (f q)) (aS 0)) (du N k (λq=>aZ (HK (db p n) w N m R 0 q)) (aS 0)) []⟩)
  (λk=>k<=N) (λk=>N - k) 0 (by omega) ?_ ?_
 ·simp[aP,Ly,DZ,vQ,fj];exact⟨rfl,.inr (by rw[<-ou])⟩
 ·rintro k hk;simp only[Ly,DZ,ayb,aAf];by_cases ab:k<N
  ·have lw:=cf (l:=w) (i:=k) (by omega);have lX:(du N k (λq=>aZ (f q)) (aS 0)).length=N:=by simp
   have lC:(du N k (λq=>aZ (HK (db p n) w N m R 0 q)) (aS 0)).length=N:=by simp
   have sX:=Kb (N:=N) (k:=k) (f:=λq=>aZ (f q)) (d:=aS 0) ab;have sC:=Kb (N:=N) (k:=k) (f:=λq=>aZ (HK (db p n) w N m R 0 q)) (d:=aS 0) ab;have gX:=Dp (N:=N) (k:=k) (f:=λq=>aZ (f q)) (d:=aS 0) ab;have gC:=Dp (N:=N) (k:=k) (f:=λq=>aZ (HK (db p n) w N m R 0 q)) (d:=aS 0) ab;have tX:SV.j3 5 (du N k (λq=>aZ (f q)) (aS 0))=true:=KQ;have tC:SV.j3 5 (du N k (λq=>aZ (HK (db p n) w N m R 0 q)) (aS 0))=true:=KQ;have fk:=ay k;have aJ:=ar k;have aK:=au k;have ck:=aH k;simp only[db]at ck;have aQ:=az k ab;have aR:=aF k ab;generalize du N k (λq=>aZ (f q)) (aS 0)=X at *;have ak:=λv:Rat=>ru (n:=5) (v:=aZ v) rfl tX (i:=k);have g2:=λv=>wZ (X:=X) (k:=k) (v:=v) (by omega);generalize du N k (λq=>aZ (HK (db p n) w N m R 0 q)) (aS 0)=Co at *;have al:=λv:Rat=>ru (n:=5) (v:=aZ v) rfl tC (i:=k);have g3:=λv=>wZ (X:=Co) (k:=k) (v:=v) (by omega);simp(disch:=omega)[ab];repeat refine awG ?_
   refine awI (Ah p n m N k hn hm hN ab (by omega)) ?_;simp;refine aa.draw (.qs [0,1,2,3,4]<|.l 5 []<|.qs [6]<|.l 7 [3]<|.nil) (by kernel_rfl) (by kernel_rfl) (by simpa using ah) ?_;simp(disch:=omega)[];repeat refine awG ?_
   refine awI (oh) ?_;simp(disch:=omega)[ab,lC,cq,gC, -aAq];repeat refine awG ?_
   refine aa.draw (.qs [0,1,2,3,4]<|.l 5 []<|.qs [6]<|.l 7 [2]<|.nil) (by kernel_rfl) (by kernel_rfl) (by simpa using ah) ?_;simp(disch:=omega)[];repeat refine awG ?_
   refine awI (oh) ?_;by_cases e2:gt w k=2
   ·have fk:=fk e2;have hh:=aQ e2;rw[e2]at lw;rw[if_neg (by omega)]at ck;simp(disch:=omega)[ab,lX,cq,lw,hl,gX, -aAq];repeat refine awG ?_
    refine aa.draw (.qs [0,1,2,3,4,5,6,7]<|.l 8 [2]<|.nil) (by kernel_rfl) (by kernel_rfl) (by simpa using ah) ?_;simp(disch:=omega)[ab,lX,cq,lw,hl,g2,hn,ka hh,aD, -aAq];repeat refine awG ?_
    refine⟨λad=>?_,λad=>?_⟩
    ·refine aa.draw (.qs [0,1,2,3,4,5,6,7,8,9,10,11]<|.l 12 [3]<|.nil) (by kernel_rfl) (by kernel_rfl) (by simpa using ah) ?_;have lc:=dc (l:=p.ai) (i:=k) (by omega);rw[if_pos ad]at ck;simp(disch:=omega)[ab,lC,cq,g3,hn,lc,ad,aD, -aAq];repeat refine awG ?_
     refine⟨k+1,by omega,by omega,?_⟩;rw[sX,sC,fk,ck];exact Le.dE (by simp(disch:=omega)[aP,hC,ak,al])
    ·rw[if_neg (by omega)]at ck;refine⟨k+1,by omega,by omega,?_⟩;rw[sX,sC,fk,ck];exact Le.dE (by simp(disch:=omega)[aP,hC,ak,al])
   ·by_cases e3:gt w k=3
    ·have fk:=aJ e3;have hh:=aR e3;rw[e3]at lw;rw[if_neg (by omega)]at ck;simp(disch:=omega)[ab,lX,cq,lw,hl,gX, -aAq];repeat refine awG ?_
     refine aa.draw (.qs [0,1,2,3,4,5,6,7]<|.l 8 [2]<|.nil) (by kernel_rfl) (by kernel_rfl) (by simpa using ah) ?_;simp(disch:=omega)[ab,lX,cq,lw,hl,g2,hn,ka hh,aD, -aAq];repeat refine awG ?_
     refine⟨λad=>?_,λad=>?_⟩
     ·refine aa.draw (.qs [0,1,2,3,4,5,6,7,8,9,10,11]<|.l 12 [3]<|.nil) (by kernel_rfl) (by kernel_rfl) (by simpa using ah) ?_;have lc:=dc (l:=p.ai) (i:=k) (by omega);rw[if_pos ad]at ck;simp(disch:=omega)[ab,lC,cq,g3,hn,lc,ad,aD, -aAq];repeat refine awG ?_
      refine⟨k+1,by omega,by omega,?_⟩;rw[sX,sC,fk,ck];exact Le.dE (by simp(disch:=omega)[aP,hC,ak,al])
     ·rw[if_neg (by omega)]at ck;refine⟨k+1,by omega,by omega,?_⟩;rw[sX,sC,fk,ck];exact Le.dE (by simp(disch:=omega)[aP,hC,ak,al])
    ·have fk:=aK e2 e3;by_cases e1:gt w k=1
     ·rw[e1]at lw;rw[if_pos e1]at ck;simp(disch:=omega)[ab,lX,cq,lw,hl,gX,aD, -aAq];repeat refine awG ?_
      refine⟨k+1,by omega,by omega,?_⟩;rw[sX,sC,fk,ck];exact Le.dE (by simp(disch:=omega)[aP,hC,ak,al])
     ·rw[if_neg e1]at ck;simp(disch:=omega)[ab,lX,cq,lw,hl,gX,hn,e1,e2,e3,aD, -aAq];repeat refine awG ?_
      refine⟨λad=>?_,λad=>?_⟩
      ·refine aa.draw (.qs [0,1,2,3,4,5,6,7,8,9,10,11]<|.l 12 [3]<|.nil) (by kernel_rfl) (by kernel_rfl) (by simpa using ah) ?_;have lc:=dc (l:=p.ai) (i:=k) (by omega);rw[if_pos ad]at ck;simp(disch:=omega)[ab,lC,cq,g3,hn,lc,ad,aD, -aAq];repeat refine awG ?_
       refine⟨k+1,by omega,by omega,?_⟩;rw[sX,sC,fk,ck];exact Le.dE (by simp(disch:=omega)[aP,hC,ak,al])
      ·rw[if_neg (by omega)]at ck;refine⟨k+1,by omega,by omega,?_⟩;rw[sX,sC,fk,ck];exact Le.dE (by simp(disch:=omega)[aP,hC,ak,al])
  ·obtain rfl:k=N:=by omega
   simp(disch:=omega)[];repeat refine awG ?_
   have eX:du k k (λq=>aZ (f q)) (aS 0)=(xS f w k m R 0).map aZ:=by simp only[xS,aBC];refine aBD λq hq=>?_;rw[if_pos (by simpa using hq)];rfl
   have eC:du k k (λq=>aZ (HK (db p n) w k m R 0 q)) (aS 0)=(qz (db p n) w k m R 0 0).map aZ:=by simp only[qz,aBC];refine aBD λq hq=>?_;rw[if_pos (by simpa using hq)];rfl
   rw[eX,eC];exact⟨rfl,by simp[bY,Go.Sv.get],ao _,.inl rfl⟩
end Go.Proofs


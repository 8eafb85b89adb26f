/- A text of the prover's own. -/
import Derived.Test.YtmghjkkjaolpgaaGreatDoorUId
open Rat renaming le_ceil→ao6,le_refl→aoZ,not_lt→aoX,floor_le→ao7,le_antisymm→ao8,le_trans→ao9,div_mul_cancel→apa,zero_mul→apb
open Bool renaming and_eq_true→amS,and_self→apc,true_and→apd
namespace Go.Ps
open Go Go.Tb Go.Ut Go.Li Go.Proofs
def AO(n:Nat)(x:List Rat)(r:Row):Rat:=bP (fun j=>gt x j*aS r.ab j) n
structure Sat(w:Wk)(x:List Rat):Prop where
 n:x.length=w.aa.length
 co:∀j,j<w.aa.length→gt w.gc j=false→ix (gt x j) (gt w.aa j).low (gt w.aa j).high=true∧((gt w.aa j).whole=true→(gt x j).den=1)
 ro:∀i,i<w.rows.length→gt w.gr i=false→ix (AO w.aa.length x (gt w.rows i)) (gt w.rows i).low (gt w.rows i).high=true
def uP(w:Wk)(x:List Rat):Rat:=w.sh+bP (fun j=>if gt w.gc j=true then 0 else gt x j*(gt w.aa j).cost) w.aa.length
def m9(s:lU)(x:List Rat):List Rat:=x.set s.aq (s.at'+dY x s.ab s.ab.length)
def mZ:List lU→List Rat→List Rat
 | [],x=>x
 | s::l,x=>m9 s (mZ l x)
theorem DJ:∀(a b:List lU) (x:List Rat),mZ (a++b) x=mZ a (mZ b x)
 | [],_,_=>rfl
 | s::a,b,x=>by simp only[List.cons_append,mZ,DJ a b x]
theorem uD:∀(l:List lU) (x:List Rat),(mZ l x).length=x.length
 | [],_=>rfl
 | s::l,x=>by simp only[mZ,m9,List.length_set,uD l x]
def Bk(w w':Wk):Prop:=∃l,w'.steps=w.steps++l∧∀x,Sat w' x→Sat w (mZ l x)∧uP w (mZ l x)=uP w' x
theorem Bk.refl(w:Wk):Bk w w:=⟨[],by simp,fun x h=>⟨h,rfl⟩⟩
theorem Bk.trans{a b c:Wk}(h:Bk a b)(h':Bk b c):Bk a c:=by
 obtain⟨l,e1,f⟩:=h;obtain⟨l',e2,g⟩:=h';refine⟨l++l',by rw[e2,e1,List.append_assoc],fun x hx=>?_⟩;rw[DJ];obtain⟨s1,v1⟩:=g x hx;obtain⟨s2,v2⟩:=f _ s1;exact⟨s2,by rw[v2,v1]⟩
theorem Bk.of{w w':Wk}(hs:w'.steps=w.steps)(hc:w'.aa.length=w.aa.length)(hg:w'.gc=w.gc)(hsh:w'.sh=w.sh)(hco:∀j,j<w.aa.length→(gt w'.aa j).cost=(gt w.aa j).cost)(h:∀x,Sat w' x→Sat w x):Bk w w' :=
 ⟨[],by rw[hs];simp,fun x hx=>⟨h x hx,by
  unfold uP;rw[hsh,hg,hc];congr 1;exact dj fun j hj=>by rw[hco j hj];rfl⟩⟩
theorem JX{c:df}{b:Bo}{q:Rat}(h:(lA c b).has=true→(lA c b).at'≤q):(c.low.has=true→c.low.at'≤q)∧(b.has=true→b.at'≤q):=by
 have hup:b.at'≤yd c.whole b.at':=by
  unfold yd;split
  ·exact ao6
  ·exact aoZ
 unfold lA at h;split at h
 ·rename_i hq;have h1:=h rfl;have h1:yd c.whole b.at'≤q:=h1;exact⟨fun hl=>by have:=hq.2 hl;grind,fun _=>by grind⟩
 ·rename_i hq;refine⟨h,fun hb=>?_⟩;by_cases hl:c.low.has=true
  ·have h1:=h hl;have h2:yd c.whole b.at'≤c.low.at':=aoX.1 fun q=>hq ⟨hb,fun _=>q⟩;grind
  ·exact absurd ⟨hb,fun q=>absurd q hl⟩ hq
theorem Im{c:df}{b:Bo}{q:Rat}(h:(lY c b).has=true→q≤(lY c b).at'):(c.high.has=true→q≤c.high.at')∧(b.has=true→q≤b.at'):=by
 have hup:AA c.whole b.at'≤b.at':=by
  unfold AA;split
  ·exact ao7 _
  ·exact aoZ
 unfold lY at h;split at h
 ·rename_i hq;have h1:q≤AA c.whole b.at':=h rfl;exact⟨fun hl=>by have:=hq.2 hl;grind,fun _=>by grind⟩
 ·rename_i hq;refine⟨h,fun hb=>?_⟩;by_cases hl:c.high.has=true
  ·have h1:=h hl;have h2:c.high.at'≤AA c.whole b.at':=aoX.1 fun q=>hq ⟨hb,fun _=>q⟩;grind
  ·exact absurd ⟨hb,fun q=>absurd q hl⟩ hq
theorem qJ{c:df}{lo hi:Bo}{q:Rat}(h:ix q (bg c lo hi).low (bg c lo hi).high=true):ix q c.low c.high=true∧ix q lo hi=true:=by
 obtain⟨h1,h2⟩:=dA.1 h;obtain⟨a1,a2⟩:=JX h1;obtain⟨b1,b2⟩:=Im h2;exact⟨dA.2 ⟨a1,b1⟩,dA.2 ⟨a2,b2⟩⟩
theorem EB{a z q r:Rat}{low high:Bo}(hr:r≠0)(h:ix q (ck ⟨⟨true,a⟩,⟨true,a⟩⟩ low high r).lo (ck ⟨⟨true,a⟩,⟨true,a⟩⟩ low high r).hi=true)(hq:q=a+z*r):ix z low high=true:=by
 obtain⟨h1,h2⟩:=dA.1 h;subst hq;unfold ck at h1 h2;rw[if_neg hr]at h1 h2;have le_of:∀{u v s:Rat},0<s→u*s≤v*s→u≤v:=fun{u v s} hs h=>aoX.1 fun aF=>by
  have:=Rat.mul_lt_mul_of_pos_right aF hs;grind
 by_cases hn:r<0
 ·rw[if_pos hn]at h1 h2;have hs:0 < -r:=by grind
  refine dA.2 ⟨fun hl=>?_,fun hh=>?_⟩
  ·have:=h2 (by simp[bV,hl]);simp only[bV,hl,and_self,if_true]at this;refine le_of hs ?_;grind
  ·have:=h1 (by simp[bV,hh]);simp only[bV,hh,and_self,if_true]at this;refine le_of hs ?_;grind
 ·rw[if_neg hn]at h1 h2;have hs:0<r:=by grind
  refine dA.2 ⟨fun hl=>?_,fun hh=>?_⟩
  ·have:=h1 (by simp[bV,hl]);simp only[bV,hl,and_self,if_true]at this;refine le_of hs ?_;grind
  ·have:=h2 (by simp[bV,hh]);simp only[bV,hh,and_self,if_true]at this;refine le_of hs ?_;grind
theorem MU(f:Nat→Rat):∀(n:Nat) {k:Nat},aS (kS f n) k=if k<n then f k else 0
 | 0,k=>by simp[kS,aS]
 | n+1,k=>by
  have ih:=MU f n (k:=k);have hno:∀i,i<(kS f n).length→(gt (kS f n) i).aq≠(n:Int):=fun i hi=>by have:=(sN f n i hi).2.1;omega
  unfold kS;split
  ·rename_i h;rw[ih];by_cases q:k<n
   ·rw[if_pos q,if_pos (by omega)]
   ·rw[if_neg q];by_cases e:k=n
    ·subst e;rw[if_pos (by omega),h]
    ·rw[if_neg (by omega)]
  ·rw[rR];by_cases e:k=n
   ·subst e;rw[if_pos rfl,if_pos hno,if_pos (by omega)]
   ·rw[if_neg (show ¬((n:Nat):Int)=(k:Int) by omega),ih];by_cases q:k<n
    ·rw[if_pos q,if_pos (by omega)]
    ·rw[if_neg q,if_neg (by omega)]
theorem Eo{n:Nat}{ts:List Term}(hl:ts.length≤1)(ht:∀t∈ts,0≤t.aq∧t.aq.toNat<n)(x:List Rat):bP (fun k=>gt x k*aS ts k) n=dY x ts ts.length:=by
 match ts,hl,ht with
 | [],_,_ =>
  have z:∀m,bP (fun k=>gt x k*aS [] k) m=0:=fun m=>by
   induction m with
   | zero=>rfl
   | succ m ih=>simp only[bP];rw[ih];simp only[aS];grind
  rw[z];rfl
 | [t],_,ht =>
  obtain⟨h0,h1⟩:=ht t (by simp);have e:∀k,k<n→gt x k*aS [t] k=if k=t.aq.toNat then t.num*gt x t.aq.toNat else 0:=fun k _=>by
   simp only[aS];by_cases q:k=t.aq.toNat
   ·rw[if_pos (show t.aq=(k:Int) by omega),if_pos q,q];grind
   ·rw[if_neg (show ¬t.aq=(k:Int) by omega),if_neg q];grind
  rw[dj e,rL,if_pos h1];show _=dY x [t] 1;simp only[dY,gt];show _=0+t.num*_;grind
theorem CP{ts:List Term}(hl:ts.length≤1)(cs:List df)(q:Rat)(ht:∀t∈ts,0≤t.aq){k:Nat}(hk:k<cs.length):(gt (fH cs q ts) k).cost=(gt cs k).cost+q*aS ts k:=by
 match ts,hl,ht with
 | [],_,_=>simp only[fH,aS];grind
 | [t],_,ht =>
  have h0:=ht t (by simp);simp only[fH,aS];rw[dM hk];by_cases e:t.aq.toNat=k
  ·rw[if_pos e,if_pos (show t.aq=(k:Int) by omega),e]
  ·rw[if_neg e,if_neg (show ¬t.aq=(k:Int) by omega)];grind
theorem qT{l:List Rat}{i j:Nat}{v:Rat}(h:i<l.length):gt (l.set i v) j=if j=i then v else gt l j:=by
 by_cases q:j<l.length
 ·rw[dM q];by_cases e:i=j
  ·rw[if_pos e,if_pos e.symm]
  ·rw[if_neg e,if_neg fun e'=>e e'.symm]
 ·rw[if_neg (by omega)];simp[gt,q]
section
variable {n m:Nat} {w:Wk} {j:Nat} {a:Rat} {ts:List Term} {x:List Rat}
theorem vh(S:Ae n m w)(hj:j<n)(hg:gt w.gc j=false)(hl:ts.length≤1)(ht:∀t∈ts,0≤t.aq∧t.aq.toNat<n∧gt w.gc t.aq.toNat=false∧t.aq.toNat≠j)(hx:Sat (k8 w j a ts) x)
  (hcj:ix (a+dY x ts ts.length) (gt w.aa j).low (gt w.aa j).high=true∧((gt w.aa j).whole=true→(a+dY x ts ts.length).den=1)) :
  Sat w (m9 ⟨j,a,ts⟩ x)∧uP w (m9 ⟨j,a,ts⟩ x)=uP (k8 w j a ts) x:=by
 have nc:=S.nc;have nr:=S.nr;have ngc:=S.gc;have pcl:(k8 w j a ts).aa.length=n:=by show(fH w.aa _ ts).length=n;rw[jI,nc]
 have xn:x.length=n:=by rw[hx.n,pcl]
 have hgx:∀k,gt (x.set j (a+dY x ts ts.length)) k=if k=j then a+dY x ts ts.length else gt x k:=fun k=>qT (by omega);have hgg:∀k,k<n→gt (w.gc.set j true) k=if k=j then true else gt w.gc k:=fun k hk=>by
  rw[dM (by omega)];by_cases e:j=k
  ·rw[if_pos e,if_pos e.symm]
  ·rw[if_neg e,if_neg fun e'=>e e'.symm]
 have eT:=Eo (n:=n) hl (fun t h=>⟨(ht t h).1,(ht t h).2.1⟩) x;have tj:aS ts j=0:=uz fun k hk=>by
  have:=(ht _ (dr hk));omega
 have tgone:∀k,gt w.gc k=true→aS ts k=0:=fun k hk=>uz fun i hi he=>by
  have h:=ht _ (dr hi);rw[show(gt ts i).aq.toNat=k by omega,hk]at h;exact absurd h.2.2.1 (by simp)
 obtain⟨v,hv⟩:∃v,a+dY x ts ts.length=v:=⟨_,rfl⟩;have eB:m9 ⟨j,a,ts⟩ x=x.set j v:=by unfold m9;rw[hv]
 rw[hv]at hgx hcj;rw[eB];refine⟨⟨by simp[xn,nc],fun k hk hgk=>?_,fun i hi hgi=>?_⟩,?_⟩
 ·rw[hgx k];by_cases e:k=j
  ·rw[if_pos e,e];exact hcj
  ·rw[if_neg e];have hkn:k<n:=by omega
   have h:=hx.co k (by omega) (by show gt (w.gc.set j true) k=false;rw[hgg k hkn,if_neg e,hgk]);obtain⟨b1,b2,b3, -⟩:=ub (gt w.aa j).cost ts w.aa k hk;have h:ix (gt x k) (gt (fH w.aa (gt w.aa j).cost ts) k).low (gt (fH w.aa (gt w.aa j).cost ts) k).high=true∧((gt (fH w.aa (gt w.aa j).cost ts) k).whole=true→(gt x k).den=1):=h;rw[b1,b2,b3]at h;exact h
 ·have hri:=hx.ro i (by show i<(du w j a ts w.rows.length).length;rw[jo];exact hi) hgi;rw[pcl]at hri;have hri:ix (AO n x (gt (du w j a ts w.rows.length) i)) (gt (du w j a ts w.rows.length) i).low (gt (du w j a ts w.rows.length) i).high=true:=hri;rw[jH w j a ts hi,if_pos ⟨hi,hgi⟩,nc]at hri;rw[nc];generalize gt w.rows i=r at *;by_cases he:aS r.ab j=0
  ·have e1:n9 n j a ts r=r:=by unfold n9;rw[if_pos he]
   rw[e1]at hri;have e2:AO n (x.set j v) r=AO n x r:=dj fun k _=>by
    rw[hgx k];by_cases e:k=j
    ·rw[e,he];grind
    ·rw[if_neg e]
   rw[e2];exact hri
  ·have e1:n9 n j a ts r=⟨r.name,kS (iU r j ts) n,bV r.low ⟨true, -(a*aS r.ab j)⟩ 1,bV r.high ⟨true, -(a*aS r.ab j)⟩ 1⟩:=by unfold n9;rw[if_neg he]
   rw[e1]at hri;obtain⟨A,hA⟩:∃A,bP (fun k=>if k=j then 0 else gt x k*aS r.ab k) n=A:=⟨_,rfl⟩;have s1:AO n (x.set j v) r=A+v*aS r.ab j:=by
    have:AO n (x.set j v) r=bP (fun k=>(if k=j then 0 else gt x k*aS r.ab k)+(if k=j then v*aS r.ab j else 0)) n:=dj fun k _=>by
     rw[hgx k];by_cases e:k=j
     ·rw[if_pos e,if_pos e,if_pos e,e];grind
     ·rw[if_neg e,if_neg e,if_neg e];grind
    rw[this,nJ,hA,rL,if_pos hj]
   have s2:AO n x ⟨r.name,kS (iU r j ts) n,bV r.low ⟨true, -(a*aS r.ab j)⟩ 1,bV r.high ⟨true, -(a*aS r.ab j)⟩ 1⟩=A+aS r.ab j*dY x ts ts.length:=by
    have:AO n x ⟨r.name,kS (iU r j ts) n,bV r.low ⟨true, -(a*aS r.ab j)⟩ 1,bV r.high ⟨true, -(a*aS r.ab j)⟩ 1⟩=bP (fun k=>(if k=j then 0 else gt x k*aS r.ab k)+aS r.ab j*(gt x k*aS ts k)) n:=dj fun k hk=>by
     show gt x k*aS (kS (iU r j ts) n) k=_;rw[MU,if_pos hk];unfold iU;by_cases e:k=j
     ·rw[if_pos e,if_pos e,e,tj];grind
     ·rw[if_neg e,if_neg e];grind
    rw[this,nJ,hA,wE,eT]
   have e3:A+v*aS r.ab j=A+aS r.ab j*dY x ts ts.length+a*aS r.ab j:=by rw[←hv];grind
   rw[s1,e3];rw[s2]at hri;clear s1 s2 e3 e1 hgx hgg eT tgone hv eB hcj hx ht;generalize A+aS r.ab j*dY x ts ts.length=B at *;generalize a*aS r.ab j=D at *;obtain⟨h1,h2⟩:=dA.1 hri;refine dA.2 ⟨fun hlo=>?_,fun hhi=>?_⟩
   ·have:=h1 (by simp[bV,hlo]);simp only[bV,hlo,and_self,if_true]at this;grind
   ·have:=h2 (by simp[bV,hhi]);simp only[bV,hhi,and_self,if_true]at this;grind
 ·unfold uP;show w.sh+_=w.sh+(gt w.aa j).cost*a+bP (fun k=>if gt (w.gc.set j true) k=true then 0 else gt x k*(gt (fH w.aa (gt w.aa j).cost ts) k).cost) (fH w.aa (gt w.aa j).cost ts).length;rw[jI,nc];obtain⟨A,hA⟩:∃A,bP (fun k=>if gt w.gc k=true∨k=j then 0 else gt x k*(gt w.aa k).cost) n=A:=⟨_,rfl⟩;have s1:bP (fun k=>if gt w.gc k=true then 0 else gt (x.set j v) k*(gt w.aa k).cost) n=A+v*(gt w.aa j).cost:=by
   have:bP (fun k=>if gt w.gc k=true then 0 else gt (x.set j v) k*(gt w.aa k).cost) n=bP (fun k=>(if gt w.gc k=true∨k=j then 0 else gt x k*(gt w.aa k).cost)+(if k=j then v*(gt w.aa j).cost else 0)) n:=dj fun k _=>by
    rw[hgx k];by_cases e:k=j
    ·subst e;rw[if_neg (by simp[hg]),if_pos rfl,if_pos (.inr rfl),if_pos rfl];grind
    ·by_cases q:gt w.gc k=true
     ·rw[if_pos q,if_pos (.inl q),if_neg e];grind
     ·rw[if_neg q,if_neg e,if_neg (fun h=>h.elim q e),if_neg e];grind
   rw[this,nJ,hA,rL,if_pos hj]
  have s2:bP (fun k=>if gt (w.gc.set j true) k=true then 0 else gt x k*(gt (fH w.aa (gt w.aa j).cost ts) k).cost) n=A+(gt w.aa j).cost*dY x ts ts.length:=by
   have:bP (fun k=>if gt (w.gc.set j true) k=true then 0 else gt x k*(gt (fH w.aa (gt w.aa j).cost ts) k).cost) n=bP (fun k=>(if gt w.gc k=true∨k=j then 0 else gt x k*(gt w.aa k).cost)+(gt w.aa j).cost*(gt x k*aS ts k)) n:=dj fun k hk=>by
    rw[hgg k hk,CP hl w.aa _ (fun t h=>(ht t h).1) (by omega)];by_cases e:k=j
    ·subst e;rw[if_pos rfl,if_pos rfl,if_pos (.inr rfl),tj];grind
    ·rw[if_neg e];by_cases q:gt w.gc k=true
     ·rw[if_pos q,if_pos (.inl q),tgone k q];grind
     ·rw[if_neg q,if_neg (fun h=>h.elim q e)];grind
   rw[this,nJ,hA,wE,eT]
  rw[s1,s2];grind
end
end Go.Ps
namespace Go.Ps
open Go Go.Tb Go.Ut Go.Li Go.Proofs
section
variable {n m:Nat} {w:Wk}
theorem sQ{i k:Nat}{l:List Bool}(hi:i<l.length)(h:gt l k=false)(hk:k≠i):gt (l.set i true) k=false:=by
 by_cases q:k<l.length
 ·rw[dM q,if_neg (fun e=>hk e.symm),h]
 ·simp[gt,q]at h ⊢
theorem HI{x:List Rat}{r:Row}(h:r.ab.length=0):AO n x r=0:=by
 have e:r.ab=[]:=List.eq_nil_of_length_eq_zero h;unfold AO;rw[e];have z:∀k,bP (fun j=>gt x j*aS [] j) k=0:=fun k=>by
  induction k with
  | zero=>rfl
  | succ k ih=>simp only[bP];rw[ih];simp only[aS];grind
 exact z n
theorem JV(S:Ae n m w){i:Nat}(hi:i<m)(hq:(iF w i).2.no=false):Bk w (iF w i).2:=by
 have nr:=S.nr;have ngr:=S.gr;unfold iF at hq ⊢;split
 ·rename_i h;rw[if_pos h]at hq;have hq:(!ix 0 (gt w.rows i).low (gt w.rows i).high)=false:=hq;refine Bk.of rfl rfl rfl rfl (fun _ _=>rfl) fun x hx=>⟨hx.n,hx.co,fun k hk hg=>?_⟩
  by_cases e:k=i
  ·subst e;rw[HI h];simpa using hq
  ·exact hx.ro k hk (sQ (l:=w.gr) (by omega) hg e)
 ·exact Bk.refl w
theorem Ir{x:List Rat}{r:Row}(h:r.ab.length=1)(ht:0≤(gt r.ab 0).aq∧(gt r.ab 0).aq.toNat<n):AO n x r=(gt r.ab 0).num*gt x (gt r.ab 0).aq.toNat:=by
 unfold AO;rw[Eo (by omega) (fun t q=>by
  obtain⟨k,hk,rfl⟩:=List.getElem_of_mem q;rw[bR hk,show k=0 by omega];exact ht) x,h]
 simp only[dY];grind
theorem EW{j:Nat}{lo hi:Bo}{x:List Rat}(hj:j<w.aa.length)(hg:gt w.gc j=false)(hx:Sat (cD w j (bg (gt w.aa j) lo hi)) x):Sat w x∧ix (gt x j) lo hi=true:=by
 have cl:(cD w j (bg (gt w.aa j) lo hi)).aa.length=w.aa.length:=by show(w.aa.set _ _).length=_;simp
 have hat:∀k,k<w.aa.length→gt (cD w j (bg (gt w.aa j) lo hi)).aa k=if j=k then bg (gt w.aa j) lo hi else gt w.aa k:=fun k hk=>dM hk;have hcj:=hx.co j (by omega) hg;rw[hat j hj,if_pos rfl]at hcj;obtain⟨t1,t2⟩:=qJ hcj.1;refine⟨⟨by rw[hx.n,cl],fun k hk hgk=>?_,fun i hi hgi=>?_⟩,t2⟩
 ·by_cases e:j=k
  ·subst e;exact⟨t1,hcj.2⟩
  ·have:=hx.co k (by omega) hgk;rw[hat k hk,if_neg e]at this;exact this
 ·have:=hx.ro i hi hgi;rw[cl]at this;exact this
theorem u7{j:Nat}{lo hi:Bo}:∀k,k<w.aa.length→(gt (cD w j (bg (gt w.aa j) lo hi)).aa k).cost=(gt w.aa k).cost:=fun k hk=>by
 show(gt (w.aa.set _ _) k).cost=_;rw[dM hk];split
 ·rename_i e;subst e;rfl
 ·rfl
theorem Lb(S:Ae n m w){i:Nat}(hi:i<m)(hg:gt w.gr i=false):Bk w (jA w i).2:=by
 have nr:=S.nr;have nc:=S.nc;have ngr:=S.gr;unfold jA;simp only[];split
 ·rename_i h;obtain⟨t1,t2,t3, -⟩:=cW (S.te i hi) 0 (by omega);have hlv:=S.lv i hi hg 0 (by omega);have hl:(gt (gt w.rows i).ab 0).aq.toNat<w.aa.length:=by omega
  generalize ht:gt (gt w.rows i).ab 0=t at *;refine Bk.of rfl (by show(w.aa.set _ _).length=_;simp) rfl rfl u7 fun x hx=>?_;have hx1:∀k,k<w.rows.length→k≠i→gt w.gr k=false→ix (AO w.aa.length x (gt w.rows k)) (gt w.rows k).low (gt w.rows k).high=true:=fun k hk e hgk=>by
   have:=hx.ro k hk (sQ (l:=w.gr) (by omega) hgk e);rw[show(fh (cD w t.aq.toNat (bg (gt w.aa t.aq.toNat) (ck zB (gt w.rows i).low (gt w.rows i).high (1 / t.num)).lo (ck zB (gt w.rows i).low (gt w.rows i).high (1 / t.num)).hi)) i).aa.length=w.aa.length by show(w.aa.set _ _).length=_;simp]at this;exact this
  have hat:∀(j:Nat) (c:df) k,k<w.aa.length→gt (w.aa.set j c) k=if j=k then c else gt w.aa k:=fun j c k hk=>dM hk;have hcj:=hx.co t.aq.toNat (by show _<(w.aa.set _ _).length;simpa using hl) hlv;have hcj:ix (gt x t.aq.toNat) (gt (w.aa.set t.aq.toNat (bg (gt w.aa t.aq.toNat) (ck zB (gt w.rows i).low (gt w.rows i).high (1 / t.num)).lo (ck zB (gt w.rows i).low (gt w.rows i).high (1 / t.num)).hi)) t.aq.toNat).low (gt (w.aa.set t.aq.toNat (bg (gt w.aa t.aq.toNat) (ck zB (gt w.rows i).low (gt w.rows i).high (1 / t.num)).lo (ck zB (gt w.rows i).low (gt w.rows i).high (1 / t.num)).hi)) t.aq.toNat).high=true∧((gt (w.aa.set t.aq.toNat (bg (gt w.aa t.aq.toNat) (ck zB (gt w.rows i).low (gt w.rows i).high (1 / t.num)).lo (ck zB (gt w.rows i).low (gt w.rows i).high (1 / t.num)).hi)) t.aq.toNat).whole=true→(gt x t.aq.toNat).den=1):=hcj;rw[hat _ _ _ hl,if_pos rfl]at hcj;obtain⟨u1,u2⟩:=qJ hcj.1;have u3:=EB (z:=t.num*gt x t.aq.toNat) (a:=0) (r:=1 / t.num) (low:=(gt w.rows i).low) (high:=(gt w.rows i).high) (q:=gt x t.aq.toNat) (by
   intro e;have:t.num*(1 / t.num)=1:=by grind
   rw[e]at this;grind) u2 (by grind)
  refine⟨by have:=hx.n;rw[this];show(w.aa.set _ _).length=_;simp,fun k hk hgk=>?_,fun k hk hgk=>?_⟩
  ·by_cases e:t.aq.toNat=k
   ·subst e;exact⟨u1,hcj.2⟩
   ·have:=hx.co k (by show _<(w.aa.set _ _).length;simpa using hk) hgk;have:ix (gt x k) (gt (w.aa.set t.aq.toNat (bg (gt w.aa t.aq.toNat) (ck zB (gt w.rows i).low (gt w.rows i).high (1 / t.num)).lo (ck zB (gt w.rows i).low (gt w.rows i).high (1 / t.num)).hi)) k).low (gt (w.aa.set t.aq.toNat (bg (gt w.aa t.aq.toNat) (ck zB (gt w.rows i).low (gt w.rows i).high (1 / t.num)).lo (ck zB (gt w.rows i).low (gt w.rows i).high (1 / t.num)).hi)) k).high=true∧((gt (w.aa.set t.aq.toNat (bg (gt w.aa t.aq.toNat) (ck zB (gt w.rows i).low (gt w.rows i).high (1 / t.num)).lo (ck zB (gt w.rows i).low (gt w.rows i).high (1 / t.num)).hi)) k).whole=true→(gt x k).den=1):=this;rw[hat _ _ _ hk,if_neg e]at this;exact this
  ·by_cases e:k=i
   ·subst e;rw[Ir h (by rw[ht];omega),ht];exact u3
   ·exact hx1 k hk e hgk
 ·exact Bk.refl w
theorem Kb(S:Ae n m w){j:Nat}(hj:j<n)(hg:gt w.gc j=false)(hq:(o3 w j).2.no=false):Bk w (o3 w j).2:=by
 unfold o3 at hq ⊢;simp only[]at hq ⊢;split
 ·rename_i h;rw[if_pos h]at hq;split
  ·rename_i h2;rw[if_pos h2]at hq;cases hq
  ·rename_i h2;refine⟨[⟨j,(gt w.aa j).low.at',[]⟩],rfl,fun x hx=>?_⟩;have e:(gt w.aa j).low.at'+dY (mZ [] x) [] ([]:List Term).length=(gt w.aa j).low.at':=by show _+0=_;grind
   refine vh S hj hg (by simp) (fun t q=>by simp at q) hx ?_;rw[e];simp only[alike,amS,decide_eq_true_eq]at h;refine⟨dA.2 ⟨fun _=>aoZ,fun _=>by rw[h.2];exact aoZ⟩,fun hw=>?_⟩;by_cases q:(gt w.aa j).low.at'.den=1
   ·exact q
   ·exact absurd ⟨hw,q⟩ h2
 ·exact Bk.refl w
theorem LZ{mx:Bool}{c:df}(hc:aH c.low c.high=false)(hb:(dt mx c).has=true):ix (dt mx c).at' c.low c.high=true:=by
 have hcr:c.low.has=true→c.high.has=true→c.low.at'≤c.high.at':=fun h1 h2=>by
  simp only[aH,h1,h2,apc,apd,decide_eq_false_iff_not]at hc;exact aoX.1 hc
 have hlow:c.low.has=true→ix c.low.at' c.low c.high=true:=fun h=>dA.2 ⟨fun _=>aoZ,fun h2=>hcr h h2⟩;have hhigh:c.high.has=true→ix c.high.at' c.low c.high=true:=fun h=>dA.2 ⟨fun h2=>hcr h2 h,fun _=>aoZ⟩;unfold dt at hb ⊢;simp only[]at hb ⊢;by_cases h1:qj mx c.cost<0∨(qj mx c.cost=0∧c.low.has=false)
 ·rw[if_pos h1]at hb ⊢;by_cases h2:qj mx c.cost=0∧c.high.has=false
  ·rw[if_pos h2];have hl:c.low.has=false:=by
    rcases h1 with h1 | h1
    ·omega
    ·exact h1.2
   exact dA.2 ⟨fun h=>(by rw[hl]at h;cases h),fun h=>(by rw[h2.2]at h;cases h)⟩
  ·rw[if_neg h2]at hb ⊢;exact hhigh hb
 ·rw[if_neg h1]at hb ⊢;by_cases h2:qj mx c.cost=0∧c.low.has=false
  ·exact absurd (.inr h2) h1
  ·rw[if_neg h2]at hb ⊢;exact hlow hb
theorem O7{q:Rat}(h:¬q<(q.ceil:Rat)):q.den=1:=by
 have:(q.ceil:Rat)=q:=by
  have:=@ao6 q;grind
 rw[←this];rfl
theorem Oa{q:Rat}(h:¬(q.floor:Rat)<q):q.den=1:=by
 have:(q.floor:Rat)=q:=by
  have:=ao7 q;grind
 rw[←this];rfl
theorem I1{mx:Bool}{c:df}(hw:c.whole=true)(hb:(dt mx (bg c c.low c.high)).has=true):(dt mx (bg c c.low c.high)).at'.den=1:=by
 have hlow:(bg c c.low c.high).low.has=true→(bg c c.low c.high).low.at'.den=1:=fun h=>by
  have h:(lA c c.low).has=true:=h;show(lA c c.low).at'.den=1;unfold lA yd at h ⊢;rw[if_pos hw]at h ⊢;split
  ·rfl
  ·rename_i q;rw[if_neg q]at h;exact O7 fun q'=>q ⟨h,fun _=>q'⟩
 have hhigh:(bg c c.low c.high).high.has=true→(bg c c.low c.high).high.at'.den=1:=fun h=>by
  have h:(lY c c.high).has=true:=h;show(lY c c.high).at'.den=1;unfold lY AA at h ⊢;rw[if_pos hw]at h ⊢;split
  ·rfl
  ·rename_i q;rw[if_neg q]at h;exact Oa fun q'=>q ⟨h,fun _=>q'⟩
 generalize bg c c.low c.high=c' at *;unfold dt at hb ⊢;simp only[]at hb ⊢;by_cases h1:qj mx c'.cost<0∨(qj mx c'.cost=0∧c'.low.has=false)
 ·rw[if_pos h1]at hb ⊢;by_cases h2:qj mx c'.cost=0∧c'.high.has=false
  ·rw[if_pos h2];rfl
  ·rw[if_neg h2]at hb ⊢;exact hhigh hb
 ·rw[if_neg h1]at hb ⊢;by_cases h2:qj mx c'.cost=0∧c'.low.has=false
  ·rw[if_pos h2];rfl
  ·rw[if_neg h2]at hb ⊢;exact hlow hb
theorem KR{mx:Bool}(S:Ae n m w){j:Nat}(hj:j<n)(hg:gt w.gc j=false)(hq:(iq mx w j).2.no=false):Bk w (iq mx w j).2:=by
 have nc:=S.nc;unfold iq at hq ⊢;split
 ·exact Bk.refl w
 ·rename_i h0;rw[if_neg h0]at hq;simp only[]at hq ⊢;obtain⟨c,ec⟩:∃c,(if(gt w.aa j).whole=true then bg (gt w.aa j) (gt w.aa j).low (gt w.aa j).high else gt w.aa j)=c:=⟨_,rfl⟩;rw[ec]at hq ⊢;have hjc:j<w.aa.length:=by omega
  have b1:Bk w (cD w j c):=by
   rw[←ec];split
   ·exact Bk.of rfl (by show(w.aa.set _ _).length=_;simp) rfl rfl u7 fun x hx=>(EW hjc hg hx).1
   ·have:cD w j (gt w.aa j)=w:=by
     unfold cD;rw[show w.aa.set j (gt w.aa j)=w.aa by rw[←bR hjc];simp]
    rw[this];exact Bk.refl w
  have hwc:c.whole=(gt w.aa j).whole:=by rw[←ec];split<;>rfl
  by_cases hc:aH c.low c.high=true
  ·rw[if_pos hc]at hq;cases hq
  ·rw[if_neg hc];have hc':aH c.low c.high=false:=by simpa using hc
   by_cases hb:(dt mx c).has=true
   ·rw[if_pos hb];refine b1.trans ⟨[⟨j,(dt mx c).at',[]⟩],rfl,fun x hx=>?_⟩;have e:(dt mx c).at'+dY (mZ [] x) [] ([]:List Term).length=(dt mx c).at':=by show _+0=_;grind
    have hat:gt (cD w j c).aa j=c:=by show gt (w.aa.set j c) j=c;rw[dM hjc,if_pos rfl]
    refine vh (pq S j c) hj hg (by simp) (fun t q=>by simp at q) hx ?_;rw[e,hat];refine⟨LZ hc' hb,fun hw=>?_⟩;rw[hwc]at hw;rw[if_pos hw]at ec;rw[←ec]at hb ⊢;exact I1 hw hb
   ·rw[if_neg hb];exact b1
end
end Go.Ps
namespace Go.Ps
open Go Go.Tb Go.Ut Go.Li Go.Proofs
section
variable {n m:Nat} {w:Wk}
theorem Au{cs:List df}{ts:List Term}{x:List Rat}(h:∀k,k<ts.length→ix (gt x (gt ts k).aq.toNat) (gt cs (gt ts k).aq.toNat).low (gt cs (gt ts k).aq.toNat).high=true):∀k,k≤ts.length→F7 (bK cs ts k) (dY x ts k)
 | 0,_=>⟨fun _=>aoZ,fun _=>aoZ⟩
 | k+1,hk=>by
  have:=sc (r:=(gt ts k).num) (Au h k (by omega)) (h k (by omega));have e:dY x ts (k+1)=dY x ts k+gt x (gt ts k).aq.toNat*(gt ts k).num:=by simp only[dY];grind
  rw[e];exact this
def J6(least:Bool)(cs:List df)(t:Term):Bo:=if decide (0<t.num)=least then(gt cs t.aq.toNat).low else(gt cs t.aq.toNat).high
def xh(least:Bool)(s:Sp):Bo:=if least=true then s.lo else s.hi
theorem Bh{least:Bool}{cs:List df}{ts:List Term}{x:List Rat}(hz:∀k,k<ts.length→(gt ts k).num≠0)
  (h:∀k,k<ts.length→(J6 least cs (gt ts k)).has=true→gt x (gt ts k).aq.toNat=(J6 least cs (gt ts k)).at'):∀k,k≤ts.length→(xh least (bK cs ts k)).has=true →
  dY x ts k=(xh least (bK cs ts k)).at'∧∀i,i<k→(J6 least cs (gt ts i)).has=true
 | 0,_,_=>⟨by cases least<;>rfl,fun i hi=>by omega⟩
 | k+1,hk,hh=>by
  have h0:=hz k (by omega);have step:xh least (bK cs ts (k+1))=bV (xh least (bK cs ts k)) (J6 least cs (gt ts k)) (gt ts k).num:=by
   show xh least (ck (bK cs ts k) (gt cs (gt ts k).aq.toNat).low (gt cs (gt ts k).aq.toNat).high (gt ts k).num)=_;unfold ck xh J6;rw[if_neg h0];by_cases hn:(gt ts k).num<0
   ·have hp:¬0<(gt ts k).num:=by grind
    rw[if_pos hn];cases least<;>simp[hp]
   ·have hp:0<(gt ts k).num:=by grind
    rw[if_neg hn];cases least<;>simp[hp]
  rw[step]at hh ⊢;obtain⟨g1,g2,g3⟩:=nz hh;obtain⟨ih1,ih2⟩:=Bh hz h k (by omega) g1;refine⟨?_,fun i hi=>?_⟩
  ·rw[g3,←ih1];simp only[dY];rw[h k (by omega) g2];grind
  ·by_cases e:i=k
   ·subst e;exact g2
   ·exact ih2 i (by omega)
theorem Bw{least:Bool}{cs:List df}{ts:List Term}(hb:fB n (-1) ts=false)(hn:cs.length=n):∀k,k≤ts.length→∀j,j<n →
  gt (bN least ts cs k) j=if ∃i,i<k∧(gt ts i).aq.toNat=j then(if ∃i,i<k∧(gt ts i).aq.toNat=j∧decide (0<(gt ts i).num)=least then⟨(gt cs j).name,(gt cs j).whole,(gt cs j).low,(gt cs j).low,(gt cs j).cost⟩ else⟨(gt cs j).name,(gt cs j).whole,(gt cs j).high,(gt cs j).high,(gt cs j).cost⟩) else gt cs j
 | 0,_,j,_=>by
  rw[if_neg (by rintro⟨i,hi, -⟩;omega)];rfl
 | k+1,hk,j,hj=>by
  have ih:=Bw (least:=least) hb hn k (by omega);obtain⟨c1,c2,c3,c4⟩:=cW hb k (by omega);have hd:∀i,i<k→(gt ts i).aq.toNat≠(gt ts k).aq.toNat:=fun i hi=>by
   have:=c4 i hi;have:=(cW hb i (by omega)).1;omega
  have fl:=ji least ts cs k;show gt ((bN least ts cs k).set (gt ts k).aq.toNat _) j=_;rw[dM (by omega)];by_cases e:(gt ts k).aq.toNat=j
  ·rw[if_pos e,if_pos (⟨k,by omega,e⟩:∃i,i<k+1∧(gt ts i).aq.toNat=j)];have e0:gt (bN least ts cs k) (gt ts k).aq.toNat=gt cs (gt ts k).aq.toNat:=by
    rw[ih _ (by omega),if_neg];rintro⟨i,hi,q⟩;exact hd i hi q
   rw[e0,e];by_cases q:decide (0<(gt ts k).num)=least
   ·rw[if_pos q,if_pos (⟨k,by omega,e,q⟩:∃i,i<k+1∧(gt ts i).aq.toNat=j∧decide (0<(gt ts i).num)=least)]
   ·have no:¬∃i,i<k+1∧(gt ts i).aq.toNat=j∧decide (0<(gt ts i).num)=least:=by
     rintro⟨i,hi,q1,q2⟩;by_cases ei:i=k
     ·subst ei;exact q q2
     ·exact hd i (by omega) (by rw[q1,e])
    rw[if_neg q,if_neg no]
  ·rw[if_neg e,ih j hj];have x1:(∃i,i<k∧(gt ts i).aq.toNat=j)↔(∃i,i<k+1∧(gt ts i).aq.toNat=j):=⟨fun⟨i,a,b⟩=>⟨i,by omega,b⟩,fun⟨i,a,b⟩=>⟨i,by
    by_cases ei:i=k
    ·subst ei;exact absurd b e
    ·omega,b⟩⟩
   have x2:(∃i,i<k∧(gt ts i).aq.toNat=j∧decide (0<(gt ts i).num)=least)↔(∃i,i<k+1∧(gt ts i).aq.toNat=j∧decide (0<(gt ts i).num)=least):=⟨fun⟨i,a,b⟩=>⟨i,by omega,b⟩,fun⟨i,a,b⟩=>⟨i,by
    by_cases ei:i=k
    ·subst ei;exact absurd b.1 e
    ·omega,b⟩⟩
   by_cases q1:∃i,i<k∧(gt ts i).aq.toNat=j
   ·rw[if_pos q1,if_pos (x1.1 q1)];by_cases q2:∃i,i<k∧(gt ts i).aq.toNat=j∧decide (0<(gt ts i).num)=least
    ·rw[if_pos q2,if_pos (x2.1 q2)]
    ·rw[if_neg q2,if_neg fun q=>q2 (x2.2 q)]
   ·rw[if_neg q1,if_neg fun q=>q1 (x1.2 q)]
theorem qf{a b:Bo}(h:aH a b=false)(ha:a.has=true)(hb:b.has=true):a.at'≤b.at':=by
 simp only[aH,ha,hb,apc,apd,decide_eq_false_iff_not]at h;exact aoX.1 h
theorem uj{x:List Rat}{r:Row}(hb:fB n (-1) r.ab=false):AO n x r=dY x r.ab r.ab.length:=uL hb x
theorem GK(S:Ae n m w)(N:NC w){i:Nat}(hi:i<m)(hg:gt w.gr i=false)(hq:(gC w i).2.no=false):Bk w (gC w i).2:=by
 have nr:=S.nr;have nc:=S.nc;have ngr:=S.gr;have hbt:=S.te i hi;have hlv:=S.lv i hi hg;have hzn:∀k,k<(gt w.rows i).ab.length→(gt (gt w.rows i).ab k).num≠0:=fun k hk=>(cW hbt k hk).2.2.1;have hcl:∀k,k<(gt w.rows i).ab.length→(gt (gt w.rows i).ab k).aq.toNat<w.aa.length:=fun k hk=>by
  have:=cW hbt k hk;omega
 have hrow:=N.r i (by omega) hg;unfold gC at hq ⊢;simp only[]at hq ⊢;generalize hr:gt w.rows i=r at *;split
 ·rename_i h;rw[if_pos h]at hq;cases hq
 ·rename_i h;rw[if_neg h]at hq;split
  ·rename_i h2;obtain⟨least,hls⟩:∃b,alike (bK w.aa r.ab r.ab.length).lo r.high=b:=⟨_,rfl⟩;rw[hls]at h2 ⊢;have hend:alike (xh least (bK w.aa r.ab r.ab.length)) (if least=true then r.high else r.low)=true:=by
    unfold xh;cases least with
    | true=>simpa using hls
    | false=>simpa using h2
   have hh:(xh least (bK w.aa r.ab r.ab.length)).has=true∧(if least=true then r.high else r.low).has=true∧(xh least (bK w.aa r.ab r.ab.length)).at'=(if least=true then r.high else r.low).at':=by
    simp only[alike,amS,decide_eq_true_eq]at hend;exact⟨hend.1.1,hend.1.2,hend.2⟩
   have fl:=ji least r.ab w.aa r.ab.length;have fat:=Bw (least:=least) hbt nc r.ab.length (Nat.le_refl _);refine Bk.of rfl fl rfl rfl (fun j hj=>?_) fun x hx=>?_
   ·show(gt (bN least r.ab w.aa r.ab.length) j).cost=_;rw[fat j (by omega)];split
    ·split<;>rfl
    ·rfl
   have hxl:x.length=w.aa.length:=by rw[hx.n];exact fl
   have hcf:∀j,j<n→gt w.gc j=false→ix (gt x j) (gt (bN least r.ab w.aa r.ab.length) j).low (gt (bN least r.ab w.aa r.ab.length) j).high=true∧((gt (bN least r.ab w.aa r.ab.length) j).whole=true→(gt x j).den=1):=fun j hj hgj=>hx.co j (by show j<(bN least r.ab w.aa r.ab.length).length;omega) hgj
   -- where a term's column stands
   have hst:∀k,k<r.ab.length→(J6 least w.aa (gt r.ab k)).has=true→gt x (gt r.ab k).aq.toNat=(J6 least w.aa (gt r.ab k)).at':=fun k hk hb=>by
    have hc:=hcl k hk;have h1:=(hcf _ (by omega) (hlv k hk)).1;rw[fat _ (by omega),if_pos ⟨k,hk,rfl⟩]at h1;have uq:∀i',i'<r.ab.length→(gt r.ab i').aq.toNat=(gt r.ab k).aq.toNat→i'=k:=fun i' hi' e=>by
     have a1:=cW hbt i' hi';have a2:=cW hbt k hk;rcases Nat.lt_trichotomy i' k with q | q | q
     ·have:=a2.2.2.2 i' q;omega
     ·exact q
     ·have:=a1.2.2.2 k q;omega
    unfold J6 at hb ⊢;by_cases q:decide (0<(gt r.ab k).num)=least
    ·rw[if_pos ⟨k,hk,rfl,q⟩]at h1;rw[if_pos q]at hb ⊢;obtain⟨a1,a2⟩:=dA.1 h1;exact ao8 (a2 hb) (a1 hb)
    ·rw[if_neg (by rintro⟨i',hi',e,q'⟩;rw[uq i' hi' e]at q';exact q q')]at h1;rw[if_neg q]at hb ⊢;obtain⟨a1,a2⟩:=dA.1 h1;exact ao8 (a2 hb) (a1 hb)
   obtain⟨sm,hasb⟩:=Bh hzn hst r.ab.length (Nat.le_refl _) hh.1;refine⟨hxl,fun j hj hgj=>?_,fun k hk hgk=>?_⟩
   ·have h1:=hcf j (by omega) hgj;rw[fat j (by omega)]at h1;by_cases q:∃i',i'<r.ab.length∧(gt r.ab i').aq.toNat=j
    ·rw[if_pos q]at h1;obtain⟨k,hk,ek⟩:=q;have hb:=hasb k hk;have hs:=hst k hk hb;rw[ek]at hs;have hcr:=N.c j hj hgj;have hw:((gt w.aa j).whole=true→(gt x j).den=1):=by
      have:=h1.2;split at this<;>exact this
     refine⟨?_,hw⟩;unfold J6 at hb hs;rw[ek]at hb hs;by_cases q2:decide (0<(gt r.ab k).num)=least
     ·rw[if_pos q2]at hb hs;exact dA.2 ⟨fun _=>by rw[hs];exact aoZ,fun h2=>by rw[hs];exact qf hcr hb h2⟩
     ·rw[if_neg q2]at hb hs;exact dA.2 ⟨fun h2=>by rw[hs];exact qf hcr h2 hb,fun _=>by rw[hs];exact aoZ⟩
    ·rw[if_neg q]at h1;exact h1
   ·by_cases e:k=i
    ·subst e;rw[hr,nc,uj hbt,sm,hh.2.2];cases least with
     | true =>
      have:=hh.2.1;simp only[if_true]at this ⊢;exact dA.2 ⟨fun h2=>qf hrow h2 this,fun _=>aoZ⟩
     | false =>
      have:=hh.2.1;simp only[Bool.false_eq_true,if_false]at this ⊢;exact dA.2 ⟨fun _=>aoZ,fun h2=>qf hrow this h2⟩
    ·have:=hx.ro k hk (sQ (l:=w.gr) (by omega) hgk e);have:ix (AO (bN least r.ab w.aa r.ab.length).length x (gt w.rows k)) (gt w.rows k).low (gt w.rows k).high=true:=this;rw[fl]at this;exact this
  ·split
   ·rename_i h3;refine Bk.of rfl rfl rfl rfl (fun _ _=>rfl) fun x hx=>⟨hx.n,hx.co,fun k hk hgk=>?_⟩
    by_cases e:k=i
    ·subst e;have hin:=Au (cs:=w.aa) (ts:=r.ab) (x:=x) (fun k hk=>(hx.co _ (hcl k hk) (hlv k hk)).1) r.ab.length (Nat.le_refl _);rw[hr,nc,uj hbt];obtain⟨g1,g2⟩:=h3;simp only[Ce,BX,Bool.or_eq_true,Bool.not_eq_true',amS,decide_eq_true_eq]at g1 g2;refine dA.2 ⟨fun hl=>?_,fun hl=>?_⟩
     ·rcases g1 with g1 | g1
      ·rw[g1]at hl;cases hl
      ·exact ao9 g1.2 (hin.1 g1.1)
     ·rcases g2 with g2 | g2
      ·rw[g2]at hl;cases hl
      ·exact ao9 (hin.2 g2.1) g2.2
    ·exact hx.ro k hk (sQ (l:=w.gr) (by omega) hgk e)
   ·exact Bk.refl w
end
end Go.Ps
namespace Go.Ps
open Go Go.Tb Go.Ut Go.Li Go.Proofs
section
variable {n m:Nat} {w:Wk}
theorem Kj(S:Ae n m w){i:Nat}(hi:i<m)(hg:gt w.gr i=false):Bk w (iB w i).2:=by
 have nr:=S.nr;have nc:=S.nc;have ngr:=S.gr;have hbt:=S.te i hi;unfold iB;simp only[];split
 ·rename_i hc;obtain⟨hl,hal,hw1,hw2⟩:=hc;obtain⟨a0,a1,a2, -⟩:=cW hbt 0 (by omega);obtain⟨b0,b1,b2,b4⟩:=cW hbt 1 (by omega);have hab:=b4 0 (by omega);have hla:=S.lv i hi hg 0 (by omega);have hlb:=S.lv i hi hg 1 (by omega);have hsum:∀X:List Rat,AO n X (gt w.rows i)=(gt (gt w.rows i).ab 0).num*gt X (gt (gt w.rows i).ab 0).aq.toNat+(gt (gt w.rows i).ab 1).num*gt X (gt (gt w.rows i).ab 1).aq.toNat:=fun X=>by
   rw[uj hbt,hl];simp only[dY];grind
  generalize gt (gt w.rows i).ab 0=a at *;generalize gt (gt w.rows i).ab 1=b at *;obtain⟨e9,hby⟩:∃q, -(a.num / b.num)=q:=⟨_,rfl⟩;obtain⟨to,hto⟩:∃q,(gt w.rows i).low.at' / b.num=q:=⟨_,rfl⟩;rw[hby,hto];have by0:e9≠0:=fun e=>a2 (by
   have h2:=apa (a:=a.num) b2;have:a.num / b.num=0:=by grind
   rw[this,apb]at h2;exact h2.symm)
  have e1:e9*b.num = -a.num:=by
   have h2:=apa (a:=a.num) b2;grind
  have e2:to*b.num=(gt w.rows i).low.at':=by rw[←hto];exact apa b2
  have e3:(1 / e9)*e9=1:=apa by0;obtain⟨iv',hiv⟩:∃q,1 / e9=q:=⟨_,rfl⟩;rw[hiv]at e3 ⊢;have iv0:iv'≠0:=fun e=>by rw[e,apb]at e3;exact absurd e3 (by decide)
  obtain⟨c2,hc2⟩:∃c,bg (gt w.aa a.aq.toNat) (ck ⟨⟨true, -(to*iv')⟩,⟨true, -(to*iv')⟩⟩ (gt w.aa b.aq.toNat).low (gt w.aa b.aq.toNat).high iv').lo (ck ⟨⟨true, -(to*iv')⟩,⟨true, -(to*iv')⟩⟩ (gt w.aa b.aq.toNat).low (gt w.aa b.aq.toNat).high iv').hi=c:=⟨_,rfl⟩;rw[hc2];have cc:c2.cost=(gt w.aa a.aq.toNat).cost:=by rw[←hc2];rfl
  have cw:c2.whole=(gt w.aa a.aq.toNat).whole:=by rw[←hc2];rfl
  have hja:a.aq.toNat<w.aa.length:=by omega
  have hjb:b.aq.toNat<w.aa.length:=by omega
  have hne:a.aq.toNat≠b.aq.toNat:=by omega
  have hat:∀k,k<w.aa.length→gt (w.aa.set a.aq.toNat c2) k=if a.aq.toNat=k then c2 else gt w.aa k:=fun k hk=>dM hk;refine⟨[⟨b.aq.toNat,to,[⟨a.aq,e9⟩]⟩],rfl,fun x hx=>?_⟩;have hsm:dY x [(⟨a.aq,e9⟩:Term)] ([⟨a.aq,e9⟩]:List Term).length=e9*gt x a.aq.toNat:=by
   show 0+e9*gt x a.aq.toNat=_;grind
  have xl:x.length=n:=by
   rw[hx.n];show(fH (w.aa.set _ _) _ _).length=n;rw[jI];simp[nc]
  -- the first column, as it stands behind
  have hca:=hx.co a.aq.toNat (by show _<(fH (w.aa.set _ _) _ _).length;rw[jI];simpa using hja) (sQ (l:=w.gc) (by rw[S.gc];omega) hla hne);obtain⟨p1,p2,p3, -⟩:=ub (gt (w.aa.set a.aq.toNat c2) b.aq.toNat).cost [(⟨a.aq,e9⟩:Term)] (w.aa.set a.aq.toNat c2) a.aq.toNat (by simpa using hja);rw[hat _ hja,if_pos rfl]at p1 p2;have hca:ix (gt x a.aq.toNat) (gt (fH (w.aa.set a.aq.toNat c2) (gt (w.aa.set a.aq.toNat c2) b.aq.toNat).cost [(⟨a.aq,e9⟩:Term)]) a.aq.toNat).low (gt (fH (w.aa.set a.aq.toNat c2) (gt (w.aa.set a.aq.toNat c2) b.aq.toNat).cost [(⟨a.aq,e9⟩:Term)]) a.aq.toNat).high=true:=hca.1;rw[p1,p2,←hc2]at hca;obtain⟨t1,t2⟩:=qJ hca;have t3:=EB (z:=to+e9*gt x a.aq.toNat) iv0 t2 (by grind);have pb:=vh (x:=x) (j:=b.aq.toNat) (a:=to) (ts:=[⟨a.aq,e9⟩]) (w6 (pq S a.aq.toNat c2) i) (by omega) hlb (by simp) (fun t q=>by
   have:t=⟨a.aq,e9⟩:=by simpa using q
   subst this;exact⟨by show 0≤a.aq;omega,by show a.aq.toNat<n;omega,hla,hne⟩) hx (by
   rw[hsm];have:gt (fh (cD w a.aq.toNat c2) i).aa b.aq.toNat=gt w.aa b.aq.toNat:=by
    show gt (w.aa.set a.aq.toNat c2) b.aq.toNat=_;rw[hat _ hjb,if_neg hne]
   rw[this];exact⟨t3,fun h=>by rw[hw2]at h;cases h⟩)
  have hbk:mZ [⟨b.aq.toNat,to,[⟨a.aq,e9⟩]⟩] x=m9 ⟨b.aq.toNat,to,[⟨a.aq,e9⟩]⟩ x:=rfl;rw[hbk];have hgx:∀k,gt (m9 ⟨b.aq.toNat,to,[⟨a.aq,e9⟩]⟩ x) k=if k=b.aq.toNat then to+e9*gt x a.aq.toNat else gt x k:=fun k=>by
   unfold m9;simp only[hsm];exact qT (by omega)
  obtain⟨sX,vX⟩:=pb;generalize m9 ⟨b.aq.toNat,to,[⟨a.aq,e9⟩]⟩ x=X at *;refine⟨⟨by rw[sX.n];show(w.aa.set _ _).length=_;simp,fun k hk hgk=>?_,fun k hk hgk=>?_⟩,?_⟩
  ·have h:=sX.co k (by show k<(w.aa.set _ _).length;simpa using hk) hgk;have h:ix (gt X k) (gt (w.aa.set a.aq.toNat c2) k).low (gt (w.aa.set a.aq.toNat c2) k).high=true∧((gt (w.aa.set a.aq.toNat c2) k).whole=true→(gt X k).den=1):=h;rw[hat k hk]at h;by_cases e:a.aq.toNat=k
   ·subst e;rw[if_pos rfl,cw]at h;rw[←hc2]at h;exact⟨(qJ h.1).1,h.2⟩
   ·rw[if_neg e]at h;exact h
  ·by_cases e:k=i
   ·subst e;rw[nc,hsum X,hgx,hgx,if_neg hne,if_pos rfl];have:a.num*gt x a.aq.toNat+b.num*(to+e9*gt x a.aq.toNat)=(gt w.rows k).low.at':=by
     rw[←e2];grind
    rw[this];simp only[alike,amS,decide_eq_true_eq]at hal;exact dA.2 ⟨fun _=>aoZ,fun _=>by rw[hal.2];exact aoZ⟩
   ·have:=sX.ro k hk (sQ (l:=w.gr) (by omega) hgk e);have:ix (AO (w.aa.set a.aq.toNat c2).length X (gt w.rows k)) (gt w.rows k).low (gt w.rows k).high=true:=this;rw[List.length_set]at this;exact this
  ·rw[←vX];unfold uP;show w.sh+_=w.sh+bP (fun j=>if gt w.gc j=true then 0 else gt X j*(gt (w.aa.set a.aq.toNat c2) j).cost) (w.aa.set a.aq.toNat c2).length;rw[List.length_set];congr 1;exact dj fun j hj=>by
    rw[hat j hj];by_cases e:a.aq.toNat=j
    ·subst e;rw[if_pos rfl,cc]
    ·rw[if_neg e]
 ·exact Bk.refl w
end
section
variable {n m u:Nat} {mx:Bool}
theorem kX{d:Wk→Nat→Bool × Wk}{g:Wk→List Bool}{N:Nat}(hD:∀w i,aW n m u w→w.no=false→i<N→gt (g w) i=false→rT n m u w (d w i))
  (hd:∀w i,NC w→aW n m u w→w.no=false→i<N→gt (g w) i=false→(d w i).2.no=false→Bk w (d w i).2∧((d w i).1=false→NC (d w i).2)) :
  ∀k i w,NC w→aW n m u w→w.no=false→i+k=N→(bH d g k i w).2.no=false→Bk w (bH d g k i w).2∧((bH d g k i w).1=false→NC (bH d g k i w).2)
 | 0,_,w,hN,_,_,_,_=>⟨Bk.refl w,fun _=>hN⟩
 | k+1,i,w,hN,G,hn,hk,hq=>by
  unfold bH at hq ⊢;by_cases hg:gt (g w) i=true
  ·rw[if_pos hg]at hq ⊢;exact kX hD hd k (i+1) w hN G hn (by omega) hq
  ·rw[if_neg hg]at hq ⊢;have hg':gt (g w) i=false:=by simpa using hg
   have D:=hD w i G hn (by omega) hg';by_cases h1:(d w i).1=true
   ·rw[if_pos h1]at hq ⊢;exact hd w i hN G hn (by omega) hg' hq
   ·rw[if_neg h1]at hq ⊢;have h1':(d w i).1=false:=by simpa using h1
    have nn:=(D.Ci h1').1;obtain⟨b1,b2⟩:=hd w i hN G hn (by omega) hg' nn;obtain⟨c1,c2⟩:=kX hD hd k (i+1) _ (b2 h1') D.lW nn (by omega) hq;exact⟨b1.trans c1,c2⟩
theorem uw{f:Wk→Nat→Bool}{g:Wk→List Bool}:∀k i w,w.no=false→(bH (fun w i=>(f w i,eD w (f w i))) g k i w).2.no=false →
  bH (fun w i=>(f w i,eD w (f w i))) g k i w=(false,w)∧∀j,i≤j→j<i+k→gt (g w) j=false→f w j=false
 | 0,i,w,_,_=>⟨rfl,fun j h1 h2=>by omega⟩
 | k+1,i,w,hn,hq=>by
  have es:eD w false=w:=by unfold eD;rw[←hn]
  unfold bH at hq ⊢;by_cases hg:gt (g w) i=true
  ·rw[if_pos hg]at hq ⊢;obtain⟨a,b⟩:=uw k (i+1) w hn hq;refine⟨a,fun j h1 h2 h3=>?_⟩;by_cases e:j=i
   ·subst e;rw[hg]at h3;cases h3
   ·exact b j (by omega) (by omega) h3
  ·rw[if_neg hg]at hq ⊢;by_cases h1:f w i=true
   ·rw[if_pos h1]at hq;rw[show(f w i,eD w (f w i)).2.no=f w i from rfl,h1]at hq;cases hq
   ·have h1':f w i=false:=by simpa using h1
    rw[if_neg h1]at hq ⊢;simp only[h1',es]at hq ⊢;obtain⟨a,b⟩:=uw k (i+1) w hn hq;refine⟨a,fun j h1 h2 h3=>?_⟩;by_cases e:j=i
    ·subst e;exact h1'
    ·exact b j (by omega) (by omega) h3
theorem LX(hu:8≤u){w:Wk}(N:NC w)(G:aW n m u w)(hn:w.no=false)(k:Nat)(hk:2≤k)(hq:(gW mx w k).2.no=false):Bk w (gW mx w k).2∧((gW mx w k).1=false→NC (gW mx w k).2):=by
 have nc:=G.S.nc;have nr:=G.S.nr;unfold gW at hq ⊢;split at hq
 ·omega
 ·refine kX (N:=w.rows.length) (fun w i g h1 h2 h3=>qQ g h1 (by omega) h3) (fun w i N g h1 h2 h3 h4=>⟨JV g.S (by omega) h4,fun h=>?_⟩) _ _ w N G hn (by omega) hq;unfold iF at h ⊢;split at h
  ·cases h
  ·rename_i q;rw[if_neg q];exact N
 ·refine kX (N:=w.rows.length) (fun w i g h1 h2 h3=>qS hu g h1 (by omega) h3) (fun w i N g h1 h2 h3 h4=>⟨Lb g.S (by omega) h3,fun h=>?_⟩) _ _ w N G hn (by omega) hq;unfold jA at h ⊢;simp only[]at h ⊢;split at h
  ·cases h
  ·rename_i q;rw[if_neg q];exact N
 ·refine kX (N:=w.aa.length) (fun w i g h1 h2 h3=>rk hu g h1 (by omega) h3) (fun w i N g h1 h2 h3 h4=>⟨Kb g.S (by omega) h3 h4,fun h=>?_⟩) _ _ w N G hn (by omega) hq;unfold o3 at h ⊢;simp only[]at h ⊢;split at h
  ·split at h<;>cases h
  ·rename_i q;rw[if_neg q];exact N
 ·refine kX (N:=w.aa.length) (fun w i g h1 h2 h3=>rp hu g h1 (by omega) h3) (fun w i N g h1 h2 h3 h4=>⟨KR g.S (by omega) h3 h4,fun h=>?_⟩) _ _ w N G hn (by omega) hq;have gl:=g.S.nc;unfold iq at h ⊢;split at h
  ·rename_i q;rw[if_pos q];exact N
  ·rename_i q;rw[if_neg q];simp only[]at h ⊢;generalize (if(gt w.aa i).whole=true then bg (gt w.aa i) (gt w.aa i).low (gt w.aa i).high else gt w.aa i)=c at *;by_cases hc:aH c.low c.high=true
   ·rw[if_pos hc]at h;cases h
   ·rw[if_neg hc]at h ⊢;by_cases hb:(dt mx c).has=true
    ·rw[if_pos hb]at h;cases h
    ·rw[if_neg hb];refine⟨fun j hj hg=>?_,N.r⟩;have hj:j<w.aa.length:=by have:j<(w.aa.set i c).length:=hj;simpa using this
     show aH (gt (w.aa.set i c) j).low (gt (w.aa.set i c) j).high=false;rw[dM hj];split
     ·simpa using hc
     ·exact N.c j hj hg
 ·refine kX (N:=w.rows.length) (fun w i g h1 h2 h3=>oZ g h1 (by omega) h3) (fun w i N g h1 h2 h3 h4=>⟨GK g.S N (by omega) h3 h4,fun h=>?_⟩) _ _ w N G hn (by omega) hq;unfold gC at h ⊢;simp only[]at h ⊢;split at h
  ·cases h
  ·rename_i q1;rw[if_neg q1];split at h
   ·cases h
   ·rename_i q2;rw[if_neg q2];split at h
    ·cases h
    ·rename_i q3;rw[if_neg q3];exact N
 ·refine kX (N:=w.rows.length) (fun w i g h1 h2 h3=>rv hu g h1 (by omega) h3) (fun w i N g h1 h2 h3 h4=>⟨Kj g.S (by omega) h3,fun h=>?_⟩) _ _ w N G hn (by omega) hq;unfold iB at h ⊢;simp only[]at h ⊢;split at h
  ·cases h
  ·rename_i q;rw[if_neg q];exact N
theorem Jj{w:Wk}(hn:w.no=false)(hq:(gW mx w 1).2.no=false):gW mx w 1=(false,w)∧NC w:=by
 have e:gW mx w 1=wO (bH uf Wk.gc w.aa.length 0 w) (fun w=>bH Ps.yP Wk.gr w.rows.length 0 w):=rfl;rw[e]at hq ⊢;have h1:(bH uf Wk.gc w.aa.length 0 w).2.no=false:=by
  unfold wO at hq;split at hq
  ·exact hq
  ·rename_i q;cases h:(bH uf Wk.gc w.aa.length 0 w).2.no with
   | false=>rfl
   | true =>
    exfalso
    -- a scan that ends without a find leaves all as it is
    have key:∀k i w,w.no=false→(bH uf Wk.gc k i w).1=false→(bH uf Wk.gc k i w).2.no=false:=fun k=>by
     induction k with
     | zero=>intro i w hn _;exact hn
     | succ k ih =>
      intro i w hn hf;unfold bH at hf ⊢;split
      ·rename_i g;rw[if_pos g]at hf;exact ih _ _ hn hf
      ·rename_i g;rw[if_neg g]at hf;split
       ·rename_i c;rw[if_pos c]at hf;rw[hf]at c;cases c
       ·rename_i c;rw[if_neg c]at hf;exact ih _ _ (by show aH _ _=false;simpa[uf]using c) hf
    rw[key _ _ w hn (by simpa using q)]at h;cases h
 obtain⟨a1,a2⟩:=uw (f:=fun w j=>aH (gt w.aa j).low (gt w.aa j).high) (g:=Wk.gc) w.aa.length 0 w hn h1;have a1:bH uf Wk.gc w.aa.length 0 w=(false,w):=a1;rw[a1]at hq ⊢;have hq:(bH Ps.yP Wk.gr w.rows.length 0 w).2.no=false:=hq;obtain⟨b1,b2⟩:=uw (f:=fun w j=>aH (gt w.rows j).low (gt w.rows j).high) (g:=Wk.gr) w.rows.length 0 w hn hq;exact⟨b1,fun j hj hg=>a2 j (by omega) (by omega) hg,fun j hj hg=>b2 j (by omega) (by omega) hg⟩
theorem uC(hu:8≤u){w:Wk}(G:aW n m u w)(hn:w.no=false):∀k,(eo mx w k).2.no=false→Bk w (eo mx w k).2∧((eo mx w k).1=false→1≤k→NC (eo mx w k).2)
 | 0,_=>⟨Bk.refl w,fun _ h=>by omega⟩
 | k+1,hq=>by
  have D:=rO (mx:=mx) hu G hn k;have e:eo mx w (k+1)=wO (eo mx w k) fun w=>gW mx w (k+1):=rfl;rw[e]at hq ⊢;by_cases h1:(eo mx w k).1=true
  ·rw[uF h1]at hq ⊢;exact⟨(uC hu G hn k hq).1,fun h=>by rw[h1]at h;cases h⟩
  ·have h1':(eo mx w k).1=false:=by simpa using h1
   rw[kM h1']at hq ⊢;have nn:=(D.Ci h1').1;obtain⟨b1,b2⟩:=uC hu G hn k nn;by_cases hk:k=0
   ·subst hk;obtain⟨c1,c2⟩:=Jj (mx:=mx) nn hq;rw[c1];exact⟨b1,fun _ _=>c2⟩
   ·obtain⟨c1,c2⟩:=LX hu (b2 h1' (by omega)) D.lW nn (k+1) (by omega) hq;exact⟨b1.trans c1,fun h _=>c2 h⟩
theorem N5{w z:Wk}(h:BM mx w z)(hz:z.no=false):w.no=false:=by
 cases h with
 | no q=>rw[hz]at q;cases q
 | last q=>exact q
 | step q=>exact q
theorem OL(hu:8≤u){w z:Wk}(h:BM mx w z):aW n m u w→z.no=false→Bk w z:=by
 induction h with
 | no q=>intro _ hz;rw[hz]at q;cases q
 | last q q1=>intro G hz;exact(uC hu G q 7 hz).1
 | step q q1 q2 ih =>
  intro G hz;exact(uC hu G q 7 (N5 q2 hz)).1.trans (ih (nF hu G q).lW hz)
end
end Go.Ps


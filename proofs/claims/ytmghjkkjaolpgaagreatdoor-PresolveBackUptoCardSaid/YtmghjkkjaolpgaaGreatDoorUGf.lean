/- A text of the prover's own. -/
import Derived.Test.YtmghjkkjaolpgaaGreatDoorUGd
import Derived.Test.YtmghjkkjaolpgaaGreatDoorUIw
import Derived.Test.YtmghjkkjaolpgaaGreatDoorUEe
open List renaming replicate→alZ,getElem_append_left→apl,getElem_append_right→apm,length_cons→al4
open Bool renaming and_eq_true→amS
namespace Go.Ps
open Go Go.Tb Go.Ut Go.Li Go.Proofs
def dN(n:Nat)(ks:List Nat)(y:List Rat):Nat→List Rat
 | 0=>alZ n 0
 | k+1=>(dN n ks y k).set (gt ks k) (gt y k)
theorem jn(n:Nat)(ks:List Nat)(y:List Rat):∀k,(dN n ks y k).length=n
 | 0=>by simp[dN]
 | k+1=>by simp[dN,jn n ks y k]
theorem rD(g:List Bool):∀{j k:Nat},k<(aB g j).length→gt (aB g j) k<j∧gt g (gt (aB g j) k)=false∧(aB g (gt (aB g j) k)).length=k
 | 0,k,h=>by simp[aB]at h
 | j+1,k,h=>by
  by_cases hg:gt g j=true
  ·rw[rH hg]at h ⊢;obtain⟨a,b,c⟩:=rD g h;exact⟨by omega,b,c⟩
  ·rw[p8 (by simpa using hg)]at h ⊢;by_cases q:k<(aB g j).length
   ·have e:gt (aB g j++[j]) k=gt (aB g j) k:=by
     rw[←bR h,apl q,bR q]
    rw[e];obtain⟨a,b,c⟩:=rD g q;exact⟨by omega,b,c⟩
   ·have hk:k=(aB g j).length:=by simp at h;omega
    have e:gt (aB g j++[j]) k=j:=by
     rw[←bR h,apm (by omega)];simp[hk]
    rw[e];exact⟨by omega,by simpa using hg,hk.symm⟩
theorem mc(g:List Bool){c:Nat}(hg:gt g c=false):∀{j:Nat},c<j→(aB g c).length<(aB g j).length∧gt (aB g j) (aB g c).length=c
 | 0,h=>by omega
 | j+1,h=>by
  by_cases e:c=j
  ·subst e;have ek:aB g (c+1)=aB g c++[c]:=p8 hg;rw[ek];refine⟨by simp,?_⟩;rw[←bR (by simp),apm (by omega)];simp
  ·obtain⟨a,b⟩:=mc g hg (j:=j) (by omega);by_cases hj:gt g j=true
   ·rw[rH hj];exact⟨a,b⟩
   ·rw[p8 (by simpa using hj)];refine⟨by simp;omega,?_⟩;rw[←bR (by simp;omega),apl a,bR a,b]
theorem zI{n:Nat}{g:List Bool}{y:List Rat}:∀{k:Nat},k≤(aB g n).length→∀c,c<n→gt (dN n (aB g n) y k) c=if gt g c=false∧(aB g c).length<k then gt y (aB g c).length else 0
 | 0,_,c,hc=>by
  rw[if_neg (by omega)];show gt (alZ n (0:Rat)) c=0;rw[←bR (by simpa using hc)];simp
 | k+1,hk,c,hc=>by
  have ih:=zI (n:=n) (g:=g) (y:=y) (k:=k) (by omega) c hc;obtain⟨a1,a2,a3⟩:=rD g (show k<(aB g n).length by omega);show gt ((dN n (aB g n) y k).set (gt (aB g n) k) (gt y k)) c=_;rw[qT (by rw[jn];omega),ih];by_cases e:c=gt (aB g n) k
  ·rw[if_pos e,if_pos]
   ·rw[e,a3]
   ·rw[e,a3];exact⟨a2,by omega⟩
  ·rw[if_neg e];by_cases q:gt g c=false∧(aB g c).length<k
   ·rw[if_pos q,if_pos ⟨q.1,by omega⟩]
   ·rw[if_neg q,if_neg];rintro⟨q1,q2⟩;have:(aB g c).length=k:=by
     rcases Nat.lt_or_ge (aB g c).length k with h | h
     ·exact absurd ⟨q1,h⟩ q
     ·omega
    have:=(mc g q1 hc).2;rw[‹(aB g c).length=k›]at this;exact e this.symm
theorem A8{w:Wk}{j k:Nat}(h:k<(dD w j).length):gt (dD w j) k=gt w.aa (gt (aB w.gc j) k):=by
 unfold dD;rw[dL _ (by rw[gj]at h;exact h)]
theorem ya{w:Wk}{i:Nat}(hg:gt w.gr i=false):∀{m:Nat},i<m→∃k,k<(cO w m).length∧gt (cO w m) k=ic w (gt w.rows i)
 | 0,h=>by omega
 | m+1,h=>by
  by_cases e:i=m
  ·subst e;have er:cO w (i+1)=cO w i++[ic w (gt w.rows i)]:=by show(if _ then _ else _)=_;rw[if_neg (by simp[hg])]
   rw[er];refine⟨(cO w i).length,by simp,?_⟩;rw[←bR (by simp),apm (by omega)];simp
  ·obtain⟨k,a,b⟩:=ya hg (m:=m) (by omega);unfold cO;split
   ·exact⟨k,a,b⟩
   ·refine⟨k,by simp;omega,?_⟩;rw[←bR (by simp;omega),apl a,bR a,b]
theorem xS{w:Wk}{r:Row}{y x:List Rat}(h:∀k,k<r.ab.length→gt w.gc (gt r.ab k).aq.toNat=false∧gt x (gt r.ab k).aq.toNat=gt y (aB w.gc (gt r.ab k).aq.toNat).length):∀k,k≤r.ab.length→dY y (ic w r).ab k=dY x r.ab k
 | 0,_=>rfl
 | k+1,hk=>by
  obtain⟨h1,h2⟩:=h k (by omega);have e:gt (ic w r).ab k=⟨((aB w.gc (gt r.ab k).aq.toNat).length:Nat),(gt r.ab k).num⟩:=by
   unfold ic;rw[dL _ (by omega),if_neg (by simp[h1])]
  simp only[dY];rw[xS h k (by omega),e,h2];simp
section
variable {n m:Nat} {z:Wk} {y:List Rat} {mx:Bool}
theorem Di{p:aO}{x:List Rat}(h:dq p x true=true){j:Nat}(hj:j<p.aa.length):ix (gt x j) (gt p.aa j).low (gt p.aa j).high=true∧((gt p.aa j).whole=true→(gt x j).den=1):=by
 unfold dq at h;simp only[amS,List.all_eq_true,List.mem_range]at h;have:=h.1 j hj;unfold tR at this;simp only[amS,Bool.not_eq_true',Bool.true_and,Bool.and_eq_false_iff,decide_eq_false_iff_not,Bool.not_eq_false']at this;refine⟨this.1,fun hw=>?_⟩;rcases this.2 with q | q
 ·rw[hw]at q;cases q
 ·simpa using q
theorem HW(S:Ae n m z)(hh:dq (bM mx z) y true=true):Sat z (dN n (aB z.gc n) y (aB z.gc n).length):=by
 have nc:=S.nc;have nr:=S.nr;have fat:=fun c hc=>zI (n:=n) (g:=z.gc) (y:=y) (Nat.le_refl _) c hc;have fl:∀c,c<n→gt z.gc c=false→gt (dN n (aB z.gc n) y (aB z.gc n).length) c=gt y (aB z.gc c).length:=fun c hc hg=>by
  rw[fat c hc,if_pos ⟨hg,(mc z.gc hg hc).1⟩]
 refine⟨by rw[jn,nc],fun j hj hg=>?_,fun i hi hg=>?_⟩
 ·obtain⟨k1,k2⟩:=mc z.gc hg (j:=z.aa.length) hj;rw[fl j (by omega) hg];have hl:(aB z.gc j).length<(bM mx z).aa.length:=by show _<(dD z z.aa.length).length;rw[gj];exact k1
  have h:=Di hh hl;have e:gt (bM mx z).aa (aB z.gc j).length=gt z.aa j:=by
   show gt (dD z z.aa.length) _=_;rw[A8 (by rw[gj];exact k1),k2]
  rw[e]at h;exact h
 ·obtain⟨k,k1,k2⟩:=ya hg (m:=z.rows.length) hi;have h:=xP hh (i:=k) k1;have e:gt (bM mx z).rows k=ic z (gt z.rows i):=k2;unfold m5 at h;rw[e]at h;have hbt:=S.te i (by omega);have hlv:=S.lv i (by omega) hg;have hs:=xS (w:=z) (r:=gt z.rows i) (y:=y) (x:=dN n (aB z.gc n) y (aB z.gc n).length) (fun k hk=>⟨hlv k hk,fl _ (by have:=cW hbt k hk;omega) (hlv k hk)⟩) (gt z.rows i).ab.length (Nat.le_refl _);have el:(ic z (gt z.rows i)).ab.length=(gt z.rows i).ab.length:=by simp[ic]
  rw[el,hs]at h;rw[nc,uj hbt];exact h
theorem HU(S:Ae n m z):uP z (dN n (aB z.gc n) y (aB z.gc n).length)=kj (bM mx z) y (bM mx z).aa.length:=by
 have nc:=S.nc;have fat:=fun c hc=>zI (n:=n) (g:=z.gc) (y:=y) (Nat.le_refl _) c hc;have fl:∀c,c<n→gt z.gc c=false→gt (dN n (aB z.gc n) y (aB z.gc n).length) c=gt y (aB z.gc c).length:=fun c hc hg=>by
  rw[fat c hc,if_pos ⟨hg,(mc z.gc hg hc).1⟩]
 rw[qZ];unfold uP;show z.sh+_=z.sh+bP (fun k=>gt y k*(gt (dD z z.aa.length) k).cost) (dD z z.aa.length).length;congr 1;have key:∀j,j≤n→bP (fun k=>gt y k*(gt z.aa (gt (aB z.gc n) k)).cost) (aB z.gc j).length=bP (fun j=>if gt z.gc j=true then 0 else gt (dN n (aB z.gc n) y (aB z.gc n).length) j*(gt z.aa j).cost) j:=fun j=>by
  induction j with
  | zero=>intro _;rfl
  | succ j ih =>
   intro hj;have ih:=ih (by omega);by_cases hg:gt z.gc j=true
   ·rw[rH hg,ih];simp only[bP];rw[if_pos hg];grind
   ·have hg':gt z.gc j=false:=by simpa using hg
    rw[p8 hg',List.length_append];simp only[al4,List.length_nil,bP];rw[ih,if_neg hg,fl j (by omega) hg',(mc z.gc hg' (j:=n) (by omega)).2]
 rw[nc,gj,←key n (Nat.le_refl _)];exact dj fun k hk=>by
  rw[A8 (by rw[gj];exact hk)]
end
section
variable {p:aO} {X:List Rat}
theorem F0(hb:∀i,i<p.rows.length→fB p.aa.length (-1) (gt p.rows i).ab=false)(h:Sat (bI p) X):X.length=p.aa.length∧dq p X true=true:=by
 refine⟨h.n,?_⟩;unfold dq;rw[amS];refine⟨ua fun j hj=>?_,ua fun i hi=>?_⟩
 ·obtain⟨a,b⟩:=h.co j hj (rK _ _);unfold tR;have a:ix (gt X j) (gt p.aa j).low (gt p.aa j).high=true:=a;rw[a];by_cases hw:(gt p.aa j).whole=true
  ·have:=b hw;simp[this]
  ·simp[hw]
 ·have:=h.ro i hi (rK _ _);unfold A9;rw[←uL (hb i hi) X];exact this
theorem E5:uP (bI p) X=kj p X p.aa.length:=by
 rw[qZ];unfold uP;show p.shift+bP (fun j=>if gt (alZ p.aa.length false) j=true then 0 else gt X j*(gt p.aa j).cost) p.aa.length=_;congr 1;exact dj fun j _=>by rw[rK,if_neg (by simp)]
end
theorem Jf{n m u:Nat}{mx:Bool}{p:aO}{z:Wk}{y:List Rat}(hu:8≤u)(hb:∀i,i<p.rows.length→fB p.aa.length (-1) (gt p.rows i).ab=false)(hn:p.aa.length=n)(G:aW n m u (bI p))(Gz:aW n m u z)(hr:BM mx (bI p) z)(hz:z.no=false)
  (hh:dq (bM mx z) y true=true):dq p (mZ z.steps (dN n (aB z.gc n) y (aB z.gc n).length)) true=true∧kj p (mZ z.steps (dN n (aB z.gc n) y (aB z.gc n).length)) p.aa.length=kj (bM mx z) y (bM mx z).aa.length:=by
 obtain⟨l,e,f⟩:=OL hu hr G hz;have e':z.steps=l:=by rw[e];rfl
 obtain⟨s,v⟩:=f _ (HW Gz.S hh);rw[e'];exact⟨(F0 hb s).2,by rw[←E5,v,HU Gz.S]⟩
end Go.Ps
namespace Go.Proofs
open Go.Sv Go Go.Pl Go.Tb Go.Ut Go.Li
theorem CR{s:ByteArray}{a m:Nat}(ha:a≤s.size)(h:¬a+m<aw s a)(hm:m≤400):fw 100 (nv s a (aw s a - a):Nat):=by
 have h1:=fD s a;have:=rA (s:=s) (a:=a) (k:=aw s a - a) (fun i h1 h2=>cV h1 (by omega));exact EK (y:=((10^(aw s a - a):Nat):Int)) (by simp only[Int.natAbs_natCast];omega) (jN (by omega))
theorem xK{s:ByteArray}{N p e:Nat}(hN:fw 201 (N:Nat))(hp:p≤300):Proofs.qw 301 (cS s N p e).1:=by
 have hP:∀i,i≤400→fw 301 ((10^i:Nat):Int):=fun i hi=>cI (jN hi) (by omega);unfold cS;split
 ·split
  ·exact Proofs.bt (by omega)
  split
  ·exact Proofs.bt (by omega)
  split
  ·exact Proofs.bt (by omega)
  split
  ·exact Proofs.fi (kU (cI hN (by omega))) (hP _ (by omega)) (by omega)
  ·refine Proofs.fi (kU ?_) (hP _ (by omega)) (by omega);have:=fF hN (jN (i:=nv s (bQ s e) (s.size - bQ s e)) (by omega));exact cI (by simpa using this) (by omega)
 ·split
  ·exact Proofs.bt (by omega)
  ·exact Proofs.fi (kU (cI hN (by omega))) (hP _ (by omega)) (by omega)
theorem qW(s:ByteArray):Proofs.qw 301 (eH 300 s).1:=by
 have ha:=Pl.gY s;have hb:=dI (s:=s) (a:=ak s) ha;unfold eH;split
 ·exact Proofs.bt (by omega)
 rename_i h1;split
 ·exact Proofs.bt (by omega)
 have hT:=CR ha h1 (by omega);split
 ·rename_i g;split
  ·exact Proofs.bt (by omega)
  rename_i h2;split
  ·exact Proofs.bt (by omega)
  rename_i h3;split
  ·exact Proofs.bt (by omega)
  have hd:=CR g.1 h2 (by omega);have he:=dI (s:=s) (a:=aw s (ak s)+1) g.1;have:aw s (aw s (ak s)+1)=s.size:=by omega
  rw[this]at hd;exact Proofs.fi (kU (cI hT (by omega))) (cI hd (by omega)) (by omega)
 split
 ·rename_i g;split
  ·exact Proofs.bt (by omega)
  rename_i h2;split
  ·exact Proofs.bt (by omega)
  have hd:=CR g.1 h2 (by omega);have hl:=fD s (aw s (ak s)+1);refine xK ?_ (by omega);have:=sf (cI (fF hT (jN (i:=aw s (aw s (ak s)+1) - (aw s (ak s)+1)) (by omega))) (show 100+100≤200 by omega)) (cI hd (show 100≤200 by omega));exact cI (by simpa using this) (by omega)
 ·exact xK (cI hT (by omega)) (by omega)
theorem AS(l:List ByteArray):Wd 301 (cN l):=fun i hi=>by
 simp only[Ch]at hi;rw[Lz hi];exact qW _
end Go.Proofs
namespace Go.Ps
open Go Go.Tb Go.Ut Go.Li Go.Proofs Go.Sv Go.Pl
theorem zO(s:ByteArray):Proofs.qw 301 (jM s).at':=by
 unfold jM;split
 ·exact Ut.bt _ (by omega)
 ·exact qW _
structure Hj(B A:Nat)(p:aO):Prop where
 sh:qw B p.shift
 co:∀j,j<p.aa.length→qw B (gt p.aa j).cost∧qw B (gt p.aa j).low.at'∧qw B (gt p.aa j).high.at'
 ro:∀i,i<p.rows.length→qw B (gt p.rows i).low.at'∧qw B (gt p.rows i).high.at'
 te:∀i,i<p.rows.length→∀k,k<(gt p.rows i).ab.length→qw A (gt (gt p.rows i).ab k).num
theorem Ii(s:cR):Hj 301 301 (ch s) where
 sh:=qW _
 co:=fun j hj=>by
  have hj':j<s.aa.length:=by simpa[ch]using hj
  unfold ch;rw[dL _ hj'];exact⟨qW _,zO _,zO _⟩
 ro:=fun i hi=>by
  have hi':i<s.rows.length:=by simpa[ch]using hi
  unfold ch;rw[dL _ hi'];exact⟨zO _,zO _⟩
 te:=fun i hi k hk=>by
  have hi':i<s.rows.length:=by simpa[ch]using hi
  unfold ch at hk ⊢;rw[dL _ hi']at hk ⊢;simp only[rowOf,List.length_map]at hk ⊢;rw[dL _ hk];exact qW _
theorem sW(p:aO)(pw:Hj 301 301 p)(hv:∀i,i<p.rows.length→fB p.aa.length (-1) (gt p.rows i).ab=false)(hb:∀i,i<p.rows.length→nB (gt p.rows i).low∧nB (gt p.rows i).high):aW p.aa.length p.rows.length 304 (bI p):=by
 have c0:aD (bI p).gc=0:=rF _;have r0:aD (bI p).gr=0:=rF _;have eA:qA 304 0=301:=by decide
 have eB:qB 304 0 0=608:=by decide
 refine⟨⟨rfl,rfl,by simp[bI],by simp[bI],hv,hb,by simp[bI],fun i hi _ k hk=>rK _ _⟩,?_⟩;show Gk 304 (aD (bI p).gc) (aD (bI p).gr) (bI p);rw[c0,r0];refine⟨fun j hj=>?_,fun i hi=>?_,fun i hi k hk=>?_,?_,fun k hk=>by simp[bI]at hk⟩
 ·obtain⟨h1,h2,h3⟩:=pw.co j hj;rw[eB];exact⟨ah h2 (by omega),ah h3 (by omega),ah h1 (by omega)⟩
 ·obtain⟨h1,h2⟩:=pw.ro i hi;rw[eB];exact⟨ah h1 (by omega),ah h2 (by omega)⟩
 ·rw[eA];exact pw.te i hi k hk
 ·rw[eB];exact ah pw.sh (by omega)
def rS(n:Nat)(w:Wk):Prop:=∀s∈w.steps,s.aq<n∧∀t∈s.ab,0≤t.aq∧t.aq.toNat<n
theorem rS.put{n:Nat}{w:Wk}(h:rS n w){j:Nat}(hj:j<n)(a:Rat){ts:List Term}(ht:∀t∈ts,0≤t.aq∧t.aq.toNat<n):rS n (k8 w j a ts):=fun s hs=>by
 rcases List.mem_append.1 (show s∈w.steps++[⟨j,a,ts⟩] from hs)with hs | hs
 ·exact h s hs
 ·have:s=⟨j,a,ts⟩:=by simpa using hs
  subst this;exact⟨hj,ht⟩
section
variable {n m u:Nat} {mx:Bool}
theorem jU{d:Wk→Nat→Bool × Wk}{g:Wk→List Bool}{N:Nat}(hD:∀w i,aW n m u w→w.no=false→i<N→gt (g w) i=false→rT n m u w (d w i))
  (hd:∀w i,aW n m u w→w.no=false→i<N→gt (g w) i=false→rS n w→rS n (d w i).2):∀k i w,aW n m u w→w.no=false→i+k=N→rS n w→rS n (bH d g k i w).2
 | 0,_,_,_,_,_,h=>h
 | k+1,i,w,G,hn,hk,h=>by
  unfold bH;by_cases hg:gt (g w) i=true
  ·rw[if_pos hg];exact jU hD hd k (i+1) w G hn (by omega) h
  ·rw[if_neg hg];have hg':gt (g w) i=false:=by simpa using hg
   have D:=hD w i G hn (by omega) hg';by_cases h1:(d w i).1=true
   ·rw[if_pos h1];exact hd w i G hn (by omega) hg' h
   ·rw[if_neg h1];exact jU hD hd k (i+1) _ D.lW (D.Ci (by simpa using h1)).1 (by omega) (hd w i G hn (by omega) hg' h)
theorem JZ{w:Wk}{j:Nat}(hj:j<n)(h:rS n w):rS n (o3 w j).2:=by
 rw[Ji];split
 ·split
  ·exact h
  ·exact h.put hj _ (fun t q=>by simp at q)
 ·exact h
theorem J3{w:Wk}{j:Nat}(hj:j<n)(h:rS n w):rS n (iq mx w j).2:=by
 unfold iq;split
 ·exact h
 ·have h1:∀c,rS n (cD w j c):=fun c=>h;simp only[];generalize (if(gt w.aa j).whole=true then bg (gt w.aa j) (gt w.aa j).low (gt w.aa j).high else gt w.aa j)=c;split
  ·exact h
  ·split
   ·exact(h1 c).put hj _ (fun t q=>by simp at q)
   ·exact h
theorem LA{w:Wk}{i:Nat}(G:aW n m u w)(hi:i<m)(h:rS n w):rS n (iB w i).2:=by
 unfold iB;simp only[];split
 ·rename_i hc;obtain⟨a0,a1, -⟩:=fE G hi (k:=0) (by omega);obtain⟨-,b1, -⟩:=fE G hi (k:=1) (by omega);refine rS.put (w:=fh (cD w _ _) i) h b1 _ (fun t q=>?_);have:t=⟨(gt (gt w.rows i).ab 0).aq, -((gt (gt w.rows i).ab 0).num / (gt (gt w.rows i).ab 1).num)⟩:=by simpa using q
  subst this;exact⟨a0,a1⟩
 ·exact h
theorem LL(hu:8≤u){w:Wk}(G:aW n m u w)(hn:w.no=false)(h:rS n w)(k:Nat):rS n (gW mx w k).2:=by
 have nc:=G.S.nc;have nr:=G.S.nr;unfold gW;split
 ·unfold wO;have h1:=jU (d:=uf) (g:=Wk.gc) (N:=w.aa.length) (fun w i g _ _ _=>zY g) (fun w i _ _ _ _ h=>h) w.aa.length 0 w G hn (by omega) h;split
  ·exact h1
  ·have:∀k i w,rS n w→rS n (bH Ps.yP Wk.gr k i w).2:=fun k=>by
    induction k with
    | zero=>intro i w h;exact h
    | succ k ih =>
     intro i w h;unfold bH;split
     ·exact ih _ _ h
     ·split
      ·exact h
      ·exact ih _ _ h
   exact this _ _ _ h1
 ·refine jU (N:=w.rows.length) (fun w i g h1 h2 h3=>qQ g h1 (by omega) h3) (fun w i g _ _ _ h=>?_) _ _ w G hn (by omega) h;rw[Ns];split<;>exact h
 ·refine jU (N:=w.rows.length) (fun w i g h1 h2 h3=>qS hu g h1 (by omega) h3) (fun w i g _ _ _ h=>?_) _ _ w G hn (by omega) h;rw[Iy];split<;>exact h
 ·exact jU (N:=w.aa.length) (fun w i g h1 h2 h3=>rk hu g h1 (by omega) h3) (fun w i g _ h2 _ h=>JZ (by omega) h) _ _ w G hn (by omega) h
 ·exact jU (N:=w.aa.length) (fun w i g h1 h2 h3=>rp hu g h1 (by omega) h3) (fun w i g _ h2 _ h=>J3 (by omega) h) _ _ w G hn (by omega) h
 ·refine jU (N:=w.rows.length) (fun w i g h1 h2 h3=>oZ g h1 (by omega) h3) (fun w i g _ _ _ h=>?_) _ _ w G hn (by omega) h;rw[EC];split
  ·exact h
  ·split
   ·exact h
   ·split<;>exact h
 ·exact jU (N:=w.rows.length) (fun w i g h1 h2 h3=>rv hu g h1 (by omega) h3) (fun w i g _ h2 _ h=>LA g (by omega) h) _ _ w G hn (by omega) h
theorem zJ(hu:8≤u){w:Wk}(G:aW n m u w)(hn:w.no=false)(h:rS n w):∀k,rS n (eo mx w k).2
 | 0=>h
 | k+1=>by
  have D:=rO (mx:=mx) hu G hn k;have ih:=zJ hu G hn h k;show rS n (wO (eo mx w k) fun w=>gW mx w (k+1)).2;by_cases h1:(eo mx w k).1=true
  ·rw[uF h1];exact ih
  ·have h1':(eo mx w k).1=false:=by simpa using h1
   rw[kM h1'];exact LL hu D.lW (D.Ci h1').1 ih (k+1)
theorem GB(hu:8≤u){w z:Wk}(hr:BM mx w z):aW n m u w→rS n w→rS n z:=by
 induction hr with
 | no _=>exact fun _ h=>h
 | last q _=>exact fun G h=>zJ hu G q h 7
 | step q _ _ ih=>exact fun G h=>ih (nF hu G q).lW (zJ hu G q h 7)
end
theorem Nm{A B V n:Nat}(hV:1≤V):∀(l:List lU) (x:List Rat),Wd V x→x.length=n→(∀s∈l,qw B s.at'∧s.ab.length≤1∧s.aq<n∧∀t∈s.ab,qw A t.num∧0≤t.aq∧t.aq.toNat<n)→Wd (V+(A+B+3)*l.length) (mZ l x)
 | [],x,h,_,_=>fun i hi=>ah (h i hi) (by omega)
 | s::l,x,h,hn,hs=>by
  have ih:=Nm hV l x h hn fun t ht=>hs t (List.mem_cons_of_mem _ ht);obtain⟨h1,h2,h3,h4⟩:=hs s (by simp);intro i hi;simp only[mZ,m9]at hi ⊢;have hi':i<(mZ l x).length:=by simpa using hi
  have e:V+(A+B+3)*(s::l).length=V+(A+B+3)*l.length+(A+B+3):=by rw[al4,Nat.mul_succ];omega
  rw[e];have ihn:(mZ l x).length=n:=by rw[uD,hn]
  have ws:qw (A+(V+(A+B+3)*l.length)+1) (dY (mZ l x) s.ab s.ab.length):=by
   match ht:s.ab,h2 with
   | [],_=>exact Ut.bt _ (by omega)
   | [t],_ =>
    obtain⟨g1,g2,g3⟩:=h4 t (by rw[ht];simp);have w1:=ih t.aq.toNat (by omega);show qw _ (0+t.num*gt (mZ l x) t.aq.toNat);rw[Rat.zero_add];exact ah (bW g1 w1 (by omega)) (by omega)
  rw[qT (by omega)];split
  ·exact ah (jP h1 ws) (by omega)
  ·exact ah (ih i hi') (by omega)
end Go.Ps


/- A text of the prover's own. -/
import Derived.Test.YtmghjkkjaolpgaaGreatDoorUKb
import Derived.Test.YtmghjkkjaolpgaaGreatDoorULr
import Derived.Test.YtmghjkkjaolpgaaGreatDoorUKi
import Derived.Test.YtmghjkkjaolpgaaGreatDoorUKd
open List renaming map_cons→amc,sum_cons→aoU,length_map→anp,all_eq_false→aoV,take_length→anH,range→amP,mem_range→aoW,all_eq_true→am1
open Bool renaming and_eq_true→amS
open Rat renaming not_lt→aoX,mul_le_mul_of_nonneg_right→aoY,le_refl→aoZ
namespace Go.Tb
open Go Go.Sv Go.Pl Go.Proofs
def nZ:Pt:=.sl .str
theorem Jc(x:nZ.T):nZ.sv x=.ro ((x:List ByteArray).map cZ):=rfl
theorem zL{α:Type}{f:α→Nat}:∀{l:List α} {x:α},x∈l→f x≤(l.map f).sum
 | y::l,x,h=>by
  simp only[amc,aoU];rcases List.mem_cons.1 h with rfl | h
  ·omega
  ·have:=zL (f:=f) h;omega
theorem zu{α:Type}{f:α→Nat}(hf:∀x,1≤f x):∀{l:List α},l.length≤(l.map f).sum
 | []=>by simp
 | y::l=>by
  have:=zu hf (l:=l);have:=hf y;simp only[amc,aoU,List.length_cons];omega
theorem BO{x:nZ.T}(h:nZ.bk x≤1048576):JM (x:List ByteArray):=by
 have h':(List.map Pt.str.bk (x:List ByteArray)).sum+1≤1048576:=h;refine⟨?_,fun s hs=>?_⟩
 ·have:=zu (f:=Pt.str.bk) (fun y=>by show 1≤ByteArray.size y+1;omega) (l:=(x:List ByteArray));exact Nat.le_trans this (by omega)
 ·have:Pt.str.bk s≤_:=zL (f:=Pt.str.bk) hs;have e:Pt.str.bk s=s.size+1:=rfl;omega
end Go.Tb
set_option maxRecDepth 10000
namespace Go.Li
open Go Go.Sv Go.Pl Go.Proofs Go.Tb Go.Ut
theorem AD(p:aO):db p=0∨db p=2∨db p=7∨db p=4:=by
 unfold db;split
 ·exact .inr (.inl rfl)
 ·split
  ·exact .inr (.inr (.inl rfl))
  ·split
   ·exact .inr (.inr (.inr rfl))
   ·exact .inl rfl
theorem HM(p:aO)(h:db p≠0):0<db p∧db p≤10:=by
 rcases AD p with e | e | e | e<;>omega
theorem lC{p:aO}(h:db p=0):p.rows.length≤120∧p.aa.length≤120∧∀i,i<p.rows.length→fB p.aa.length (-1) (gt p.rows i).ab=false:=by
 unfold db at h;split at h
 ·cases h
 ·split at h
  ·cases h
  ·split at h
   ·cases h
   ·rename_i h1 h2 h3;refine⟨by omega,by omega,fun i hi=>?_⟩;cases hb:fB p.aa.length (-1) (gt p.rows i).ab with
    | false=>rfl
    | true=>exact absurd (zD hi hb) h3
theorem Hl{s:cR}(h:JT s):OA (ch s) where
 nc:=by simp[ch];exact h.nc
 nr:=by simp[ch];exact h.nr
 nt:=fun i hi=>by
  have hi':i<s.rows.length:=by simpa[ch]using hi
  unfold ch;rw[dL _ hi'];have h1:=(h.rows i hi').aa;have h2:=nQ (gt s.rows i);simp only[rowOf,anp];omega
theorem DR(s:ByteArray):qw 2200 (jM s).at':=by
 unfold jM;split
 ·exact bt _ (by omega)
 ·exact yS _
theorem Bs(s:cR):IX (ch s) where
 sh:=yS _
 co:=fun j hj=>by
  have hj':j<s.aa.length:=by simpa[ch]using hj
  unfold ch;rw[dL _ hj'];exact⟨yS _,DR _,DR _⟩
 ro:=fun i hi=>by
  have hi':i<s.rows.length:=by simpa[ch]using hi
  unfold ch;rw[dL _ hi'];exact⟨DR _,DR _⟩
 te:=fun i hi k hk=>by
  have hi':i<s.rows.length:=by simpa[ch]using hi
  unfold ch at hk ⊢;rw[dL _ hi']at hk ⊢;simp only[rowOf,anp]at hk ⊢;rw[dL _ hk];exact yS _
end Go.Li
namespace Go.Proofs
open Go.Sv Go Go.Tb Go.Pl Go.Ut Go.Li
/-! the second file of laws -/
theorem Dr{α:Type}[Inhabited α]{l:List α}{f:α→Bool}{i:Nat}(h:i<l.length)(hf:f (gt l i)=false):l.all f=false:=by
 rw[aoV];exact⟨_,dr h,by simp[hf]⟩
theorem wY{α:Type}[Inhabited α]{l:List α}{f:α→Bool}{i:Nat}(h:i<l.length)(ha:(l.take i).all f=true)(hf:f (gt l i)=true):(l.take (i+1)).all f=true:=by rw[ku _ h,ha,hf];rfl
def lp(l:List ByteArray):Bool:=decide (l.length≤40)&&l.all fun s=>decide (s.size≤24)
theorem mM(l:List ByteArray)(hl:l.length≤1048576)(hs:∀i,i<l.length→(gt l i).size≤1048576):aI Tryz.prog 21 [.ro (l.map cZ)] (.val (.bool (lp l))):=by
 refine aj Tryz.func21 rfl (by simp) (fun C hC=>?_);simp;refine⟨fun c=>by simp[lp];omega,fun c=>?_⟩;refine ae.cq (ι:=Nat) (fun i=>⟨19,[(0,.ro (l.map cZ)),(3,iv i)],[]⟩)
  (fun i=>i≤l.length∧(l.take i).all (fun s=>decide (s.size≤24))=true) (fun i=>l.length - i) 0 (by simp) ?_ ?_
 ·simp[ar,hC]
 ·rintro i ⟨hi,ha⟩;by_cases aF:i<l.length
  ·have:=hs i aF;simp(disch:=omega)[aF,iE,aP];repeat refine alR ?_
   refine⟨fun q=>?_,fun q=>⟨i+1,⟨by omega,?_⟩,by omega,Le.ct (by simp(disch:=omega)[ar,hC,aP])⟩⟩
   ·unfold lp;rw[Dr aF (by simp;omega)];simp
   ·simpa using wY aF ha (by simp;omega)
  ·obtain rfl:i=l.length:=by omega
   rw[anH]at ha;unfold lp;rw[ha];simp;omega
theorem x3{c:Nat}(hc:0<c)(hc':c≤10)(n:Int):wD Tryz.prog 9 [EL c,iv n] (fun x=>x=.val (.bool (decide ((c:Int)=n)))):=by
 refine nU Tryz.func9 rfl (by simp) (fun C hC hX hE=>?_);refine ae.go ?_;have cs:=Jq (j:=c - 1) (by omega);have e:EL c=.fp eM (gs (c - 1)):=by unfold EL;rw[if_neg (by omega)]
 rw[show c - 1+1=c by omega]at cs;rw[e];simp;refine DS cs hE hX (by simp) (fun x hx=>?_);subst hx;simp
def s0:ByteArray:=⟨#[48]⟩
def s1:ByteArray:=⟨#[49]⟩
def s2:ByteArray:=⟨#[50]⟩
def s3:ByteArray:=⟨#[51]⟩
def s4:ByteArray:=⟨#[52]⟩
def s5:ByteArray:=⟨#[53]⟩
def s6:ByteArray:=⟨#[54]⟩
def sx:ByteArray:=⟨#[120]⟩
def sy:ByteArray:=⟨#[121]⟩
def HT:ByteArray:=⟨#[111,110,101]⟩
def lZ:cR:=⟨true,s0,[⟨sx,false,s0,s4,s3⟩,⟨sy,false,s0,s4,s5⟩],[⟨HT,e0,s6,[0,1],[s1,s2]⟩]⟩
theorem Ja:aI Tryz.prog 6 [] (dv lZ):=by
 refine il Tryz.func6 rfl (by simp) (fun C hC=>?_);simp;refine⟨_,(Le.kE 3 rfl rfl).trans ((Le.kE 4 rfl rfl).trans ((Le.kE 2 rfl rfl).trans (Le.kE 5 rfl rfl))),?_⟩;simp[fg,aN,lZ,dv,iT,ib,s0,s1,s2,s3,s4,s5,s6,sx,sy,HT,e0];rfl
def shC(c:jc):Bool:=lp [c.low,c.high,c.cost]
def Oc(r:ia):Bool:=lp r.cN&&lp [r.low,r.high]&&decide (r.aa.length=r.cN.length)
def qg(s:cR):Bool:=decide (s.aa.length≤7)&&decide (s.rows.length≤7)&&decide (s.shift.size≤24)&&s.aa.all shC&&s.rows.all Oc
theorem D0(s:cR)(h:JT s):aI Tryz.prog 25 [dv s] (.val (.bool (qg s))):=by
 have nc:=h.nc;have nr:=h.nr;have ns:=h.shift;refine aj Tryz.func25 rfl (by simp) (fun C hC=>?_);simp;refine⟨fun c1=>⟨fun c2=>⟨fun c3=>by simp[qg];omega,fun c3=>?_⟩,fun c2=>by simp[qg];omega⟩,fun c1=>by simp[qg];omega⟩;refine ae.cq (ι:=Nat) (fun i=>⟨84,[(1,.ptr 0 0 0),(3,iv i)],[some ⟨4,[dv s],false⟩]⟩)
  (fun i=>i≤s.aa.length∧(s.aa.take i).all shC=true) (fun i=>s.aa.length - i) 0 (by simp) ?_ ?_
 ·simp[ar,hC]
 ·rintro i ⟨hi,ha⟩;by_cases aF:i<s.aa.length
  ·have hc:=h.aa i aF;simp(disch:=omega)[aF,oE];repeat refine alR ?_
   refine aZ (mM [(gt s.aa i).low,(gt s.aa i).high,(gt s.aa i).cost] (by simp) (fun k hk=>?_)) (by simp) ?_
   ·match k,hk with
    | 0,_=>exact hc.low
    | 1,_=>exact hc.high
    | 2,_=>exact hc.cost
   simp(disch:=omega)[aP];repeat refine alR ?_
   rw[show lp [(gt s.aa i).low,(gt s.aa i).high,(gt s.aa i).cost]=shC (gt s.aa i) from rfl];refine⟨fun hb=>?_,fun hb=>⟨i+1,⟨by omega,by simpa using wY aF ha hb⟩,by omega,Le.ct (by simp(disch:=omega)[ar,hC,aP])⟩⟩;unfold qg;rw[Dr aF hb];simp
  ·obtain rfl:i=s.aa.length:=by omega
   rw[anH]at ha;simp;refine ae.cq (ι:=Nat) (fun i=>⟨84,[(1,.ptr 0 0 0),(6,iv i)],[some ⟨4,[dv s],false⟩]⟩)
    (fun i=>i≤s.rows.length∧(s.rows.take i).all Oc=true) (fun i=>s.rows.length - i) 0 (by simp) ?_ ?_
   ·simp[ar,hC]
   ·rintro i ⟨hi,hb⟩;by_cases aF:i<s.rows.length
    ·have hr:=h.rows i aF;have no:=fun(q:Oc (gt s.rows i)=false)=>show qg s=false by unfold qg;rw[Dr aF q];simp
     simp(disch:=omega)[aF,oc];repeat refine alR ?_
     refine aZ (mM (gt s.rows i).cN hr.cN.n (fun k hk=>hr.cN.s _ (dr hk))) (by simp) ?_;simp;refine aZ (mM [(gt s.rows i).low,(gt s.rows i).high] (by simp) (fun k hk=>?_)) (by simp) ?_
     ·match k,hk with
      | 0,_=>exact hr.low
      | 1,_=>exact hr.high
     have:=hr.aa;have:=hr.cN.n;simp(disch:=omega)[aP];repeat refine alR ?_
     refine⟨fun q1=>⟨fun q2=>⟨fun q3=>no ?_,fun q3=>?_⟩,fun q2=>no ?_⟩,fun q1=>no ?_⟩
     ·unfold Oc;simp;omega
     ·refine⟨i+1,⟨by omega,?_⟩,by omega,Le.ct (by simp(disch:=omega)[ar,hC,aP])⟩;simpa using wY aF hb (by unfold Oc;simp[q1,q2];omega)
     ·unfold Oc;simp[q2]
     ·unfold Oc;simp[q1]
    ·obtain rfl:i=s.rows.length:=by omega
     rw[anH]at hb;simp[qg,ha,hb];omega
theorem E0(s:cR)(h:JT s)(hf:qg s=false):aI Tryz.prog 5 [dv s] (.bG [.val (.pointer none),.agg [.val (.bool false),.val (.bool false),.ro [],.val (.bool false),.ro [],.ro [],.ro []],.val (.bool false)]):=by
 have g:=D0 s h;rw[hf]at g;refine aj Tryz.func5 rfl (by simp) (fun C hC=>?_);simp;refine alT (g) ?_;simp
theorem Ef(s:cR)(h:JT s)(hf:qg s=true):aI Tryz.prog 5 [dv s] (.bG [.bU (cz (ch s)) 0,nC s,.val (.bool (JK s))]):=by
 have g:=D0 s h;rw[hf]at g;refine aj Tryz.func5 rfl (by simp) (fun C hC=>?_);simp;refine alT (g) ?_;simp;refine alT (HB s h) ?_;simp;refine alT (Bu s h) ?_;simp;refine ae.alS (.qs [0,1,2,3]<|.l 4 [1]<|.qs [5]<|.nil) ?_;simp
end Go.Proofs
namespace Go.Li
open Go Go.Sv Go.Pl Go.Proofs Go.Tb Go.Ut
theorem n0:num s0=0:=by decide +kernel
theorem n1:num s1=1:=by decide +kernel
theorem n2:num s2=2:=by decide +kernel
theorem n3:num s3=3:=by decide +kernel
theorem n4:num s4=4:=by decide +kernel
theorem n5:num s5=5:=by decide +kernel
theorem n6:num s6=6:=by decide +kernel
def P1:aO:=⟨true,0,[⟨sx,false,⟨true,0⟩,⟨true,4⟩,3⟩,⟨sy,false,⟨true,0⟩,⟨true,4⟩,5⟩],[⟨HT,[⟨0,1⟩,⟨1,2⟩],⟨false,0⟩,⟨true,6⟩⟩]⟩
theorem iY:ch lZ=P1:=by
 have e:∀s:ByteArray,iX s=false→jM s=⟨true,num s⟩:=fun s h=>by unfold jM;rw[h];rfl
 have e':jM e0=⟨false,0⟩:=rfl;simp[ch,lZ,P1,nL,rowOf,fM,pP,n0,n1,n2,n3,n4,n5,n6,e s0 (by decide),e s3 (by decide),e s4 (by decide),e s5 (by decide),e s6 (by decide),e']
theorem BN:JK lZ=true:=by decide +kernel
theorem Fk:qg lZ=true:=by decide +kernel
theorem kZ:db P1=0:=by unfold db;decide +kernel
theorem A6:JT lZ where
 shift:=by decide
 nc:=by decide
 nr:=by decide
 aa:=fun i hi=>by
  match i,hi with
  | 0,_=>exact⟨by decide,by decide,by decide,by decide⟩
  | 1,_=>exact⟨by decide,by decide,by decide,by decide⟩
 rows:=fun i hi=>by
  match i,hi with
  | 0,_=>exact⟨by decide,by decide,by decide,by decide,⟨by decide,fun x hx=>by
    have hx':x=s1∨x=s2:=by simpa[lZ,gt]using hx
    rcases hx' with e | e<;>rw[e]<;>decide⟩⟩
end Go.Li
namespace Go.Proofs
open Go.Sv Go Go.Tb Go.Pl Go.Ut Go.Li
end Go.Proofs
namespace Go.Li
open Go Go.Sv Go.Pl Go.Proofs Go.Tb Go.Ut
def dY(x:List Rat)(ts:List Term):Nat→Rat
 | 0=>0
 | k+1=>dY x ts k+(gt ts k).num*gt x (gt ts k).aq.toNat
def kj(p:aO)(x:List Rat):Nat→Rat
 | 0=>p.shift
 | j+1=>kj p x j+(gt p.aa j).cost*gt x j
def ix(q:Rat)(low high:Bo):Bool:=!(low.has&&decide (q<low.at'))&&!(high.has&&decide (high.at'<q))
def tR(p:aO)(x:List Rat)(whole:Bool)(j:Nat):Bool:=ix (gt x j) (gt p.aa j).low (gt p.aa j).high&&!(whole&&(gt p.aa j).whole&&!decide ((gt x j).den=1))
def A9(p:aO)(x:List Rat)(i:Nat):Bool:=ix (dY x (gt p.rows i).ab (gt p.rows i).ab.length) (gt p.rows i).low (gt p.rows i).high
def dq(p:aO)(x:List Rat)(whole:Bool):Bool:=(amP p.aa.length).all (tR p x whole)&&(amP p.rows.length).all (A9 p x)
theorem IZ{n i:Nat}{f:Nat→Bool}(h:i<n)(hf:f i=false):(amP n).all f=false:=by
 rw[aoV];exact⟨i,aoW.2 h,by simp[hf]⟩
theorem ua{n:Nat}{f:Nat→Bool}(h:∀i,i<n→f i=true):(amP n).all f=true:=by
 rw[am1];exact fun i hi=>h i (aoW.1 hi)
theorem stp{P:Nat→Prop}{i:Nat}(h:∀k,k<i→P k)(hi:P i):∀k,k<i+1→P k:=fun k hk=>by
 rcases Nat.lt_or_ge k i with h' | h'
 ·exact h k h'
 ·obtain rfl:k=i:=by omega
  exact hi
theorem E7{p:aO}{x:List Rat}{w:Bool}(h1:∀k,k<p.aa.length→tR p x w k=true)(h2:∀k,k<p.rows.length→A9 p x k=true):dq p x w=true:=by
 unfold dq;rw[ua h1,ua h2];rfl
theorem FT{p:aO}{x:List Rat}{w:Bool}{j:Nat}(hj:j<p.aa.length)(h:tR p x w j=false):dq p x w=false:=by unfold dq;rw[IZ hj h];rfl
theorem E2{p:aO}{x:List Rat}{w:Bool}{j:Nat}(hj:j<p.rows.length)(h:A9 p x j=false):dq p x w=false:=by unfold dq;rw[IZ hj h];simp
end Go.Li
namespace Go.Proofs
open Go.Sv Go Go.Tb Go.Pl Go.Ut Go.Li
theorem wP(q:Rat)(a b:Bo)(hq:dE q)(ha:dE a.at')(hb:dE b.at'):aI Tryz.prog 47 [cC q,iz a,iz b] (.val (.bool (ix q a b))):=by
 refine aj Tryz.func47 rfl (by simp) (fun C hC=>?_);simp;refine⟨fun h1=>?_,fun h1=>⟨fun h2=>?_,fun h2=>by simp[ix,h1,h2]⟩⟩
 ·rw[C5 h1];refine alT (LH q a.at' hq ha) ?_;simp;refine⟨fun q1=>by simp[ix,h1,q1],fun q1=>⟨fun h2=>?_,fun h2=>by simp[ix,h1,h2,q1]⟩⟩;rw[C5 h2];refine alT (LH q b.at' hq hb) ?_;simp;exact⟨fun q2=>by simp[ix,h1,h2,q1,q2],fun q2=>by simp[ix,h1,h2,q1,q2]⟩
 ·rw[C5 h2];refine alT (LH q b.at' hq hb) ?_;simp;exact⟨fun q2=>by simp[ix,h1,h2,q2],fun q2=>by simp[ix,h1,h2,q2]⟩
/-! the program's -/
end Go.Proofs
namespace Go.Li
open Go Go.Sv Go.Pl Go.Proofs Go.Tb Go.Ut
def bP(f:Nat→Rat):Nat→Rat
 | 0=>0
 | n+1=>bP f n+f n
theorem dj{f g:Nat→Rat}{n:Nat}(h:∀j,j<n→f j=g j):bP f n=bP g n:=by
 induction n with
 | zero=>rfl
 | succ n ih=>simp only[bP];rw[ih fun j hj=>h j (by omega),h n (by omega)]
theorem Hw{f g:Nat→Rat}{n:Nat}:bP (fun j=>f j - g j) n=bP f n - bP g n:=by
 induction n with
 | zero=>simp only[bP];grind
 | succ n ih=>simp only[bP];rw[ih];grind
theorem wE{f:Nat→Rat}{c:Rat}{n:Nat}:bP (fun j=>c*f j) n=c*bP f n:=by
 induction n with
 | zero=>simp[bP]
 | succ n ih=>simp only[bP];rw[ih];grind
theorem nJ{f g:Nat→Rat}{n:Nat}:bP (fun j=>f j+g j) n=bP f n+bP g n:=by
 induction n with
 | zero=>simp only[bP];grind
 | succ n ih=>simp only[bP];rw[ih];grind
theorem rL{c:Nat}{v:Rat}:∀{n:Nat},bP (fun j=>if j=c then v else 0) n=if c<n then v else 0
 | 0=>by simp[bP]
 | n+1=>by
  simp only[bP];rw[rL];by_cases h:n=c
  ·subst h;rw[if_neg (by omega),if_pos rfl,if_pos (by omega)];grind
  ·rw[if_neg h];by_cases h':c<n
   ·rw[if_pos h',if_pos (by omega)];grind
   ·rw[if_neg h',if_neg (by omega)];grind
theorem xv{n:Nat}{ts:List Term}(hb:fB n (-1) ts=false)(x:List Rat):∀k,k≤ts.length→bP (fun j=>gt x j*aS (ts.take k) j) n=dY x ts k
 | 0,_=>by
  have:bP (fun j=>gt x j*aS (ts.take 0) j) n=bP (fun _=>0) n:=dj fun j _=>by simp[aS]
  rw[this];have z:∀m,bP (fun _=>0) m=0:=fun m=>by
   induction m with
   | zero=>rfl
   | succ m ih=>simp only[bP];rw[ih];grind
  rw[z];rfl
 | k+1,hk=>by
  obtain⟨h1,h2,h3,h4⟩:=cW hb k (by omega);have ih:=xv hb x k (by omega);have e:∀j,j<n→gt x j*aS (ts.take (k+1)) j=gt x j*aS (ts.take k) j+if j=(gt ts k).aq.toNat then(gt ts k).num*gt x (gt ts k).aq.toNat else 0:=fun j hj=>by
   rw[fP (show k<ts.length by omega),rR];by_cases e:j=(gt ts k).aq.toNat
   ·have e':(gt ts k).aq=(j:Int):=by omega
    have hn:∀k',k'<(ts.take k).length→(gt (ts.take k) k').aq≠(j:Int):=fun k' hk'=>by
     simp only[List.length_take]at hk';have e2:gt (ts.take k) k'=gt ts k':=by
      rw[←bR (by simpa using hk'),List.getElem_take,bR (by omega)]
     have:=h4 k' (by omega);rw[e2];omega
    rw[if_pos e',if_pos hn,if_pos e,uz hn,e];grind
   ·have e':¬(gt ts k).aq=(j:Int):=by omega
    rw[if_neg e',if_neg e];grind
  rw[dj e,nJ,ih,rL,if_pos (by omega)];rfl
theorem uL{n:Nat}{ts:List Term}(hb:fB n (-1) ts=false)(x:List Rat):bP (fun j=>gt x j*aS ts j) n=dY x ts ts.length:=by
 have:=xv hb x ts.length (Nat.le_refl _)
 rwa [anH]at this
def m5(p:aO)(x:List Rat)(i:Nat):Rat:=dY x (gt p.rows i).ab (gt p.rows i).ab.length
theorem Tw{p:aO}(hb:∀i,i<p.rows.length→fB p.aa.length (-1) (gt p.rows i).ab=false)(x y:List Rat):∀i,i≤p.rows.length →
  bP (fun j=>gt x j*dP p y j i) p.aa.length=bP (fun j=>gt x j*(gt p.aa j).cost) p.aa.length - bP (fun k=>gt y k*m5 p x k) i
 | 0,_=>by simp only[bP,dP];grind
 | i+1,hi=>by
  have ih:=Tw hb x y i (by omega);have e:∀j,j<p.aa.length→gt x j*dP p y j (i+1)=gt x j*dP p y j i - gt y i*(gt x j*aS (gt p.rows i).ab j):=fun j _=>by simp only[dP];grind
  rw[dj e,Hw,wE,ih,uL (hb i (by omega)) x];simp only[bP,m5];grind
theorem qZ(p:aO)(x:List Rat):∀j,kj p x j=p.shift+bP (fun k=>gt x k*(gt p.aa k).cost) j
 | 0=>by simp only[kj,bP];grind
 | j+1=>by simp only[kj,bP];rw[qZ p x j];grind
/-! between two ends -/
def F7(s:Sp)(q:Rat):Prop:=(s.lo.has=true→s.lo.at'≤q)∧(s.hi.has=true→q≤s.hi.at')
theorem dA{q:Rat}{a b:Bo}:ix q a b=true↔(a.has=true→a.at'≤q)∧(b.has=true→q≤b.at'):=by
 unfold ix;simp only[amS,Bool.not_eq_true',Bool.and_eq_false_iff,decide_eq_false_iff_not,aoX];constructor
 ·rintro⟨h1,h2⟩;refine⟨fun h=>?_,fun h=>?_⟩
  ·rcases h1 with h1 | h1
   ·rw[h]at h1;cases h1
   ·exact h1
  ·rcases h2 with h2 | h2
   ·rw[h]at h2;cases h2
   ·exact h2
 ·rintro⟨h1,h2⟩;refine⟨?_,?_⟩
  ·by_cases h:a.has=true
   ·exact .inr (h1 h)
   ·exact .inl (by simpa using h)
  ·by_cases h:b.has=true
   ·exact .inr (h2 h)
   ·exact .inl (by simpa using h)
theorem nz{a b:Bo}{r:Rat}(h:(bV a b r).has=true):a.has=true∧b.has=true∧(bV a b r).at'=a.at'+b.at'*r:=by
 unfold bV at h ⊢;by_cases c:a.has=true∧b.has=true
 ·rw[if_pos c];exact⟨c.1,c.2,rfl⟩
 ·rw[if_neg c]at h;cases h
theorem sc{s:Sp}{q z r:Rat}{low high:Bo}(hs:F7 s q)(hz:ix z low high=true):F7 (ck s low high r) (q+z*r):=by
 obtain⟨z1,z2⟩:=dA.1 hz;unfold ck;by_cases h0:r=0
 ·rw[if_pos h0,h0];have:q+z*0=q:=by grind
  rwa [this]
 ·rw[if_neg h0];by_cases h1:r<0
  ·rw[if_pos h1];refine⟨fun h=>?_,fun h=>?_⟩
   ·obtain⟨g1,g2,g3⟩:=nz h;show(bV s.lo high r).at'≤_;rw[g3];have m:=aoY (z2 g2) (show 0 ≤ -r by grind);have:=hs.1 g1;grind
   ·obtain⟨g1,g2,g3⟩:=nz h;show _≤(bV s.hi low r).at';rw[g3];have m:=aoY (z1 g2) (show 0 ≤ -r by grind);have:=hs.2 g1;grind
  ·rw[if_neg h1];have hr:0≤r:=aoX.1 h1;refine⟨fun h=>?_,fun h=>?_⟩
   ·obtain⟨g1,g2,g3⟩:=nz h;show(bV s.lo low r).at'≤_;rw[g3];have m:=aoY (z1 g2) hr;have:=hs.1 g1;grind
   ·obtain⟨g1,g2,g3⟩:=nz h;show _≤(bV s.hi high r).at';rw[g3];have m:=aoY (z2 g2) hr;have:=hs.2 g1;grind
theorem Fp{p:aO}{x:List Rat}{w:Bool}(h:dq p x w=true){j:Nat}(hj:j<p.aa.length):ix (gt x j) (gt p.aa j).low (gt p.aa j).high=true:=by
 unfold dq at h;simp only[amS,am1,aoW]at h;have:=h.1 j hj;unfold tR at this;simp only[amS]at this;exact this.1
theorem xP{p:aO}{x:List Rat}{w:Bool}(h:dq p x w=true){i:Nat}(hi:i<p.rows.length):ix (m5 p x i) (gt p.rows i).low (gt p.rows i).high=true:=by
 unfold dq at h;simp only[amS,am1,aoW]at h;exact h.2 i hi
theorem H8{p:aO}{x:List Rat}(y:List Rat)(h:dq p x false=true):∀i,i≤p.rows.length→F7 (spR p y i) (p.shift+bP (fun k=>gt y k*m5 p x k) i)
 | 0,_=>by
  have e:p.shift+bP (fun k=>gt y k*m5 p x k) 0=p.shift:=by simp only[bP];grind
  rw[e];exact⟨fun _=>aoZ,fun _=>aoZ⟩
 | i+1,hi=>by
  have:=sc (r:=gt y i) (H8 y h i (by omega)) (xP h (i:=i) (by omega));have e:p.shift+bP (fun k=>gt y k*m5 p x k) (i+1)=p.shift+bP (fun k=>gt y k*m5 p x k) i+m5 p x i*gt y i:=by simp only[bP];grind
  rw[e];exact this
theorem GW{p:aO}{x:List Rat}(y:List Rat)(h:dq p x false=true):∀j,j≤p.aa.length→F7 (UY p y j) (p.shift+bP (fun k=>gt y k*m5 p x k) p.rows.length+bP (fun k=>gt x k*dP p y k p.rows.length) j)
 | 0,_=>by
  have e:p.shift+bP (fun k=>gt y k*m5 p x k) p.rows.length+bP (fun k=>gt x k*dP p y k p.rows.length) 0=p.shift+bP (fun k=>gt y k*m5 p x k) p.rows.length:=by simp only[bP];grind
  rw[e];exact H8 y h _ (Nat.le_refl _)
 | j+1,hj=>by
  have:=sc (r:=dP p y j p.rows.length) (GW y h j (by omega)) (Fp h (j:=j) (by omega));have e:p.shift+bP (fun k=>gt y k*m5 p x k) p.rows.length+bP (fun k=>gt x k*dP p y k p.rows.length) (j+1)=p.shift+bP (fun k=>gt y k*m5 p x k) p.rows.length+bP (fun k=>gt x k*dP p y k p.rows.length) j+gt x j*dP p y j p.rows.length:=by simp only[bP];grind
  rw[e];exact this
theorem Yb{p:aO}(hv:db p=0){x:List Rat}(y:List Rat)(h:dq p x false=true):F7 (UY p y p.aa.length) (kj p x p.aa.length):=by
 have h1:=GW y h p.aa.length (Nat.le_refl _);rw[Tw (lC hv).2.2 x y p.rows.length (Nat.le_refl _)]at h1;rw[qZ];have e:p.shift+bP (fun k=>gt y k*m5 p x k) p.rows.length+(bP (fun j=>gt x j*(gt p.aa j).cost) p.aa.length - bP (fun k=>gt y k*m5 p x k) p.rows.length)=p.shift+bP (fun k=>gt x k*(gt p.aa k).cost) p.aa.length:=by grind
 rwa [e]at h1
/-! nothing holds -/
def G9(a b:Bo):Bool:=a.has&&b.has&&decide (b.at'<a.at')
def I6(p:aO):Bool:=p.aa.any (fun c=>G9 c.low c.high)||p.rows.any fun r=>G9 r.low r.high
def free(p:aO):aO:=⟨p.max,p.shift,p.aa.map fun c=>{ c with cost:=0 },p.rows⟩
def noR(p:aO)(y:List Rat):Nat→Sp
 | 0=>⟨⟨true,0⟩,⟨true,0⟩⟩
 | i+1=>ck (noR p y i) (gt p.rows i).low (gt p.rows i).high (gt y i)
def noC(p:aO)(y:List Rat):Nat→Sp
 | 0=>⟨⟨true,0⟩,⟨true,0⟩⟩
 | j+1=>ck (noC p y j) (gt p.aa j).low (gt p.aa j).high (-(dP (free p) y j p.rows.length))
def UB(a b:Bo):Bool:=a.has&&b.has&&decide (b.at'<a.at')
def Uv(p:aO)(y:List Rat):Bool:=UB (noR p y p.rows.length).lo (noC p y p.aa.length).hi
end Go.Li
namespace Go.Sv
open Go
@[simp] theorem acd(fr:List (Nat × SV))(f:FuncId):ev fr (.func f)=some (.val (.func (.func f) #[] #[])):=rfl
def L6:SV→SV
 | .val (.func (.func f) ⟨[]⟩ ⟨[]⟩)=>.gA f [] []
 | x=>x
@[simp] theorem agj{f:FuncId}:L6 (.val (.func (.func f) #[] #[]))=.gA f [] []:=rfl
theorem Ls{β:bO}{H:Hp}{x:SV}{v:Value}(h:Den β H x v):Den β H (L6 x) v:=by
 unfold L6;split
 ·simp only[Den]at h ⊢;exact⟨[],[],h.1,by simp only[bF],by simp only[bF]⟩
 ·exact h
def fnS(st:St):St:=⟨st.n,st.fr.map fun p=>(p.1,L6 p.2),st.M⟩
theorem HL:∀{fr:List (Nat × SV)} {t:Nat} {x:SV},get (fr.map fun p=>(p.1,L6 p.2)) t=some x→∃y,get fr t=some y∧x=L6 y
 | [],t,x,h=>by simp[get]at h
 | (s,y)::r,t,x,h=>by
  simp only[amc,get]at h ⊢;split at h
  ·rename_i e;simp only[Option.some.injEq]at h;exact⟨y,by rw[if_pos e],h.symm⟩
  ·rename_i e;obtain⟨z,h1,h2⟩:=HL (fr:=r) h;exact⟨z,by rw[if_neg e];exact h1,h2⟩
theorem Le.fn{C:Ctx}(st:St):Le C st (fnS st):=by
 rintro a w ⟨β,H,hF,hW⟩;refine⟨β,H,⟨hF.1,hF.2.1,fun t x hg=>?_⟩,hW⟩;obtain⟨y,hy,rfl⟩:=HL hg;obtain⟨v,hv,hd⟩:=hF.2.2 t y hy;exact⟨v,hv,Ls hd⟩
end Go.Sv
namespace Go.Li
open Go Go.Sv Go.Pl Go.Proofs Go.Tb Go.Ut
structure r6 where
 kind:Int
 x:List Rat
 y:List Rat
 yZ:List Rat
 value:Rat
structure qU where
 kind:Int
 x:List ByteArray
 y:List ByteArray
 yZ:List ByteArray
 value:ByteArray
def JR(c:r6):SV:=.agg ([iv c.kind,.ro (c.x.map aY),.ro (c.y.map aY),.ro (c.yZ.map aY)]++(aY c.value).cells)
@[simp] theorem aax(c:r6):(JR c).fj=8:=rfl
@[simp] theorem PQ(c:r6):(JR c).aM=false:=rfl
@[simp] theorem SE(c:r6):(JR c).isAgg=true:=rfl
@[simp] theorem Uj(c:r6):(JR c).pure=true:=rfl
@[simp] theorem afo(n:Nat)(c:r6):(JR c).lt n=true:=rfl
@[simp] theorem ae6(c:r6):aA (JR c).cells 0=iv c.kind:=rfl
@[simp] theorem af3(c:r6):aA (JR c).cells 1=.ro (c.x.map aY):=rfl
@[simp] theorem agL(c:r6):aA (JR c).cells 2=.ro (c.y.map aY):=rfl
@[simp] theorem aff(c:r6):aA (JR c).cells 3=.ro (c.yZ.map aY):=rfl
@[simp] theorem ae8(c:r6):SV.agg (((JR c).cells.drop 4).take 4)=aY c.value:=rfl
def K0(c:qU):SV:=.agg ([iv c.kind,.ro (c.x.map cZ),.ro (c.y.map cZ),.ro (c.yZ.map cZ),cZ c.value])
@[simp] theorem Y9(c:qU):(K0 c).fj=5:=rfl
@[simp] theorem Qt(c:qU):(K0 c).aM=false:=rfl
@[simp] theorem Si(c:qU):(K0 c).isAgg=true:=rfl
@[simp] theorem Tv(c:qU):(K0 c).pure=true:=rfl
@[simp] theorem agn(c:qU):aA (K0 c).cells 0=iv c.kind:=rfl
@[simp] theorem aea(c:qU):aA (K0 c).cells 1=.ro (c.x.map cZ):=rfl
@[simp] theorem adF(c:qU):aA (K0 c).cells 2=.ro (c.y.map cZ):=rfl
@[simp] theorem af5(c:qU):aA (K0 c).cells 3=.ro (c.yZ.map cZ):=rfl
@[simp] theorem adR(c:qU):aA (K0 c).cells 4=cZ c.value:=rfl
structure ClW(c:r6):Prop where
 x:Wd 2200 c.x
 y:Wd 2200 c.y
 r:Wd 2200 c.yZ
 v:qw 2200 c.value
 nx:c.x.length≤1048576
 ny:c.y.length≤1048576
 nr:c.yZ.length≤1048576
structure akc(c:qU):Prop where
 x:JM c.x
 y:JM c.y
 r:JM c.yZ
 v:c.value.size≤1048576
def Il(p:aO)(x:List Rat):Bool:=decide (x.length=p.aa.length)&&dq p x false
def dt(p:aO)(c:r6):Bool:=(Il p c.x&&decide (c.y.length=p.rows.length)&&decide (c.yZ.length=0))&&((Un p c.y).has&&decide (kj p c.x p.aa.length=c.value)&&decide ((Un p c.y).at'=kj p c.x p.aa.length))
def Xh(p:aO)(c:r6):Bool:=(decide (c.x.length=0)&&decide (c.yZ.length=0)&&decide (c.value=0))&&(if c.y.length=0 then I6 p else decide (c.y.length=p.rows.length)&&Uv p c.y)
def G8(c:df):SV:=.agg (.val (.string c.name)::.val (.bool c.whole)::((cL c.low).cells++((cL c.high).cells++[.val (.bool false),.val (.slice none 0 0),.val (.bool false),.val (.slice none 0 0)])))
theorem QR(c:df):iR (G8 c)=bS { c with cost:=0 }:=by
 have e:iR (G8 c)=.agg (.val (.string c.name)::.val (.bool c.whole)::((cL c.low).cells++((cL c.high).cells++[.val (.bool false),.ro [],.val (.bool false),.ro []]))):=rfl;rw[e];have r:(aY 0).cells=[.val (.bool false),.ro [],.val (.bool false),.ro []]:=by rw[←EY];rfl
 show _=SV.agg (.val (.string c.name)::.val (.bool c.whole)::((cL c.low).cells++((cL c.high).cells++(aY 0).cells)));rw[r]
def frL(p:aO)(j:Nat):List SV:=(amP p.aa.length).map fun i=>if i<j then G8 (gt p.aa i) else bS (gt p.aa i)
@[simp] theorem X6(l:List df):uy 16 (l.map bS)=True:=by cases l<;>simp[uy]
def VB(low high:Bo)(r:Rat):Bool:=!(decide (0<r)&&high.has)&&!(decide (r<0)&&low.has)
def Jv(p:aO)(x:List Rat):Nat→Rat
 | 0=>0
 | j+1=>Jv p x j+(gt p.aa j).cost*gt x j
def TR(p:aO)(x:List Rat)(j:Nat):Bool:=VB (gt p.aa j).low (gt p.aa j).high (gt x j)
def VG(p:aO)(x:List Rat)(i:Nat):Bool:=VB (gt p.rows i).low (gt p.rows i).high (m5 p x i)
def afr(p:aO)(c:r6):Bool:=(Il p c.x&&decide (c.yZ.length=p.aa.length)&&decide (c.y.length=0)&&decide (c.value=0))&&((amP p.aa.length).all (TR p c.yZ)&&(amP p.rows.length).all (VG p c.yZ))&&(decide (Jv p c.yZ p.aa.length≠0)&&(decide (0<Jv p c.yZ p.aa.length)==p.max))
def alg(p:aO)(c:r6):Bool:=if c.kind=1 then dt p c else if c.kind=2 then Xh p c else if c.kind=3 then afr p c else false
end Go.Li
namespace Go.Proofs
open Go.Sv Go Go.Tb Go.Pl Go.Ut Go.Li
end Go.Proofs


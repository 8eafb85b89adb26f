/- A text of the prover's own. -/
import Derived.Test.YtmghjkkjaolpgaaGreatDoorWJf
open Nat renaming le_refl→alb,mul_le_mul_left→amf,pow_le_pow_right→amg,mul_le_mul→amK,pow_succ→amb,mul_comm→amd,mul_left_comm→anX,mul_succ→anY,le_trans→alJ,mul_le_mul_right→ak8
namespace Go.Ps
open Go Go.Tb Go.Ut Go.Li Go.Proofs
structure nY where
 aI:Nat
 at':Rat
 ab:List Term
instance:Inhabited nY:=⟨⟨0,0,[]⟩⟩
structure Wk where
 ae:List dL
 rows:List Row
 sh:Rat
 gc:List Bool
 gr:List Bool
 steps:List nY
 no:Bool
def aD(a b:Bo):Bool:=a.has&&b.has&&decide (b.at'<a.at')
def alike(a b:Bo):Bool:=a.has&&b.has&&decide (a.at'=b.at')
def xm(w:Bool)(q:Rat):Rat:=if w=true then((q.ceil:Int):Rat) else q
def AD(w:Bool)(q:Rat):Rat:=if w=true then((q.floor:Int):Rat) else q
def ph(c:dL)(b:Bo):Bo:=if b.has=true∧(c.low.has=true→c.low.at'<xm c.whole b.at') then⟨true,xm c.whole b.at'⟩ else c.low
def pj(c:dL)(b:Bo):Bo:=if b.has=true∧(c.high.has=true→AD c.whole b.at'<c.high.at') then⟨true,AD c.whole b.at'⟩ else c.high
def cA(c:dL)(lo hi:Bo):dL:=⟨c.name,c.whole,ph c lo,pj c hi,c.cost⟩
def eG(r:Row)(j:Nat)(ts:List Term)(k:Nat):Rat:=if k=j then 0 else aP r.ab k+aP ts k*aP r.ab j
def mc(n j:Nat)(a:Rat)(ts:List Term)(r:Row):Row :=
 if aP r.ab j=0 then r else⟨r.name,jW (eG r j ts) n,cD r.low ⟨true, -(a*aP r.ab j)⟩ 1,cD r.high ⟨true, -(a*aP r.ab j)⟩ 1⟩
def cC(w:Wk)(j:Nat)(a:Rat)(ts:List Term):Nat→List Row
 | 0=>w.rows
 | i+1=>if gt w.gr i=true then cC w j a ts i else(cC w j a ts i).set i (mc w.ae.length j a ts (gt w.rows i))
def iF(cs:List dL)(q:Rat):List Term→List dL
 | []=>cs
 | t::ts=>iF (cs.set t.aI.toNat ⟨(gt cs t.aI.toNat).name,(gt cs t.aI.toNat).whole,(gt cs t.aI.toNat).low,(gt cs t.aI.toNat).high,(gt cs t.aI.toNat).cost+q*t.num⟩) q ts
def jX(w:Wk)(j:Nat)(a:Rat)(ts:List Term):Wk :=
 ⟨iF w.ae (gt w.ae j).cost ts,cC w j a ts w.rows.length,w.sh+(gt w.ae j).cost*a,w.gc.set j true,w.gr,w.steps++[⟨j,a,ts⟩],w.no⟩
def bN(w:Wk)(j:Nat)(c:dL):Wk:=⟨w.ae.set j c,w.rows,w.sh,w.gc,w.gr,w.steps,w.no⟩
def dw(w:Wk)(i:Nat):Wk:=⟨w.ae,w.rows,w.sh,w.gc,w.gr.set i true,w.steps,w.no⟩
def da(w:Wk)(b:Bool):Wk:=⟨w.ae,w.rows,w.sh,w.gc,w.gr,w.steps,b⟩
def zB:Sp:=⟨⟨true,0⟩,⟨true,0⟩⟩
def jU(w:Wk)(i:Nat):Bool × Wk :=
 if(gt w.rows i).ab.length=0 then(true,dw (da w (!qd 0 (gt w.rows i).low (gt w.rows i).high)) i) else(false,w)
def j3(w:Wk)(i:Nat):Bool × Wk :=
 let r:=gt w.rows i
 if r.ab.length=1 then
  let t:=gt r.ab 0
  let s:=dA zB r.low r.high (1 / t.num)
  (true,dw (bN w t.aI.toNat (cA (gt w.ae t.aI.toNat) s.lo s.hi)) i)
 else(false,w)
def su(w:Wk)(j:Nat):Bool × Wk :=
 let c:=gt w.ae j
 if alike c.low c.high=true then
  if c.whole=true∧c.low.at'.den≠1 then(true,da w true) else(true,jX w j c.low.at' [])
 else(false,w)
def fU(w:Wk)(j:Nat):Nat→Bool
 | 0=>false
 | i+1=>fU w j i||(!gt w.gr i&&decide (aP (gt w.rows i).ab j≠0))
def pG(mx:Bool)(q:Rat):Int:=if q=0 then 0 else if(mx=true↔0<q) then -1 else 1
def cY(mx:Bool)(c:dL):Bo :=
 let to:=if pG mx c.cost<0∨(pG mx c.cost=0∧c.low.has=false) then c.high else c.low
 if pG mx c.cost=0∧to.has=false then⟨true,0⟩ else to
def fT(mx:Bool)(w:Wk)(j:Nat):Bool × Wk :=
 if fU w j w.rows.length=true then(false,w) else
  let c0:=gt w.ae j
  let c:=if c0.whole=true then cA c0 c0.low c0.high else c0
  let w1:=bN w j c
  if aD c.low c.high=true then(true,da w1 true) else
   if(cY mx c).has=true then(true,jX w1 j (cY mx c).at' []) else(false,w1)
def bS(cs:List dL)(ts:List Term):Nat→Sp
 | 0=>zB
 | k+1=>dA (bS cs ts k) (gt cs (gt ts k).aI.toNat).low (gt cs (gt ts k).aI.toNat).high (gt ts k).num
def aT(least:Bool)(ts:List Term)(cs:List dL):Nat→List dL
 | 0=>cs
 | k+1 =>
  let l:=aT least ts cs k
  let j:=(gt ts k).aI.toNat
  let c:=gt l j
  l.set j (if decide (0<(gt ts k).num)=least then⟨c.name,c.whole,c.low,c.low,c.cost⟩ else⟨c.name,c.whole,c.high,c.high,c.cost⟩)
def ey(w:Wk)(cs:List dL):Wk:=⟨cs,w.rows,w.sh,w.gc,w.gr,w.steps,w.no⟩
def vV(a b:Bo):Bool:=!b.has||(a.has&&decide (b.at'≤a.at'))
def wM(a b:Bo):Bool:=!b.has||(a.has&&decide (a.at'≤b.at'))
def gj(w:Wk)(i:Nat):Bool × Wk :=
 let r:=gt w.rows i
 let s:=bS w.ae r.ab r.ab.length
 if aD s.lo r.high=true∨aD r.low s.hi=true then(true,dw (da w true) i) else
 if alike s.lo r.high=true∨alike s.hi r.low=true then(true,dw (ey w (aT (alike s.lo r.high) r.ab w.ae r.ab.length)) i) else
 if vV s.lo r.low=true∧wM s.hi r.high=true then(true,dw w i) else(false,w)
def iB(w:Wk)(i:Nat):Bool × Wk :=
 let r:=gt w.rows i
 let a:=gt r.ab 0
 let b:=gt r.ab 1
 if r.ab.length=2∧alike r.low r.high=true∧(gt w.ae a.aI.toNat).whole=false∧(gt w.ae b.aI.toNat).whole=false then
  let y:=gt w.ae b.aI.toNat
  let to:=r.low.at' / b.num
  let iw := -(a.num / b.num)
  let s:=dA ⟨⟨true, -(to*(1 / iw))⟩,⟨true, -(to*(1 / iw))⟩⟩ y.low y.high (1 / iw)
  (true,jX (dw (bN w a.aI.toNat (cA (gt w.ae a.aI.toNat) s.lo s.hi)) i) b.aI.toNat to [⟨a.aI,iw⟩])
 else(false,w)
def bX(d:Wk→Nat→Bool × Wk)(g:Wk→List Bool):Nat→Nat→Wk→Bool × Wk
 | 0,_,w=>(false,w)
 | m+1,i,w=>if gt (g w) i=true then bX d g m (i+1) w else if(d w i).1=true then d w i else bX d g m (i+1) (d w i).2
def zA(w:Wk)(j:Nat):Bool × Wk:=(aD (gt w.ae j).low (gt w.ae j).high,da w (aD (gt w.ae j).low (gt w.ae j).high))
def xK(w:Wk)(i:Nat):Bool × Wk:=(aD (gt w.rows i).low (gt w.rows i).high,da w (aD (gt w.rows i).low (gt w.rows i).high))
def xA(a:Bool × Wk)(f:Wk→Bool × Wk):Bool × Wk:=if a.1=true then a else f a.2
def ij(mx:Bool)(w:Wk):Nat→Bool × Wk
 | 1=>xA (bX zA Wk.gc w.ae.length 0 w) fun w=>bX xK Wk.gr w.rows.length 0 w
 | 2=>bX jU Wk.gr w.rows.length 0 w
 | 3=>bX j3 Wk.gr w.rows.length 0 w
 | 4=>bX su Wk.gc w.ae.length 0 w
 | 5=>bX (fT mx) Wk.gc w.ae.length 0 w
 | 6=>bX gj Wk.gr w.rows.length 0 w
 | _=>bX iB Wk.gr w.rows.length 0 w
def iM(mx:Bool)(w:Wk):Nat→Bool × Wk
 | 0=>(false,w)
 | k+1=>xA (iM mx w k) fun w=>ij mx w (k+1)
def ix(mx:Bool)(w:Wk):Bool × Wk:=iM mx w 7
inductive Bz (mx:Bool):Wk→Wk→Prop
 | no {w:Wk} (h:w.no=true):Bz mx w w
 | last {w:Wk} (h:w.no=false) (h1:(ix mx w).1=false):Bz mx w (ix mx w).2
 | step {w z:Wk} (h:w.no=false) (h1:(ix mx w).1=true) (h2:Bz mx (ix mx w).2 z):Bz mx w z
theorem Bz.det{mx:Bool}{w a b:Wk}(ha:Bz mx w a)(hb:Bz mx w b):a=b:=by
 induction ha with
 | no h=>cases hb with
  | no=>rfl
  | last h'=>rw[h]at h';cases h'
  | step h'=>rw[h]at h';cases h'
 | last h h1=>cases hb with
  | no h'=>rw[h]at h';cases h'
  | last=>rfl
  | step _ h1'=>rw[h1]at h1';cases h1'
 | step h h1 _ ih=>cases hb with
  | no h'=>rw[h]at h';cases h'
  | last _ h1'=>rw[h1]at h1';cases h1'
  | step _ _ h2'=>exact ih h2'
def cq(p:aV):Wk:=⟨p.ae,p.rows,p.shift,List.replicate p.ae.length false,List.replicate p.rows.length false,[],false⟩
def cE(g:List Bool):Nat→List Nat
 | 0=>[]
 | j+1=>if gt g j=true then cE g j else cE g j++[j]
def fV(w:Wk)(j:Nat):List dL:=(cE w.gc j).map (gt w.ae)
def iW(w:Wk)(r:Row):Row:=⟨r.name,r.ab.map fun t=>⟨if gt w.gc t.aI.toNat=true then 0 else((cE w.gc t.aI.toNat).length:Nat),t.num⟩,r.low,r.high⟩
def fL(w:Wk):Nat→List Row
 | 0=>[]
 | i+1=>if gt w.gr i=true then fL w i else fL w i++[iW w (gt w.rows i)]
def kD(mx:Bool)(w:Wk):aV:=⟨mx,w.sh,fV w w.ae.length,fL w w.rows.length⟩
end Go.Ps
namespace Go.Ps
open Go Go.Tb Go.Ut Go.Li Go.Proofs
def ay:List Bool→Nat
 | []=>0
 | b::l=>(if b=true then 1 else 0)+ay l
theorem m4:∀l:List Bool,ay l≤l.length
 | []=>alb _
 | b::l=>by have:=m4 l;simp only[ay,List.length_cons];split<;>omega
theorem jV:∀{l:List Bool} {j:Nat},j<l.length→gt l j=false→ay (l.set j true)=ay l+1
 | [],_,h,_=>by simp at h
 | b::l,0,_,h=>by
  have:b=false:=h;subst this;simp[ay];omega
 | b::l,j+1,h,h1=>by
  have:=jV (l:=l) (j:=j) (by simpa using h) h1;simp only[List.set_cons_succ,ay,this];omega
theorem zT(n:Nat):ay (List.replicate n false)=0:=by
 induction n with
 | zero=>rfl
 | succ n ih=>simp[List.replicate_succ,ay,ih]
theorem xa{n:Nat}{j:Int}{q:Rat}(hj:j<n)(hq:q≠0):∀{ts:List Term} {c:Int},gH n c ts=false→(∀k,k<ts.length→(gt ts k).aI<j)→c<j→gH n c (ts++[⟨j,q⟩])=false
 | [],c,_,_,hc=>by simp[gH];exact⟨⟨by omega,by omega⟩,hq⟩
 | t::ts,c,h,h1,hc=>by
  simp only[gH,Bool.or_eq_false_iff,decide_eq_false_iff_not,List.cons_append]at h ⊢;exact⟨h.1,xa hj hq h.2 (fun k hk=>h1 (k+1) (by simpa using hk)) (h1 0 (by simp))⟩
theorem Ae(f:Nat→Rat)(n:Nat):∀k,k≤n→gH n (-1) (jW f k)=false
 | 0,_=>rfl
 | k+1,hk=>by
  have ih:=Ae f n k (by omega);unfold jW;split
  ·exact ih
  ·rename_i h;exact xa (by omega) h ih (fun i hi=>(ux f k i hi).2.1) (by omega)
theorem jA(w:Wk)(j:Nat)(a:Rat)(ts:List Term):∀i,(cC w j a ts i).length=w.rows.length
 | 0=>rfl
 | i+1=>by unfold cC;split<;>simp[jA w j a ts i]
theorem jQ(w:Wk)(j:Nat)(a:Rat)(ts:List Term){k:Nat}(hk:k<w.rows.length):∀i,gt (cC w j a ts i) k=if k<i∧gt w.gr k=false then mc w.ae.length j a ts (gt w.rows k) else gt w.rows k
 | 0=>by simp[cC]
 | i+1=>by
  have ih:=jQ w j a ts hk i;unfold cC;split
  ·rename_i h;rw[ih];by_cases e:k=i
   ·subst e;simp[h]
   ·by_cases q:k<i
    ·simp[q,show k<i+1 by omega]
    ·simp[q,show ¬k<i+1 by omega]
  ·rename_i h;rw[gN (by rw[jA];exact hk),ih];by_cases e:k=i
   ·subst e;simp[h]
   ·by_cases q:k<i
    ·simp[q,show k<i+1 by omega,show i≠k by omega]
    ·simp[q,show ¬k<i+1 by omega,show i≠k by omega]
theorem nJ(q:Rat):∀(ts:List Term) (cs:List dL),(iF cs q ts).length=cs.length
 | [],cs=>rfl
 | t::ts,cs=>by unfold iF;rw[nJ q ts];simp
theorem Dv(q:Rat):∀(ts:List Term) (cs:List dL) (k:Nat),k<cs.length→(gt (iF cs q ts) k).low=(gt cs k).low∧(gt (iF cs q ts) k).high=(gt cs k).high∧(gt (iF cs q ts) k).whole=(gt cs k).whole∧(gt (iF cs q ts) k).name=(gt cs k).name
 | [],cs,k,_=>⟨rfl,rfl,rfl,rfl⟩
 | t::ts,cs,k,hk=>by
  obtain⟨h1,h2,h3,h4⟩:=Dv q ts (cs.set t.aI.toNat ⟨(gt cs t.aI.toNat).name,(gt cs t.aI.toNat).whole,(gt cs t.aI.toNat).low,(gt cs t.aI.toNat).high,(gt cs t.aI.toNat).cost+q*t.num⟩) k (by simpa using hk);unfold iF;rw[h1,h2,h3,h4,gN hk];split
  ·rename_i e;subst e;exact⟨rfl,rfl,rfl,rfl⟩
  ·exact⟨rfl,rfl,rfl,rfl⟩
theorem jr(b:Bool)(ts:List Term)(cs:List dL):∀k,(aT b ts cs k).length=cs.length
 | 0=>rfl
 | k+1=>by unfold aT;simp[jr b ts cs k]
def nB(b:Bo):Prop:=b.has=false→b.at'=0
theorem DU(a b:Bo)(r:Rat):nB (cD a b r):=fun h=>by
 unfold cD at h ⊢;split
 ·rename_i q;rw[if_pos q]at h;cases h
 ·rfl
structure I9(n m:Nat)(w:Wk):Prop where
 nc:w.ae.length=n
 nr:w.rows.length=m
 gc:w.gc.length=n
 gr:w.gr.length=m
 te:∀i,i<m→gH n (-1) (gt w.rows i).ab=false
 nb:∀i,i<m→nB (gt w.rows i).low∧nB (gt w.rows i).high
 st:w.steps.length≤ay w.gc
 lv:∀i,i<m→gt w.gr i=false→∀k,k<(gt w.rows i).ab.length→gt w.gc (gt (gt w.rows i).ab k).aI.toNat=false
theorem zl{j:Nat}:∀{ts:List Term},aP ts j≠0→∃i,i<ts.length∧(gt ts i).aI=j
 | [],h=>absurd rfl h
 | t::ts,h=>by
  unfold aP at h;split at h
  ·rename_i e;exact⟨0,by simp,e⟩
  ·obtain⟨i,hi,e⟩:=zl h;exact⟨i+1,by simpa using hi,e⟩
theorem He{n:Nat}{j:Nat}:∀{ts:List Term} {c:Int},gH n c ts=false→aP ts j=0→∀i,i<ts.length→(gt ts i).aI≠j
 | [],_,_,_,i,hi=>by simp at hi
 | t::ts,c,hb,h,i,hi=>by
  simp only[gH,Bool.or_eq_false_iff,decide_eq_false_iff_not]at hb;unfold aP at h;split at h
  ·exact absurd h hb.1.2
  ·rename_i e;cases i with
   | zero=>exact e
   | succ i=>exact He hb.2 h i (by simpa using hi)
def qA(u c:Nat):Nat:=u*4^c - 3
def qB(u c r:Nat):Nat:=u*4^c*(c+r+2)
structure FF(u c r:Nat)(w:Wk):Prop where
 co:∀j,j<w.ae.length→qw (qB u c r) (gt w.ae j).low.at'∧qw (qB u c r) (gt w.ae j).high.at'∧qw (qB u c r) (gt w.ae j).cost
 ro:∀i,i<w.rows.length→qw (qB u c r) (gt w.rows i).low.at'∧qw (qB u c r) (gt w.rows i).high.at'
 te:∀i,i<w.rows.length→∀k,k<(gt w.rows i).ab.length→qw (qA u c) (gt (gt w.rows i).ab k).num
 sh:qw (qB u c r) w.sh
 st:∀k,k<w.steps.length→qw (qB u c r) (gt w.steps k).at'∧∀t,t<(gt w.steps k).ab.length→qw (qA u c) (gt (gt w.steps k).ab t).num
def WdW(u:Nat)(w:Wk):Prop:=FF u (ay w.gc) (ay w.gr) w
theorem zc{u c c':Nat}(h:c≤c'):qA u c≤qA u c':=by
 unfold qA;have:=amf u (amg (show 0<4 by decide) h);omega
theorem lA{u c c' r r':Nat}(h:c≤c')(h':r≤r'):qB u c r≤qB u c' r':=by
 unfold qB;exact amK (amf u (amg (show 0<4 by decide) h)) (by omega)
theorem FF.mono{u c c' r r':Nat}{w:Wk}(h:FF u c r w)(hc:c≤c')(hr:r≤r'):FF u c' r' w where
 co:=fun j hj=>⟨ah (h.co j hj).1 (lA hc hr),ah (h.co j hj).2.1 (lA hc hr),ah (h.co j hj).2.2 (lA hc hr)⟩
 ro:=fun i hi=>⟨ah (h.ro i hi).1 (lA hc hr),ah (h.ro i hi).2 (lA hc hr)⟩
 te:=fun i hi k hk=>ah (h.te i hi k hk) (zc hc)
 sh:=ah h.sh (lA hc hr)
 st:=fun k hk=>⟨ah (h.st k hk).1 (lA hc hr),fun t ht=>ah ((h.st k hk).2 t ht) (zc hc)⟩
theorem G8(c:Nat):1≤4^c:=amg (n:=4) (by decide) (Nat.zero_le c)
theorem lD{u:Nat}(hu:8≤u)(c:Nat):5≤qA u c:=by
 unfold qA;have:=amK hu (G8 c);omega
theorem iY{u:Nat}(hu:8≤u)(c r:Nat):2*(qA u c+3)≤qB u c r:=by
 unfold qA qB;have h1:=amK hu (G8 c);have h2:=amf (u*4^c) (show 2≤c+r+2 by omega);omega
theorem LN{u:Nat}(hu:8≤u)(c:Nat):4*qA u c+9=qA u (c+1):=by
 unfold qA;have h1:=amK hu (G8 c);rw[amb];have:u*(4^c*4)=4*(u*4^c):=by rw[amd (4^c) 4,anX]
 omega
theorem DV{u:Nat}(hu:8≤u)(c r:Nat):4*qB u c r+4*(qA u c+3)=qB u (c+1) r:=by
 unfold qA qB;have h1:=amK hu (G8 c);have e:u*4^(c+1)=4*(u*4^c):=by rw[amb,amd (4^c) 4,anX]
 rw[e];generalize u*4^c=X at *;obtain⟨N,hN⟩:∃N,c+r+2=N:=⟨_,rfl⟩;rw[show c+1+r+2=N+1 by omega,hN,Nat.mul_assoc,show X*(N+1)=X*N+X from anY X N];generalize X*N=Y at *;omega
theorem HN{u:Nat}(hu:8≤u)(c r:Nat):qB u c r+(qA u c+3)=qB u c (r+1):=by
 unfold qA qB;have h1:=amK hu (G8 c);generalize u*4^c=X at *;obtain⟨N,hN⟩:∃N,c+r+2=N:=⟨_,rfl⟩;rw[show c+(r+1)+2=N+1 by omega,hN,show X*(N+1)=X*N+X from anY X N];generalize X*N=Y at *;omega
theorem mh{u c:Nat}(hu:u≤2400)(hc:c≤7):qA u c≤39321597:=by
 refine alJ (zc hc) ?_;unfold qA;have:=ak8 (4^7) hu;omega
theorem iL{u c r:Nat}(hu:u≤2400)(hc:c≤7)(hr:r≤7):qB u c r≤629145600:=by
 refine alJ (lA hc hr) ?_;unfold qB;have:=ak8 (4^7) hu;have:=ak8 (7+7+2) this;omega
theorem JD{k:Nat}{q:Rat}(h:qw k q)(hk:1≤k):qw k (q.ceil:Rat):=by
 have e:(q.ceil:Rat) = -((-q).floor:Rat):=by rw[Rat.ceil_eq_neg_floor_neg];simp
 rw[e];exact iX (A6 (iX h) hk)
theorem H6{k:Nat}{w:Bool}{q:Rat}(h:qw k q)(hk:1≤k):qw k (xm w q):=by
 unfold xm;split
 ·exact JD h hk
 ·exact h
theorem HY{k:Nat}{w:Bool}{q:Rat}(h:qw k q)(hk:1≤k):qw k (AD w q):=by
 unfold AD;split
 ·exact A6 h hk
 ·exact h
theorem qF{k:Nat}{c:dL}{a b:Bo}(hk:1≤k)(h1:qw k c.low.at')(h2:qw k c.high.at')(ha:qw k a.at')(hb:qw k b.at'):qw k (cA c a b).low.at'∧qw k (cA c a b).high.at':=by
 refine⟨?_,?_⟩
 ·show qw k (ph c a).at';unfold ph;split
  ·exact H6 ha hk
  ·exact h1
 ·show qw k (pj c b).at';unfold pj;split
  ·exact HY hb hk
  ·exact h2
end Go.Ps
namespace Go.Ps
open Go Go.Tb Go.Ut Go.Li Go.Proofs
theorem zy{k:Nat}(h:1≤k):qw k 1:=⟨p6 h,p6 h⟩
theorem LU{n m:Nat}{w:Wk}(h:I9 n m w){j:Nat}(hj:j<n)(hg:gt w.gc j=false)(a:Rat)(ts:List Term)(hts:∀t∈ts,0≤t.aI∧gt w.gc t.aI.toNat=false∧t.aI.toNat≠j):I9 n m (jX w j a ts) where
 nc:=by show(iF _ _ _).length=n;rw[nJ];exact h.nc
 nr:=by show(cC _ _ _ _ _).length=m;rw[jA];exact h.nr
 gc:=by show(w.gc.set j true).length=n;simp[h.gc]
 gr:=h.gr
 te:=fun i hi=>by
  show gH n (-1) (gt (cC w j a ts w.rows.length) i).ab=false;rw[jQ w j a ts (by rw[h.nr];exact hi)];split
  ·unfold mc;split
   ·exact h.te i hi
   ·rw[h.nc];exact Ae _ n n (alb _)
  ·exact h.te i hi
 nb:=fun i hi=>by
  show nB (gt (cC w j a ts w.rows.length) i).low∧nB (gt (cC w j a ts w.rows.length) i).high;rw[jQ w j a ts (by rw[h.nr];exact hi)];split
  ·unfold mc;split
   ·exact h.nb i hi
   ·exact⟨DU _ _ _,DU _ _ _⟩
  ·exact h.nb i hi
 st:=by
  show(w.steps++[_]).length≤ay (w.gc.set j true);rw[jV (by rw[h.gc];exact hj) hg];have:=h.st;simp;omega
 lv:=fun i hi hgi=>by
  have hgi:gt w.gr i=false:=hgi;show ∀k,k<(gt (cC w j a ts w.rows.length) i).ab.length→gt (w.gc.set j true) (gt (gt (cC w j a ts w.rows.length) i).ab k).aI.toNat=false;have hi':i<w.rows.length:=by rw[h.nr];exact hi
  rw[jQ w j a ts hi',if_pos ⟨hi',hgi⟩];have old:∀k,k<(gt w.rows i).ab.length→(gt (gt w.rows i).ab k).aI≠(j:Int)→gt (w.gc.set j true) (gt (gt w.rows i).ab k).aI.toNat=false:=fun k hk hne=>by
   obtain⟨b1,b2, -, -⟩:=gw (h.te i hi) k hk;rw[gN (by rw[h.gc];omega),if_neg (by omega)];exact h.lv i hi hgi k hk
  unfold mc;split
  ·rename_i hz;exact fun k hk=>old k hk (He (h.te i hi) hz k hk)
  ·intro k hk;obtain⟨c1,c2,c3,c4⟩:=ux _ _ k hk;generalize gt (jW (eG (gt w.rows i) j ts) w.ae.length) k=t at *;rw[c3]at c4;unfold eG at c4;split at c4
   ·exact absurd rfl c4
   ·rename_i hne;have hnc:t.aI.toNat<n:=by have:=h.nc;omega
    rw[gN (by rw[h.gc];exact hnc),if_neg (by omega)];by_cases q:aP (gt w.rows i).ab t.aI.toNat=0
    ·rw[q,Rat.zero_add]at c4;obtain⟨k',hk',e⟩:=zl (ts:=ts) (j:=t.aI.toNat) (fun e=>c4 (by rw[e,Rat.zero_mul]));have:=(hts _ (jz hk')).2.1
     rwa [show(gt ts k').aI.toNat=t.aI.toNat by omega]at this
    ·obtain⟨k',hk',e⟩:=zl q;have:=h.lv i hi hgi k' hk'
     rwa [show(gt (gt w.rows i).ab k').aI.toNat=t.aI.toNat by omega]at this
theorem EU{B D:Nat}(q:Rat):∀(ts:List Term) (cs:List dL),ts.length≤1→(∀k,k<cs.length→qw B (gt cs k).cost)→(∀t∈ts,qw D (q*t.num))→∀k,k<cs.length→qw (B+D+1) (gt (iF cs q ts) k).cost
 | [],cs,_,h,_,k,hk=>ah (h k hk) (by omega)
 | [t],cs,_,h,h1,k,hk=>by
  show qw _ (gt (cs.set t.aI.toNat _) k).cost;rw[gN hk];split
  ·rename_i e;subst e;exact mO (h _ hk) (h1 t (by simp))
  ·exact ah (h k hk) (by omega)
 | _::_::_,_,h,_,_,_,_=>by simp at h
theorem K6{u c r:Nat}{w:Wk}(hu:8≤u)(hco:∀j,j<w.ae.length→qw (qB u (c+1) r) (gt w.ae j).low.at'∧qw (qB u (c+1) r) (gt w.ae j).high.at'∧qw (qB u c r) (gt w.ae j).cost)
  (hro:∀i,i<w.rows.length→qw (qB u c r) (gt w.rows i).low.at'∧qw (qB u c r) (gt w.rows i).high.at')
  (hte:∀i,i<w.rows.length→∀k,k<(gt w.rows i).ab.length→qw (qA u c) (gt (gt w.rows i).ab k).num)
  (hsh:qw (qB u c r) w.sh) (hst:∀k,k<w.steps.length→qw (qB u c r) (gt w.steps k).at'∧∀t,t<(gt w.steps k).ab.length→qw (qA u c) (gt (gt w.steps k).ab t).num)
  {j:Nat} (hj:j<w.ae.length) {a:Rat} (ha:qw (qB u c r+qA u c) a) {ts:List Term} (hl:ts.length≤1) (hts:∀k,k<ts.length→qw (2*qA u c) (gt ts k).num):FF u (c+1) r (jX w j a ts):=by
 have e1:=LN hu c;have e2:=DV hu c r;have e3:=lD hu c;have e4:=iY hu c r;have hx:∀i,i<w.rows.length→qw (qA u c) (aP (gt w.rows i).ab j):=fun i hi=>kZ (by omega) (hte i hi);refine⟨fun k hk=>?_,fun i hi=>?_,fun i hi k hk=>?_,?_,fun k hk=>?_⟩
 ·have hk:k<w.ae.length:=by
   have:(iF w.ae (gt w.ae j).cost ts).length=w.ae.length:=nJ _ _ _;have hk':k<(iF w.ae (gt w.ae j).cost ts).length:=hk;omega
  obtain⟨b1,b2, -, -⟩:=Dv (gt w.ae j).cost ts w.ae k hk;refine⟨?_,?_,?_⟩
  ·show qw _ (gt (iF w.ae (gt w.ae j).cost ts) k).low.at';rw[b1];exact(hco k hk).1
  ·show qw _ (gt (iF w.ae (gt w.ae j).cost ts) k).high.at';rw[b2];exact(hco k hk).2.1
  ·refine ah (EU (B:=qB u c r) (D:=qB u c r+2*qA u c) (gt w.ae j).cost ts w.ae hl (fun k hk=>(hco k hk).2.2) (fun t ht=>?_) k hk) (by omega);obtain⟨i,hi,rfl⟩:=List.getElem_of_mem ht;rw[ee hi];exact bM (hco j hj).2.2 (hts i hi) (by omega)
 ·have hi:i<w.rows.length:=by
   have hi':i<(cC w j a ts w.rows.length).length:=hi
   rwa [jA]at hi'
  show qw _ (gt (cC w j a ts w.rows.length) i).low.at'∧qw _ (gt (cC w j a ts w.rows.length) i).high.at';rw[jQ w j a ts hi];have hm:=iX (bM ha (hx i hi) (by omega));split
  ·unfold mc;split
   ·exact⟨ah (hro i hi).1 (by omega),ah (hro i hi).2 (by omega)⟩
   ·exact⟨ah (oJ (b:=⟨true, -(a*aP (gt w.rows i).ab j)⟩) (hro i hi).1 hm (zy (alb 1)) (by omega)) (by omega),ah (oJ (b:=⟨true, -(a*aP (gt w.rows i).ab j)⟩) (hro i hi).2 hm (zy (alb 1)) (by omega)) (by omega)⟩
  ·exact⟨ah (hro i hi).1 (by omega),ah (hro i hi).2 (by omega)⟩
 ·have hi:i<w.rows.length:=by
   have hi':i<(cC w j a ts w.rows.length).length:=hi
   rwa [jA]at hi'
  revert hk;show k<(gt (cC w j a ts w.rows.length) i).ab.length→qw _ (gt (gt (cC w j a ts w.rows.length) i).ab k).num;rw[jQ w j a ts hi];split
  ·unfold mc;split
   ·exact fun hk=>ah (hte i hi k hk) (by omega)
   ·intro hk;show qw _ (gt (jW (eG (gt w.rows i) j ts) w.ae.length) k).num;rw[(ux _ _ k hk).2.2.1];unfold eG;split
    ·exact cP _ (by omega)
    ·exact ah (mO (kZ (by omega) (hte i hi)) (bM (kZ (k:=2*qA u c) (by omega) hts) (hx i hi) (by omega))) (by omega)
  ·exact fun hk=>ah (hte i hi k hk) (by omega)
 ·exact ah (mO hsh (bM (hco j hj).2.2 ha (by omega))) (by omega)
 ·have hk':k<(w.steps++[(⟨j,a,ts⟩:nY)]).length:=hk;show qw _ (gt (w.steps++[(⟨j,a,ts⟩:nY)]) k).at'∧∀t,t<(gt (w.steps++[(⟨j,a,ts⟩:nY)]) k).ab.length→qw _ (gt (gt (w.steps++[(⟨j,a,ts⟩:nY)]) k).ab t).num;by_cases q:k<w.steps.length
  ·rw[GQ q];exact⟨ah (hst k q).1 (by omega),fun t ht=>ah ((hst k q).2 t ht) (by omega)⟩
  ·have:k=w.steps.length:=by simp at hk';omega
   subst this;rw[show gt (w.steps++[(⟨j,a,ts⟩:nY)]) w.steps.length=⟨j,a,ts⟩ by simp[gt]];exact⟨ah ha (by omega),fun t ht=>ah (hts t ht) (by omega)⟩
structure bh(n m u:Nat)(w:Wk):Prop where
 S:I9 n m w
 W:WdW u w
structure qR(n m u:Nat)(w:Wk)(q:Bool × Wk):Prop where
 sq:bh n m u q.2
 yes:q.1=true→q.2.no=true∨(q.2.no=false∧ay w.gc+ay w.gr<ay q.2.gc+ay q.2.gr)
 yc:q.1=false→q.2.no=false∧q.2.gc=w.gc∧q.2.gr=w.gr∧q.2.rows=w.rows
section
variable {n m u:Nat} {w:Wk}
theorem bh.da(h:bh n m u w)(b:Bool):bh n m u (da w b):=⟨⟨h.S.nc,h.S.nr,h.S.gc,h.S.gr,h.S.te,h.S.nb,h.S.st,h.S.lv⟩,⟨h.W.co,h.W.ro,h.W.te,h.W.sh,h.W.st⟩⟩
theorem we(h:I9 n m w)(i:Nat):I9 n m (dw w i):=⟨h.nc,h.nr,h.gc,by show(w.gr.set i true).length=m;simp[h.gr],h.te,h.nb,h.st,fun k hk hgk=>by
 have hgk:gt (w.gr.set i true) k=false:=hgk;rw[gN (by rw[h.gr];exact hk)]at hgk;split at hgk
 ·cases hgk
 ·exact h.lv k hk hgk⟩
theorem bh.dw(h:bh n m u w){i:Nat}(hi:i<m)(hg:gt w.gr i=false):bh n m u (dw w i):=⟨we h.S i,by
 have e:ay (w.gr.set i true)=ay w.gr+1:=jV (by rw[h.S.gr];exact hi) hg;show FF u (ay w.gc) (ay (w.gr.set i true)) (Ps.dw w i);rw[e];have:=h.W.mono (c':=ay w.gc) (r':=ay w.gr+1) (alb _) (by omega);exact⟨this.co,this.ro,this.te,this.sh,this.st⟩⟩
theorem JQ(h:bh n m u w){i:Nat}(hi:i<m)(hg:gt w.gr i=false):ay w.gc+ay w.gr<ay w.gc+ay (w.gr.set i true):=by
 rw[jV (by rw[h.S.gr];exact hi) hg];omega
theorem ou(h:bh n m u w)(hn:w.no=false):qR n m u w (false,w):=⟨h,fun e=>(by cases e),fun _=>⟨hn,rfl,rfl,rfl⟩⟩
theorem AU(h:bh n m u w):qR n m u w (true,Ps.da w true):=⟨h.da true,fun _=>.inl rfl,fun e=>by cases e⟩
theorem wA(h:bh n m u w)(hn:w.no=false){i:Nat}(hi:i<m)(hg:gt w.gr i=false):qR n m u w (jU w i):=by
 unfold jU;split
 ·refine⟨(h.da _).dw hi hg,fun _=>?_,fun e=>by cases e⟩;show(!qd 0 _ _)=true∨_;by_cases q:(!qd 0 (gt w.rows i).low (gt w.rows i).high)=true
  ·exact .inl q
  ·exact .inr ⟨(by simpa using q:(!qd 0 (gt w.rows i).low (gt w.rows i).high)=false),JQ h hi hg⟩
 ·exact ou h hn
theorem sI(h:I9 n m w)(j:Nat)(c:dL):I9 n m (bN w j c):=⟨by show(w.ae.set j c).length=n;simp[h.nc],h.nr,h.gc,h.gr,h.te,h.nb,h.st,h.lv⟩
theorem BW{c r:Nat}(h:FF u c r w){j:Nat}{x:dL}(hx:qw (qB u c r) x.low.at'∧qw (qB u c r) x.high.at'∧qw (qB u c r) x.cost):FF u c r (bN w j x):=⟨fun k hk=>by
 have hk:k<w.ae.length:=by simpa[bN]using hk
 show qw _ (gt (w.ae.set j x) k).low.at'∧qw _ (gt (w.ae.set j x) k).high.at'∧qw _ (gt (w.ae.set j x) k).cost;rw[gN hk];split
 ·exact hx
 ·exact h.co k hk,h.ro,h.te,h.sh,h.st⟩
theorem eF(h:bh n m u w){i:Nat}(hi:i<m){k:Nat}(hk:k<(gt w.rows i).ab.length):0≤(gt (gt w.rows i).ab k).aI∧(gt (gt w.rows i).ab k).aI.toNat<n∧(gt (gt w.rows i).ab k).num≠0:=by
 obtain⟨h1,h2,h3, -⟩:=gw (h.S.te i hi) k hk;exact⟨by omega,by omega,h3⟩
theorem uC(hu:8≤u)(h:bh n m u w)(hn:w.no=false){i:Nat}(hi:i<m)(hg:gt w.gr i=false):qR n m u w (j3 w i):=by
 unfold j3;simp only[];split
 ·rename_i hl;obtain⟨t0,t1,t2⟩:=eF h hi (k:=0) (by omega);have e1:ay (w.gr.set i true)=ay w.gr+1:=jV (by rw[h.S.gr];exact hi) hg;have hi':i<w.rows.length:=by rw[h.S.nr];exact hi
  have wt:=h.W.te i hi' 0 (by omega);have wr:=h.W.ro i hi';generalize gt (gt w.rows i).ab 0=t at *;have hj':t.aI.toNat<w.ae.length:=by rw[h.S.nc];exact t1
  have wc:=h.W.co _ hj';have b0:=HN hu (ay w.gc) (ay w.gr);have b1:=lD hu (ay w.gc);have z1:ZE 1 zB:=⟨cP _ (by omega),cP _ (by omega)⟩;have ws:=nM z1 wr.1 wr.2 (iI (zy (alb 1)) wt (by omega)) (by have:=iY hu (ay w.gc) (ay w.gr);omega);refine⟨⟨we (sI h.S _ _) i,?_⟩,fun _=>.inr ⟨hn,JQ h hi hg⟩,fun e=>by cases e⟩;show FF u (ay w.gc) (ay (w.gr.set i true)) (Ps.dw (bN w t.aI.toNat _) i);rw[e1];have hm:=h.W.mono (c':=ay w.gc) (r':=ay w.gr+1) (alb _) (by omega);have wm:=hm.co _ hj';have wi:=qF (c:=gt w.ae t.aI.toNat) (by omega) wm.1 wm.2.1 (ah ws.1 (by omega)) (ah ws.2 (by omega));have hc:=BW (j:=t.aI.toNat) hm ⟨wi.1,wi.2,wm.2.2⟩;exact⟨hc.co,hc.ro,hc.te,hc.sh,hc.st⟩
 ·exact ou h hn
theorem CU{j:Nat}(hu:8≤u)(h:bh n m u w)(hn:w.no=false)(hj:j<n)(hg:gt w.gc j=false){a:Rat}(ha:qw (qB u (ay w.gc) (ay w.gr)) a):qR n m u w (true,jX w j a []):=by
 have e1:ay (w.gc.set j true)=ay w.gc+1:=jV (by rw[h.S.gc];exact hj) hg;refine⟨⟨LU h.S hj hg a [] (by simp),?_⟩,fun _=>.inr ⟨hn,?_⟩,fun e=>by cases e⟩
 ·show FF u (ay (w.gc.set j true)) (ay w.gr) _;rw[e1];refine K6 hu (fun k hk=>?_) h.W.ro h.W.te h.W.sh h.W.st (by rw[h.S.nc];exact hj) (ah ha (by omega)) (by simp) (fun k hk=>by simp at hk);have:=h.W.co k hk;have b:=DV hu (ay w.gc) (ay w.gr);exact⟨ah this.1 (by omega),ah this.2.1 (by omega),this.2.2⟩
 ·show _<ay (w.gc.set j true)+ay w.gr;omega
theorem vM(hu:8≤u)(h:bh n m u w)(hn:w.no=false){j:Nat}(hj:j<n)(hg:gt w.gc j=false):qR n m u w (su w j):=by
 unfold su;simp only[];split
 ·split
  ·exact AU h
  ·exact CU hu h hn hj hg (h.W.co j (by rw[h.S.nc];exact hj)).1
 ·exact ou h hn
theorem yM{k:Nat}{mx:Bool}{c:dL}(hk:1≤k)(h1:qw k c.low.at')(h2:qw k c.high.at'):qw k (cY mx c).at':=by
 have key:∀t:Bo,qw k t.at'→qw k (if pG mx c.cost=0∧t.has=false then(⟨true,0⟩:Bo) else t).at':=fun t ht=>by
  split
  ·exact Ut.cP k hk
  ·exact ht
 refine key _ ?_;split
 ·exact h2
 ·exact h1
theorem uD{mx:Bool}(hu:8≤u)(h:bh n m u w)(hn:w.no=false){j:Nat}(hj:j<n)(hg:gt w.gc j=false):qR n m u w (fT mx w j):=by
 unfold fT;split
 ·exact ou h hn
 simp only[];have hj':j<w.ae.length:=by rw[h.S.nc];exact hj
 obtain⟨w1,w2,w3⟩:=h.W.co j hj';have bp:=iY hu (ay w.gc) (ay w.gr);have hc:∀c,(c=if(gt w.ae j).whole=true then cA (gt w.ae j) (gt w.ae j).low (gt w.ae j).high else gt w.ae j)→qw (qB u (ay w.gc) (ay w.gr)) c.low.at'∧qw (qB u (ay w.gc) (ay w.gr)) c.high.at'∧qw (qB u (ay w.gc) (ay w.gr)) c.cost:=fun c e=>by
  rw[e];split
  ·have:=qF (k:=qB u (ay w.gc) (ay w.gr)) (c:=gt w.ae j) (by omega) w1 w2 w1 w2;exact⟨this.1,this.2,w3⟩
  ·exact⟨w1,w2,w3⟩
 generalize hcc:(if(gt w.ae j).whole=true then cA (gt w.ae j) (gt w.ae j).low (gt w.ae j).high else gt w.ae j)=c at *;obtain⟨c1,c2,c3⟩:=hc c rfl;have hG:bh n m u (bN w j c):=⟨sI h.S j c,BW h.W ⟨c1,c2,c3⟩⟩;split
 ·have:=AU hG;exact⟨this.sq,fun _=>.inl rfl,fun e=>by cases e⟩
 ·split
  ·have:=CU hu hG hn hj hg (yM (k:=qB u (ay w.gc) (ay w.gr)) (mx:=mx) (by omega) c1 c2);exact⟨this.sq,this.yes,fun e=>by cases e⟩
  ·exact⟨hG,fun e=>(by cases e),fun _=>⟨hn,rfl,rfl,rfl⟩⟩
end
end Go.Ps
namespace Go.Ps
open Go Go.Tb Go.Ut Go.Li Go.Proofs
section
variable {n m u:Nat} {w:Wk}
theorem x7{A B:Nat}{cs:List dL}{ts:List Term}(hB:1≤B)(hc:∀j,j<cs.length→qw B (gt cs j).low.at'∧qw B (gt cs j).high.at')(ht:∀k,k<ts.length→qw A (gt ts k).num∧(gt ts k).aI.toNat<cs.length):∀k,k≤ts.length→ZE (1+(B+A+1)*k) (bS cs ts k)
 | 0,_=>⟨cP _ (by omega),cP _ (by omega)⟩
 | k+1,hk=>by
  have ih:=x7 hB hc ht k (by omega);obtain⟨t1,t2⟩:=ht k (by omega);have:=nM ih (hc _ t2).1 (hc _ t2).2 t1 hB;rw[show 1+(B+A+1)*(k+1)=1+(B+A+1)*k+(B+A)+1 by rw[Nat.mul_add];omega];exact this
theorem C8{B:Nat}{cs:List dL}{ts:List Term}{b:Bool}(hc:∀j,j<cs.length→qw B (gt cs j).low.at'∧qw B (gt cs j).high.at'∧qw B (gt cs j).cost)(ht:∀k,k<ts.length→(gt ts k).aI.toNat<cs.length):∀k,k≤ts.length→∀j,j<cs.length→qw B (gt (aT b ts cs k) j).low.at'∧qw B (gt (aT b ts cs k) j).high.at'∧qw B (gt (aT b ts cs k) j).cost
 | 0,_,j,hj=>hc j hj
 | k+1,hk,j,hj=>by
  have ih:=C8 (b:=b) hc ht k (by omega);have t2:=ht k (by omega);obtain⟨a1,a2,a3⟩:=ih _ t2;show qw B (gt ((aT b ts cs k).set _ _) j).low.at'∧qw B (gt ((aT b ts cs k).set _ _) j).high.at'∧qw B (gt ((aT b ts cs k).set _ _) j).cost;rw[gN (by rw[jr];exact hj)];split
  ·split
   ·exact⟨a1,a1,a3⟩
   ·exact⟨a2,a2,a3⟩
  ·exact ih j hj
theorem BK(h:bh n m u w){cs:List dL}(hl:cs.length=w.ae.length)(hc:∀j,j<cs.length→qw (qB u (ay w.gc) (ay w.gr)) (gt cs j).low.at'∧qw (qB u (ay w.gc) (ay w.gr)) (gt cs j).high.at'∧qw (qB u (ay w.gc) (ay w.gr)) (gt cs j).cost):bh n m u (ey w cs) :=
 ⟨⟨hl.trans h.S.nc,h.S.nr,h.S.gc,h.S.gr,h.S.te,h.S.nb,h.S.st,h.S.lv⟩,⟨hc,h.W.ro,h.W.te,h.W.sh,h.W.st⟩⟩
theorem sC(h:bh n m u w)(hn:w.no=false){i:Nat}(hi:i<m)(hg:gt w.gr i=false):qR n m u w (gj w i):=by
 unfold gj;simp only[];split
 ·exact⟨(h.da true).dw hi hg,fun _=>.inl rfl,fun e=>by cases e⟩
 split
 ·refine⟨bh.dw (w:=ey w _) (BK h (jr _ _ _ _) fun j hj=>?_) hi hg,fun _=>.inr ⟨hn,JQ h hi hg⟩,fun e=>by cases e⟩;rw[jr]at hj;exact C8 h.W.co (fun k hk=>by rw[h.S.nc];exact(eF h hi hk).2.1) _ (alb _) j hj
 split
 ·exact⟨h.dw hi hg,fun _=>.inr ⟨hn,JQ h hi hg⟩,fun e=>by cases e⟩
 ·exact ou h hn
theorem wI(hu:8≤u)(h:bh n m u w)(hn:w.no=false){i:Nat}(hi:i<m)(hg:gt w.gr i=false):qR n m u w (iB w i):=by
 unfold iB;simp only[];split
 ·rename_i hc;obtain⟨hl, -, -, -⟩:=hc;obtain⟨a0,a1,a2⟩:=eF h hi (k:=0) (by omega);obtain⟨-,b1,b2⟩:=eF h hi (k:=1) (by omega);have hb:=h.S.lv i hi hg 1 (by omega);have hla:=h.S.lv i hi hg 0 (by omega);have hab:=(gw (h.S.te i hi) 1 (by omega)).2.2.2 0 (by omega);have hi':i<w.rows.length:=by rw[h.S.nr];exact hi
  have wa:=h.W.te i hi' 0 (by omega);have wb:=h.W.te i hi' 1 (by omega);have wr:=h.W.ro i hi';have e1:ay (w.gr.set i true)=ay w.gr+1:=jV (by rw[h.S.gr];exact hi) hg;generalize gt (gt w.rows i).ab 0=a at *;generalize gt (gt w.rows i).ab 1=b at *;have e2:ay (w.gc.set b.aI.toNat true)=ay w.gc+1:=jV (by rw[h.S.gc];exact b1) hb;have ha':a.aI.toNat<w.ae.length:=by rw[h.S.nc];exact a1
  have hb':b.aI.toNat<w.ae.length:=by rw[h.S.nc];exact b1
  have wca:=h.W.co _ ha';have wcb:=h.W.co _ hb';have p1:=LN hu (ay w.gc);have p2:=DV hu (ay w.gc) (ay w.gr);have p2':=DV hu (ay w.gc) (ay w.gr+1);have p3:=HN hu (ay w.gc) (ay w.gr);have p4:=lD hu (ay w.gc);have p5:=iY hu (ay w.gc) (ay w.gr);have w1:qw (qB u (ay w.gc) (ay w.gr)+qA u (ay w.gc)) ((gt w.rows i).low.at' / b.num):=iI wr.1 wb (by omega);have w2:qw (2*qA u (ay w.gc)) (-(a.num / b.num)):=ah (iX (iI wa wb (by omega))) (by omega);have w3:qw (1+2*qA u (ay w.gc)) (1 / -(a.num / b.num)):=iI (zy (alb 1)) w2 (by omega);have w4:=iX (bM w1 w3 (by omega));have ws:=nM (s:=⟨⟨true,_⟩,⟨true,_⟩⟩) ⟨w4,w4⟩ wcb.1 wcb.2.1 w3 (by omega);refine⟨⟨LU (we (sI h.S _ _) i) b1 hb _ _ (fun t ht=>by
   have:t=⟨a.aI, -(a.num / b.num)⟩:=by simpa using ht
   subst this;exact⟨a0,hla,by show a.aI.toNat≠b.aI.toNat;omega⟩),?_⟩,fun _=>.inr ⟨hn,?_⟩,fun e=>by cases e⟩
  ·show FF u (ay (w.gc.set b.aI.toNat true)) (ay (w.gr.set i true)) _;rw[e1,e2];have hm:=h.W.mono (c':=ay w.gc) (r':=ay w.gr+1) (alb _) (by omega);refine K6 hu (fun k hk=>?_) ?_ ?_ ?_ ?_ ?_ ?_ ?_ (fun k hk=>?_)
   rotate_left
   ·exact hm.ro
   ·exact hm.te
   ·exact hm.sh
   ·exact hm.st
   ·show b.aI.toNat<(w.ae.set _ _).length;simpa using hb'
   ·exact ah w1 (by omega)
   ·simp
   rotate_left
   ·have hk:k<w.ae.length:=by simpa[Ps.dw,bN]using hk
    have wk:=h.W.co k hk;show qw _ (gt (w.ae.set a.aI.toNat _) k).low.at'∧qw _ (gt (w.ae.set a.aI.toNat _) k).high.at'∧qw _ (gt (w.ae.set a.aI.toNat _) k).cost;rw[gN hk];split
    ·rename_i e;subst e;have wi:=qF (k:=qB u (ay w.gc+1) (ay w.gr+1)) (c:=gt w.ae a.aI.toNat) (by omega) (ah wk.1 (by omega)) (ah wk.2.1 (by omega)) (ah ws.1 (by omega)) (ah ws.2 (by omega));exact⟨wi.1,wi.2,ah wk.2.2 (by omega)⟩
    ·exact⟨ah wk.1 (by omega),ah wk.2.1 (by omega),ah wk.2.2 (by omega)⟩
   ·have:k=0:=by simp at hk;omega
    subst this;exact w2
  ·show _<ay (w.gc.set b.aI.toNat true)+ay (w.gr.set i true);omega
 ·exact ou h hn
end
end Go.Ps
namespace Go.Ps
open Go Go.Tb Go.Ut Go.Li Go.Proofs
section
variable {n m u:Nat}
theorem qR.trans{w:Wk}{q q':Bool × Wk}(h:qR n m u w q)(hq:q.1=false)(h':qR n m u q.2 q'):qR n m u w q':=by
 obtain⟨-,e1,e2,e3⟩:=h.yc hq;refine⟨h'.sq,fun e=>?_,fun e=>?_⟩
 ·have:=h'.yes e;rw[e1,e2]at this;exact this
 ·have:=h'.yc e;rw[e1,e2,e3]at this;exact this
theorem fW{d:Wk→Nat→Bool × Wk}{g:Wk→List Bool}{N:Nat}(hd:∀w i,bh n m u w→w.no=false→i<N→gt (g w) i=false→qR n m u w (d w i)):∀k i w,bh n m u w→w.no=false→i+k=N→qR n m u w (bX d g k i w)
 | 0,_,_,h,hn,_=>ou h hn
 | k+1,i,w,h,hn,e=>by
  unfold bX;split
  ·exact fW hd k (i+1) w h hn (by omega)
  ·rename_i hg;have D:=hd w i h hn (by omega) (by simpa using hg);split
   ·exact D
   ·rename_i hq;have hq:(d w i).1=false:=by simpa using hq
    exact D.trans hq (fW hd k (i+1) _ D.sq (D.yc hq).1 (by omega))
theorem yn{w:Wk}{j:Nat}(h:bh n m u w):qR n m u w (zA w j):=⟨h.da _,fun e=>.inl e,fun e=>⟨e,rfl,rfl,rfl⟩⟩
theorem Dh{w:Wk}{j:Nat}(h:bh n m u w):qR n m u w (xK w j):=⟨h.da _,fun e=>.inl e,fun e=>⟨e,rfl,rfl,rfl⟩⟩
theorem Dj{w:Wk}{a:Bool × Wk}{f:Wk→Bool × Wk}(h:qR n m u w a)(hf:a.1=false→qR n m u a.2 (f a.2)):qR n m u w (xA a f):=by
 unfold xA;split
 ·exact h
 ·rename_i e;have e:a.1=false:=by simpa using e
  exact h.trans e (hf e)
theorem GD{mx:Bool}(hu:8≤u){w:Wk}(h:bh n m u w)(hn:w.no=false)(k:Nat):qR n m u w (ij mx w k):=by
 have hc:=h.S.nc;have hr:=h.S.nr;unfold ij;split
 ·refine Dj (fW (N:=n) (fun w i h _ _ _=>yn h) _ _ _ h hn (by omega)) fun e=>?_;have D:=fW (N:=n) (d:=zA) (g:=Wk.gc) (fun w i h _ _ _=>yn h) w.ae.length 0 w h hn (by omega);exact fW (N:=m) (fun w i h _ _ _=>Dh h) _ _ _ D.sq (D.yc e).1 (by rw[D.sq.S.nr];omega)
 ·exact fW (N:=m) (fun w i h hn hi hg=>wA h hn hi hg) _ _ _ h hn (by omega)
 ·exact fW (N:=m) (fun w i h hn hi hg=>uC hu h hn hi hg) _ _ _ h hn (by omega)
 ·exact fW (N:=n) (fun w i h hn hi hg=>vM hu h hn hi hg) _ _ _ h hn (by omega)
 ·exact fW (N:=n) (fun w i h hn hi hg=>uD hu h hn hi hg) _ _ _ h hn (by omega)
 ·exact fW (N:=m) (fun w i h hn hi hg=>sC h hn hi hg) _ _ _ h hn (by omega)
 ·exact fW (N:=m) (fun w i h hn hi hg=>wI hu h hn hi hg) _ _ _ h hn (by omega)
theorem uR{mx:Bool}(hu:8≤u){w:Wk}(h:bh n m u w)(hn:w.no=false):∀k,qR n m u w (iM mx w k)
 | 0=>ou h hn
 | k+1=>by
  have ih:=uR (mx:=mx) hu h hn k;exact Dj ih fun e=>GD hu ih.sq (ih.yc e).1 (k+1)
theorem IE{mx:Bool}(hu:8≤u){w:Wk}(h:bh n m u w)(hn:w.no=false):qR n m u w (ix mx w):=uR hu h hn 7
def Ec(n m:Nat)(w:Wk):Nat:=(n+m) - (ay w.gc+ay w.gr)
theorem Jo{w:Wk}{q:Bool × Wk}(h:qR n m u w q)(hq:q.1=true)(hn:q.2.no=false):Ec n m q.2<Ec n m w:=by
 have:=h.yes hq;have a:=m4 q.2.gc;have b:=m4 q.2.gr;rw[h.sq.S.gc]at a;rw[h.sq.S.gr]at b;unfold Ec;rcases this with e | ⟨-,e⟩
 ·rw[hn]at e;cases e
 ·omega
theorem dr{w:Wk}(h:bh n m u w):ay w.gc≤n∧ay w.gr≤m:=⟨by have:=m4 w.gc;rw[h.S.gc]at this;exact this,by have:=m4 w.gr;rw[h.S.gr]at this;exact this⟩
end
end Go.Ps
namespace Go.Ps
open Go Go.Tb Go.Ut Go.Li Go.Proofs
section
variable {d:Wk→Nat→Bool × Wk} {g:Wk→List Bool} {N i:Nat} {w:Wk}
theorem oH(hi:i<N)(h:gt (g w) i=true):bX d g (N - i) i w=bX d g (N - (i+1)) (i+1) w:=by
 obtain⟨k,e⟩:∃k,N - i=k+1:=⟨N - i - 1,by omega⟩;rw[e,show N - (i+1)=k by omega];show(if gt (g w) i=true then _ else _)=_;rw[if_pos h]
theorem rI(hi:i<N)(h:gt (g w) i=false)(h1:(d w i).1=true):bX d g (N - i) i w=d w i:=by
 obtain⟨k,e⟩:∃k,N - i=k+1:=⟨N - i - 1,by omega⟩;rw[e];show(if gt (g w) i=true then _ else _)=_;rw[if_neg (by simp[h]),if_pos h1]
theorem qf(hi:i<N)(h:gt (g w) i=false)(h1:(d w i).1=false):bX d g (N - i) i w=bX d g (N - (i+1)) (i+1) (d w i).2:=by
 obtain⟨k,e⟩:∃k,N - i=k+1:=⟨N - i - 1,by omega⟩;rw[e,show N - (i+1)=k by omega];show(if gt (g w) i=true then _ else _)=_;rw[if_neg (by simp[h]),if_neg (by simp[h1])]
theorem u9:bX d g (N - N) N w=(false,w):=by rw[Nat.sub_self];rfl
structure NC(w:Wk):Prop where
 c:∀j,j<w.ae.length→gt w.gc j=false→aD (gt w.ae j).low (gt w.ae j).high=false
 r:∀i,i<w.rows.length→gt w.gr i=false→aD (gt w.rows i).low (gt w.rows i).high=false
theorem ow{a:Bool × Wk}{f:Wk→Bool × Wk}(h:a.1=false):xA a f=f a.2:=by unfold xA;rw[if_neg (by simp[h])]
theorem yU{a:Bool × Wk}{f:Wk→Bool × Wk}(h:a.1=true):xA a f=a:=by unfold xA;rw[if_pos h]
theorem vW{mx:Bool}{k:Nat}{w':Wk}(h:iM mx w k=(false,w')):iM mx w (k+1)=ij mx w' (k+1):=by
 show xA (iM mx w k) _=_;rw[h,ow rfl]
theorem nV{mx:Bool}{k:Nat}{w':Wk}(h:iM mx w k=(true,w')):∀j,iM mx w (k+j)=(true,w')
 | 0=>h
 | j+1=>by
  show xA (iM mx w (k+j)) _=_;rw[nV h j,yU rfl]
end
end Go.Ps


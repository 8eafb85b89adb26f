/- A text of the prover's own. -/
import Derived.Test.YtmghjkkjaolpgaaGreatDoorUJf
open Nat renaming le_refl→amk,mul_le_mul_left→ann,pow_le_pow_right→ano,mul_le_mul→anT,pow_succ→anj,mul_comm→anl,mul_left_comm→ao4,mul_succ→ao5,le_trans→amQ,mul_le_mul_right→amh
namespace Go.Ps
open Go Go.Tb Go.Ut Go.Li Go.Proofs
structure lU where
 aq:Nat
 at':Rat
 ab:List Term
instance:Inhabited lU:=⟨⟨0,0,[]⟩⟩
structure Wk where
 aa:List df
 rows:List Row
 sh:Rat
 gc:List Bool
 gr:List Bool
 steps:List lU
 no:Bool
def aH(a b:Bo):Bool:=a.has&&b.has&&decide (b.at'<a.at')
def alike(a b:Bo):Bool:=a.has&&b.has&&decide (a.at'=b.at')
def yd(w:Bool)(q:Rat):Rat:=if w=true then((q.ceil:Int):Rat) else q
def AA(w:Bool)(q:Rat):Rat:=if w=true then((q.floor:Int):Rat) else q
def lA(c:df)(b:Bo):Bo:=if b.has=true∧(c.low.has=true→c.low.at'<yd c.whole b.at') then⟨true,yd c.whole b.at'⟩ else c.low
def lY(c:df)(b:Bo):Bo:=if b.has=true∧(c.high.has=true→AA c.whole b.at'<c.high.at') then⟨true,AA c.whole b.at'⟩ else c.high
def bg(c:df)(lo hi:Bo):df:=⟨c.name,c.whole,lA c lo,lY c hi,c.cost⟩
def iU(r:Row)(j:Nat)(ts:List Term)(k:Nat):Rat:=if k=j then 0 else aS r.ab k+aS ts k*aS r.ab j
def n9(n j:Nat)(a:Rat)(ts:List Term)(r:Row):Row :=
 if aS r.ab j=0 then r else⟨r.name,kS (iU r j ts) n,bV r.low ⟨true, -(a*aS r.ab j)⟩ 1,bV r.high ⟨true, -(a*aS r.ab j)⟩ 1⟩
def du(w:Wk)(j:Nat)(a:Rat)(ts:List Term):Nat→List Row
 | 0=>w.rows
 | i+1=>if gt w.gr i=true then du w j a ts i else(du w j a ts i).set i (n9 w.aa.length j a ts (gt w.rows i))
def fH(cs:List df)(q:Rat):List Term→List df
 | []=>cs
 | t::ts=>fH (cs.set t.aq.toNat ⟨(gt cs t.aq.toNat).name,(gt cs t.aq.toNat).whole,(gt cs t.aq.toNat).low,(gt cs t.aq.toNat).high,(gt cs t.aq.toNat).cost+q*t.num⟩) q ts
def k8(w:Wk)(j:Nat)(a:Rat)(ts:List Term):Wk :=
 ⟨fH w.aa (gt w.aa j).cost ts,du w j a ts w.rows.length,w.sh+(gt w.aa j).cost*a,w.gc.set j true,w.gr,w.steps++[⟨j,a,ts⟩],w.no⟩
def cD(w:Wk)(j:Nat)(c:df):Wk:=⟨w.aa.set j c,w.rows,w.sh,w.gc,w.gr,w.steps,w.no⟩
def fh(w:Wk)(i:Nat):Wk:=⟨w.aa,w.rows,w.sh,w.gc,w.gr.set i true,w.steps,w.no⟩
def eD(w:Wk)(b:Bool):Wk:=⟨w.aa,w.rows,w.sh,w.gc,w.gr,w.steps,b⟩
def zB:Sp:=⟨⟨true,0⟩,⟨true,0⟩⟩
def iF(w:Wk)(i:Nat):Bool × Wk :=
 if(gt w.rows i).ab.length=0 then(true,fh (eD w (!ix 0 (gt w.rows i).low (gt w.rows i).high)) i) else(false,w)
def jA(w:Wk)(i:Nat):Bool × Wk :=
 let r:=gt w.rows i
 if r.ab.length=1 then
  let t:=gt r.ab 0
  let s:=ck zB r.low r.high (1 / t.num)
  (true,fh (cD w t.aq.toNat (bg (gt w.aa t.aq.toNat) s.lo s.hi)) i)
 else(false,w)
def o3(w:Wk)(j:Nat):Bool × Wk :=
 let c:=gt w.aa j
 if alike c.low c.high=true then
  if c.whole=true∧c.low.at'.den≠1 then(true,eD w true) else(true,k8 w j c.low.at' [])
 else(false,w)
def kg(w:Wk)(j:Nat):Nat→Bool
 | 0=>false
 | i+1=>kg w j i||(!gt w.gr i&&decide (aS (gt w.rows i).ab j≠0))
def qj(mx:Bool)(q:Rat):Int:=if q=0 then 0 else if(mx=true↔0<q) then -1 else 1
def dt(mx:Bool)(c:df):Bo :=
 let to:=if qj mx c.cost<0∨(qj mx c.cost=0∧c.low.has=false) then c.high else c.low
 if qj mx c.cost=0∧to.has=false then⟨true,0⟩ else to
def iq(mx:Bool)(w:Wk)(j:Nat):Bool × Wk :=
 if kg w j w.rows.length=true then(false,w) else
  let c0:=gt w.aa j
  let c:=if c0.whole=true then bg c0 c0.low c0.high else c0
  let w1:=cD w j c
  if aH c.low c.high=true then(true,eD w1 true) else
   if(dt mx c).has=true then(true,k8 w1 j (dt mx c).at' []) else(false,w1)
def bK(cs:List df)(ts:List Term):Nat→Sp
 | 0=>zB
 | k+1=>ck (bK cs ts k) (gt cs (gt ts k).aq.toNat).low (gt cs (gt ts k).aq.toNat).high (gt ts k).num
def bN(least:Bool)(ts:List Term)(cs:List df):Nat→List df
 | 0=>cs
 | k+1 =>
  let l:=bN least ts cs k
  let j:=(gt ts k).aq.toNat
  let c:=gt l j
  l.set j (if decide (0<(gt ts k).num)=least then⟨c.name,c.whole,c.low,c.low,c.cost⟩ else⟨c.name,c.whole,c.high,c.high,c.cost⟩)
def jR(w:Wk)(cs:List df):Wk:=⟨cs,w.rows,w.sh,w.gc,w.gr,w.steps,w.no⟩
def Ce(a b:Bo):Bool:=!b.has||(a.has&&decide (b.at'≤a.at'))
def BX(a b:Bo):Bool:=!b.has||(a.has&&decide (a.at'≤b.at'))
def gC(w:Wk)(i:Nat):Bool × Wk :=
 let r:=gt w.rows i
 let s:=bK w.aa r.ab r.ab.length
 if aH s.lo r.high=true∨aH r.low s.hi=true then(true,fh (eD w true) i) else
 if alike s.lo r.high=true∨alike s.hi r.low=true then(true,fh (jR w (bN (alike s.lo r.high) r.ab w.aa r.ab.length)) i) else
 if Ce s.lo r.low=true∧BX s.hi r.high=true then(true,fh w i) else(false,w)
def iB(w:Wk)(i:Nat):Bool × Wk :=
 let r:=gt w.rows i
 let a:=gt r.ab 0
 let b:=gt r.ab 1
 if r.ab.length=2∧alike r.low r.high=true∧(gt w.aa a.aq.toNat).whole=false∧(gt w.aa b.aq.toNat).whole=false then
  let y:=gt w.aa b.aq.toNat
  let to:=r.low.at' / b.num
  let e9 := -(a.num / b.num)
  let s:=ck ⟨⟨true, -(to*(1 / e9))⟩,⟨true, -(to*(1 / e9))⟩⟩ y.low y.high (1 / e9)
  (true,k8 (fh (cD w a.aq.toNat (bg (gt w.aa a.aq.toNat) s.lo s.hi)) i) b.aq.toNat to [⟨a.aq,e9⟩])
 else(false,w)
def bH(d:Wk→Nat→Bool × Wk)(g:Wk→List Bool):Nat→Nat→Wk→Bool × Wk
 | 0,_,w=>(false,w)
 | m+1,i,w=>if gt (g w) i=true then bH d g m (i+1) w else if(d w i).1=true then d w i else bH d g m (i+1) (d w i).2
def uf(w:Wk)(j:Nat):Bool × Wk:=(aH (gt w.aa j).low (gt w.aa j).high,eD w (aH (gt w.aa j).low (gt w.aa j).high))
def yP(w:Wk)(i:Nat):Bool × Wk:=(aH (gt w.rows i).low (gt w.rows i).high,eD w (aH (gt w.rows i).low (gt w.rows i).high))
def wO(a:Bool × Wk)(f:Wk→Bool × Wk):Bool × Wk:=if a.1=true then a else f a.2
def gW(mx:Bool)(w:Wk):Nat→Bool × Wk
 | 1=>wO (bH uf Wk.gc w.aa.length 0 w) fun w=>bH yP Wk.gr w.rows.length 0 w
 | 2=>bH iF Wk.gr w.rows.length 0 w
 | 3=>bH jA Wk.gr w.rows.length 0 w
 | 4=>bH o3 Wk.gc w.aa.length 0 w
 | 5=>bH (iq mx) Wk.gc w.aa.length 0 w
 | 6=>bH gC Wk.gr w.rows.length 0 w
 | _=>bH iB Wk.gr w.rows.length 0 w
def eo(mx:Bool)(w:Wk):Nat→Bool × Wk
 | 0=>(false,w)
 | k+1=>wO (eo mx w k) fun w=>gW mx w (k+1)
def gy(mx:Bool)(w:Wk):Bool × Wk:=eo mx w 7
inductive BM (mx:Bool):Wk→Wk→Prop
 | no {w:Wk} (h:w.no=true):BM mx w w
 | last {w:Wk} (h:w.no=false) (h1:(gy mx w).1=false):BM mx w (gy mx w).2
 | step {w z:Wk} (h:w.no=false) (h1:(gy mx w).1=true) (h2:BM mx (gy mx w).2 z):BM mx w z
def bI(p:aO):Wk:=⟨p.aa,p.rows,p.shift,List.replicate p.aa.length false,List.replicate p.rows.length false,[],false⟩
def aB(g:List Bool):Nat→List Nat
 | 0=>[]
 | j+1=>if gt g j=true then aB g j else aB g j++[j]
def dD(w:Wk)(j:Nat):List df:=(aB w.gc j).map (gt w.aa)
def ic(w:Wk)(r:Row):Row:=⟨r.name,r.ab.map fun t=>⟨if gt w.gc t.aq.toNat=true then 0 else((aB w.gc t.aq.toNat).length:Nat),t.num⟩,r.low,r.high⟩
def cO(w:Wk):Nat→List Row
 | 0=>[]
 | i+1=>if gt w.gr i=true then cO w i else cO w i++[ic w (gt w.rows i)]
def bM(mx:Bool)(w:Wk):aO:=⟨mx,w.sh,dD w w.aa.length,cO w w.rows.length⟩
end Go.Ps
namespace Go.Ps
open Go Go.Tb Go.Ut Go.Li Go.Proofs
def aD:List Bool→Nat
 | []=>0
 | b::l=>(if b=true then 1 else 0)+aD l
theorem oV:∀l:List Bool,aD l≤l.length
 | []=>amk _
 | b::l=>by have:=oV l;simp only[aD,List.length_cons];split<;>omega
theorem jy:∀{l:List Bool} {j:Nat},j<l.length→gt l j=false→aD (l.set j true)=aD l+1
 | [],_,h,_=>by simp at h
 | b::l,0,_,h=>by
  have:b=false:=h;subst this;simp[aD];omega
 | b::l,j+1,h,h1=>by
  have:=jy (l:=l) (j:=j) (by simpa using h) h1;simp only[List.set_cons_succ,aD,this];omega
theorem rF(n:Nat):aD (List.replicate n false)=0:=by
 induction n with
 | zero=>rfl
 | succ n ih=>simp[List.replicate_succ,aD,ih]
theorem xE{n:Nat}{j:Int}{q:Rat}(hj:j<n)(hq:q≠0):∀{ts:List Term} {c:Int},fB n c ts=false→(∀k,k<ts.length→(gt ts k).aq<j)→c<j→fB n c (ts++[⟨j,q⟩])=false
 | [],c,_,_,hc=>by simp[fB];exact⟨⟨by omega,by omega⟩,hq⟩
 | t::ts,c,h,h1,hc=>by
  simp only[fB,Bool.or_eq_false_iff,decide_eq_false_iff_not,List.cons_append]at h ⊢;exact⟨h.1,xE hj hq h.2 (fun k hk=>h1 (k+1) (by simpa using hk)) (h1 0 (by simp))⟩
theorem AU(f:Nat→Rat)(n:Nat):∀k,k≤n→fB n (-1) (kS f k)=false
 | 0,_=>rfl
 | k+1,hk=>by
  have ih:=AU f n k (by omega);unfold kS;split
  ·exact ih
  ·rename_i h;exact xE (by omega) h ih (fun i hi=>(sN f k i hi).2.1) (by omega)
theorem jo(w:Wk)(j:Nat)(a:Rat)(ts:List Term):∀i,(du w j a ts i).length=w.rows.length
 | 0=>rfl
 | i+1=>by unfold du;split<;>simp[jo w j a ts i]
theorem jH(w:Wk)(j:Nat)(a:Rat)(ts:List Term){k:Nat}(hk:k<w.rows.length):∀i,gt (du w j a ts i) k=if k<i∧gt w.gr k=false then n9 w.aa.length j a ts (gt w.rows k) else gt w.rows k
 | 0=>by simp[du]
 | i+1=>by
  have ih:=jH w j a ts hk i;unfold du;split
  ·rename_i h;rw[ih];by_cases e:k=i
   ·subst e;simp[h]
   ·by_cases q:k<i
    ·simp[q,show k<i+1 by omega]
    ·simp[q,show ¬k<i+1 by omega]
  ·rename_i h;rw[dM (by rw[jo];exact hk),ih];by_cases e:k=i
   ·subst e;simp[h]
   ·by_cases q:k<i
    ·simp[q,show k<i+1 by omega,show i≠k by omega]
    ·simp[q,show ¬k<i+1 by omega,show i≠k by omega]
theorem jI(q:Rat):∀(ts:List Term) (cs:List df),(fH cs q ts).length=cs.length
 | [],cs=>rfl
 | t::ts,cs=>by unfold fH;rw[jI q ts];simp
theorem ub(q:Rat):∀(ts:List Term) (cs:List df) (k:Nat),k<cs.length→(gt (fH cs q ts) k).low=(gt cs k).low∧(gt (fH cs q ts) k).high=(gt cs k).high∧(gt (fH cs q ts) k).whole=(gt cs k).whole∧(gt (fH cs q ts) k).name=(gt cs k).name
 | [],cs,k,_=>⟨rfl,rfl,rfl,rfl⟩
 | t::ts,cs,k,hk=>by
  obtain⟨h1,h2,h3,h4⟩:=ub q ts (cs.set t.aq.toNat ⟨(gt cs t.aq.toNat).name,(gt cs t.aq.toNat).whole,(gt cs t.aq.toNat).low,(gt cs t.aq.toNat).high,(gt cs t.aq.toNat).cost+q*t.num⟩) k (by simpa using hk);unfold fH;rw[h1,h2,h3,h4,dM hk];split
  ·rename_i e;subst e;exact⟨rfl,rfl,rfl,rfl⟩
  ·exact⟨rfl,rfl,rfl,rfl⟩
theorem ji(b:Bool)(ts:List Term)(cs:List df):∀k,(bN b ts cs k).length=cs.length
 | 0=>rfl
 | k+1=>by unfold bN;simp[ji b ts cs k]
def nB(b:Bo):Prop:=b.has=false→b.at'=0
theorem Dx(a b:Bo)(r:Rat):nB (bV a b r):=fun h=>by
 unfold bV at h ⊢;split
 ·rename_i q;rw[if_pos q]at h;cases h
 ·rfl
structure Ae(n m:Nat)(w:Wk):Prop where
 nc:w.aa.length=n
 nr:w.rows.length=m
 gc:w.gc.length=n
 gr:w.gr.length=m
 te:∀i,i<m→fB n (-1) (gt w.rows i).ab=false
 nb:∀i,i<m→nB (gt w.rows i).low∧nB (gt w.rows i).high
 st:w.steps.length≤aD w.gc
 lv:∀i,i<m→gt w.gr i=false→∀k,k<(gt w.rows i).ab.length→gt w.gc (gt (gt w.rows i).ab k).aq.toNat=false
theorem Ac{j:Nat}:∀{ts:List Term},aS ts j≠0→∃i,i<ts.length∧(gt ts i).aq=j
 | [],h=>absurd rfl h
 | t::ts,h=>by
  unfold aS at h;split at h
  ·rename_i e;exact⟨0,by simp,e⟩
  ·obtain⟨i,hi,e⟩:=Ac h;exact⟨i+1,by simpa using hi,e⟩
theorem Ik{n:Nat}{j:Nat}:∀{ts:List Term} {c:Int},fB n c ts=false→aS ts j=0→∀i,i<ts.length→(gt ts i).aq≠j
 | [],_,_,_,i,hi=>by simp at hi
 | t::ts,c,hb,h,i,hi=>by
  simp only[fB,Bool.or_eq_false_iff,decide_eq_false_iff_not]at hb;unfold aS at h;split at h
  ·exact absurd h hb.1.2
  ·rename_i e;cases i with
   | zero=>exact e
   | succ i=>exact Ik hb.2 h i (by simpa using hi)
def qA(u c:Nat):Nat:=u*4^c - 3
def qB(u c r:Nat):Nat:=u*4^c*(c+r+2)
structure Gk(u c r:Nat)(w:Wk):Prop where
 co:∀j,j<w.aa.length→qw (qB u c r) (gt w.aa j).low.at'∧qw (qB u c r) (gt w.aa j).high.at'∧qw (qB u c r) (gt w.aa j).cost
 ro:∀i,i<w.rows.length→qw (qB u c r) (gt w.rows i).low.at'∧qw (qB u c r) (gt w.rows i).high.at'
 te:∀i,i<w.rows.length→∀k,k<(gt w.rows i).ab.length→qw (qA u c) (gt (gt w.rows i).ab k).num
 sh:qw (qB u c r) w.sh
 st:∀k,k<w.steps.length→qw (qB u c r) (gt w.steps k).at'∧∀t,t<(gt w.steps k).ab.length→qw (qA u c) (gt (gt w.steps k).ab t).num
def WdW(u:Nat)(w:Wk):Prop:=Gk u (aD w.gc) (aD w.gr) w
theorem oU{u c c':Nat}(h:c≤c'):qA u c≤qA u c':=by
 unfold qA;have:=ann u (ano (show 0<4 by decide) h);omega
theorem iI{u c c' r r':Nat}(h:c≤c')(h':r≤r'):qB u c r≤qB u c' r':=by
 unfold qB;exact anT (ann u (ano (show 0<4 by decide) h)) (by omega)
theorem Gk.mono{u c c' r r':Nat}{w:Wk}(h:Gk u c r w)(hc:c≤c')(hr:r≤r'):Gk u c' r' w where
 co:=fun j hj=>⟨ah (h.co j hj).1 (iI hc hr),ah (h.co j hj).2.1 (iI hc hr),ah (h.co j hj).2.2 (iI hc hr)⟩
 ro:=fun i hi=>⟨ah (h.ro i hi).1 (iI hc hr),ah (h.ro i hi).2 (iI hc hr)⟩
 te:=fun i hi k hk=>ah (h.te i hi k hk) (oU hc)
 sh:=ah h.sh (iI hc hr)
 st:=fun k hk=>⟨ah (h.st k hk).1 (iI hc hr),fun t ht=>ah ((h.st k hk).2 t ht) (oU hc)⟩
theorem Jm(c:Nat):1≤4^c:=ano (n:=4) (by decide) (Nat.zero_le c)
theorem pO{u:Nat}(hu:8≤u)(c:Nat):5≤qA u c:=by
 unfold qA;have:=anT hu (Jm c);omega
theorem l4{u:Nat}(hu:8≤u)(c r:Nat):2*(qA u c+3)≤qB u c r:=by
 unfold qA qB;have h1:=anT hu (Jm c);have h2:=ann (u*4^c) (show 2≤c+r+2 by omega);omega
theorem L3{u:Nat}(hu:8≤u)(c:Nat):4*qA u c+9=qA u (c+1):=by
 unfold qA;have h1:=anT hu (Jm c);rw[anj];have:u*(4^c*4)=4*(u*4^c):=by rw[anl (4^c) 4,ao4]
 omega
theorem Dv{u:Nat}(hu:8≤u)(c r:Nat):4*qB u c r+4*(qA u c+3)=qB u (c+1) r:=by
 unfold qA qB;have h1:=anT hu (Jm c);have e:u*4^(c+1)=4*(u*4^c):=by rw[anj,anl (4^c) 4,ao4]
 rw[e];generalize u*4^c=X at *;obtain⟨N,hN⟩:∃N,c+r+2=N:=⟨_,rfl⟩;rw[show c+1+r+2=N+1 by omega,hN,Nat.mul_assoc,show X*(N+1)=X*N+X from ao5 X N];generalize X*N=Y at *;omega
theorem Ij{u:Nat}(hu:8≤u)(c r:Nat):qB u c r+(qA u c+3)=qB u c (r+1):=by
 unfold qA qB;have h1:=anT hu (Jm c);generalize u*4^c=X at *;obtain⟨N,hN⟩:∃N,c+r+2=N:=⟨_,rfl⟩;rw[show c+(r+1)+2=N+1 by omega,hN,show X*(N+1)=X*N+X from ao5 X N];generalize X*N=Y at *;omega
theorem vg{u c:Nat}(hu:u≤2400)(hc:c≤7):qA u c≤39321597:=by
 refine amQ (oU hc) ?_;unfold qA;have:=amh (4^7) hu;omega
theorem na{u c r:Nat}(hu:u≤2400)(hc:c≤7)(hr:r≤7):qB u c r≤629145600:=by
 refine amQ (iI hc hr) ?_;unfold qB;have:=amh (4^7) hu;have:=amh (7+7+2) this;omega
theorem Lp{k:Nat}{q:Rat}(h:qw k q)(hk:1≤k):qw k (q.ceil:Rat):=by
 have e:(q.ceil:Rat) = -((-q).floor:Rat):=by rw[Rat.ceil_eq_neg_floor_neg];simp
 rw[e];exact lq (AH (lq h) hk)
theorem MK{k:Nat}{w:Bool}{q:Rat}(h:qw k q)(hk:1≤k):qw k (yd w q):=by
 unfold yd;split
 ·exact Lp h hk
 ·exact h
theorem MM{k:Nat}{w:Bool}{q:Rat}(h:qw k q)(hk:1≤k):qw k (AA w q):=by
 unfold AA;split
 ·exact AH h hk
 ·exact h
theorem rj{k:Nat}{c:df}{a b:Bo}(hk:1≤k)(h1:qw k c.low.at')(h2:qw k c.high.at')(ha:qw k a.at')(hb:qw k b.at'):qw k (bg c a b).low.at'∧qw k (bg c a b).high.at':=by
 refine⟨?_,?_⟩
 ·show qw k (lA c a).at';unfold lA;split
  ·exact MK ha hk
  ·exact h1
 ·show qw k (lY c b).at';unfold lY;split
  ·exact MM hb hk
  ·exact h2
end Go.Ps
namespace Go.Ps
open Go Go.Tb Go.Ut Go.Li Go.Proofs
theorem KF{k:Nat}(h:1≤k):qw k 1:=⟨pD h,pD h⟩
theorem MQ{n m:Nat}{w:Wk}(h:Ae n m w){j:Nat}(hj:j<n)(hg:gt w.gc j=false)(a:Rat)(ts:List Term)(hts:∀t∈ts,0≤t.aq∧gt w.gc t.aq.toNat=false∧t.aq.toNat≠j):Ae n m (k8 w j a ts) where
 nc:=by show(fH _ _ _).length=n;rw[jI];exact h.nc
 nr:=by show(du _ _ _ _ _).length=m;rw[jo];exact h.nr
 gc:=by show(w.gc.set j true).length=n;simp[h.gc]
 gr:=h.gr
 te:=fun i hi=>by
  show fB n (-1) (gt (du w j a ts w.rows.length) i).ab=false;rw[jH w j a ts (by rw[h.nr];exact hi)];split
  ·unfold n9;split
   ·exact h.te i hi
   ·rw[h.nc];exact AU _ n n (amk _)
  ·exact h.te i hi
 nb:=fun i hi=>by
  show nB (gt (du w j a ts w.rows.length) i).low∧nB (gt (du w j a ts w.rows.length) i).high;rw[jH w j a ts (by rw[h.nr];exact hi)];split
  ·unfold n9;split
   ·exact h.nb i hi
   ·exact⟨Dx _ _ _,Dx _ _ _⟩
  ·exact h.nb i hi
 st:=by
  show(w.steps++[_]).length≤aD (w.gc.set j true);rw[jy (by rw[h.gc];exact hj) hg];have:=h.st;simp;omega
 lv:=fun i hi hgi=>by
  have hgi:gt w.gr i=false:=hgi;show ∀k,k<(gt (du w j a ts w.rows.length) i).ab.length→gt (w.gc.set j true) (gt (gt (du w j a ts w.rows.length) i).ab k).aq.toNat=false;have hi':i<w.rows.length:=by rw[h.nr];exact hi
  rw[jH w j a ts hi',if_pos ⟨hi',hgi⟩];have old:∀k,k<(gt w.rows i).ab.length→(gt (gt w.rows i).ab k).aq≠(j:Int)→gt (w.gc.set j true) (gt (gt w.rows i).ab k).aq.toNat=false:=fun k hk hne=>by
   obtain⟨b1,b2, -, -⟩:=cW (h.te i hi) k hk;rw[dM (by rw[h.gc];omega),if_neg (by omega)];exact h.lv i hi hgi k hk
  unfold n9;split
  ·rename_i hz;exact fun k hk=>old k hk (Ik (h.te i hi) hz k hk)
  ·intro k hk;obtain⟨c1,c2,c3,c4⟩:=sN _ _ k hk;generalize gt (kS (iU (gt w.rows i) j ts) w.aa.length) k=t at *;rw[c3]at c4;unfold iU at c4;split at c4
   ·exact absurd rfl c4
   ·rename_i hne;have hnc:t.aq.toNat<n:=by have:=h.nc;omega
    rw[dM (by rw[h.gc];exact hnc),if_neg (by omega)];by_cases q:aS (gt w.rows i).ab t.aq.toNat=0
    ·rw[q,Rat.zero_add]at c4;obtain⟨k',hk',e⟩:=Ac (ts:=ts) (j:=t.aq.toNat) (fun e=>c4 (by rw[e,Rat.zero_mul]));have:=(hts _ (dr hk')).2.1
     rwa [show(gt ts k').aq.toNat=t.aq.toNat by omega]at this
    ·obtain⟨k',hk',e⟩:=Ac q;have:=h.lv i hi hgi k' hk'
     rwa [show(gt (gt w.rows i).ab k').aq.toNat=t.aq.toNat by omega]at this
theorem Ge{B D:Nat}(q:Rat):∀(ts:List Term) (cs:List df),ts.length≤1→(∀k,k<cs.length→qw B (gt cs k).cost)→(∀t∈ts,qw D (q*t.num))→∀k,k<cs.length→qw (B+D+1) (gt (fH cs q ts) k).cost
 | [],cs,_,h,_,k,hk=>ah (h k hk) (by omega)
 | [t],cs,_,h,h1,k,hk=>by
  show qw _ (gt (cs.set t.aq.toNat _) k).cost;rw[dM hk];split
  ·rename_i e;subst e;exact jP (h _ hk) (h1 t (by simp))
  ·exact ah (h k hk) (by omega)
 | _::_::_,_,h,_,_,_,_=>by simp at h
theorem Ma{u c r:Nat}{w:Wk}(hu:8≤u)(hco:∀j,j<w.aa.length→qw (qB u (c+1) r) (gt w.aa j).low.at'∧qw (qB u (c+1) r) (gt w.aa j).high.at'∧qw (qB u c r) (gt w.aa j).cost)
  (hro:∀i,i<w.rows.length→qw (qB u c r) (gt w.rows i).low.at'∧qw (qB u c r) (gt w.rows i).high.at')
  (hte:∀i,i<w.rows.length→∀k,k<(gt w.rows i).ab.length→qw (qA u c) (gt (gt w.rows i).ab k).num)
  (hsh:qw (qB u c r) w.sh) (hst:∀k,k<w.steps.length→qw (qB u c r) (gt w.steps k).at'∧∀t,t<(gt w.steps k).ab.length→qw (qA u c) (gt (gt w.steps k).ab t).num)
  {j:Nat} (hj:j<w.aa.length) {a:Rat} (ha:qw (qB u c r+qA u c) a) {ts:List Term} (hl:ts.length≤1) (hts:∀k,k<ts.length→qw (2*qA u c) (gt ts k).num):Gk u (c+1) r (k8 w j a ts):=by
 have e1:=L3 hu c;have e2:=Dv hu c r;have e3:=pO hu c;have e4:=l4 hu c r;have hx:∀i,i<w.rows.length→qw (qA u c) (aS (gt w.rows i).ab j):=fun i hi=>oK (by omega) (hte i hi);refine⟨fun k hk=>?_,fun i hi=>?_,fun i hi k hk=>?_,?_,fun k hk=>?_⟩
 ·have hk:k<w.aa.length:=by
   have:(fH w.aa (gt w.aa j).cost ts).length=w.aa.length:=jI _ _ _;have hk':k<(fH w.aa (gt w.aa j).cost ts).length:=hk;omega
  obtain⟨b1,b2, -, -⟩:=ub (gt w.aa j).cost ts w.aa k hk;refine⟨?_,?_,?_⟩
  ·show qw _ (gt (fH w.aa (gt w.aa j).cost ts) k).low.at';rw[b1];exact(hco k hk).1
  ·show qw _ (gt (fH w.aa (gt w.aa j).cost ts) k).high.at';rw[b2];exact(hco k hk).2.1
  ·refine ah (Ge (B:=qB u c r) (D:=qB u c r+2*qA u c) (gt w.aa j).cost ts w.aa hl (fun k hk=>(hco k hk).2.2) (fun t ht=>?_) k hk) (by omega);obtain⟨i,hi,rfl⟩:=List.getElem_of_mem ht;rw[bR hi];exact bW (hco j hj).2.2 (hts i hi) (by omega)
 ·have hi:i<w.rows.length:=by
   have hi':i<(du w j a ts w.rows.length).length:=hi
   rwa [jo]at hi'
  show qw _ (gt (du w j a ts w.rows.length) i).low.at'∧qw _ (gt (du w j a ts w.rows.length) i).high.at';rw[jH w j a ts hi];have hm:=lq (bW ha (hx i hi) (by omega));split
  ·unfold n9;split
   ·exact⟨ah (hro i hi).1 (by omega),ah (hro i hi).2 (by omega)⟩
   ·exact⟨ah (oH (b:=⟨true, -(a*aS (gt w.rows i).ab j)⟩) (hro i hi).1 hm (KF (amk 1)) (by omega)) (by omega),ah (oH (b:=⟨true, -(a*aS (gt w.rows i).ab j)⟩) (hro i hi).2 hm (KF (amk 1)) (by omega)) (by omega)⟩
  ·exact⟨ah (hro i hi).1 (by omega),ah (hro i hi).2 (by omega)⟩
 ·have hi:i<w.rows.length:=by
   have hi':i<(du w j a ts w.rows.length).length:=hi
   rwa [jo]at hi'
  revert hk;show k<(gt (du w j a ts w.rows.length) i).ab.length→qw _ (gt (gt (du w j a ts w.rows.length) i).ab k).num;rw[jH w j a ts hi];split
  ·unfold n9;split
   ·exact fun hk=>ah (hte i hi k hk) (by omega)
   ·intro hk;show qw _ (gt (kS (iU (gt w.rows i) j ts) w.aa.length) k).num;rw[(sN _ _ k hk).2.2.1];unfold iU;split
    ·exact bt _ (by omega)
    ·exact ah (jP (oK (by omega) (hte i hi)) (bW (oK (k:=2*qA u c) (by omega) hts) (hx i hi) (by omega))) (by omega)
  ·exact fun hk=>ah (hte i hi k hk) (by omega)
 ·exact ah (jP hsh (bW (hco j hj).2.2 ha (by omega))) (by omega)
 ·have hk':k<(w.steps++[(⟨j,a,ts⟩:lU)]).length:=hk;show qw _ (gt (w.steps++[(⟨j,a,ts⟩:lU)]) k).at'∧∀t,t<(gt (w.steps++[(⟨j,a,ts⟩:lU)]) k).ab.length→qw _ (gt (gt (w.steps++[(⟨j,a,ts⟩:lU)]) k).ab t).num;by_cases q:k<w.steps.length
  ·rw[Hv q];exact⟨ah (hst k q).1 (by omega),fun t ht=>ah ((hst k q).2 t ht) (by omega)⟩
  ·have:k=w.steps.length:=by simp at hk';omega
   subst this;rw[show gt (w.steps++[(⟨j,a,ts⟩:lU)]) w.steps.length=⟨j,a,ts⟩ by simp[gt]];exact⟨ah ha (by omega),fun t ht=>ah (hts t ht) (by omega)⟩
structure aW(n m u:Nat)(w:Wk):Prop where
 S:Ae n m w
 W:WdW u w
structure rT(n m u:Nat)(w:Wk)(q:Bool × Wk):Prop where
 lW:aW n m u q.2
 yes:q.1=true→q.2.no=true∨(q.2.no=false∧aD w.gc+aD w.gr<aD q.2.gc+aD q.2.gr)
 Ci:q.1=false→q.2.no=false∧q.2.gc=w.gc∧q.2.gr=w.gr∧q.2.rows=w.rows
section
variable {n m u:Nat} {w:Wk}
theorem aW.eD(h:aW n m u w)(b:Bool):aW n m u (eD w b):=⟨⟨h.S.nc,h.S.nr,h.S.gc,h.S.gr,h.S.te,h.S.nb,h.S.st,h.S.lv⟩,⟨h.W.co,h.W.ro,h.W.te,h.W.sh,h.W.st⟩⟩
theorem w6(h:Ae n m w)(i:Nat):Ae n m (fh w i):=⟨h.nc,h.nr,h.gc,by show(w.gr.set i true).length=m;simp[h.gr],h.te,h.nb,h.st,fun k hk hgk=>by
 have hgk:gt (w.gr.set i true) k=false:=hgk;rw[dM (by rw[h.gr];exact hk)]at hgk;split at hgk
 ·cases hgk
 ·exact h.lv k hk hgk⟩
theorem aW.fh(h:aW n m u w){i:Nat}(hi:i<m)(hg:gt w.gr i=false):aW n m u (fh w i):=⟨w6 h.S i,by
 have e:aD (w.gr.set i true)=aD w.gr+1:=jy (by rw[h.S.gr];exact hi) hg;show Gk u (aD w.gc) (aD (w.gr.set i true)) (Ps.fh w i);rw[e];have:=h.W.mono (c':=aD w.gc) (r':=aD w.gr+1) (amk _) (by omega);exact⟨this.co,this.ro,this.te,this.sh,this.st⟩⟩
theorem J2(h:aW n m u w){i:Nat}(hi:i<m)(hg:gt w.gr i=false):aD w.gc+aD w.gr<aD w.gc+aD (w.gr.set i true):=by
 rw[jy (by rw[h.S.gr];exact hi) hg];omega
theorem ng(h:aW n m u w)(hn:w.no=false):rT n m u w (false,w):=⟨h,fun e=>(by cases e),fun _=>⟨hn,rfl,rfl,rfl⟩⟩
theorem An(h:aW n m u w):rT n m u w (true,Ps.eD w true):=⟨h.eD true,fun _=>.inl rfl,fun e=>by cases e⟩
theorem qQ(h:aW n m u w)(hn:w.no=false){i:Nat}(hi:i<m)(hg:gt w.gr i=false):rT n m u w (iF w i):=by
 unfold iF;split
 ·refine⟨(h.eD _).fh hi hg,fun _=>?_,fun e=>by cases e⟩;show(!ix 0 _ _)=true∨_;by_cases q:(!ix 0 (gt w.rows i).low (gt w.rows i).high)=true
  ·exact .inl q
  ·exact .inr ⟨(by simpa using q:(!ix 0 (gt w.rows i).low (gt w.rows i).high)=false),J2 h hi hg⟩
 ·exact ng h hn
theorem pq(h:Ae n m w)(j:Nat)(c:df):Ae n m (cD w j c):=⟨by show(w.aa.set j c).length=n;simp[h.nc],h.nr,h.gc,h.gr,h.te,h.nb,h.st,h.lv⟩
theorem Dm{c r:Nat}(h:Gk u c r w){j:Nat}{x:df}(hx:qw (qB u c r) x.low.at'∧qw (qB u c r) x.high.at'∧qw (qB u c r) x.cost):Gk u c r (cD w j x):=⟨fun k hk=>by
 have hk:k<w.aa.length:=by simpa[cD]using hk
 show qw _ (gt (w.aa.set j x) k).low.at'∧qw _ (gt (w.aa.set j x) k).high.at'∧qw _ (gt (w.aa.set j x) k).cost;rw[dM hk];split
 ·exact hx
 ·exact h.co k hk,h.ro,h.te,h.sh,h.st⟩
theorem fE(h:aW n m u w){i:Nat}(hi:i<m){k:Nat}(hk:k<(gt w.rows i).ab.length):0≤(gt (gt w.rows i).ab k).aq∧(gt (gt w.rows i).ab k).aq.toNat<n∧(gt (gt w.rows i).ab k).num≠0:=by
 obtain⟨h1,h2,h3, -⟩:=cW (h.S.te i hi) k hk;exact⟨by omega,by omega,h3⟩
theorem qS(hu:8≤u)(h:aW n m u w)(hn:w.no=false){i:Nat}(hi:i<m)(hg:gt w.gr i=false):rT n m u w (jA w i):=by
 unfold jA;simp only[];split
 ·rename_i hl;obtain⟨t0,t1,t2⟩:=fE h hi (k:=0) (by omega);have e1:aD (w.gr.set i true)=aD w.gr+1:=jy (by rw[h.S.gr];exact hi) hg;have hi':i<w.rows.length:=by rw[h.S.nr];exact hi
  have wt:=h.W.te i hi' 0 (by omega);have wr:=h.W.ro i hi';generalize gt (gt w.rows i).ab 0=t at *;have hj':t.aq.toNat<w.aa.length:=by rw[h.S.nc];exact t1
  have wc:=h.W.co _ hj';have b0:=Ij hu (aD w.gc) (aD w.gr);have b1:=pO hu (aD w.gc);have z1:spW 1 zB:=⟨bt _ (by omega),bt _ (by omega)⟩;have ws:=wH z1 wr.1 wr.2 (lj (KF (amk 1)) wt (by omega)) (by have:=l4 hu (aD w.gc) (aD w.gr);omega);refine⟨⟨w6 (pq h.S _ _) i,?_⟩,fun _=>.inr ⟨hn,J2 h hi hg⟩,fun e=>by cases e⟩;show Gk u (aD w.gc) (aD (w.gr.set i true)) (Ps.fh (cD w t.aq.toNat _) i);rw[e1];have hm:=h.W.mono (c':=aD w.gc) (r':=aD w.gr+1) (amk _) (by omega);have wm:=hm.co _ hj';have wi:=rj (c:=gt w.aa t.aq.toNat) (by omega) wm.1 wm.2.1 (ah ws.1 (by omega)) (ah ws.2 (by omega));have hc:=Dm (j:=t.aq.toNat) hm ⟨wi.1,wi.2,wm.2.2⟩;exact⟨hc.co,hc.ro,hc.te,hc.sh,hc.st⟩
 ·exact ng h hn
theorem DT{j:Nat}(hu:8≤u)(h:aW n m u w)(hn:w.no=false)(hj:j<n)(hg:gt w.gc j=false){a:Rat}(ha:qw (qB u (aD w.gc) (aD w.gr)) a):rT n m u w (true,k8 w j a []):=by
 have e1:aD (w.gc.set j true)=aD w.gc+1:=jy (by rw[h.S.gc];exact hj) hg;refine⟨⟨MQ h.S hj hg a [] (by simp),?_⟩,fun _=>.inr ⟨hn,?_⟩,fun e=>by cases e⟩
 ·show Gk u (aD (w.gc.set j true)) (aD w.gr) _;rw[e1];refine Ma hu (fun k hk=>?_) h.W.ro h.W.te h.W.sh h.W.st (by rw[h.S.nc];exact hj) (ah ha (by omega)) (by simp) (fun k hk=>by simp at hk);have:=h.W.co k hk;have b:=Dv hu (aD w.gc) (aD w.gr);exact⟨ah this.1 (by omega),ah this.2.1 (by omega),this.2.2⟩
 ·show _<aD (w.gc.set j true)+aD w.gr;omega
theorem rk(hu:8≤u)(h:aW n m u w)(hn:w.no=false){j:Nat}(hj:j<n)(hg:gt w.gc j=false):rT n m u w (o3 w j):=by
 unfold o3;simp only[];split
 ·split
  ·exact An h
  ·exact DT hu h hn hj hg (h.W.co j (by rw[h.S.nc];exact hj)).1
 ·exact ng h hn
theorem EI{k:Nat}{mx:Bool}{c:df}(hk:1≤k)(h1:qw k c.low.at')(h2:qw k c.high.at'):qw k (dt mx c).at':=by
 have key:∀t:Bo,qw k t.at'→qw k (if qj mx c.cost=0∧t.has=false then(⟨true,0⟩:Bo) else t).at':=fun t ht=>by
  split
  ·exact Ut.bt k hk
  ·exact ht
 refine key _ ?_;split
 ·exact h2
 ·exact h1
theorem rp{mx:Bool}(hu:8≤u)(h:aW n m u w)(hn:w.no=false){j:Nat}(hj:j<n)(hg:gt w.gc j=false):rT n m u w (iq mx w j):=by
 unfold iq;split
 ·exact ng h hn
 simp only[];have hj':j<w.aa.length:=by rw[h.S.nc];exact hj
 obtain⟨w1,w2,w3⟩:=h.W.co j hj';have bp:=l4 hu (aD w.gc) (aD w.gr);have hc:∀c,(c=if(gt w.aa j).whole=true then bg (gt w.aa j) (gt w.aa j).low (gt w.aa j).high else gt w.aa j)→qw (qB u (aD w.gc) (aD w.gr)) c.low.at'∧qw (qB u (aD w.gc) (aD w.gr)) c.high.at'∧qw (qB u (aD w.gc) (aD w.gr)) c.cost:=fun c e=>by
  rw[e];split
  ·have:=rj (k:=qB u (aD w.gc) (aD w.gr)) (c:=gt w.aa j) (by omega) w1 w2 w1 w2;exact⟨this.1,this.2,w3⟩
  ·exact⟨w1,w2,w3⟩
 generalize hcc:(if(gt w.aa j).whole=true then bg (gt w.aa j) (gt w.aa j).low (gt w.aa j).high else gt w.aa j)=c at *;obtain⟨c1,c2,c3⟩:=hc c rfl;have hG:aW n m u (cD w j c):=⟨pq h.S j c,Dm h.W ⟨c1,c2,c3⟩⟩;split
 ·have:=An hG;exact⟨this.lW,fun _=>.inl rfl,fun e=>by cases e⟩
 ·split
  ·have:=DT hu hG hn hj hg (EI (k:=qB u (aD w.gc) (aD w.gr)) (mx:=mx) (by omega) c1 c2);exact⟨this.lW,this.yes,fun e=>by cases e⟩
  ·exact⟨hG,fun e=>(by cases e),fun _=>⟨hn,rfl,rfl,rfl⟩⟩
end
end Go.Ps
namespace Go.Ps
open Go Go.Tb Go.Ut Go.Li Go.Proofs
section
variable {n m u:Nat} {w:Wk}
theorem DB{A B:Nat}{cs:List df}{ts:List Term}(hB:1≤B)(hc:∀j,j<cs.length→qw B (gt cs j).low.at'∧qw B (gt cs j).high.at')(ht:∀k,k<ts.length→qw A (gt ts k).num∧(gt ts k).aq.toNat<cs.length):∀k,k≤ts.length→spW (1+(B+A+1)*k) (bK cs ts k)
 | 0,_=>⟨bt _ (by omega),bt _ (by omega)⟩
 | k+1,hk=>by
  have ih:=DB hB hc ht k (by omega);obtain⟨t1,t2⟩:=ht k (by omega);have:=wH ih (hc _ t2).1 (hc _ t2).2 t1 hB;rw[show 1+(B+A+1)*(k+1)=1+(B+A+1)*k+(B+A)+1 by rw[Nat.mul_add];omega];exact this
theorem ES{B:Nat}{cs:List df}{ts:List Term}{b:Bool}(hc:∀j,j<cs.length→qw B (gt cs j).low.at'∧qw B (gt cs j).high.at'∧qw B (gt cs j).cost)(ht:∀k,k<ts.length→(gt ts k).aq.toNat<cs.length):∀k,k≤ts.length→∀j,j<cs.length→qw B (gt (bN b ts cs k) j).low.at'∧qw B (gt (bN b ts cs k) j).high.at'∧qw B (gt (bN b ts cs k) j).cost
 | 0,_,j,hj=>hc j hj
 | k+1,hk,j,hj=>by
  have ih:=ES (b:=b) hc ht k (by omega);have t2:=ht k (by omega);obtain⟨a1,a2,a3⟩:=ih _ t2;show qw B (gt ((bN b ts cs k).set _ _) j).low.at'∧qw B (gt ((bN b ts cs k).set _ _) j).high.at'∧qw B (gt ((bN b ts cs k).set _ _) j).cost;rw[dM (by rw[ji];exact hj)];split
  ·split
   ·exact⟨a1,a1,a3⟩
   ·exact⟨a2,a2,a3⟩
  ·exact ih j hj
theorem Db(h:aW n m u w){cs:List df}(hl:cs.length=w.aa.length)(hc:∀j,j<cs.length→qw (qB u (aD w.gc) (aD w.gr)) (gt cs j).low.at'∧qw (qB u (aD w.gc) (aD w.gr)) (gt cs j).high.at'∧qw (qB u (aD w.gc) (aD w.gr)) (gt cs j).cost):aW n m u (jR w cs) :=
 ⟨⟨hl.trans h.S.nc,h.S.nr,h.S.gc,h.S.gr,h.S.te,h.S.nb,h.S.st,h.S.lv⟩,⟨hc,h.W.ro,h.W.te,h.W.sh,h.W.st⟩⟩
theorem oZ(h:aW n m u w)(hn:w.no=false){i:Nat}(hi:i<m)(hg:gt w.gr i=false):rT n m u w (gC w i):=by
 unfold gC;simp only[];split
 ·exact⟨(h.eD true).fh hi hg,fun _=>.inl rfl,fun e=>by cases e⟩
 split
 ·refine⟨aW.fh (w:=jR w _) (Db h (ji _ _ _ _) fun j hj=>?_) hi hg,fun _=>.inr ⟨hn,J2 h hi hg⟩,fun e=>by cases e⟩;rw[ji]at hj;exact ES h.W.co (fun k hk=>by rw[h.S.nc];exact(fE h hi hk).2.1) _ (amk _) j hj
 split
 ·exact⟨h.fh hi hg,fun _=>.inr ⟨hn,J2 h hi hg⟩,fun e=>by cases e⟩
 ·exact ng h hn
theorem rv(hu:8≤u)(h:aW n m u w)(hn:w.no=false){i:Nat}(hi:i<m)(hg:gt w.gr i=false):rT n m u w (iB w i):=by
 unfold iB;simp only[];split
 ·rename_i hc;obtain⟨hl, -, -, -⟩:=hc;obtain⟨a0,a1,a2⟩:=fE h hi (k:=0) (by omega);obtain⟨-,b1,b2⟩:=fE h hi (k:=1) (by omega);have hb:=h.S.lv i hi hg 1 (by omega);have hla:=h.S.lv i hi hg 0 (by omega);have hab:=(cW (h.S.te i hi) 1 (by omega)).2.2.2 0 (by omega);have hi':i<w.rows.length:=by rw[h.S.nr];exact hi
  have wa:=h.W.te i hi' 0 (by omega);have wb:=h.W.te i hi' 1 (by omega);have wr:=h.W.ro i hi';have e1:aD (w.gr.set i true)=aD w.gr+1:=jy (by rw[h.S.gr];exact hi) hg;generalize gt (gt w.rows i).ab 0=a at *;generalize gt (gt w.rows i).ab 1=b at *;have e2:aD (w.gc.set b.aq.toNat true)=aD w.gc+1:=jy (by rw[h.S.gc];exact b1) hb;have ha':a.aq.toNat<w.aa.length:=by rw[h.S.nc];exact a1
  have hb':b.aq.toNat<w.aa.length:=by rw[h.S.nc];exact b1
  have wca:=h.W.co _ ha';have wcb:=h.W.co _ hb';have p1:=L3 hu (aD w.gc);have p2:=Dv hu (aD w.gc) (aD w.gr);have p2':=Dv hu (aD w.gc) (aD w.gr+1);have p3:=Ij hu (aD w.gc) (aD w.gr);have p4:=pO hu (aD w.gc);have p5:=l4 hu (aD w.gc) (aD w.gr);have w1:qw (qB u (aD w.gc) (aD w.gr)+qA u (aD w.gc)) ((gt w.rows i).low.at' / b.num):=lj wr.1 wb (by omega);have w2:qw (2*qA u (aD w.gc)) (-(a.num / b.num)):=ah (lq (lj wa wb (by omega))) (by omega);have w3:qw (1+2*qA u (aD w.gc)) (1 / -(a.num / b.num)):=lj (KF (amk 1)) w2 (by omega);have w4:=lq (bW w1 w3 (by omega));have ws:=wH (s:=⟨⟨true,_⟩,⟨true,_⟩⟩) ⟨w4,w4⟩ wcb.1 wcb.2.1 w3 (by omega);refine⟨⟨MQ (w6 (pq h.S _ _) i) b1 hb _ _ (fun t ht=>by
   have:t=⟨a.aq, -(a.num / b.num)⟩:=by simpa using ht
   subst this;exact⟨a0,hla,by show a.aq.toNat≠b.aq.toNat;omega⟩),?_⟩,fun _=>.inr ⟨hn,?_⟩,fun e=>by cases e⟩
  ·show Gk u (aD (w.gc.set b.aq.toNat true)) (aD (w.gr.set i true)) _;rw[e1,e2];have hm:=h.W.mono (c':=aD w.gc) (r':=aD w.gr+1) (amk _) (by omega);refine Ma hu (fun k hk=>?_) ?_ ?_ ?_ ?_ ?_ ?_ ?_ (fun k hk=>?_)
   rotate_left
   ·exact hm.ro
   ·exact hm.te
   ·exact hm.sh
   ·exact hm.st
   ·show b.aq.toNat<(w.aa.set _ _).length;simpa using hb'
   ·exact ah w1 (by omega)
   ·simp
   rotate_left
   ·have hk:k<w.aa.length:=by simpa[Ps.fh,cD]using hk
    have wk:=h.W.co k hk;show qw _ (gt (w.aa.set a.aq.toNat _) k).low.at'∧qw _ (gt (w.aa.set a.aq.toNat _) k).high.at'∧qw _ (gt (w.aa.set a.aq.toNat _) k).cost;rw[dM hk];split
    ·rename_i e;subst e;have wi:=rj (k:=qB u (aD w.gc+1) (aD w.gr+1)) (c:=gt w.aa a.aq.toNat) (by omega) (ah wk.1 (by omega)) (ah wk.2.1 (by omega)) (ah ws.1 (by omega)) (ah ws.2 (by omega));exact⟨wi.1,wi.2,ah wk.2.2 (by omega)⟩
    ·exact⟨ah wk.1 (by omega),ah wk.2.1 (by omega),ah wk.2.2 (by omega)⟩
   ·have:k=0:=by simp at hk;omega
    subst this;exact w2
  ·show _<aD (w.gc.set b.aq.toNat true)+aD (w.gr.set i true);omega
 ·exact ng h hn
end
end Go.Ps
namespace Go.Ps
open Go Go.Tb Go.Ut Go.Li Go.Proofs
section
variable {n m u:Nat}
theorem rT.trans{w:Wk}{q q':Bool × Wk}(h:rT n m u w q)(hq:q.1=false)(h':rT n m u q.2 q'):rT n m u w q':=by
 obtain⟨-,e1,e2,e3⟩:=h.Ci hq;refine⟨h'.lW,fun e=>?_,fun e=>?_⟩
 ·have:=h'.yes e;rw[e1,e2]at this;exact this
 ·have:=h'.Ci e;rw[e1,e2,e3]at this;exact this
theorem fX{d:Wk→Nat→Bool × Wk}{g:Wk→List Bool}{N:Nat}(hd:∀w i,aW n m u w→w.no=false→i<N→gt (g w) i=false→rT n m u w (d w i)):∀k i w,aW n m u w→w.no=false→i+k=N→rT n m u w (bH d g k i w)
 | 0,_,_,h,hn,_=>ng h hn
 | k+1,i,w,h,hn,e=>by
  unfold bH;split
  ·exact fX hd k (i+1) w h hn (by omega)
  ·rename_i hg;have D:=hd w i h hn (by omega) (by simpa using hg);split
   ·exact D
   ·rename_i hq;have hq:(d w i).1=false:=by simpa using hq
    exact D.trans hq (fX hd k (i+1) _ D.lW (D.Ci hq).1 (by omega))
theorem zY{w:Wk}{j:Nat}(h:aW n m u w):rT n m u w (uf w j):=⟨h.eD _,fun e=>.inl e,fun e=>⟨e,rfl,rfl,rfl⟩⟩
theorem Kg{w:Wk}{j:Nat}(h:aW n m u w):rT n m u w (yP w j):=⟨h.eD _,fun e=>.inl e,fun e=>⟨e,rfl,rfl,rfl⟩⟩
theorem Ec{w:Wk}{a:Bool × Wk}{f:Wk→Bool × Wk}(h:rT n m u w a)(hf:a.1=false→rT n m u a.2 (f a.2)):rT n m u w (wO a f):=by
 unfold wO;split
 ·exact h
 ·rename_i e;have e:a.1=false:=by simpa using e
  exact h.trans e (hf e)
theorem Ha{mx:Bool}(hu:8≤u){w:Wk}(h:aW n m u w)(hn:w.no=false)(k:Nat):rT n m u w (gW mx w k):=by
 have hc:=h.S.nc;have hr:=h.S.nr;unfold gW;split
 ·refine Ec (fX (N:=n) (fun w i h _ _ _=>zY h) _ _ _ h hn (by omega)) fun e=>?_;have D:=fX (N:=n) (d:=uf) (g:=Wk.gc) (fun w i h _ _ _=>zY h) w.aa.length 0 w h hn (by omega);exact fX (N:=m) (fun w i h _ _ _=>Kg h) _ _ _ D.lW (D.Ci e).1 (by rw[D.lW.S.nr];omega)
 ·exact fX (N:=m) (fun w i h hn hi hg=>qQ h hn hi hg) _ _ _ h hn (by omega)
 ·exact fX (N:=m) (fun w i h hn hi hg=>qS hu h hn hi hg) _ _ _ h hn (by omega)
 ·exact fX (N:=n) (fun w i h hn hi hg=>rk hu h hn hi hg) _ _ _ h hn (by omega)
 ·exact fX (N:=n) (fun w i h hn hi hg=>rp hu h hn hi hg) _ _ _ h hn (by omega)
 ·exact fX (N:=m) (fun w i h hn hi hg=>oZ h hn hi hg) _ _ _ h hn (by omega)
 ·exact fX (N:=m) (fun w i h hn hi hg=>rv hu h hn hi hg) _ _ _ h hn (by omega)
theorem rO{mx:Bool}(hu:8≤u){w:Wk}(h:aW n m u w)(hn:w.no=false):∀k,rT n m u w (eo mx w k)
 | 0=>ng h hn
 | k+1=>by
  have ih:=rO (mx:=mx) hu h hn k;exact Ec ih fun e=>Ha hu ih.lW (ih.Ci e).1 (k+1)
theorem nF{mx:Bool}(hu:8≤u){w:Wk}(h:aW n m u w)(hn:w.no=false):rT n m u w (gy mx w):=rO hu h hn 7
def EN(n m:Nat)(w:Wk):Nat:=(n+m) - (aD w.gc+aD w.gr)
theorem Kz{w:Wk}{q:Bool × Wk}(h:rT n m u w q)(hq:q.1=true)(hn:q.2.no=false):EN n m q.2<EN n m w:=by
 have:=h.yes hq;have a:=oV q.2.gc;have b:=oV q.2.gr;rw[h.lW.S.gc]at a;rw[h.lW.S.gr]at b;unfold EN;rcases this with e | ⟨-,e⟩
 ·rw[hn]at e;cases e
 ·omega
theorem fm{w:Wk}(h:aW n m u w):aD w.gc≤n∧aD w.gr≤m:=⟨by have:=oV w.gc;rw[h.S.gc]at this;exact this,by have:=oV w.gr;rw[h.S.gr]at this;exact this⟩
end
end Go.Ps
namespace Go.Ps
open Go Go.Tb Go.Ut Go.Li Go.Proofs
section
variable {d:Wk→Nat→Bool × Wk} {g:Wk→List Bool} {N i:Nat} {w:Wk}
theorem sA(hi:i<N)(h:gt (g w) i=true):bH d g (N - i) i w=bH d g (N - (i+1)) (i+1) w:=by
 obtain⟨k,e⟩:∃k,N - i=k+1:=⟨N - i - 1,by omega⟩;rw[e,show N - (i+1)=k by omega];show(if gt (g w) i=true then _ else _)=_;rw[if_pos h]
theorem u6(hi:i<N)(h:gt (g w) i=false)(h1:(d w i).1=true):bH d g (N - i) i w=d w i:=by
 obtain⟨k,e⟩:∃k,N - i=k+1:=⟨N - i - 1,by omega⟩;rw[e];show(if gt (g w) i=true then _ else _)=_;rw[if_neg (by simp[h]),if_pos h1]
theorem wB(hi:i<N)(h:gt (g w) i=false)(h1:(d w i).1=false):bH d g (N - i) i w=bH d g (N - (i+1)) (i+1) (d w i).2:=by
 obtain⟨k,e⟩:∃k,N - i=k+1:=⟨N - i - 1,by omega⟩;rw[e,show N - (i+1)=k by omega];show(if gt (g w) i=true then _ else _)=_;rw[if_neg (by simp[h]),if_neg (by simp[h1])]
theorem AM:bH d g (N - N) N w=(false,w):=by rw[Nat.sub_self];rfl
structure NC(w:Wk):Prop where
 c:∀j,j<w.aa.length→gt w.gc j=false→aH (gt w.aa j).low (gt w.aa j).high=false
 r:∀i,i<w.rows.length→gt w.gr i=false→aH (gt w.rows i).low (gt w.rows i).high=false
theorem kM{a:Bool × Wk}{f:Wk→Bool × Wk}(h:a.1=false):wO a f=f a.2:=by unfold wO;rw[if_neg (by simp[h])]
theorem uF{a:Bool × Wk}{f:Wk→Bool × Wk}(h:a.1=true):wO a f=a:=by unfold wO;rw[if_pos h]
theorem B9{mx:Bool}{k:Nat}{w':Wk}(h:eo mx w k=(false,w')):eo mx w (k+1)=gW mx w' (k+1):=by
 show wO (eo mx w k) _=_;rw[h,kM rfl]
theorem qP{mx:Bool}{k:Nat}{w':Wk}(h:eo mx w k=(true,w')):∀j,eo mx w (k+j)=(true,w')
 | 0=>h
 | j+1=>by
  show wO (eo mx w (k+j)) _=_;rw[qP h j,uF rfl]
end
end Go.Ps


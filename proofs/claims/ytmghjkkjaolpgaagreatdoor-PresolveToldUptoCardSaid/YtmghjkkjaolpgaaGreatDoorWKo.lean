/- A text of the prover's own. -/
import Derived.Test.YtmghjkkjaolpgaaGreatDoorWKb
import Derived.Test.YtmghjkkjaolpgaaGreatDoorWLr
import Derived.Test.YtmghjkkjaolpgaaGreatDoorWKi
import Derived.Test.YtmghjkkjaolpgaaGreatDoorWKd
open List renaming map_cons→ak3,sum_cons→anQ,length_map→amh,take_length→amy,range→alI,all_eq_true→alU,mem_range→anR
open Bool renaming and_eq_true→alL
open Rat renaming not_lt→anS,mul_le_mul_of_nonneg_right→anT,le_refl→anU
namespace Go.Tb
open Go Go.Sv Go.Pl Go.Proofs
def yr:Pt:=.sl .str
theorem yH{α:Type}{f:α→Nat}:∀{l:List α} {x:α},x∈l→f x≤(l.map f).sum
 | y::l,x,h=>by
  simp only[ak3,anQ];rcases List.mem_cons.1 h with rfl | h
  ·omega
  ·have:=yH (f:=f) h;omega
theorem yk{α:Type}{f:α→Nat}(hf:∀x,1≤f x):∀{l:List α},l.length≤(l.map f).sum
 | []=>by simp
 | y::l=>by
  have:=yk hf (l:=l);have:=hf y;simp only[ak3,anQ,List.length_cons];omega
theorem F5{x:yr.T}(h:yr.bk x≤1048576):Py (x:List ByteArray):=by
 have h':(List.map Pt.str.bk (x:List ByteArray)).sum+1≤1048576:=h;refine⟨?_,fun s hs=>?_⟩
 ·have:=yk (f:=Pt.str.bk) (fun y=>by show 1≤ByteArray.size y+1;omega) (l:=(x:List ByteArray));exact Nat.le_trans this (by omega)
 ·have:Pt.str.bk s≤_:=yH (f:=Pt.str.bk) hs;have e:Pt.str.bk s=s.size+1:=rfl;omega
end Go.Tb
set_option maxRecDepth 10000
namespace Go.Li
open Go Go.Sv Go.Pl Go.Proofs Go.Tb Go.Ut
theorem sO(p:aV):cB p=0∨cB p=2∨cB p=7∨cB p=4:=by
 unfold cB;split
 ·exact .inr (.inl rfl)
 ·split
  ·exact .inr (.inr (.inl rfl))
  ·split
   ·exact .inr (.inr (.inr rfl))
   ·exact .inl rfl
theorem Gi(p:aV)(h:cB p≠0):0<cB p∧cB p≤10:=by
 rcases sO p with e | e | e | e<;>omega
theorem jx{p:aV}(h:cB p=0):p.rows.length≤120∧p.ae.length≤120∧∀i,i<p.rows.length→gH p.ae.length (-1) (gt p.rows i).ab=false:=by
 unfold cB at h;split at h
 ·cases h
 ·split at h
  ·cases h
  ·split at h
   ·cases h
   ·rename_i h1 h2 h3;refine⟨by omega,by omega,fun i hi=>?_⟩;cases hb:gH p.ae.length (-1) (gt p.rows i).ab with
    | false=>rfl
    | true=>exact absurd (yv hi hb) h3
theorem GA{s:cR}(h:Ja s):I6 (cV s) where
 nc:=by simp[cV];exact h.nc
 nr:=by simp[cV];exact h.nr
 nt:=fun i hi=>by
  have hi':i<s.rows.length:=by simpa[cV]using hi
  unfold cV;rw[jq _ hi'];have h1:=(h.rows i hi').ae;have h2:=nC (gt s.rows i);simp only[rowOf,amh];omega
theorem Dg(s:ByteArray):qw 2200 (kn s).at':=by
 unfold kn;split
 ·exact cP _ (by omega)
 ·exact yo _
theorem Bp(s:cR):Ac (cV s) where
 sh:=yo _
 co:=fun j hj=>by
  have hj':j<s.ae.length:=by simpa[cV]using hj
  unfold cV;rw[jq _ hj'];exact⟨yo _,Dg _,Dg _⟩
 ro:=fun i hi=>by
  have hi':i<s.rows.length:=by simpa[cV]using hi
  unfold cV;rw[jq _ hi'];exact⟨Dg _,Dg _⟩
 te:=fun i hi k hk=>by
  have hi':i<s.rows.length:=by simpa[cV]using hi
  unfold cV at hk ⊢;rw[jq _ hi']at hk ⊢;simp only[rowOf,amh]at hk ⊢;rw[jq _ hk];exact yo _
end Go.Li
namespace Go.Proofs
open Go.Sv Go Go.Tb Go.Pl Go.Ut Go.Li
/-! the second file of laws -/
theorem Cd{α:Type}[Inhabited α]{l:List α}{f:α→Bool}{i:Nat}(h:i<l.length)(hf:f (gt l i)=false):l.all f=false:=by
 rw[List.all_eq_false];exact⟨_,jz h,by simp[hf]⟩
theorem vN{α:Type}[Inhabited α]{l:List α}{f:α→Bool}{i:Nat}(h:i<l.length)(ha:(l.take i).all f=true)(hf:f (gt l i)=true):(l.take (i+1)).all f=true:=by rw[kC _ h,ha,hf];rfl
def nD(l:List ByteArray):Bool:=decide (l.length≤40)&&l.all fun s=>decide (s.size≤24)
theorem pO(l:List ByteArray)(hl:l.length≤1048576)(hs:∀i,i<l.length→(gt l i).size≤1048576):aF Tryz.prog 21 [.ro (l.map dt)] (.val (.bool (nD l))):=by
 refine aj Tryz.func21 rfl (by simp) (fun C hC=>?_);simp;refine⟨fun c=>by simp[nD];omega,fun c=>?_⟩;refine aa.bG (ι:=Nat) (fun i=>⟨19,[(0,.ro (l.map dt)),(3,iv i)],[]⟩)
  (fun i=>i≤l.length∧(l.take i).all (fun s=>decide (s.size≤24))=true) (fun i=>l.length - i) 0 (by simp) ?_ ?_
 ·simp[aw,hC]
 ·rintro i ⟨hi,ha⟩;by_cases az:i<l.length
  ·have:=hs i az;simp(disch:=omega)[az,lZ,aN];repeat refine akI ?_
   refine⟨fun q=>?_,fun q=>⟨i+1,⟨by omega,?_⟩,by omega,Le.bA (by simp(disch:=omega)[aw,hC,aN])⟩⟩
   ·unfold nD;rw[Cd az (by simp;omega)];simp
   ·simpa using vN az ha (by simp;omega)
  ·obtain rfl:i=l.length:=by omega
   rw[amy]at ha;unfold nD;rw[ha];simp;omega
theorem EL{c:Nat}(hc:0<c)(hc':c≤10)(n:Int):vQ Tryz.prog 9 [E0 c,iv n] (fun x=>x=.val (.bool (decide ((c:Int)=n)))):=by
 refine ot Tryz.func9 rfl (by simp) (fun C hC hX hE=>?_);refine aa.go ?_;have cs:=Gv (j:=c - 1) (by omega);have e:E0 c=.fc eE (gs (c - 1)):=by unfold E0;rw[if_neg (by omega)]
 rw[show c - 1+1=c by omega]at cs;rw[e];simp;refine GH cs hE hX (by simp) (fun x hx=>?_);subst hx;simp
def s0:ByteArray:=⟨#[48]⟩
def s1:ByteArray:=⟨#[49]⟩
def s2:ByteArray:=⟨#[50]⟩
def s3:ByteArray:=⟨#[51]⟩
def s4:ByteArray:=⟨#[52]⟩
def s5:ByteArray:=⟨#[53]⟩
def s6:ByteArray:=⟨#[54]⟩
def sx:ByteArray:=⟨#[120]⟩
def sy:ByteArray:=⟨#[121]⟩
def Hq:ByteArray:=⟨#[111,110,101]⟩
def kI:cR:=⟨true,s0,[⟨sx,false,s0,s4,s3⟩,⟨sy,false,s0,s4,s5⟩],[⟨Hq,e0,s6,[0,1],[s1,s2]⟩]⟩
theorem F8:aF Tryz.prog 6 [] (cI kI):=by
 refine gk Tryz.func6 rfl (by simp) (fun C hC=>?_);simp;refine⟨_,(Le.je 3 rfl rfl).trans ((Le.je 4 rfl rfl).trans ((Le.je 2 rfl rfl).trans (Le.je 5 rfl rfl))),?_⟩;simp[dH,aK,kI,cI,fY,fv,s0,s1,s2,s3,s4,s5,s6,sx,sy,Hq,e0];rfl
def shC(c:jv):Bool:=nD [c.low,c.high,c.cost]
def MU(r:gY):Bool:=nD r.eY&&nD [r.low,r.high]&&decide (r.ae.length=r.eY.length)
def qE(s:cR):Bool:=decide (s.ae.length≤7)&&decide (s.rows.length≤7)&&decide (s.shift.size≤24)&&s.ae.all shC&&s.rows.all MU
theorem CO(s:cR)(h:Ja s):aF Tryz.prog 25 [cI s] (.val (.bool (qE s))):=by
 have nc:=h.nc;have nr:=h.nr;have ns:=h.shift;refine aj Tryz.func25 rfl (by simp) (fun C hC=>?_);simp;refine⟨fun c1=>⟨fun c2=>⟨fun c3=>by simp[qE];omega,fun c3=>?_⟩,fun c2=>by simp[qE];omega⟩,fun c1=>by simp[qE];omega⟩;refine aa.bG (ι:=Nat) (fun i=>⟨84,[(1,.ptr 0 0 0),(3,iv i)],[some ⟨4,[cI s],false⟩]⟩)
  (fun i=>i≤s.ae.length∧(s.ae.take i).all shC=true) (fun i=>s.ae.length - i) 0 (by simp) ?_ ?_
 ·simp[aw,hC]
 ·rintro i ⟨hi,ha⟩;by_cases az:i<s.ae.length
  ·have hc:=h.ae i az;simp(disch:=omega)[az,o4];repeat refine akI ?_
   refine ba (pO [(gt s.ae i).low,(gt s.ae i).high,(gt s.ae i).cost] (by simp) (fun k hk=>?_)) (by simp) ?_
   ·match k,hk with
    | 0,_=>exact hc.low
    | 1,_=>exact hc.high
    | 2,_=>exact hc.cost
   simp(disch:=omega)[aN];repeat refine akI ?_
   rw[show nD [(gt s.ae i).low,(gt s.ae i).high,(gt s.ae i).cost]=shC (gt s.ae i) from rfl];refine⟨fun hb=>?_,fun hb=>⟨i+1,⟨by omega,by simpa using vN az ha hb⟩,by omega,Le.bA (by simp(disch:=omega)[aw,hC,aN])⟩⟩;unfold qE;rw[Cd az hb];simp
  ·obtain rfl:i=s.ae.length:=by omega
   rw[amy]at ha;simp;refine aa.bG (ι:=Nat) (fun i=>⟨84,[(1,.ptr 0 0 0),(6,iv i)],[some ⟨4,[cI s],false⟩]⟩)
    (fun i=>i≤s.rows.length∧(s.rows.take i).all MU=true) (fun i=>s.rows.length - i) 0 (by simp) ?_ ?_
   ·simp[aw,hC]
   ·rintro i ⟨hi,hb⟩;by_cases az:i<s.rows.length
    ·have hr:=h.rows i az;have no:=fun(q:MU (gt s.rows i)=false)=>show qE s=false by unfold qE;rw[Cd az q];simp
     simp(disch:=omega)[az,oF];repeat refine akI ?_
     refine ba (pO (gt s.rows i).eY hr.eY.n (fun k hk=>hr.eY.s _ (jz hk))) (by simp) ?_;simp;refine ba (pO [(gt s.rows i).low,(gt s.rows i).high] (by simp) (fun k hk=>?_)) (by simp) ?_
     ·match k,hk with
      | 0,_=>exact hr.low
      | 1,_=>exact hr.high
     have:=hr.ae;have:=hr.eY.n;simp(disch:=omega)[aN];repeat refine akI ?_
     refine⟨fun q1=>⟨fun q2=>⟨fun q3=>no ?_,fun q3=>?_⟩,fun q2=>no ?_⟩,fun q1=>no ?_⟩
     ·unfold MU;simp;omega
     ·refine⟨i+1,⟨by omega,?_⟩,by omega,Le.bA (by simp(disch:=omega)[aw,hC,aN])⟩;simpa using vN az hb (by unfold MU;simp[q1,q2];omega)
     ·unfold MU;simp[q2]
     ·unfold MU;simp[q1]
    ·obtain rfl:i=s.rows.length:=by omega
     rw[amy]at hb;simp[qE,ha,hb];omega
theorem E9(s:cR)(h:Ja s)(hf:qE s=false):aF Tryz.prog 5 [cI s] (.bO [.val (.pointer none),.agg [.val (.bool false),.val (.bool false),.ro [],.val (.bool false),.ro [],.ro [],.ro []],.val (.bool false)]):=by
 have g:=CO s h;rw[hf]at g;refine aj Tryz.func5 rfl (by simp) (fun C hC=>?_);simp;refine akK (g) ?_;simp
theorem C6(s:cR)(h:Ja s)(hf:qE s=true):aF Tryz.prog 5 [cI s] (.bO [.bK (cJ (cV s)) 0,lQ s,.val (.bool (I1 s))]):=by
 have g:=CO s h;rw[hf]at g;refine aj Tryz.func5 rfl (by simp) (fun C hC=>?_);simp;refine akK (g) ?_;simp;refine akK (Ib s h) ?_;simp;refine akK (zY s h) ?_;simp;refine aa.akJ (.qs [0,1,2,3]<|.l 4 [1]<|.qs [5]<|.nil) ?_;simp
end Go.Proofs
namespace Go.Li
open Go Go.Sv Go.Pl Go.Proofs Go.Tb Go.Ut
theorem n0:num s0=0:=by decide +kernel
theorem n1:num s1=1:=by decide +kernel
theorem n2:num s2=2:=by decide +kernel
theorem n3:num s3=3:=by decide +kernel
theorem n4:num s4=4:=by decide +kernel
theorem n5:num s5=5:=by decide +kernel
theorem n6:num s6=6:=by decide +kernel
def P1:aV:=⟨true,0,[⟨sx,false,⟨true,0⟩,⟨true,4⟩,3⟩,⟨sy,false,⟨true,0⟩,⟨true,4⟩,5⟩],[⟨Hq,[⟨0,1⟩,⟨1,2⟩],⟨false,0⟩,⟨true,6⟩⟩]⟩
theorem mz:cV kI=P1:=by
 have e:∀s:ByteArray,js s=false→kn s=⟨true,num s⟩:=fun s h=>by unfold kn;rw[h];rfl
 have e':kn e0=⟨false,0⟩:=rfl;simp[cV,kI,P1,ob,rowOf,fF,pT,n0,n1,n2,n3,n4,n5,n6,e s0 (by decide),e s3 (by decide),e s4 (by decide),e s5 (by decide),e s6 (by decide),e']
theorem Iq:I1 kI=true:=by decide +kernel
theorem Fe:qE kI=true:=by decide +kernel
theorem sW:cB P1=0:=by unfold cB;decide +kernel
theorem AJ:Ja kI where
 shift:=by decide
 nc:=by decide
 nr:=by decide
 ae:=fun i hi=>by
  match i,hi with
  | 0,_=>exact⟨by decide,by decide,by decide,by decide⟩
  | 1,_=>exact⟨by decide,by decide,by decide,by decide⟩
 rows:=fun i hi=>by
  match i,hi with
  | 0,_=>exact⟨by decide,by decide,by decide,by decide,⟨by decide,fun x hx=>by
    have hx':x=s1∨x=s2:=by simpa[kI,gt]using hx
    rcases hx' with e | e<;>rw[e]<;>decide⟩⟩
end Go.Li
namespace Go.Proofs
open Go.Sv Go Go.Tb Go.Pl Go.Ut Go.Li
end Go.Proofs
namespace Go.Li
open Go Go.Sv Go.Pl Go.Proofs Go.Tb Go.Ut
def Gu(x:List Rat)(ts:List Term):Nat→Rat
 | 0=>0
 | k+1=>Gu x ts k+(gt ts k).num*gt x (gt ts k).aI.toNat
def BN(p:aV)(x:List Rat):Nat→Rat
 | 0=>p.shift
 | j+1=>BN p x j+(gt p.ae j).cost*gt x j
def qd(q:Rat)(low high:Bo):Bool:=!(low.has&&decide (q<low.at'))&&!(high.has&&decide (high.at'<q))
def TD(p:aV)(x:List Rat)(whole:Bool)(j:Nat):Bool:=qd (gt x j) (gt p.ae j).low (gt p.ae j).high&&!(whole&&(gt p.ae j).whole&&!decide ((gt x j).den=1))
def ac4(p:aV)(x:List Rat)(i:Nat):Bool:=qd (Gu x (gt p.rows i).ab (gt p.rows i).ab.length) (gt p.rows i).low (gt p.rows i).high
def oa(p:aV)(x:List Rat)(whole:Bool):Bool:=(alI p.ae.length).all (TD p x whole)&&(alI p.rows.length).all (ac4 p x)
end Go.Li
namespace Go.Proofs
open Go.Sv Go Go.Tb Go.Pl Go.Ut Go.Li
theorem Cs(q:Rat)(a b:Bo)(hq:bQ q)(ha:bQ a.at')(hb:bQ b.at'):aF Tryz.prog 47 [bL q,fC a,fC b] (.val (.bool (qd q a b))):=by
 refine aj Tryz.func47 rfl (by simp) (fun C hC=>?_);simp;refine⟨fun h1=>?_,fun h1=>⟨fun h2=>?_,fun h2=>by simp[qd,h1,h2]⟩⟩
 ·rw[du h1];refine akK (uI q a.at' hq ha) ?_;simp;refine⟨fun q1=>by simp[qd,h1,q1],fun q1=>⟨fun h2=>?_,fun h2=>by simp[qd,h1,h2,q1]⟩⟩;rw[du h2];refine akK (uI q b.at' hq hb) ?_;simp;exact⟨fun q2=>by simp[qd,h1,h2,q1,q2],fun q2=>by simp[qd,h1,h2,q1,q2]⟩
 ·rw[du h2];refine akK (uI q b.at' hq hb) ?_;simp;exact⟨fun q2=>by simp[qd,h1,h2,q2],fun q2=>by simp[qd,h1,h2,q2]⟩
/-! the program's -/
end Go.Proofs
namespace Go.Li
open Go Go.Sv Go.Pl Go.Proofs Go.Tb Go.Ut
def di(f:Nat→Rat):Nat→Rat
 | 0=>0
 | n+1=>di f n+f n
theorem pN{f g:Nat→Rat}{n:Nat}(h:∀j,j<n→f j=g j):di f n=di g n:=by
 induction n with
 | zero=>rfl
 | succ n ih=>simp only[di];rw[ih fun j hj=>h j (by omega),h n (by omega)]
theorem GY{f g:Nat→Rat}{n:Nat}:di (fun j=>f j - g j) n=di f n - di g n:=by
 induction n with
 | zero=>simp only[di];grind
 | succ n ih=>simp only[di];rw[ih];grind
theorem IX{f:Nat→Rat}{c:Rat}{n:Nat}:di (fun j=>c*f j) n=c*di f n:=by
 induction n with
 | zero=>simp[di]
 | succ n ih=>simp only[di];rw[ih];grind
theorem GU{f g:Nat→Rat}{n:Nat}:di (fun j=>f j+g j) n=di f n+di g n:=by
 induction n with
 | zero=>simp only[di];grind
 | succ n ih=>simp only[di];rw[ih];grind
theorem DK{c:Nat}{v:Rat}:∀{n:Nat},di (fun j=>if j=c then v else 0) n=if c<n then v else 0
 | 0=>by simp[di]
 | n+1=>by
  simp only[di];rw[DK];by_cases h:n=c
  ·subst h;rw[if_neg (by omega),if_pos rfl,if_pos (by omega)];grind
  ·rw[if_neg h];by_cases h':c<n
   ·rw[if_pos h',if_pos (by omega)];grind
   ·rw[if_neg h',if_neg (by omega)];grind
theorem xM{n:Nat}{ts:List Term}(hb:gH n (-1) ts=false)(x:List Rat):∀k,k≤ts.length→di (fun j=>gt x j*aP (ts.take k) j) n=Gu x ts k
 | 0,_=>by
  have:di (fun j=>gt x j*aP (ts.take 0) j) n=di (fun _=>0) n:=pN fun j _=>by simp[aP]
  rw[this];have z:∀m,di (fun _=>0) m=0:=fun m=>by
   induction m with
   | zero=>rfl
   | succ m ih=>simp only[di];rw[ih];grind
  rw[z];rfl
 | k+1,hk=>by
  obtain⟨h1,h2,h3,h4⟩:=gw hb k (by omega);have ih:=xM hb x k (by omega);have e:∀j,j<n→gt x j*aP (ts.take (k+1)) j=gt x j*aP (ts.take k) j+if j=(gt ts k).aI.toNat then(gt ts k).num*gt x (gt ts k).aI.toNat else 0:=fun j hj=>by
   rw[fJ (show k<ts.length by omega),xk];by_cases e:j=(gt ts k).aI.toNat
   ·have e':(gt ts k).aI=(j:Int):=by omega
    have hn:∀k',k'<(ts.take k).length→(gt (ts.take k) k').aI≠(j:Int):=fun k' hk'=>by
     simp only[List.length_take]at hk';have e2:gt (ts.take k) k'=gt ts k':=by
      rw[←ee (by simpa using hk'),List.getElem_take,ee (by omega)]
     have:=h4 k' (by omega);rw[e2];omega
    rw[if_pos e',if_pos hn,if_pos e,CR hn,e];grind
   ·have e':¬(gt ts k).aI=(j:Int):=by omega
    rw[if_neg e',if_neg e];grind
  rw[pN e,GU,ih,DK,if_pos (by omega)];rfl
theorem GI{n:Nat}{ts:List Term}(hb:gH n (-1) ts=false)(x:List Rat):di (fun j=>gt x j*aP ts j) n=Gu x ts ts.length:=by
 have:=xM hb x ts.length (Nat.le_refl _)
 rwa [amy]at this
def pq(p:aV)(x:List Rat)(i:Nat):Rat:=Gu x (gt p.rows i).ab (gt p.rows i).ab.length
theorem Ub{p:aV}(hb:∀i,i<p.rows.length→gH p.ae.length (-1) (gt p.rows i).ab=false)(x y:List Rat):∀i,i≤p.rows.length →
  di (fun j=>gt x j*dP p y j i) p.ae.length=di (fun j=>gt x j*(gt p.ae j).cost) p.ae.length - di (fun k=>gt y k*pq p x k) i
 | 0,_=>by simp only[di,dP];grind
 | i+1,hi=>by
  have ih:=Ub hb x y i (by omega);have e:∀j,j<p.ae.length→gt x j*dP p y j (i+1)=gt x j*dP p y j i - gt y i*(gt x j*aP (gt p.rows i).ab j):=fun j _=>by simp only[dP];grind
  rw[pN e,GY,IX,ih,GI (hb i (by omega)) x];simp only[di,pq];grind
theorem Bn(p:aV)(x:List Rat):∀j,BN p x j=p.shift+di (fun k=>gt x k*(gt p.ae k).cost) j
 | 0=>by simp only[BN,di];grind
 | j+1=>by simp only[BN,di];rw[Bn p x j];grind
/-! between two ends -/
def Gh(s:Sp)(q:Rat):Prop:=(s.lo.has=true→s.lo.at'≤q)∧(s.hi.has=true→q≤s.hi.at')
theorem J6{q:Rat}{a b:Bo}:qd q a b=true↔(a.has=true→a.at'≤q)∧(b.has=true→q≤b.at'):=by
 unfold qd;simp only[alL,Bool.not_eq_true',Bool.and_eq_false_iff,decide_eq_false_iff_not,anS];constructor
 ·rintro⟨h1,h2⟩;refine⟨fun h=>?_,fun h=>?_⟩
  ·rcases h1 with h1 | h1
   ·rw[h]at h1;cases h1
   ·exact h1
  ·rcases h2 with h2 | h2
   ·rw[h]at h2;cases h2
   ·exact h2
 ·rintro⟨h1,h2⟩;refine⟨?_,?_⟩
  ·by_cases h:a.has=true
   ·exact .inr (h1 h)
   ·exact .inl (by simpa using h)
  ·by_cases h:b.has=true
   ·exact .inr (h2 h)
   ·exact .inl (by simpa using h)
theorem qn{a b:Bo}{r:Rat}(h:(cD a b r).has=true):a.has=true∧b.has=true∧(cD a b r).at'=a.at'+b.at'*r:=by
 unfold cD at h ⊢;by_cases c:a.has=true∧b.has=true
 ·rw[if_pos c];exact⟨c.1,c.2,rfl⟩
 ·rw[if_neg c]at h;cases h
theorem xQ{s:Sp}{q z r:Rat}{low high:Bo}(hs:Gh s q)(hz:qd z low high=true):Gh (dA s low high r) (q+z*r):=by
 obtain⟨z1,z2⟩:=J6.1 hz;unfold dA;by_cases h0:r=0
 ·rw[if_pos h0,h0];have:q+z*0=q:=by grind
  rwa [this]
 ·rw[if_neg h0];by_cases h1:r<0
  ·rw[if_pos h1];refine⟨fun h=>?_,fun h=>?_⟩
   ·obtain⟨g1,g2,g3⟩:=qn h;show(cD s.lo high r).at'≤_;rw[g3];have m:=anT (z2 g2) (show 0 ≤ -r by grind);have:=hs.1 g1;grind
   ·obtain⟨g1,g2,g3⟩:=qn h;show _≤(cD s.hi low r).at';rw[g3];have m:=anT (z1 g2) (show 0 ≤ -r by grind);have:=hs.2 g1;grind
  ·rw[if_neg h1];have hr:0≤r:=anS.1 h1;refine⟨fun h=>?_,fun h=>?_⟩
   ·obtain⟨g1,g2,g3⟩:=qn h;show(cD s.lo low r).at'≤_;rw[g3];have m:=anT (z1 g2) hr;have:=hs.1 g1;grind
   ·obtain⟨g1,g2,g3⟩:=qn h;show _≤(cD s.hi high r).at';rw[g3];have m:=anT (z2 g2) hr;have:=hs.2 g1;grind
theorem Ee{p:aV}{x:List Rat}{w:Bool}(h:oa p x w=true){j:Nat}(hj:j<p.ae.length):qd (gt x j) (gt p.ae j).low (gt p.ae j).high=true:=by
 unfold oa at h;simp only[alL,alU,anR]at h;have:=h.1 j hj;unfold TD at this;simp only[alL]at this;exact this.1
theorem En{p:aV}{x:List Rat}{w:Bool}(h:oa p x w=true){i:Nat}(hi:i<p.rows.length):qd (pq p x i) (gt p.rows i).low (gt p.rows i).high=true:=by
 unfold oa at h;simp only[alL,alU,anR]at h;exact h.2 i hi
theorem H8{p:aV}{x:List Rat}(y:List Rat)(h:oa p x false=true):∀i,i≤p.rows.length→Gh (spR p y i) (p.shift+di (fun k=>gt y k*pq p x k) i)
 | 0,_=>by
  have e:p.shift+di (fun k=>gt y k*pq p x k) 0=p.shift:=by simp only[di];grind
  rw[e];exact⟨fun _=>anU,fun _=>anU⟩
 | i+1,hi=>by
  have:=xQ (r:=gt y i) (H8 y h i (by omega)) (En h (i:=i) (by omega));have e:p.shift+di (fun k=>gt y k*pq p x k) (i+1)=p.shift+di (fun k=>gt y k*pq p x k) i+pq p x i*gt y i:=by simp only[di];grind
  rw[e];exact this
theorem IW{p:aV}{x:List Rat}(y:List Rat)(h:oa p x false=true):∀j,j≤p.ae.length→Gh (TJ p y j) (p.shift+di (fun k=>gt y k*pq p x k) p.rows.length+di (fun k=>gt x k*dP p y k p.rows.length) j)
 | 0,_=>by
  have e:p.shift+di (fun k=>gt y k*pq p x k) p.rows.length+di (fun k=>gt x k*dP p y k p.rows.length) 0=p.shift+di (fun k=>gt y k*pq p x k) p.rows.length:=by simp only[di];grind
  rw[e];exact H8 y h _ (Nat.le_refl _)
 | j+1,hj=>by
  have:=xQ (r:=dP p y j p.rows.length) (IW y h j (by omega)) (Ee h (j:=j) (by omega));have e:p.shift+di (fun k=>gt y k*pq p x k) p.rows.length+di (fun k=>gt x k*dP p y k p.rows.length) (j+1)=p.shift+di (fun k=>gt y k*pq p x k) p.rows.length+di (fun k=>gt x k*dP p y k p.rows.length) j+gt x j*dP p y j p.rows.length:=by simp only[di];grind
  rw[e];exact this
theorem UX{p:aV}(hv:cB p=0){x:List Rat}(y:List Rat)(h:oa p x false=true):Gh (TJ p y p.ae.length) (BN p x p.ae.length):=by
 have h1:=IW y h p.ae.length (Nat.le_refl _);rw[Ub (jx hv).2.2 x y p.rows.length (Nat.le_refl _)]at h1;rw[Bn];have e:p.shift+di (fun k=>gt y k*pq p x k) p.rows.length+(di (fun j=>gt x j*(gt p.ae j).cost) p.ae.length - di (fun k=>gt y k*pq p x k) p.rows.length)=p.shift+di (fun k=>gt x k*(gt p.ae k).cost) p.ae.length:=by grind
 rwa [e]at h1
/-! nothing holds -/
def Hv(a b:Bo):Bool:=a.has&&b.has&&decide (b.at'<a.at')
def Gm(p:aV):Bool:=p.ae.any (fun c=>Hv c.low c.high)||p.rows.any fun r=>Hv r.low r.high
def free(p:aV):aV:=⟨p.max,p.shift,p.ae.map fun c=>{ c with cost:=0 },p.rows⟩
def noR(p:aV)(y:List Rat):Nat→Sp
 | 0=>⟨⟨true,0⟩,⟨true,0⟩⟩
 | i+1=>dA (noR p y i) (gt p.rows i).low (gt p.rows i).high (gt y i)
def noC(p:aV)(y:List Rat):Nat→Sp
 | 0=>⟨⟨true,0⟩,⟨true,0⟩⟩
 | j+1=>dA (noC p y j) (gt p.ae j).low (gt p.ae j).high (-(dP (free p) y j p.rows.length))
def WV(a b:Bo):Bool:=a.has&&b.has&&decide (b.at'<a.at')
def RJ(p:aV)(y:List Rat):Bool:=WV (noR p y p.rows.length).lo (noC p y p.ae.length).hi
end Go.Li
namespace Go.Sv
open Go
@[simp] theorem Z8(fr:List (Nat × SV))(f:FuncId):ev fr (.func f)=some (.val (.func (.func f) #[] #[])):=rfl
theorem yL{P:Program}{C:Ctx}{f:FuncId}{args:List SV}{M:aJ}{W:Option (List Nat)}{K:aJ→List Nat→SV→Prop}(h:cU P C f (kQ args) (wW M) W K):cU P C f args M W K :=
 fun β H w vals hd hW=>h β H w vals (nF hd) hW.nl
def Lp:SV→SV
 | .val (.func (.func f) ⟨[]⟩ ⟨[]⟩)=>.gG f [] []
 | x=>x
@[simp] theorem ac2{f:FuncId}:Lp (.val (.func (.func f) #[] #[]))=.gG f [] []:=rfl
theorem JG{β:bU}{H:Hp}{x:SV}{v:Value}(h:Den β H x v):Den β H (Lp x) v:=by
 unfold Lp;split
 ·simp only[Den]at h ⊢;exact⟨[],[],h.1,by simp only[bF],by simp only[bF]⟩
 ·exact h
def fnS(st:St):St:=⟨st.n,st.fr.map fun p=>(p.1,Lp p.2),st.M⟩
theorem HT:∀{fr:List (Nat × SV)} {t:Nat} {x:SV},get (fr.map fun p=>(p.1,Lp p.2)) t=some x→∃y,get fr t=some y∧x=Lp y
 | [],t,x,h=>by simp[get]at h
 | (s,y)::r,t,x,h=>by
  simp only[ak3,get]at h ⊢;split at h
  ·rename_i e;simp only[Option.some.injEq]at h;exact⟨y,by rw[if_pos e],h.symm⟩
  ·rename_i e;obtain⟨z,h1,h2⟩:=HT (fr:=r) h;exact⟨z,by rw[if_neg e];exact h1,h2⟩
theorem Le.fn{C:Ctx}(st:St):Le C st (fnS st):=by
 rintro a w ⟨β,H,hF,hW⟩;refine⟨β,H,⟨hF.1,hF.2.1,fun t x hg=>?_⟩,hW⟩;obtain⟨y,hy,rfl⟩:=HT hg;obtain⟨v,hv,hd⟩:=hF.2.2 t y hy;exact⟨v,hv,JG hd⟩
end Go.Sv
namespace Go.Li
open Go Go.Sv Go.Pl Go.Proofs Go.Tb Go.Ut
structure sF where
 kind:Int
 x:List Rat
 y:List Rat
 yQ:List Rat
 value:Rat
structure rA where
 kind:Int
 x:List ByteArray
 y:List ByteArray
 yQ:List ByteArray
 value:ByteArray
def I2(c:sF):SV:=.agg ([iv c.kind,.ro (c.x.map bs),.ro (c.y.map bs),.ro (c.yQ.map bs)]++(bs c.value).cells)
@[simp] theorem Z7(c:sF):(I2 c).eW=8:=rfl
@[simp] theorem QD(c:sF):(I2 c).aO=false:=rfl
@[simp] theorem Ru(c:sF):(I2 c).isAgg=true:=rfl
@[simp] theorem SL(c:sF):(I2 c).pure=true:=rfl
@[simp] theorem acb(n:Nat)(c:sF):(I2 c).lt n=true:=rfl
@[simp] theorem afl(c:sF):aB (I2 c).cells 0=iv c.kind:=rfl
@[simp] theorem ae8(c:sF):aB (I2 c).cells 1=.ro (c.x.map bs):=rfl
@[simp] theorem aex(c:sF):aB (I2 c).cells 2=.ro (c.y.map bs):=rfl
@[simp] theorem ab9(c:sF):aB (I2 c).cells 3=.ro (c.yQ.map bs):=rfl
@[simp] theorem acY(c:sF):SV.agg (((I2 c).cells.drop 4).take 4)=bs c.value:=rfl
def JA(c:rA):SV:=.agg ([iv c.kind,.ro (c.x.map dt),.ro (c.y.map dt),.ro (c.yQ.map dt),dt c.value])
@[simp] theorem WW(c:rA):(JA c).eW=5:=rfl
@[simp] theorem Q6(c:rA):(JA c).aO=false:=rfl
@[simp] theorem OX(c:rA):(JA c).isAgg=true:=rfl
@[simp] theorem UR(c:rA):(JA c).pure=true:=rfl
@[simp] theorem adM(c:rA):aB (JA c).cells 0=iv c.kind:=rfl
@[simp] theorem ab4(c:rA):aB (JA c).cells 1=.ro (c.x.map dt):=rfl
@[simp] theorem aep(c:rA):aB (JA c).cells 2=.ro (c.y.map dt):=rfl
@[simp] theorem aeC(c:rA):aB (JA c).cells 3=.ro (c.yQ.map dt):=rfl
@[simp] theorem acX(c:rA):aB (JA c).cells 4=dt c.value:=rfl
structure ClW(c:sF):Prop where
 x:Wd 2200 c.x
 y:Wd 2200 c.y
 r:Wd 2200 c.yQ
 v:qw 2200 c.value
 nx:c.x.length≤1048576
 ny:c.y.length≤1048576
 nr:c.yQ.length≤1048576
structure ain(c:rA):Prop where
 x:Py c.x
 y:Py c.y
 r:Py c.yQ
 v:c.value.size≤1048576
def H4(p:aV)(x:List Rat):Bool:=decide (x.length=p.ae.length)&&oa p x false
def cY(p:aV)(c:sF):Bool:=(H4 p c.x&&decide (c.y.length=p.rows.length)&&decide (c.yQ.length=0))&&((VM p c.y).has&&decide (BN p c.x p.ae.length=c.value)&&decide ((VM p c.y).at'=BN p c.x p.ae.length))
def Ve(p:aV)(c:sF):Bool:=(decide (c.x.length=0)&&decide (c.yQ.length=0)&&decide (c.value=0))&&(if c.y.length=0 then Gm p else decide (c.y.length=p.rows.length)&&RJ p c.y)
def FO(c:dL):SV:=.agg (.val (.string c.name)::.val (.bool c.whole)::((cL c.low).cells++((cL c.high).cells++[.val (.bool false),.val (.slice none 0 0),.val (.bool false),.val (.slice none 0 0)])))
theorem Rg(c:dL):jj (FO c)=bW { c with cost:=0 }:=by
 have e:jj (FO c)=.agg (.val (.string c.name)::.val (.bool c.whole)::((cL c.low).cells++((cL c.high).cells++[.val (.bool false),.ro [],.val (.bool false),.ro []]))):=rfl;rw[e];have r:(bs 0).cells=[.val (.bool false),.ro [],.val (.bool false),.ro []]:=by rw[←KK];rfl
 show _=SV.agg (.val (.string c.name)::.val (.bool c.whole)::((cL c.low).cells++((cL c.high).cells++(bs 0).cells)));rw[r]
def frL(p:aV)(j:Nat):List SV:=(alI p.ae.length).map fun i=>if i<j then FO (gt p.ae i) else bW (gt p.ae i)
@[simp] theorem TP(l:List dL):r6 16 (l.map bW)=True:=by cases l<;>simp[r6]
def Vy(low high:Bo)(r:Rat):Bool:=!(decide (0<r)&&high.has)&&!(decide (r<0)&&low.has)
def G9(p:aV)(x:List Rat):Nat→Rat
 | 0=>0
 | j+1=>G9 p x j+(gt p.ae j).cost*gt x j
def T4(p:aV)(x:List Rat)(j:Nat):Bool:=Vy (gt p.ae j).low (gt p.ae j).high (gt x j)
def S4(p:aV)(x:List Rat)(i:Nat):Bool:=Vy (gt p.rows i).low (gt p.rows i).high (pq p x i)
def acS(p:aV)(c:sF):Bool:=(H4 p c.x&&decide (c.yQ.length=p.ae.length)&&decide (c.y.length=0)&&decide (c.value=0))&&((alI p.ae.length).all (T4 p c.yQ)&&(alI p.rows.length).all (S4 p c.yQ))&&(decide (G9 p c.yQ p.ae.length≠0)&&(decide (0<G9 p c.yQ p.ae.length)==p.max))
def akf(p:aV)(c:sF):Bool:=if c.kind=1 then cY p c else if c.kind=2 then Ve p c else if c.kind=3 then acS p c else false
end Go.Li
namespace Go.Proofs
open Go.Sv Go Go.Tb Go.Pl Go.Ut Go.Li
end Go.Proofs


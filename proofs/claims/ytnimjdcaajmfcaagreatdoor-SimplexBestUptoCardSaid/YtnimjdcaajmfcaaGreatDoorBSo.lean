/- A text of the prover's own. -/
import Derived.Test.YtnimjdcaajmfcaaGreatDoorBSl
open List renaming cons_append->as8,replicate->asr,range->ati,range_succ->avK,take_of_length_le->aud,all_eq_true->atu,map_cons->asF,append_assoc->asJ,map_set->aue
namespace Go.Proofs
open Go.Sv Go Go.Tb Go.Pl Go.Ut Go.Sx
noncomputable def gn:Array Oper:=(vO aE).getD 17 #[]
def P7:Pl:=.nil
def aja:Array Bool:=#[true,true,true,true,true,true,true,true,true,true,true,true,true,true,true,true,true,true,true,true,true,true,true,true]
theorem ajP:ax gn aja P7=true:=by unfold P7;kernel_rfl
def O1:Pl:=.q 21 [] (.q 22 [] (.l 23 [0,1000000] P7))
def akw:Array Bool:=#[true,true,true,true,true,true,true,true,true,true,true,true,true,true,true,true,true,true,true,true,true,false,false,false]
theorem aho:ax gn akw O1=true:=by unfold O1;refine bC (by kernel_rfl) ?_;refine bC (by kernel_rfl) ?_;refine dB (by kernel_rfl) ?_;exact aw ajP (by kernel_rfl)
def Oe:Pl:=.q 18 [] (.q 19 [] (.l 20 [0,1000000] O1))
def ajz:Array Bool:=#[true,true,true,true,true,true,true,true,true,true,true,true,true,true,true,true,true,true,false,false,false,false,false,false]
theorem ag8:ax gn ajz Oe=true:=by unfold Oe;refine bC (by kernel_rfl) ?_;refine bC (by kernel_rfl) ?_;refine dB (by kernel_rfl) ?_;exact aw aho (by kernel_rfl)
def Kf:Pl:=.l 17 [1000000] Oe
def aiD:Array Bool:=#[true,true,true,true,true,true,true,true,true,true,true,true,true,true,true,true,true,false,false,false,false,false,false,false]
theorem R7:ax gn aiD Kf=true:=by unfold Kf;refine dB (by kernel_rfl) ?_;exact aw ag8 (by kernel_rfl)
def Jt:Pl:=.l 16 [] Kf
def akm:Array Bool:=#[true,true,true,true,true,true,true,true,true,true,true,true,true,true,true,true,false,false,false,false,false,false,false,false]
theorem TB:ax gn akm Jt=true:=by unfold Jt;refine dB (by kernel_rfl) ?_;exact aw R7 (by kernel_rfl)
def LA:Pl:=.l 15 [] Jt
def ajm:Array Bool:=#[true,true,true,true,true,true,true,true,true,true,true,true,true,true,true,false,false,false,false,false,false,false,false,false]
theorem X5:ax gn ajm LA=true:=by unfold LA;refine dB (by kernel_rfl) ?_;exact aw TB (by kernel_rfl)
def NJ:Pl:=.l 13 [] Kf
def ajZ:Array Bool:=#[true,true,true,true,true,true,true,true,true,true,true,true,true,false,true,true,true,false,false,false,false,false,false,false]
theorem XZ:ax gn ajZ NJ=true:=by unfold NJ;refine dB (by kernel_rfl) ?_;exact aw R7 (by kernel_rfl)
def MW:Pl:=.alt 13 [] Jt (.alt 16 [] NJ (.stop))
def ai9:Array Bool:=#[true,true,true,true,true,true,true,true,true,true,true,true,true,false,true,true,false,false,false,false,false,false,false,false]
theorem Ya:ax gn ai9 MW=true:=by unfold MW;refine bz (by kernel_rfl) ?_;refine aS (aw TB (by kernel_rfl)) ?_;refine aS (aw XZ (by kernel_rfl)) ?_;rfl
def Pn:Pl:=.alt 13 [] LA (.alt 15 [] MW (.stop))
def aiH:Array Bool:=#[true,true,true,true,true,true,true,true,true,true,true,true,true,false,true,false,false,false,false,false,false,false,false,false]
theorem ahm:ax gn aiH Pn=true:=by unfold Pn;refine bz (by kernel_rfl) ?_;refine aS (aw X5 (by kernel_rfl)) ?_;refine aS (aw Ya (by kernel_rfl)) ?_;rfl
def Jo:Pl:=.l 9 [1000000] Kf
def akf:Array Bool:=#[true,true,true,true,true,true,true,true,true,false,true,true,true,true,true,true,true,false,false,false,false,false,false,false]
theorem RK:ax gn akf Jo=true:=by unfold Jo;refine dB (by kernel_rfl) ?_;exact aw R7 (by kernel_rfl)
def A1:Pl:=.alt 9 [1000000] Jt (.alt 16 [] Jo (.stop))
def ab6:Array Bool:=#[true,true,true,true,true,true,true,true,true,false,true,true,true,true,true,true,false,false,false,false,false,false,false,false]
theorem Lz:ax gn ab6 A1=true:=by unfold A1;refine bz (by kernel_rfl) ?_;refine aS (aw TB (by kernel_rfl)) ?_;refine aS (aw RK (by kernel_rfl)) ?_;rfl
def DQ:Pl:=.alt 9 [1000000] LA (.alt 15 [] A1 (.stop))
def Z8:Array Bool:=#[true,true,true,true,true,true,true,true,true,false,true,true,true,true,true,false,false,false,false,false,false,false,false,false]
theorem Qm:ax gn Z8 DQ=true:=by unfold DQ;refine bz (by kernel_rfl) ?_;refine aS (aw X5 (by kernel_rfl)) ?_;refine aS (aw Lz (by kernel_rfl)) ?_;rfl
def DY:Pl:=.alt 9 [1000000] NJ (.alt 13 [] Jo (.stop))
def Xa:Array Bool:=#[true,true,true,true,true,true,true,true,true,false,true,true,true,false,true,true,true,false,false,false,false,false,false,false]
theorem QF:ax gn Xa DY=true:=by unfold DY;refine bz (by kernel_rfl) ?_;refine aS (aw XZ (by kernel_rfl)) ?_;refine aS (aw RK (by kernel_rfl)) ?_;rfl
def DL:Pl:=.alt 9 [1000000] MW (.alt 13 [] A1 (.alt 16 [] DY (.stop)))
def Z6:Array Bool:=#[true,true,true,true,true,true,true,true,true,false,true,true,true,false,true,true,false,false,false,false,false,false,false,false]
theorem QZ:ax gn Z6 DL=true:=by unfold DL;refine bz (by kernel_rfl) ?_;refine aS (aw Ya (by kernel_rfl)) ?_;refine aS (aw Lz (by kernel_rfl)) ?_;refine aS (aw QF (by kernel_rfl)) ?_;rfl
def IE:Pl:=.alt 9 [1000000] Pn (.alt 13 [] DQ (.alt 15 [] DL (.stop)))
def ZM:Array Bool:=#[true,true,true,true,true,true,true,true,true,false,true,true,true,false,true,false,false,false,false,false,false,false,false,false]
theorem ZI:ax gn ZM IE=true:=by unfold IE;refine bz (by kernel_rfl) ?_;refine aS (aw ahm (by kernel_rfl)) ?_;refine aS (aw Qm (by kernel_rfl)) ?_;refine aS (aw QZ (by kernel_rfl)) ?_;rfl
def Dp:Pl:=.l 8 [] Jo
def XP:Array Bool:=#[true,true,true,true,true,true,true,true,false,false,true,true,true,true,true,true,true,false,false,false,false,false,false,false]
theorem Ql:ax gn XP Dp=true:=by unfold Dp;refine dB (by kernel_rfl) ?_;exact aw RK (by kernel_rfl)
def EA:Pl:=.alt 8 [] A1 (.alt 16 [] Dp (.stop))
def acY:Array Bool:=#[true,true,true,true,true,true,true,true,false,false,true,true,true,true,true,true,false,false,false,false,false,false,false,false]
theorem Q3:ax gn acY EA=true:=by unfold EA;refine bz (by kernel_rfl) ?_;refine aS (aw Lz (by kernel_rfl)) ?_;refine aS (aw Ql (by kernel_rfl)) ?_;rfl
def IC:Pl:=.alt 8 [] DQ (.alt 15 [] EA (.stop))
def YI:Array Bool:=#[true,true,true,true,true,true,true,true,false,false,true,true,true,true,true,false,false,false,false,false,false,false,false,false]
theorem abi:ax gn YI IC=true:=by unfold IC;refine bz (by kernel_rfl) ?_;refine aS (aw Qm (by kernel_rfl)) ?_;refine aS (aw Q3 (by kernel_rfl)) ?_;rfl
def H8:Pl:=.alt 8 [] DY (.alt 13 [] Dp (.stop))
def acm:Array Bool:=#[true,true,true,true,true,true,true,true,false,false,true,true,true,false,true,true,true,false,false,false,false,false,false,false]
theorem W5:ax gn acm H8=true:=by unfold H8;refine bz (by kernel_rfl) ?_;refine aS (aw QF (by kernel_rfl)) ?_;refine aS (aw Ql (by kernel_rfl)) ?_;rfl
def Ib:Pl:=.alt 8 [] DL (.alt 13 [] EA (.alt 16 [] H8 (.stop)))
def ab4:Array Bool:=#[true,true,true,true,true,true,true,true,false,false,true,true,true,false,true,true,false,false,false,false,false,false,false,false]
theorem abQ:ax gn ab4 Ib=true:=by unfold Ib;refine bz (by kernel_rfl) ?_;refine aS (aw QZ (by kernel_rfl)) ?_;refine aS (aw Q3 (by kernel_rfl)) ?_;refine aS (aw W5 (by kernel_rfl)) ?_;rfl
def Ad:Pl:=.q 0 [] (.q 1 [] (.q 2 [] (.q 3 [] (.q 4 [] (.q 5 [] (.q 6 [] (.q 7 [] (.q 10 [] (.q 11 [] (.q 12 [] (.q 14 [] (.alt 8 [] IE (.alt 13 [] IC (.alt 15 [] Ib (.stop)))))))))))))))
def aaK:Array Bool:=#[false,false,false,false,false,false,false,false,false,false,false,false,false,false,false,false,false,false,false,false,false,false,false,false]
theorem aa3:ax gn aaK Ad=true:=by unfold Ad;refine bC (by kernel_rfl) ?_;refine bC (by kernel_rfl) ?_;refine bC (by kernel_rfl) ?_;refine bC (by kernel_rfl) ?_;refine bC (by kernel_rfl) ?_;refine bC (by kernel_rfl) ?_;refine bC (by kernel_rfl) ?_;refine bC (by kernel_rfl) ?_;refine bC (by kernel_rfl) ?_;refine bC (by kernel_rfl) ?_;refine bC (by kernel_rfl) ?_;refine bC (by kernel_rfl) ?_;refine bz (by kernel_rfl) ?_;refine aS (aw ZI (by kernel_rfl)) ?_;refine aS (aw abi (by kernel_rfl)) ?_;refine aS (aw abQ (by kernel_rfl)) ?_;rfl
theorem OV:(Region.noSelect gn&&(ax gn (Array.replicate gn.size false) Ad&&decide (Ad.len<=gn.size)))=true:=by rw[Bool.and_eq_true,Bool.and_eq_true];exact⟨by kernel_rfl,aw aa3 (by kernel_rfl),by kernel_rfl⟩
end Go.Proofs
set_option maxRecDepth 10000
set_option maxHeartbeats 4000000
namespace Go.Sx
open Go Go.Sv Go.Pl Go.Proofs Go.Tb Go.Ut Go.Mx Go.Li Go.Dt
def oZ(l:List Rat):List Term->List Rat
 | []=>l
 | t::ts=>oZ (l.set t.g9.toNat t.num) ts
@[simp] theorem L3:∀(ts:List Term) (l:List Rat),(oZ l ts).length=l.length
 | [],_=>rfl
 | t::ts,l=>by unfold oZ;rw[L3 ts];simp
theorem Am:∀(ts:List Term) (l:List Rat) (t:Term),oZ l (ts++[t])=(oZ l ts).set t.g9.toNat t.num
 | [],_,_=>rfl
 | _::ts,l,t=>by simp only[as8,oZ];exact Am ts _ t
def BW(p:aB)(N i:Nat):List Rat:=oZ (asr N 0) (gt p.rows i).aC
def gN(p:aB)(N i:Nat):List (List Rat):=(ati i).map (BW p N)
@[simp] theorem Ag(p:aB)(N i:Nat):(gN p N i).length=i:=by simp[gN]
theorem FX(p:aB)(N i:Nat):gN p N (i+1)=gN p N i++[BW p N i]:=by simp[gN,avK]
theorem MP(R:List (List Rat))(l:List Rat)(tl:aD):ey R++some ⟨4,l.map aU,false⟩::tl=ey (R++[l])++tl:=by simp[ey]
theorem Ni(N i:Nat):rq N (i+1)=rq N i++[.view (i+9) 0 N]:=by simp[rq,avK,Tz]
@[simp] theorem agq(N i:Nat):(rq N i).length=i:=by simp[rq]
def wF(p:aB)(n k:Nat):Int:=if k<n then zN p k else 1
def rF(n k:Nat):Int:=if k<n then -1 else(k:Int) - n
def gO(p:aB)(i:Nat):List Bo:=pI p++(p.rows.take i).map (·.low)
def dF(p:aB)(i:Nat):List Bo:=j3 p++(p.rows.take i).map (·.high)
def jD(n i:Nat):List Nat:=(ati i).map (n+·)
theorem Ee{α:Type}[Inhabited α]{N j:Nat}{f g:Nat->α}{d:α}(h:∀k,k<j->f k=g k):dH N j f d=dH N j g d:=cO (by simp) λk hk=>by
 have hk:k<N:=by simpa using hk
 rw[jk hk,jk hk];by_cases q:k<j
 ·rw[if_pos q,if_pos q,h k q]
 ·rw[if_neg q,if_neg q]
def fR(p:aB)(n m N i:Nat)(tl:aD):aD:=fH p n m N (n+i) i (dH N (n+i) (wF p n) 0) (dH N n (so p) 0) (dH N (n+i) (rF n) 0) (dH N n (o3 p) 0) (gO p i) (dF p i) (jD n i)++(ey (gN p N i)++tl)
theorem acT(p:aB)(n m N:Nat)(hn:p.ab.length=n):fB p n m N n=fR p n m N 0 []:=by
 unfold fB fR;have e1:(pI p).take n=gO p 0:=by unfold gO;rw[aud (by simp[pI,hn])];simp
 have e2:(j3 p).take n=dF p 0:=by unfold dF;rw[aud (by simp[j3,hn])];simp
 rw[e1,e2,Ee (f:=wF p n) (g:=zN p) (λk h=>by unfold wF;rw[if_pos (by omega)]),Ee (f:=rF n) (g:=λ_ => -1) (λk h=>by unfold rF;rw[if_pos (by omega)])];simp[jD,gN,ey]
theorem CX{N m k:Nat}(h:m+9<=k):SV.kZ k (rq N m)=true:=by
 unfold rq;rw[qA,atu];intro i hi;have hi:i<m:=by simpa using hi
 simp[Tz];omega
theorem qz{N m k:Nat}(h:k<9):SV.aZ k (rq N m)=false:=by
 unfold rq
 induction ati m with
 | nil=>rfl
 | cons a l ih=>simp only[asF,SV.aZ,ih,Tz];simp;omega
theorem QB{C:Ctx}{N0 n m N kl kb:Nat}{p:aB}{wh:List Int}{x:List Rat}{row:List Int}{cost:List Rat}{low high:List Bo}{basic:List Nat}{R:List (List Rat)}{fr fr':List (Nat × SV)}{tl tl':aD}(hC:C.fx=[])(h:R.length=kb)(hf:bU fr fr')(ht:fI tl tl')(h2:gz (kb+9+tl'.length) fr')(h3:ee (kb+9+tl'.length) tl') :
  Le C ⟨N0,fr,fH p n m N kl kb wh x row cost low high basic++(ey R++tl)⟩ ⟨N0,fr',fH p n m N kl kb wh x row cost low high basic++(ey R++tl')⟩:=by
 have ln:(fH p n m N kl kb wh x row cost low high basic++(ey R++tl')).length=kb+9+tl'.length:=by simp[r5,h];omega
 refine Le.fm ⟨rfl,hf,?_,.inr ⟨?_,?_,?_⟩⟩
 ·exact kY _ (kY _ ht)
 ·rw[ln];exact h2
 ·rw[ln];refine mB ?_ (mB (nO _ _) h3);have:=CX (N:=N) (m:=kb) (k:=kb+9+tl'.length) (by omega);simp[r5,fS,ee,this];omega
 ·rw[hC];simp
theorem PU(A:aD){B B':aD}:fI (A++B) (A++B')↔fI B B':=by
 induction A with
 | nil=>exact Iff.rfl
 | cons x A ih=>simp only[as8,fI,ih];simp
theorem PT(k:Nat)(R:List (List Rat))(B:aD):ee k (ey R++B)↔ee k B:=by
 unfold ey
 induction R with
 | nil=>exact Iff.rfl
 | cons x R ih =>
  simp only[asF,as8,ee,ih,and_iff_right_iff_imp];intro _;rw[qA,atu];intro y _;rfl
end Go.Sx
namespace Go.Proofs
open Go.Sv Go Go.Tb Go.Pl Go.Ut Go.Mx Go.Li Go.Dt Go.Sx
theorem Ir{σ:Nat->Nat}{t:Nat}{v:SV}:∀{fr:List (Nat × SV)},Go.Sv.get fr t=some v->Go.Sv.get (fr.map λz=>(z.1,fU σ z.2)) t=some (fU σ v)
 | [],h=>by simp[Go.Sv.get]at h
 | (s,y)::r,h=>by
  simp only[Go.Sv.get]at h;simp only[asF,Go.Sv.get];by_cases e:s=t
  ·rw[if_pos e]at h ⊢;simp only[Option.some.injEq]at h;rw[h]
  ·rw[if_neg e]at h ⊢;exact Ir h
theorem Le.acN{C:Ctx}(hC:C.fx=[]){n:Nat}{A:aD}{x y:Option cz}{fr fr':List (Nat × SV)}(hA:ee A.length A)(hy:ee A.length [y])(hf:bU fr (fr'.map λz=>(z.1,fU (λk=>if k<A.length then k else k+1) z.2))) :
  Le C ⟨n,fr,A++[x,y]⟩ ⟨n,fr',A++[y]⟩:=by
 refine Le.perm hC (λk=>if k<A.length then k else k+1) rfl ?_ ?_ ?_ ?_
 ·intro k k' _ _ h;split at h<;>split at h<;>omega
 ·intro k hk;simp only[List.length_append,List.length_cons,List.length_nil]at hk ⊢;rw[if_neg (by omega)];omega
 ·intro k e he;have id:∀i,i<A.length->(λk=>if k<A.length then k else k+1) i=i:=λi hi=>by simp[hi]
  by_cases hk:k<A.length
  ·rw[if_pos hk];rw[List.getElem?_append_left hk]at he ⊢;rw[he];have:=sP hA _ _ he;cases e;rw[wN,jL id _ this]
  ·have ak:k=A.length:=by
    have:=(List.getElem?_eq_some_iff.1 he).1;simp at this;omega
   subst ak;rw[if_neg (by omega)];simp at he;subst he;have:=hy;simp only[ee]at this;cases e;rw[wN,jL id _ this.1];simp
 ·intro t v hg;exact w8 hf t _ (Ir hg)
theorem Tr{p:aB}{n m N kl kb:Nat}{wh:List Int}{x:List Rat}{row:List Int}{cost:List Rat}{low high:List Bo}{basic:List Nat}:rv (fH p n m N kl kb wh x row cost low high basic)=fH p n m N kl kb wh x row cost low high basic:=by unfold fH r5 fS rq;simp only[jd,mc,lW,IS];rw[dv iv (λ_=>rfl),dv aU (λ_=>rfl),dv rp (λ_=>rfl),dv iv (λ_=>rfl),dv (Tz N) (λ_=>rfl),dv aU (λ_=>rfl),dv dh (λ_=>rfl),dv dh (λ_=>rfl)];simp
theorem OJ{C:Ctx}{N0 n m N kl i:Nat}{p:aB}{wh:List Int}{x:List Rat}{row:List Int}{cost:List Rat}{low high:List Bo}{basic:List Nat}{R:List (List Rat)}{fr fr':List (Nat × SV)}{y:cz}{l:List SV}{z:List Rat}(hC:C.fx=[])(h:R.length=i)(hz:lW l=z.map aU)(hf:bU (zI fr) (fr'.map λz=>(z.1,fU (λk=>if k<i+9 then k else k+1) z.2))) :
  Le C ⟨N0,fr,fH p n m N kl i wh x row cost low high basic++(ey R++[some y,some ⟨4,l,false⟩])⟩ ⟨N0,fr',fH p n m N kl i wh x row cost low high basic++(ey R++[some ⟨4,z.map aU,false⟩])⟩:=by
 have hA:(fH p n m N kl i wh x row cost low high basic++ey R).length=i+9:=by simp[r5,h]
 refine(Le.nl _).trans ?_;unfold NU;rw[kA,kA,tQ,Tr,<-asJ,<-asJ];obtain⟨ys,ye,yf⟩:=y;simp only[jd,mc,hz];refine Le.acN hC ?_ ?_ (by rw[hA];exact hf)
 ·rw[hA];have lr:=nO (i+9) R;refine mB ?_ lr;have:=CX (N:=N) (m:=i) (k:=i+9) (by omega);simp[r5,fS,ee,this]
 ·have:=nO (fH p n m N kl i wh x row cost low high basic++ey R).length [z];simp[ee]
theorem Sz(p:aB)(n m N:Nat)(hn:p.ab.length=n)(hm:p.rows.length=m)(hN:n+m=N)(ay:N<=14)(ht:∀i,i<m->∀t∈(gt p.rows i).aC,∃k:Nat,t.g9=k∧k<N)(ad:∀i,i<m->(gt p.rows i).aC.length<=1000000){C:Ctx}(hC:C.fx=[]){Q:bf}(ag:∀c st,¬Q (.panic c) st)(hQ:aa Tryz.prog C (bs 6 aE) ⟨217,[(0,.dc (bN p) 0),(3,.ptr 0 0 0),(4,iv N)],fR p n m N m []⟩ Q) :
  aa Tryz.prog C (bs 5 aE) ⟨217,[(0,.dc (bN p) 0),(3,.ptr 0 0 0),(4,iv N)],fR p n m N 0 []⟩ Q:=by
 refine aa.cutAt 1 (λst=>st=⟨217,[(0,.dc (bN p) 0),(3,.ptr 0 0 0),(4,iv N)],fR p n m N m []⟩) ?_ ?_
 rotate_left 1
 ·rintro st rfl;simp only[aE,Tryz.f77,Option.getD_some,ai,ah]at hQ ⊢;exact hQ
 simp only[aE,Tryz.f77,Option.getD_some,ai,ah,aN,aM];simp(disch:=omega)[bN,hm];repeat refine asi ?_
 refine aa.bM (ι:=Nat) (λi=>⟨217,[(0,.dc (bN p) 0),(3,.ptr 0 0 0),(4,iv N),(120,.ro (p.rows.map iG)),(121,iv m),(122,iv i)],fR p n m N i []⟩)
  (λi=>i<=m) (λi=>m - i) 0 (by simp) ?_ ?_
 ·exact⟨rfl,by simp[bU,Go.Sv.get,bN],aq _,.inl rfl⟩
 ·rintro i hi;by_cases ae:i<m
  ·have lc:aL (p.rows.map iG) i=iG (gt p.rows i):=cy _ (by omega);have hR:=Ag p N i;have ll:(gO p i).length=n+i:=by simp[gO,pI,hn];omega
   have lh:(dF p i).length=n+i:=by simp[dF,j3,hn];omega
   have tl:gO p (i+1)=gO p i++[(gt p.rows i).low]:=by unfold gO;rw[fO (by omega)];simp
   have th:dF p (i+1)=dF p i++[(gt p.rows i).high]:=by unfold dF;rw[fO (by omega)];simp
   have lb:(jD n i).length=i:=by simp[jD]
   unfold fR;clear hQ;generalize hL:gO p i=L at *;generalize hH:dF p i=Hh at *;generalize al:gN p N i=R at *;simp only[fH,r5,fS];have am:SV.aZ 5 (rq N i)=false:=qz (by omega);have an:SV.aZ 6 (rq N i)=false:=qz (by omega);simp(disch:=omega)[ae,hm,lc,hR,cE hR,cP hR];repeat refine asi ?_
   refine aa.uR Ad ⟨217,[(0,.dc (bN p) 0),(3,.ptr 0 0 0),(4,iv N),(7,iv i),(8,.ptr (i+9) 0 0),(120,.ro (p.rows.map iG)),(121,iv m),(122,iv i)],fH p n m N (n+i+1) i (dH N (n+i) (wF p n) 0) (dH N n (so p) 0) (dH N (n+i) (rF n) 0) (dH N n (o3 p) 0) (L++[(gt p.rows i).low]) (Hh++[(gt p.rows i).high]) (jD n i)++(ey R++[some ⟨12,[iG (gt p.rows i)],false⟩])⟩ (by kernel_rfl) OV ?_ ?_
   ·simp only[Ad,Ib,H8,IC,EA,Dp,IE,DL,DY,DQ,A1,Jo,Pn,MW,NJ,LA,Jt,Kf,Oe,O1,P7];have w3:(n+i+1)*72<=70368744177664:=by omega
    simp[ll,lh,hC,u5,u7,aR,bU,Go.Sv.get,r5,fS,w3,hR,cE hR,vV hR,tgC hR,am,an,nQ,pY,yz,zc];have lt:=CX (N:=N) (m:=i) (k:=i+1+1+1+1+1+1+1+1+1+1) (by omega);simp[PU,PT,lt,fI,ee]
   ·have l2:(L++[(gt p.rows i).low]).length=n+i+1:=by simp[ll]
    have h2:(Hh++[(gt p.rows i).high]).length=n+i+1:=by simp[lh]
    generalize az:L++[(gt p.rows i).low]=L2 at *;generalize aA:Hh++[(gt p.rows i).high]=H2 at *;simp only[r5,fH,fS];simp(disch:=omega)[cE hR,hR];repeat refine asi ?_
    generalize af:(gt p.rows i).aC=ts at *;have zz:lW (asr N (.agg [.val (.bool false),.val (.slice none 0 0),.val (.bool false),.val (.slice none 0 0)]))=(asr N (0:Rat)).map aU:=Lc N;refine aa.le (OJ (n:=n) (m:=m) (N:=N) (kl:=n+i+1) (i:=i) (p:=p) (wh:=dH N (n+i) (wF p n) 0) (x:=dH N n (so p) 0) (row:=dH N (n+i) (rF n) 0) (cost:=dH N n (o3 p) 0) (low:=L2) (high:=H2) (basic:=jD n i) (R:=R)
     (fr':=[(0,.dc (bN p) 0),(3,.ptr 0 0 0),(4,iv N),(7,iv i),(9,.view (i+9) 0 N),(120,.ro (p.rows.map iG)),(121,iv m),(122,iv i),(152,.ro (ts.map iB)),(153,iv ts.length),(154,iv (0:Nat))]) (y:=⟨12,[iG (gt p.rows i)],false⟩) hC hR zz ?_) ?_
    ·simp(disch:=omega)[bU,Go.Sv.get]
    have e0:oZ (asr N 0) (ts.take 0)=asr N 0:=rfl;rw[<-e0];refine aa.bM (ι:=Nat) (λk=>⟨217,[(0,.dc (bN p) 0),(3,.ptr 0 0 0),(4,iv N),(7,iv i),(9,.view (i+9) 0 N),(120,.ro (p.rows.map iG)),(121,iv m),(122,iv i),(152,.ro (ts.map iB)),(153,iv ts.length),(154,iv k)],fH p n m N (n+i+1) i (dH N (n+i) (wF p n) 0) (dH N n (so p) 0) (dH N (n+i) (rF n) 0) (dH N n (o3 p) 0) L2 H2 (jD n i)++(ey R++[some ⟨4,(oZ (asr N 0) (ts.take k)).map aU,false⟩])⟩)
     (λk=>k<=ts.length) (λk=>ts.length - k) 0 (by simp) ?_ ?_
    ·exact⟨rfl,by simp[bU,Go.Sv.get],aq _,.inl rfl⟩
    ·rintro k hk;have ad:=ad i ae;rw[af]at ad;have lN:(oZ (asr N 0) (ts.take k)).length=N:=by simp
     by_cases ac:k<ts.length
     ·obtain⟨c,hc,aF⟩:=ht i ae (gt ts k) (by rw[af];exact gZ ac);have lt:=Gv ac;have sn:oZ (asr N 0) (ts.take (k+1))=(oZ (asr N 0) (ts.take k)).set c (gt ts k).num:=by rw[fO ac,Am,hc];rfl
      have gr:=bS (l:=oZ (asr N 0) (ts.take k)) (i:=c) (by omega);generalize hK:oZ (asr N 0) (ts.take k)=K at *;simp only[r5,fH,fS];simp(disch:=omega)[ac,cE hR,vV hR,cP hR,zF hR,hR,lt,hc,gr,cg,lN, -aue];repeat refine asi ?_
      refine⟨k+1,by omega,by omega,?_⟩;rw[sn];exact QB (p:=p) (n:=n) (m:=m) (N:=N) (kl:=n+i+1) (kb:=i) (wh:=dH N (n+i) (wF p n) 0) (x:=dH N n (so p) 0) (row:=dH N (n+i) (rF n) 0) (cost:=dH N n (o3 p) 0) (low:=L2) (high:=H2) (basic:=jD n i) (R:=R) hC hR (by simp(disch:=omega)[bU,Go.Sv.get,aK]) (by simp[fI]) (by simp[gz]) (by simp[ee, -aue])
     ·obtain rfl:k=ts.length:=by omega
      rw[List.take_length]at *;simp only[r5,fH,fS];have aj:SV.aZ 8 (rq N i)=false:=qz (by omega);simp(disch:=omega)[vV hR,hR,aj,nQ,pY,yz,zc];repeat refine asi ?_
      refine⟨⟨by simp[hC],by omega⟩,?_⟩;refine aa.draw (.qs [0,1,2,3,4,5,6,7,8,9,10]<|.l 11 []<|.l 12 [1000000]<|.qs [13,14]<|.l 15 [0,1000000] .nil) (by kernel_rfl) (by kernel_rfl) (by simpa using ag) ?_;have ao:SV.aZ 7 (rq N i)=false:=qz (by omega);have wr:IntKind.i64.wrap ((n:Int)+i)=((n+i:Nat):Int):=by simp(disch:=omega)[aK]
      simp(disch:=omega)[tgC hR,hR,ao,nQ,pY,yz,zc,lb,wr];repeat refine asi ?_
      refine⟨⟨by simp[hC],by omega⟩,?_⟩;have e8:rq N i++[.view (i+9) 0 N]=rq N (i+1):=(Ni N i).symm;have e7:List.map rp (jD n i)++[SV.val (.int .i64 ((n:Int)+i))]=(jD n (i+1)).map rp:=by simp[jD,avK,rp]
      rw[e7,e8,MP];have hK:oZ (asr N 0) ts=BW p N i:=by unfold BW;rw[af]
      have ap:R++[oZ (asr N 0) ts]=gN p N (i+1):=by rw[hK,<-al,FX]
      have ar:(gN p N (i+1)).length=i+1:=Ag p N (i+1);rw[ap];generalize au:gN p N (i+1)=R1 at *;refine aa.le (QB (p:=p) (n:=n) (m:=m) (N:=N) (kl:=n+i+1) (kb:=i+1) (wh:=dH N (n+i) (wF p n) 0) (x:=dH N n (so p) 0) (row:=dH N (n+i) (rF n) 0) (cost:=dH N n (o3 p) 0) (low:=L2) (high:=H2) (basic:=jD n (i+1)) (R:=R1) (tl':=[])
       (fr':=[(0,.dc (bN p) 0),(3,.ptr 0 0 0),(4,iv N),(7,iv i),(120,.ro (p.rows.map iG)),(121,iv m),(122,iv i)]) hC ar (by simp(disch:=omega)[bU,Go.Sv.get]) (by simp[fI]) (by simp[gz]) (by simp[ee])) ?_
      have g1:=cf (l:=dH N (n+i) (wF p n) 0) (i:=n+i) (by simp;omega);have g3:=cf (l:=dH N (n+i) (rF n) 0) (i:=n+i) (by simp;omega);simp only[r5,fH,fS];refine aa.draw (.qs [0,1,2,3,4,5,6,7,8,9,10,11,12,13,14,15,16,17,18,19,20,21]<|.l 22 [3]<|.qs [23]<|.l 24 [1] .nil) (by kernel_rfl) (by kernel_rfl) (by simpa using ag) ?_;have av:((n:Int)+i).toNat=n+i:=by omega
      simp(disch:=omega)[g1,g3,wr,av,dA, -aue];repeat refine asi ?_
      refine⟨i+1,by omega,by omega,?_⟩;have w1:(dH N (n+i) (wF p n) 0).set (n+i) 1=dH N (n+(i+1)) (wF p n) 0:=by rw[<-Nat.add_assoc,<-ek (f:=wF p n),show wF p n (n+i)=1 by unfold wF;rw[if_neg (by omega)]]
      have w2:(dH N (n+i) (rF n) 0).set (n+i) (i:Int)=dH N (n+(i+1)) (rF n) 0:=by rw[<-Nat.add_assoc,<-ek (f:=rF n),show rF n (n+i)=(i:Int) by unfold rF;rw[if_neg (by omega)];omega]
      rw[w1,w2,au,tl,th];exact Le.fm ⟨rfl,by simp(disch:=omega)[bU,Go.Sv.get,aK],aq _,.inl rfl⟩
  ·obtain rfl:i=m:=by omega
   simp(disch:=omega)[];repeat refine asi ?_
   exact⟨rfl,by simp[bU,Go.Sv.get,bN],by simp only[];exact aq _,.inl rfl⟩
end Go.Proofs


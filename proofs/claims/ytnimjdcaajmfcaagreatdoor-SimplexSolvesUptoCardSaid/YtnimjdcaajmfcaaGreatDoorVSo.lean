/- A text of the prover's own. -/
import Derived.Test.YtnimjdcaajmfcaaGreatDoorVSl
open List renaming cons_append->ayb,replicate->awQ,range->ayq,range_succ->aB2,take_of_length_le->aAp,all_eq_true->ayG,map_cons->aw6,append_assoc->axa,map_set->aAq
namespace Go.Proofs
open Go.Sv Go Go.Tb Go.Pl Go.Ut Go.Sx
noncomputable def gN:Array Oper:=(yq aF).getD 17 #[]
def Se:Pl:=.nil
def anv:Array Bool:=#[true,true,true,true,true,true,true,true,true,true,true,true,true,true,true,true,true,true,true,true,true,true,true,true]
theorem amR:ay gN anv Se=true:=by unfold Se;kernel_rfl
def Ti:Pl:=.q 21 [] (.q 22 [] (.l 23 [0,1000000] Se))
def amq:Array Bool:=#[true,true,true,true,true,true,true,true,true,true,true,true,true,true,true,true,true,true,true,true,true,false,false,false]
theorem akO:ay gN amq Ti=true:=by unfold Ti;refine bJ (by kernel_rfl) ?_;refine bJ (by kernel_rfl) ?_;refine dT (by kernel_rfl) ?_;exact aw amR (by kernel_rfl)
def Sw:Pl:=.q 18 [] (.q 19 [] (.l 20 [0,1000000] Ti))
def am1:Array Bool:=#[true,true,true,true,true,true,true,true,true,true,true,true,true,true,true,true,true,true,false,false,false,false,false,false]
theorem amf:ay gN am1 Sw=true:=by unfold Sw;refine bJ (by kernel_rfl) ?_;refine bJ (by kernel_rfl) ?_;refine dT (by kernel_rfl) ?_;exact aw akO (by kernel_rfl)
def Md:Pl:=.l 17 [1000000] Sw
def akU:Array Bool:=#[true,true,true,true,true,true,true,true,true,true,true,true,true,true,true,true,true,false,false,false,false,false,false,false]
theorem XG:ay gN akU Md=true:=by unfold Md;refine dT (by kernel_rfl) ?_;exact aw amf (by kernel_rfl)
def Lx:Pl:=.l 16 [] Md
def anD:Array Bool:=#[true,true,true,true,true,true,true,true,true,true,true,true,true,true,true,true,false,false,false,false,false,false,false,false]
theorem VI:ay gN anD Lx=true:=by unfold Lx;refine dT (by kernel_rfl) ?_;exact aw XG (by kernel_rfl)
def Ou:Pl:=.l 15 [] Lx
def alN:Array Bool:=#[true,true,true,true,true,true,true,true,true,true,true,true,true,true,true,false,false,false,false,false,false,false,false,false]
theorem aeu:ay gN alN Ou=true:=by unfold Ou;refine dT (by kernel_rfl) ?_;exact aw VI (by kernel_rfl)
def OI:Pl:=.l 13 [] Md
def akE:Array Bool:=#[true,true,true,true,true,true,true,true,true,true,true,true,true,false,true,true,true,false,false,false,false,false,false,false]
theorem abA:ay gN akE OI=true:=by unfold OI;refine dT (by kernel_rfl) ?_;exact aw XG (by kernel_rfl)
def Qd:Pl:=.alt 13 [] Lx (.alt 16 [] OI (.stop))
def alx:Array Bool:=#[true,true,true,true,true,true,true,true,true,true,true,true,true,false,true,true,false,false,false,false,false,false,false,false]
theorem af4:ay gN alx Qd=true:=by unfold Qd;refine bH (by kernel_rfl) ?_;refine aT (aw VI (by kernel_rfl)) ?_;refine aT (aw abA (by kernel_rfl)) ?_;rfl
def QV:Pl:=.alt 13 [] Ou (.alt 15 [] Qd (.stop))
def amk:Array Bool:=#[true,true,true,true,true,true,true,true,true,true,true,true,true,false,true,false,false,false,false,false,false,false,false,false]
theorem anR:ay gN amk QV=true:=by unfold QV;refine bH (by kernel_rfl) ?_;refine aT (aw aeu (by kernel_rfl)) ?_;refine aT (aw af4 (by kernel_rfl)) ?_;rfl
def MO:Pl:=.l 9 [1000000] Md
def amr:Array Bool:=#[true,true,true,true,true,true,true,true,true,false,true,true,true,true,true,true,true,false,false,false,false,false,false,false]
theorem W3:ay gN amr MO=true:=by unfold MO;refine dT (by kernel_rfl) ?_;exact aw XG (by kernel_rfl)
def Dl:Pl:=.alt 9 [1000000] Lx (.alt 16 [] MO (.stop))
def ae1:Array Bool:=#[true,true,true,true,true,true,true,true,true,false,true,true,true,true,true,true,false,false,false,false,false,false,false,false]
theorem P6:ay gN ae1 Dl=true:=by unfold Dl;refine bH (by kernel_rfl) ?_;refine aT (aw VI (by kernel_rfl)) ?_;refine aT (aw W3 (by kernel_rfl)) ?_;rfl
def G8:Pl:=.alt 9 [1000000] Ou (.alt 15 [] Dl (.stop))
def aeE:Array Bool:=#[true,true,true,true,true,true,true,true,true,false,true,true,true,true,true,false,false,false,false,false,false,false,false,false]
theorem TT:ay gN aeE G8=true:=by unfold G8;refine bH (by kernel_rfl) ?_;refine aT (aw aeu (by kernel_rfl)) ?_;refine aT (aw P6 (by kernel_rfl)) ?_;rfl
def FJ:Pl:=.alt 9 [1000000] OI (.alt 13 [] MO (.stop))
def abF:Array Bool:=#[true,true,true,true,true,true,true,true,true,false,true,true,true,false,true,true,true,false,false,false,false,false,false,false]
theorem UK:ay gN abF FJ=true:=by unfold FJ;refine bH (by kernel_rfl) ?_;refine aT (aw abA (by kernel_rfl)) ?_;refine aT (aw W3 (by kernel_rfl)) ?_;rfl
def Fb:Pl:=.alt 9 [1000000] Qd (.alt 13 [] Dl (.alt 16 [] FJ (.stop)))
def adK:Array Bool:=#[true,true,true,true,true,true,true,true,true,false,true,true,true,false,true,true,false,false,false,false,false,false,false,false]
theorem TF:ay gN adK Fb=true:=by unfold Fb;refine bH (by kernel_rfl) ?_;refine aT (aw af4 (by kernel_rfl)) ?_;refine aT (aw P6 (by kernel_rfl)) ?_;refine aT (aw UK (by kernel_rfl)) ?_;rfl
def KA:Pl:=.alt 9 [1000000] QV (.alt 13 [] G8 (.alt 15 [] Fb (.stop)))
def ace:Array Bool:=#[true,true,true,true,true,true,true,true,true,false,true,true,true,false,true,false,false,false,false,false,false,false,false,false]
theorem afW:ay gN ace KA=true:=by unfold KA;refine bH (by kernel_rfl) ?_;refine aT (aw anR (by kernel_rfl)) ?_;refine aT (aw TT (by kernel_rfl)) ?_;refine aT (aw TF (by kernel_rfl)) ?_;rfl
def E9:Pl:=.l 8 [] MO
def afw:Array Bool:=#[true,true,true,true,true,true,true,true,false,false,true,true,true,true,true,true,true,false,false,false,false,false,false,false]
theorem TS:ay gN afw E9=true:=by unfold E9;refine dT (by kernel_rfl) ?_;exact aw W3 (by kernel_rfl)
def GH:Pl:=.alt 8 [] Dl (.alt 16 [] E9 (.stop))
def acn:Array Bool:=#[true,true,true,true,true,true,true,true,false,false,true,true,true,true,true,true,false,false,false,false,false,false,false,false]
theorem Uu:ay gN acn GH=true:=by unfold GH;refine bH (by kernel_rfl) ?_;refine aT (aw P6 (by kernel_rfl)) ?_;refine aT (aw TS (by kernel_rfl)) ?_;rfl
def JE:Pl:=.alt 8 [] G8 (.alt 15 [] GH (.stop))
def afK:Array Bool:=#[true,true,true,true,true,true,true,true,false,false,true,true,true,true,true,false,false,false,false,false,false,false,false,false]
theorem afD:ay gN afK JE=true:=by unfold JE;refine bH (by kernel_rfl) ?_;refine aT (aw TT (by kernel_rfl)) ?_;refine aT (aw Uu (by kernel_rfl)) ?_;rfl
def KR:Pl:=.alt 8 [] FJ (.alt 13 [] E9 (.stop))
def afO:Array Bool:=#[true,true,true,true,true,true,true,true,false,false,true,true,true,false,true,true,true,false,false,false,false,false,false,false]
theorem afT:ay gN afO KR=true:=by unfold KR;refine bH (by kernel_rfl) ?_;refine aT (aw UK (by kernel_rfl)) ?_;refine aT (aw TS (by kernel_rfl)) ?_;rfl
def J4:Pl:=.alt 8 [] Fb (.alt 13 [] GH (.alt 16 [] KR (.stop)))
def afh:Array Bool:=#[true,true,true,true,true,true,true,true,false,false,true,true,true,false,true,true,false,false,false,false,false,false,false,false]
theorem abj:ay gN afh J4=true:=by unfold J4;refine bH (by kernel_rfl) ?_;refine aT (aw TF (by kernel_rfl)) ?_;refine aT (aw Uu (by kernel_rfl)) ?_;refine aT (aw afT (by kernel_rfl)) ?_;rfl
def CY:Pl:=.q 0 [] (.q 1 [] (.q 2 [] (.q 3 [] (.q 4 [] (.q 5 [] (.q 6 [] (.q 7 [] (.q 10 [] (.q 11 [] (.q 12 [] (.q 14 [] (.alt 8 [] KA (.alt 13 [] JE (.alt 15 [] J4 (.stop)))))))))))))))
def aas:Array Bool:=#[false,false,false,false,false,false,false,false,false,false,false,false,false,false,false,false,false,false,false,false,false,false,false,false]
theorem ac1:ay gN aas CY=true:=by unfold CY;refine bJ (by kernel_rfl) ?_;refine bJ (by kernel_rfl) ?_;refine bJ (by kernel_rfl) ?_;refine bJ (by kernel_rfl) ?_;refine bJ (by kernel_rfl) ?_;refine bJ (by kernel_rfl) ?_;refine bJ (by kernel_rfl) ?_;refine bJ (by kernel_rfl) ?_;refine bJ (by kernel_rfl) ?_;refine bJ (by kernel_rfl) ?_;refine bJ (by kernel_rfl) ?_;refine bJ (by kernel_rfl) ?_;refine bH (by kernel_rfl) ?_;refine aT (aw afW (by kernel_rfl)) ?_;refine aT (aw afD (by kernel_rfl)) ?_;refine aT (aw abj (by kernel_rfl)) ?_;rfl
theorem Tp:(Region.noSelect gN&&(ay gN (Array.replicate gN.size false) CY&&decide (CY.len<=gN.size)))=true:=by rw[Bool.and_eq_true,Bool.and_eq_true];exact⟨by kernel_rfl,aw ac1 (by kernel_rfl),by kernel_rfl⟩
end Go.Proofs
set_option maxRecDepth 10000
set_option maxHeartbeats 4000000
namespace Go.Sx
open Go Go.Sv Go.Pl Go.Proofs Go.Tb Go.Ut Go.Mx Go.Li Go.Dt
def qE(l:List Rat):List Term->List Rat
 | []=>l
 | t::ts=>qE (l.set t.iP.toNat t.num) ts
@[simp] theorem OV:∀(ts:List Term) (l:List Rat),(qE l ts).length=l.length
 | [],_=>rfl
 | t::ts,l=>by unfold qE;rw[OV ts];simp
theorem Ct:∀(ts:List Term) (l:List Rat) (t:Term),qE l (ts++[t])=(qE l ts).set t.iP.toNat t.num
 | [],_,_=>rfl
 | _::ts,l,t=>by simp only[ayb,qE];exact Ct ts _ t
def DP(p:aB)(N i:Nat):List Rat:=qE (awQ N 0) (gt p.rows i).aI
def iB(p:aB)(N i:Nat):List (List Rat):=(ayq i).map (DP p N)
@[simp] theorem Cp(p:aB)(N i:Nat):(iB p N i).length=i:=by simp[iB]
theorem Im(p:aB)(N i:Nat):iB p N (i+1)=iB p N i++[DP p N i]:=by simp[iB,aB2]
theorem Pd(R:List (List Rat))(l:List Rat)(tl:aC):eH R++some ⟨4,l.map aS,false⟩::tl=eH (R++[l])++tl:=by simp[eH]
theorem Qv(N i:Nat):sW N (i+1)=sW N i++[.view (i+9) 0 N]:=by simp[sW,aB2,Xa]
@[simp] theorem ajw(N i:Nat):(sW N i).length=i:=by simp[sW]
def wF(p:aB)(n k:Nat):Int:=if k<n then BH p k else 1
def rF(n k:Nat):Int:=if k<n then -1 else(k:Int) - n
def fW(p:aB)(i:Nat):List Bo:=rM p++(p.rows.take i).map (·.low)
def dt(p:aB)(i:Nat):List Bo:=kR p++(p.rows.take i).map (·.high)
def kf(n i:Nat):List Nat:=(ayq i).map (n+·)
theorem Hl{α:Type}[Inhabited α]{N j:Nat}{f g:Nat->α}{d:α}(h:∀k,k<j->f k=g k):du N j f d=du N j g d:=bV (by simp) λk hk=>by
 have hk:k<N:=by simpa using hk
 rw[jL hk,jL hk];by_cases q:k<j
 ·rw[if_pos q,if_pos q,h k q]
 ·rw[if_neg q,if_neg q]
def fR(p:aB)(n m N i:Nat)(tl:aC):aC:=fH p n m N (n+i) i (du N (n+i) (wF p n) 0) (du N n (uu p) 0) (du N (n+i) (rF n) 0) (du N n (qK p) 0) (fW p i) (dt p i) (kf n i)++(eH (iB p N i)++tl)
theorem afo(p:aB)(n m N:Nat)(hn:p.ai.length=n):fB p n m N n=fR p n m N 0 []:=by
 unfold fB fR;have e1:(rM p).take n=fW p 0:=by unfold fW;rw[aAp (by simp[rM,hn])];simp
 have e2:(kR p).take n=dt p 0:=by unfold dt;rw[aAp (by simp[kR,hn])];simp
 rw[e1,e2,Hl (f:=wF p n) (g:=BH p) (λk h=>by unfold wF;rw[if_pos (by omega)]),Hl (f:=rF n) (g:=λ_ => -1) (λk h=>by unfold rF;rw[if_pos (by omega)])];simp[kf,iB,eH]
theorem Dw{N m k:Nat}(h:m+9<=k):SV.j3 k (sW N m)=true:=by
 unfold sW;rw[kA,ayG];intro i hi;have hi:i<m:=by simpa using hi
 simp[Xa];omega
theorem so{N m k:Nat}(h:k<9):SV.aY k (sW N m)=false:=by
 unfold sW
 induction ayq m with
 | nil=>rfl
 | cons a l ih=>simp only[aw6,SV.aY,ih,Xa];simp;omega
theorem Ud{C:Ctx}{N0 n m N kl kb:Nat}{p:aB}{wh:List Int}{x:List Rat}{row:List Int}{cost:List Rat}{low high:List Bo}{basic:List Nat}{R:List (List Rat)}{fr fr':List (Nat × SV)}{tl tl':aC}(hC:C.fx=[])(h:R.length=kb)(hf:bY fr fr')(ht:fj tl tl')(h2:gK (kb+9+tl'.length) fr')(h3:eA (kb+9+tl'.length) tl') :
  Le C ⟨N0,fr,fH p n m N kl kb wh x row cost low high basic++(eH R++tl)⟩ ⟨N0,fr',fH p n m N kl kb wh x row cost low high basic++(eH R++tl')⟩:=by
 have ln:(fH p n m N kl kb wh x row cost low high basic++(eH R++tl')).length=kb+9+tl'.length:=by simp[tU,h];omega
 refine Le.dE ⟨rfl,hf,?_,.inr ⟨?_,?_,?_⟩⟩
 ·exact mP _ (mP _ ht)
 ·rw[ln];exact h2
 ·rw[ln];refine nR ?_ (nR (pH _ _) h3);have:=Dw (N:=N) (m:=kb) (k:=kb+9+tl'.length) (by omega);simp[tU,fS,eA,this];omega
 ·rw[hC];simp
theorem Ru(A:aC){B B':aC}:fj (A++B) (A++B')↔fj B B':=by
 induction A with
 | nil=>exact Iff.rfl
 | cons x A ih=>simp only[ayb,fj,ih];simp
theorem RN(k:Nat)(R:List (List Rat))(B:aC):eA k (eH R++B)↔eA k B:=by
 unfold eH
 induction R with
 | nil=>exact Iff.rfl
 | cons x R ih =>
  simp only[aw6,ayb,eA,ih,and_iff_right_iff_imp];intro _;rw[kA,ayG];intro y _;rfl
end Go.Sx
namespace Go.Proofs
open Go.Sv Go Go.Tb Go.Pl Go.Ut Go.Mx Go.Li Go.Dt Go.Sx
theorem Kg{σ:Nat->Nat}{t:Nat}{v:SV}:∀{fr:List (Nat × SV)},Go.Sv.get fr t=some v->Go.Sv.get (fr.map λz=>(z.1,gJ σ z.2)) t=some (gJ σ v)
 | [],h=>by simp[Go.Sv.get]at h
 | (s,y)::r,h=>by
  simp only[Go.Sv.get]at h;simp only[aw6,Go.Sv.get];by_cases e:s=t
  ·rw[if_pos e]at h ⊢;simp only[Option.some.injEq]at h;rw[h]
  ·rw[if_neg e]at h ⊢;exact Kg h
theorem Le.afY{C:Ctx}(hC:C.fx=[]){n:Nat}{A:aC}{x y:Option cJ}{fr fr':List (Nat × SV)}(hA:eA A.length A)(hy:eA A.length [y])(hf:bY fr (fr'.map λz=>(z.1,gJ (λk=>if k<A.length then k else k+1) z.2))) :
  Le C ⟨n,fr,A++[x,y]⟩ ⟨n,fr',A++[y]⟩:=by
 refine Le.perm hC (λk=>if k<A.length then k else k+1) rfl ?_ ?_ ?_ ?_
 ·intro k k' _ _ h;split at h<;>split at h<;>omega
 ·intro k hk;simp only[List.length_append,List.length_cons,List.length_nil]at hk ⊢;rw[if_neg (by omega)];omega
 ·intro k e he;have id:∀i,i<A.length->(λk=>if k<A.length then k else k+1) i=i:=λi hi=>by simp[hi]
  by_cases hk:k<A.length
  ·rw[if_pos hk];rw[List.getElem?_append_left hk]at he ⊢;rw[he];have:=vD hA _ _ he;cases e;rw[y5,kC id _ this]
  ·have ak:k=A.length:=by
    have:=(List.getElem?_eq_some_iff.1 he).1;simp at this;omega
   subst ak;rw[if_neg (by omega)];simp at he;subst he;have:=hy;simp only[eA]at this;cases e;rw[y5,kC id _ this.1];simp
 ·intro t v hg;exact y3 hf t _ (Kg hg)
theorem Xx{p:aB}{n m N kl kb:Nat}{wh:List Int}{x:List Rat}{row:List Int}{cost:List Rat}{low high:List Bo}{basic:List Nat}:ry (fH p n m N kl kb wh x row cost low high basic)=fH p n m N kl kb wh x row cost low high basic:=by unfold fH tU fS sW;simp only[jO,nM,kT,Kj];rw[cR iv (λ_=>rfl),cR aS (λ_=>rfl),cR cv (λ_=>rfl),cR iv (λ_=>rfl),cR (Xa N) (λ_=>rfl),cR aS (λ_=>rfl),cR dA (λ_=>rfl),cR dA (λ_=>rfl)];simp
theorem Q6{C:Ctx}{N0 n m N kl i:Nat}{p:aB}{wh:List Int}{x:List Rat}{row:List Int}{cost:List Rat}{low high:List Bo}{basic:List Nat}{R:List (List Rat)}{fr fr':List (Nat × SV)}{y:cJ}{l:List SV}{z:List Rat}(hC:C.fx=[])(h:R.length=i)(hz:kT l=z.map aS)(hf:bY (Aa fr) (fr'.map λz=>(z.1,gJ (λk=>if k<i+9 then k else k+1) z.2))) :
  Le C ⟨N0,fr,fH p n m N kl i wh x row cost low high basic++(eH R++[some y,some ⟨4,l,false⟩])⟩ ⟨N0,fr',fH p n m N kl i wh x row cost low high basic++(eH R++[some ⟨4,z.map aS,false⟩])⟩:=by
 have hA:(fH p n m N kl i wh x row cost low high basic++eH R).length=i+9:=by simp[tU,h]
 refine(Le.nl _).trans ?_;unfold LW;rw[lM,lM,ve,Xx,<-axa,<-axa];obtain⟨ys,ye,yf⟩:=y;simp only[jO,nM,hz];refine Le.afY hC ?_ ?_ (by rw[hA];exact hf)
 ·rw[hA];have lr:=pH (i+9) R;refine nR ?_ lr;have:=Dw (N:=N) (m:=i) (k:=i+9) (by omega);simp[tU,fS,eA,this]
 ·have:=pH (fH p n m N kl i wh x row cost low high basic++eH R).length [z];simp[eA]
theorem XC(p:aB)(n m N:Nat)(hn:p.ai.length=n)(hm:p.rows.length=m)(hN:n+m=N)(ax:N<=14)(ht:∀i,i<m->∀t∈(gt p.rows i).aI,∃k:Nat,t.iP=k∧k<N)(ad:∀i,i<m->(gt p.rows i).aI.length<=1000000){C:Ctx}(hC:C.fx=[]){Q:bf}(ag:∀c st,¬Q (.panic c) st)(hQ:aa Tryz.prog C (bh 6 aF) ⟨217,[(0,.dG (bS p) 0),(3,.ptr 0 0 0),(4,iv N)],fR p n m N m []⟩ Q) :
  aa Tryz.prog C (bh 5 aF) ⟨217,[(0,.dG (bS p) 0),(3,.ptr 0 0 0),(4,iv N)],fR p n m N 0 []⟩ Q:=by
 refine aa.cutAt 1 (λst=>st=⟨217,[(0,.dG (bS p) 0),(3,.ptr 0 0 0),(4,iv N)],fR p n m N m []⟩) ?_ ?_
 rotate_left 1
 ·rintro st rfl;simp only[aF,Tryz.f77,Option.getD_some,ah,ab]at hQ ⊢;exact hQ
 simp only[aF,Tryz.f77,Option.getD_some,ah,ab,aN,aL];simp(disch:=omega)[bS,hm];repeat refine awG ?_
 refine aa.bB (ι:=Nat) (λi=>⟨217,[(0,.dG (bS p) 0),(3,.ptr 0 0 0),(4,iv N),(120,.ro (p.rows.map je)),(121,iv m),(122,iv i)],fR p n m N i []⟩)
  (λi=>i<=m) (λi=>m - i) 0 (by simp) ?_ ?_
 ·exact⟨rfl,by simp[bY,Go.Sv.get,bS],ao _,.inl rfl⟩
 ·rintro i hi;by_cases ae:i<m
  ·have lc:aM (p.rows.map je) i=je (gt p.rows i):=ct _ (by omega);have hR:=Cp p N i;have ll:(fW p i).length=n+i:=by simp[fW,rM,hn];omega
   have lh:(dt p i).length=n+i:=by simp[dt,kR,hn];omega
   have tl:fW p (i+1)=fW p i++[(gt p.rows i).low]:=by unfold fW;rw[hO (by omega)];simp
   have th:dt p (i+1)=dt p i++[(gt p.rows i).high]:=by unfold dt;rw[hO (by omega)];simp
   have lb:(kf n i).length=i:=by simp[kf]
   unfold fR;clear hQ;generalize hL:fW p i=L at *;generalize hH:dt p i=Hh at *;generalize al:iB p N i=R at *;simp only[fH,tU,fS];have am:SV.aY 5 (sW N i)=false:=so (by omega);have an:SV.aY 6 (sW N i)=false:=so (by omega);simp(disch:=omega)[ae,hm,lc,hR,cN hR,cV hR];repeat refine awG ?_
   refine aa.xD CY ⟨217,[(0,.dG (bS p) 0),(3,.ptr 0 0 0),(4,iv N),(7,iv i),(8,.ptr (i+9) 0 0),(120,.ro (p.rows.map je)),(121,iv m),(122,iv i)],fH p n m N (n+i+1) i (du N (n+i) (wF p n) 0) (du N n (uu p) 0) (du N (n+i) (rF n) 0) (du N n (qK p) 0) (L++[(gt p.rows i).low]) (Hh++[(gt p.rows i).high]) (kf n i)++(eH R++[some ⟨12,[je (gt p.rows i)],false⟩])⟩ (by kernel_rfl) Tp ?_ ?_
   ·simp only[CY,J4,KR,JE,GH,E9,KA,Fb,FJ,G8,Dl,MO,QV,Qd,OI,Ou,Lx,Md,Sw,Ti,Se];have w3:(n+i+1)*72<=70368744177664:=by omega
    simp[ll,lh,hC,xI,xd,aP,bY,Go.Sv.get,tU,fS,w3,hR,cN hR,xK hR,tgC hR,am,an,qa,sc,Aw,AI];have lt:=Dw (N:=N) (m:=i) (k:=i+1+1+1+1+1+1+1+1+1+1) (by omega);simp[Ru,RN,lt,fj,eA]
   ·have l2:(L++[(gt p.rows i).low]).length=n+i+1:=by simp[ll]
    have h2:(Hh++[(gt p.rows i).high]).length=n+i+1:=by simp[lh]
    generalize az:L++[(gt p.rows i).low]=L2 at *;generalize aA:Hh++[(gt p.rows i).high]=H2 at *;simp only[tU,fH,fS];simp(disch:=omega)[cN hR,hR];repeat refine awG ?_
    generalize af:(gt p.rows i).aI=ts at *;have zz:kT (awQ N (.agg [.val (.bool false),.val (.slice none 0 0),.val (.bool false),.val (.slice none 0 0)]))=(awQ N (0:Rat)).map aS:=Om N;refine aa.le (Q6 (n:=n) (m:=m) (N:=N) (kl:=n+i+1) (i:=i) (p:=p) (wh:=du N (n+i) (wF p n) 0) (x:=du N n (uu p) 0) (row:=du N (n+i) (rF n) 0) (cost:=du N n (qK p) 0) (low:=L2) (high:=H2) (basic:=kf n i) (R:=R)
     (fr':=[(0,.dG (bS p) 0),(3,.ptr 0 0 0),(4,iv N),(7,iv i),(9,.view (i+9) 0 N),(120,.ro (p.rows.map je)),(121,iv m),(122,iv i),(152,.ro (ts.map ji)),(153,iv ts.length),(154,iv (0:Nat))]) (y:=⟨12,[je (gt p.rows i)],false⟩) hC hR zz ?_) ?_
    ·simp(disch:=omega)[bY,Go.Sv.get]
    have e0:qE (awQ N 0) (ts.take 0)=awQ N 0:=rfl;rw[<-e0];refine aa.bB (ι:=Nat) (λk=>⟨217,[(0,.dG (bS p) 0),(3,.ptr 0 0 0),(4,iv N),(7,iv i),(9,.view (i+9) 0 N),(120,.ro (p.rows.map je)),(121,iv m),(122,iv i),(152,.ro (ts.map ji)),(153,iv ts.length),(154,iv k)],fH p n m N (n+i+1) i (du N (n+i) (wF p n) 0) (du N n (uu p) 0) (du N (n+i) (rF n) 0) (du N n (qK p) 0) L2 H2 (kf n i)++(eH R++[some ⟨4,(qE (awQ N 0) (ts.take k)).map aS,false⟩])⟩)
     (λk=>k<=ts.length) (λk=>ts.length - k) 0 (by simp) ?_ ?_
    ·exact⟨rfl,by simp[bY,Go.Sv.get],ao _,.inl rfl⟩
    ·rintro k hk;have ad:=ad i ae;rw[af]at ad;have lN:(qE (awQ N 0) (ts.take k)).length=N:=by simp
     by_cases ac:k<ts.length
     ·obtain⟨c,hc,aE⟩:=ht i ae (gt ts k) (by rw[af];exact iW ac);have lt:=Js ac;have sn:qE (awQ N 0) (ts.take (k+1))=(qE (awQ N 0) (ts.take k)).set c (gt ts k).num:=by rw[hO ac,Ct,hc];rfl
      have gr:=ch (l:=qE (awQ N 0) (ts.take k)) (i:=c) (by omega);generalize hK:qE (awQ N 0) (ts.take k)=K at *;simp only[tU,fH,fS];simp(disch:=omega)[ac,cN hR,xK hR,cV hR,BM hR,hR,lt,hc,gr,cx,lN, -aAq];repeat refine awG ?_
      refine⟨k+1,by omega,by omega,?_⟩;rw[sn];exact Ud (p:=p) (n:=n) (m:=m) (N:=N) (kl:=n+i+1) (kb:=i) (wh:=du N (n+i) (wF p n) 0) (x:=du N n (uu p) 0) (row:=du N (n+i) (rF n) 0) (cost:=du N n (qK p) 0) (low:=L2) (high:=H2) (basic:=kf n i) (R:=R) hC hR (by simp(disch:=omega)[bY,Go.Sv.get,aD]) (by simp[fj]) (by simp[gK]) (by simp[eA, -aAq])
     ·obtain rfl:k=ts.length:=by omega
      rw[List.take_length]at *;simp only[tU,fH,fS];have aj:SV.aY 8 (sW N i)=false:=so (by omega);simp(disch:=omega)[xK hR,hR,aj,qa,sc,Aw,AI];repeat refine awG ?_
      refine⟨⟨by simp[hC],by omega⟩,?_⟩;refine aa.draw (.qs [0,1,2,3,4,5,6,7,8,9,10]<|.l 11 []<|.l 12 [1000000]<|.qs [13,14]<|.l 15 [0,1000000] .nil) (by kernel_rfl) (by kernel_rfl) (by simpa using ag) ?_;have ap:SV.aY 7 (sW N i)=false:=so (by omega);have wr:IntKind.i64.wrap ((n:Int)+i)=((n+i:Nat):Int):=by simp(disch:=omega)[aD]
      simp(disch:=omega)[tgC hR,hR,ap,qa,sc,Aw,AI,lb,wr];repeat refine awG ?_
      refine⟨⟨by simp[hC],by omega⟩,?_⟩;have e8:sW N i++[.view (i+9) 0 N]=sW N (i+1):=(Qv N i).symm;have e7:List.map cv (kf n i)++[SV.val (.int .i64 ((n:Int)+i))]=(kf n (i+1)).map cv:=by simp[kf,aB2,cv]
      rw[e7,e8,Pd];have hK:qE (awQ N 0) ts=DP p N i:=by unfold DP;rw[af]
      have aq:R++[qE (awQ N 0) ts]=iB p N (i+1):=by rw[hK,<-al,Im]
      have ar:(iB p N (i+1)).length=i+1:=Cp p N (i+1);rw[aq];generalize au:iB p N (i+1)=R1 at *;refine aa.le (Ud (p:=p) (n:=n) (m:=m) (N:=N) (kl:=n+i+1) (kb:=i+1) (wh:=du N (n+i) (wF p n) 0) (x:=du N n (uu p) 0) (row:=du N (n+i) (rF n) 0) (cost:=du N n (qK p) 0) (low:=L2) (high:=H2) (basic:=kf n (i+1)) (R:=R1) (tl':=[])
       (fr':=[(0,.dG (bS p) 0),(3,.ptr 0 0 0),(4,iv N),(7,iv i),(120,.ro (p.rows.map je)),(121,iv m),(122,iv i)]) hC ar (by simp(disch:=omega)[bY,Go.Sv.get]) (by simp[fj]) (by simp[gK]) (by simp[eA])) ?_
      have g1:=cf (l:=du N (n+i) (wF p n) 0) (i:=n+i) (by simp;omega);have g3:=cf (l:=du N (n+i) (rF n) 0) (i:=n+i) (by simp;omega);simp only[tU,fH,fS];refine aa.draw (.qs [0,1,2,3,4,5,6,7,8,9,10,11,12,13,14,15,16,17,18,19,20,21]<|.l 22 [3]<|.qs [23]<|.l 24 [1] .nil) (by kernel_rfl) (by kernel_rfl) (by simpa using ag) ?_;have av:((n:Int)+i).toNat=n+i:=by omega
      simp(disch:=omega)[g1,g3,wr,av,dM, -aAq];repeat refine awG ?_
      refine⟨i+1,by omega,by omega,?_⟩;have w1:(du N (n+i) (wF p n) 0).set (n+i) 1=du N (n+(i+1)) (wF p n) 0:=by rw[<-Nat.add_assoc,<-ef (f:=wF p n),show wF p n (n+i)=1 by unfold wF;rw[if_neg (by omega)]]
      have w2:(du N (n+i) (rF n) 0).set (n+i) (i:Int)=du N (n+(i+1)) (rF n) 0:=by rw[<-Nat.add_assoc,<-ef (f:=rF n),show rF n (n+i)=(i:Int) by unfold rF;rw[if_neg (by omega)];omega]
      rw[w1,w2,au,tl,th];exact Le.dE ⟨rfl,by simp(disch:=omega)[bY,Go.Sv.get,aD],ao _,.inl rfl⟩
  ·obtain rfl:i=m:=by omega
   simp(disch:=omega)[];repeat refine awG ?_
   exact⟨rfl,by simp[bY,Go.Sv.get,bS],by simp only[];exact ao _,.inl rfl⟩
end Go.Proofs


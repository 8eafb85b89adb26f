/- A text of the prover's own. -/
import Derived.Test.YtnimjdcaajmfcaaGreatDoorBSj
open List renaming range->ati,replicate->asr,take->avk,map_set->aue,map_take->auD
namespace Go.Proofs
open Go.Sv Go Go.Tb Go.Pl Go.Ut Go.Sx
def vO:Code->List (Array Oper)
 | .region _ o _=>[o]
 | .seq x y=>vO x++vO y
 | .block _ c=>vO c
 | .loop c=>vO c
 | .cond _ x y=>vO x++vO y
 | _=>[]
noncomputable def fV:Array Oper:=(vO aE).getD 7 #[]
def P8:Pl:=.nil
def aio:Array Bool:=#[true,true,true,true,true,true,true,true,true,true,true,true,true,true,true,true,true,true,true,true,true,true,true,true]
theorem akt:ax fV aio P8=true:=by unfold P8;kernel_rfl
def Oa:Pl:=.q 21 [] (.q 22 [] (.l 23 [0,1000000] P8))
def ahF:Array Bool:=#[true,true,true,true,true,true,true,true,true,true,true,true,true,true,true,true,true,true,true,true,true,false,false,false]
theorem ajp:ax fV ahF Oa=true:=by unfold Oa;refine bC (by kernel_rfl) ?_;refine bC (by kernel_rfl) ?_;refine dB (by kernel_rfl) ?_;exact aw akt (by kernel_rfl)
def O3:Pl:=.q 18 [] (.q 19 [] (.l 20 [0,1000000] Oa))
def ahU:Array Bool:=#[true,true,true,true,true,true,true,true,true,true,true,true,true,true,true,true,true,true,false,false,false,false,false,false]
theorem ajv:ax fV ahU O3=true:=by unfold O3;refine bC (by kernel_rfl) ?_;refine bC (by kernel_rfl) ?_;refine dB (by kernel_rfl) ?_;exact aw ajp (by kernel_rfl)
def JR:Pl:=.l 17 [1000000] O3
def ah4:Array Bool:=#[true,true,true,true,true,true,true,true,true,true,true,true,true,true,true,true,true,false,false,false,false,false,false,false]
theorem SL:ax fV ah4 JR=true:=by unfold JR;refine dB (by kernel_rfl) ?_;exact aw ajv (by kernel_rfl)
def JU:Pl:=.l 16 [] JR
def ajJ:Array Bool:=#[true,true,true,true,true,true,true,true,true,true,true,true,true,true,true,true,false,false,false,false,false,false,false,false]
theorem TA:ax fV ajJ JU=true:=by unfold JU;refine dB (by kernel_rfl) ?_;exact aw SL (by kernel_rfl)
def Ms:Pl:=.l 15 [] JU
def ai5:Array Bool:=#[true,true,true,true,true,true,true,true,true,true,true,true,true,true,true,false,false,false,false,false,false,false,false,false]
theorem Y2:ax fV ai5 Ms=true:=by unfold Ms;refine dB (by kernel_rfl) ?_;exact aw TA (by kernel_rfl)
def L8:Pl:=.l 13 [] JR
def akj:Array Bool:=#[true,true,true,true,true,true,true,true,true,true,true,true,true,false,true,true,true,false,false,false,false,false,false,false]
theorem aag:ax fV akj L8=true:=by unfold L8;refine dB (by kernel_rfl) ?_;exact aw SL (by kernel_rfl)
def MC:Pl:=.alt 13 [] JU (.alt 16 [] L8 (.stop))
def ajw:Array Bool:=#[true,true,true,true,true,true,true,true,true,true,true,true,true,false,true,true,false,false,false,false,false,false,false,false]
theorem aaW:ax fV ajw MC=true:=by unfold MC;refine bz (by kernel_rfl) ?_;refine aS (aw TA (by kernel_rfl)) ?_;refine aS (aw aag (by kernel_rfl)) ?_;rfl
def PN:Pl:=.alt 13 [] Ms (.alt 15 [] MC (.stop))
def ajc:Array Bool:=#[true,true,true,true,true,true,true,true,true,true,true,true,true,false,true,false,false,false,false,false,false,false,false,false]
theorem aiW:ax fV ajc PN=true:=by unfold PN;refine bz (by kernel_rfl) ?_;refine aS (aw Y2 (by kernel_rfl)) ?_;refine aS (aw aaW (by kernel_rfl)) ?_;rfl
def Ja:Pl:=.l 9 [1000000] JR
def ais:Array Bool:=#[true,true,true,true,true,true,true,true,true,false,true,true,true,true,true,true,true,false,false,false,false,false,false,false]
theorem SN:ax fV ais Ja=true:=by unfold Ja;refine dB (by kernel_rfl) ?_;exact aw SL (by kernel_rfl)
def Ae:Pl:=.alt 9 [1000000] JU (.alt 16 [] Ja (.stop))
def Yn:Array Bool:=#[true,true,true,true,true,true,true,true,true,false,true,true,true,true,true,true,false,false,false,false,false,false,false,false]
theorem Mv:ax fV Yn Ae=true:=by unfold Ae;refine bz (by kernel_rfl) ?_;refine aS (aw TA (by kernel_rfl)) ?_;refine aS (aw SN (by kernel_rfl)) ?_;rfl
def DM:Pl:=.alt 9 [1000000] Ms (.alt 15 [] Ae (.stop))
def XW:Array Bool:=#[true,true,true,true,true,true,true,true,true,false,true,true,true,true,true,false,false,false,false,false,false,false,false,false]
theorem Ra:ax fV XW DM=true:=by unfold DM;refine bz (by kernel_rfl) ?_;refine aS (aw Y2 (by kernel_rfl)) ?_;refine aS (aw Mv (by kernel_rfl)) ?_;rfl
def C4:Pl:=.alt 9 [1000000] L8 (.alt 13 [] Ja (.stop))
def aaJ:Array Bool:=#[true,true,true,true,true,true,true,true,true,false,true,true,true,false,true,true,true,false,false,false,false,false,false,false]
theorem QW:ax fV aaJ C4=true:=by unfold C4;refine bz (by kernel_rfl) ?_;refine aS (aw aag (by kernel_rfl)) ?_;refine aS (aw SN (by kernel_rfl)) ?_;rfl
def Ft:Pl:=.alt 9 [1000000] MC (.alt 13 [] Ae (.alt 16 [] C4 (.stop)))
def aal:Array Bool:=#[true,true,true,true,true,true,true,true,true,false,true,true,true,false,true,true,false,false,false,false,false,false,false,false]
theorem Rj:ax fV aal Ft=true:=by unfold Ft;refine bz (by kernel_rfl) ?_;refine aS (aw aaW (by kernel_rfl)) ?_;refine aS (aw Mv (by kernel_rfl)) ?_;refine aS (aw QW (by kernel_rfl)) ?_;rfl
def IK:Pl:=.alt 9 [1000000] PN (.alt 13 [] DM (.alt 15 [] Ft (.stop)))
def XB:Array Bool:=#[true,true,true,true,true,true,true,true,true,false,true,true,true,false,true,false,false,false,false,false,false,false,false,false]
theorem YC:ax fV XB IK=true:=by unfold IK;refine bz (by kernel_rfl) ?_;refine aS (aw aiW (by kernel_rfl)) ?_;refine aS (aw Ra (by kernel_rfl)) ?_;refine aS (aw Rj (by kernel_rfl)) ?_;rfl
def Er:Pl:=.l 8 [] Ja
def aay:Array Bool:=#[true,true,true,true,true,true,true,true,false,false,true,true,true,true,true,true,true,false,false,false,false,false,false,false]
theorem Rc:ax fV aay Er=true:=by unfold Er;refine dB (by kernel_rfl) ?_;exact aw SN (by kernel_rfl)
def Fg:Pl:=.alt 8 [] Ae (.alt 16 [] Er (.stop))
def abu:Array Bool:=#[true,true,true,true,true,true,true,true,false,false,true,true,true,true,true,true,false,false,false,false,false,false,false,false]
theorem QA:ax fV abu Fg=true:=by unfold Fg;refine bz (by kernel_rfl) ?_;refine aS (aw Mv (by kernel_rfl)) ?_;refine aS (aw Rc (by kernel_rfl)) ?_;rfl
def HX:Pl:=.alt 8 [] DM (.alt 15 [] Fg (.stop))
def Y9:Array Bool:=#[true,true,true,true,true,true,true,true,false,false,true,true,true,true,true,false,false,false,false,false,false,false,false,false]
theorem Xm:ax fV Y9 HX=true:=by unfold HX;refine bz (by kernel_rfl) ?_;refine aS (aw Ra (by kernel_rfl)) ?_;refine aS (aw QA (by kernel_rfl)) ?_;rfl
def Ig:Pl:=.alt 8 [] C4 (.alt 13 [] Er (.stop))
def acs:Array Bool:=#[true,true,true,true,true,true,true,true,false,false,true,true,true,false,true,true,true,false,false,false,false,false,false,false]
theorem Xp:ax fV acs Ig=true:=by unfold Ig;refine bz (by kernel_rfl) ?_;refine aS (aw QW (by kernel_rfl)) ?_;refine aS (aw Rc (by kernel_rfl)) ?_;rfl
def HH:Pl:=.alt 8 [] Ft (.alt 13 [] Fg (.alt 16 [] Ig (.stop)))
def XU:Array Bool:=#[true,true,true,true,true,true,true,true,false,false,true,true,true,false,true,true,false,false,false,false,false,false,false,false]
theorem YB:ax fV XU HH=true:=by unfold HH;refine bz (by kernel_rfl) ?_;refine aS (aw Rj (by kernel_rfl)) ?_;refine aS (aw QA (by kernel_rfl)) ?_;refine aS (aw Xp (by kernel_rfl)) ?_;rfl
def AO:Pl:=.q 0 [] (.q 1 [] (.q 2 [] (.q 3 [] (.q 4 [] (.q 5 [] (.q 6 [] (.q 7 [] (.q 10 [] (.q 11 [] (.q 12 [] (.q 14 [] (.alt 8 [] IK (.alt 13 [] HX (.alt 15 [] HH (.stop)))))))))))))))
def aaV:Array Bool:=#[false,false,false,false,false,false,false,false,false,false,false,false,false,false,false,false,false,false,false,false,false,false,false,false]
theorem acA:ax fV aaV AO=true:=by unfold AO;refine bC (by kernel_rfl) ?_;refine bC (by kernel_rfl) ?_;refine bC (by kernel_rfl) ?_;refine bC (by kernel_rfl) ?_;refine bC (by kernel_rfl) ?_;refine bC (by kernel_rfl) ?_;refine bC (by kernel_rfl) ?_;refine bC (by kernel_rfl) ?_;refine bC (by kernel_rfl) ?_;refine bC (by kernel_rfl) ?_;refine bC (by kernel_rfl) ?_;refine bC (by kernel_rfl) ?_;refine bz (by kernel_rfl) ?_;refine aS (aw YC (by kernel_rfl)) ?_;refine aS (aw Xm (by kernel_rfl)) ?_;refine aS (aw YB (by kernel_rfl)) ?_;rfl
theorem O0:(Region.noSelect fV&&(ax fV (Array.replicate fV.size false) AO&&decide (AO.len<=fV.size)))=true:=by rw[Bool.and_eq_true,Bool.and_eq_true];exact⟨by kernel_rfl,aw acA (by kernel_rfl),by kernel_rfl⟩
end Go.Proofs
set_option maxRecDepth 10000
set_option maxHeartbeats 4000000
namespace Go.Sx
open Go Go.Sv Go.Pl Go.Proofs Go.Tb Go.Ut Go.Mx Go.Li Go.Dt
def dH{α:Type}(N j:Nat)(f:Nat->α)(d:α):List α:=(ati N).map λk=>if k<j then f k else d
@[simp] theorem Pc{α:Type}(N j:Nat)(f:Nat->α)(d:α):(dH N j f d).length=N:=by simp[dH]
theorem jk{α:Type}[Inhabited α]{N j k:Nat}{f:Nat->α}{d:α}(h:k<N):gt (dH N j f d) k=if k<j then f k else d:=by unfold dH;rw[bF _ h]
theorem ya{α:Type}(N:Nat)(f:Nat->α)(d:α):dH N 0 f d=asr N d:=by simp[dH,List.map_const']
theorem ek{α:Type}[Inhabited α]{N j:Nat}{f:Nat->α}{d:α}:(dH N j f d).set j (f j)=dH N (j+1) f d:=cO (by simp) λk hk=>by
 have hk:k<N:=by simpa using hk
 rw[bG (by simpa using hk),jk hk,jk hk];by_cases e:j=k
 ·subst e;rw[if_pos rfl,if_pos (by omega)]
 ·rw[if_neg e];by_cases q:k<j
  ·rw[if_pos q,if_pos (by omega)]
  ·rw[if_neg q,if_neg (by omega)]
def fS(p:aB)(n m N kl kb:Nat):SV:=.agg [.dc (bN p) 0,iv n,iv m,.view 5 0 kl,.view 6 0 kl,.view 4 0 N,.view 1 0 N,.view 2 0 N,.view 7 0 kb,.view 3 0 N,.view 8 0 kb]
def Tz(N i:Nat):SV:=.view (i+9) 0 N
def rq(N kb:Nat):List SV:=(ati kb).map (Tz N)
def r5(p:aB)(n m N kl kb:Nat)(wh:List Int)(x:List SV)(row:List Int)(cost:List Rat)(low high:List Bo)(basic:List Nat):aD :=
 [some ⟨11,[fS p n m N kl kb],false⟩,some ⟨1,wh.map iv,false⟩,some ⟨4,x,false⟩,some ⟨1,row.map iv,false⟩,some ⟨4,cost.map aU,false⟩,some ⟨5,low.map dh,false⟩,some ⟨5,high.map dh,false⟩,some ⟨1,basic.map rp,false⟩,some ⟨1,rq N kb,false⟩]
abbrev fH(p:aB)(n m N kl kb:Nat)(wh:List Int)(x:List Rat)(row:List Int)(cost:List Rat)(low high:List Bo)(basic:List Nat):aD:=r5 p n m N kl kb wh (x.map aU) row cost low high basic
def nr:SV:=.agg [.val (.bool false),.val (.slice none 0 0),.val (.bool false),.val (.slice none 0 0)]
def zN(p:aB)(k:Nat):Int:=if(gt p.ab k).low.has=true then 2 else if(gt p.ab k).high.has=true then 3 else 0
def so(p:aB)(k:Nat):Rat:=if(gt p.ab k).low.has=true then(gt p.ab k).low.at' else if(gt p.ab k).high.has=true then(gt p.ab k).high.at' else 0
def o3(p:aB)(k:Nat):Rat:=if p.max=true then -(gt p.ab k).cost else(gt p.ab k).cost
def pI(p:aB):List Bo:=p.ab.map (·.low)
def j3(p:aB):List Bo:=p.ab.map (·.high)
def fB(p:aB)(n m N j:Nat):aD:=fH p n m N j 0 (dH N j (zN p) 0) (dH N j (so p) 0) (dH N j (λ_ => -1) 0) (dH N j (o3 p) 0) ((pI p).take j) ((j3 p).take j) []
theorem Lc(N:Nat):lW (zr N)=(asr N (0:Rat)).map aU:=by unfold zr;rw[sW,List.map_replicate,show iq (.agg [.val (.bool false),.val (.slice none 0 0),.val (.bool false),.val (.slice none 0 0)])=aU 0 by rw[<-tI];rfl]
theorem acS(p:aB)(n m N:Nat){C:Ctx}:Le C ⟨217,[(0,.dc (bN p) 0),(3,.ptr 0 0 0),(4,iv N)],Qw p n m N⟩ ⟨217,[(0,.dc (bN p) 0),(3,.ptr 0 0 0),(4,iv N)],fB p n m N 0⟩:=by
 refine(Le.iY 0 3 5 rfl rfl rfl rfl (by simp)).trans ?_;refine(Le.iY 0 4 5 rfl rfl rfl rfl (by simp[cZ])).trans ?_;refine(Le.iY 0 8 1 rfl rfl rfl rfl (by simp[cZ])).trans ?_;refine(Le.iY 0 10 1 rfl rfl rfl rfl (by simp[cZ])).trans ?_;refine(Le.nl _).trans ?_;refine Le.fm ⟨rfl,by simp[NU,bU,Go.Sv.get],?_,.inl ?_⟩
 ·simp[NU,Qw,fA,fB,fH,r5,fS,cZ,Lc,ya,rq,zi,sW]
 ·simp[NU,rv,Qw,fB,fH,r5]
end Go.Sx
namespace Go.Proofs
open Go.Sv Go Go.Tb Go.Pl Go.Ut Go.Mx Go.Li Go.Dt Go.Sx
theorem u5{ks:List Nat}{st:St}{t:TypeId}{x:Operand}:okW ks st (.load t x)=True:=rfl
theorem u7{ks:List Nat}{r:Pl}{t:TypeId}{x:Operand}:xH ks r (.load t x)=True:=rfl
theorem LR(b:Bo):SV.agg (avk 4 (dh b).cells.tail)=aU b.at':=rfl
theorem QK(p:aB)(n m N j kl kb:Nat)(wh:List Int)(x:List Rat)(row:List Int)(cost:List Rat)(low high:List Bo)(basic:List Nat)(J:aD){k:aD->List Nat->SV->Prop}{C:Ctx}(hC:C.fx=[])(ac:wh.length=N)(ad:x.length=N)(hj:j<N)(an:j<kl)(ae:low.length=kl)(af:high.length=kl)(hl:gt low j=(gt p.ab j).low)(hh:gt high j=(gt p.ab j).high)
  (hk:k (fH p n m N kl kb (wh.set j (zN p j)) (x.set j (so p j)) row cost low high basic++J) [] (.bP []))
  (hz:(gt p.ab j).low.has=false->(gt p.ab j).high.has=false->k (r5 p n m N kl kb (wh.set j 0) (cZ (x.map aU) j nr) row cost low high basic++J) [] (.bP [])) :
  dN Tryz.prog C 119 [.ptr 0 0 0,.val (.int .i64 (j:Int))] (fH p n m N kl kb wh x row cost low high basic++J) none k:=by
 have gw:aL (wh.map iv) j=iv (gt wh j):=cf (by omega);have gx:aL (x.map aU) j=aU (gt x j):=cy _ (by omega);have gl:aL (low.map dh) j=dh (gt p.ab j).low:=by rw[cy _ (by omega),hl]
 have gh:aL (high.map dh) j=dh (gt p.ab j).high:=by rw[cy _ (by omega),hh]
 have sx:∀v:Rat,cZ (x.map aU) j (aU v)=(x.set j v).map aU:=λv=>cg;refine dV Tryz.func119 rfl (by simp) [] (by simp) (by simp) (λC' ao=>?_);simp only[fH,r5,fS];simp(disch:=omega)[gl,gh,ae,af];repeat refine asi ?_
 refine⟨λe1=>?_,λe1=>⟨by omega,λe2=>?_,λe2=>?_⟩⟩
 ·refine aa.draw (.qs [0,1,2,3,4,5,6,7,8,9,10,11,12,13,14,15,16,17,18]<|.l 19 [1]<|.qs [20]<|.l 21 [2] .nil) (by kernel_rfl) (by kernel_rfl) (by simp) ?_;simp(disch:=omega)[gw,gx,gl,dA,sx,ac,ad,ae];repeat refine asi ?_
  have er:zN p j=2:=by unfold zN;rw[if_pos e1]
  have ex:so p j=(gt p.ab j).low.at':=by unfold so;rw[if_pos e1]
  rw[er,ex]at hk;simpa[fH,r5,fS,LR,sx,aue]using hk
 ·refine aa.draw (.qs [0,1,2,3,4,5,6,7,8,9,10,11,12,13,14,15,16,17,18]<|.l 19 [1]<|.qs [20]<|.l 21 [2] .nil) (by kernel_rfl) (by kernel_rfl) (by simp) ?_;simp(disch:=omega)[gw,gx,gh,dA,sx,ac,ad,af];repeat refine asi ?_
  have er:zN p j=3:=by unfold zN;rw[if_neg (by simp[e1]),if_pos e2]
  have ex:so p j=(gt p.ab j).high.at':=by unfold so;rw[if_neg (by simp[e1]),if_pos e2]
  rw[er,ex]at hk;simpa[fH,r5,fS,LR,sx,aue]using hk
 ·refine aa.draw (.qs [0,1,2,3,4,5,6,7,8,9,10,11]<|.l 12 [1]<|.qs [13]<|.l 14 [2] .nil) (by kernel_rfl) (by kernel_rfl) (by simp) ?_;simp(disch:=omega)[gw,gx,dA,ac,ad];repeat refine asi ?_
  simpa[fH,r5,fS,LR,sx,aue,nr]using hz e1 e2
theorem Qq{P:Program}{C:Ctx}{f:FuncId}{a:List SV}{M M':aD}{W:Option (List Nat)}{k:aD->List Nat->SV->Prop}(e:M=M')(h:dN P C f a M' W k):dN P C f a M W k:=by rw[e];exact h
theorem wS{L:List Bo}{b:Bo}{j:Nat}(h:L.length=j):gt (L++[b]) j=b:=by subst h;simp[gt]
theorem Qn:iq nr=aU 0:=by rw[<-tI];rfl
theorem CW:∀(l r:List SV),lW (l++r)=lW l++lW r
 | [],r=>rfl
 | x::l,r=>by simp only[List.cons_append,lW];rw[CW l r]
theorem vC(N:Nat):rq N 0=[]:=rfl
theorem TD(p:aB)(n m N:Nat)(hn:p.ab.length=n)(hN:n+m=N)(ap:N<=14){C:Ctx}(hC:C.fx=[]){Q:bf}(al:∀c st,¬Q (.panic c) st)(hQ:aa Tryz.prog C (bs 5 aE) ⟨217,[(0,.dc (bN p) 0),(3,.ptr 0 0 0),(4,iv N)],fB p n m N n⟩ Q) :
  aa Tryz.prog C (bs 4 aE) ⟨217,[(0,.dc (bN p) 0),(3,.ptr 0 0 0),(4,iv N)],Qw p n m N⟩ Q:=by
 refine aa.le (acS p n m N) ?_;refine aa.cutAt 1 (λst=>st=⟨217,[(0,.dc (bN p) 0),(3,.ptr 0 0 0),(4,iv N)],fB p n m N n⟩) ?_ ?_
 rotate_left 1
 ·rintro st rfl;simp only[aE,Tryz.f77,Option.getD_some,ai,ah]at hQ ⊢;exact hQ
 simp only[aE,Tryz.f77,Option.getD_some,ai,ah,aN,aM];simp only[fB,fH,r5,fS];simp(disch:=omega)[bN,hn];repeat refine asi ?_
 refine aa.bM (ι:=Nat) (λj=>⟨217,[(0,.dc (bN p) 0),(3,.ptr 0 0 0),(4,iv N),(57,.ro (p.ab.map ji)),(58,iv n),(59,iv j)],fB p n m N j⟩)
  (λj=>j<=n) (λj=>n - j) 0 (by simp) ?_ ?_
 ·exact⟨rfl,by simp[bU,Go.Sv.get,bN],aq _,.inl rfl⟩
 ·rintro j hj;simp only[fB,fH,r5,fS];by_cases am:j<n
  ·have lc:aL (p.ab.map ji) j=ji (gt p.ab j):=cy _ (by omega);have tl:(pI p).take (j+1)=(pI p).take j++[(gt p.ab j).low]:=by rw[fO (by simp[pI];omega)];simp[pI,jj _ (show j<p.ab.length by omega)]
   have th:(j3 p).take (j+1)=(j3 p).take j++[(gt p.ab j).high]:=by rw[fO (by simp[j3];omega)];simp[j3,jj _ (show j<p.ab.length by omega)]
   have ll:((pI p).take j).length=j:=by simp[pI];omega
   have lh:((j3 p).take j).length=j:=by simp[j3];omega
   generalize hL:(pI p).take j=L at *;generalize hH:(j3 p).take j=Hh at *;simp(disch:=omega)[am,hn,lc];repeat refine asi ?_
   refine aa.uR AO ⟨217,[(0,.dc (bN p) 0),(3,.ptr 0 0 0),(4,iv N),(5,iv j),(6,.ptr 9 0 0),(57,.ro (p.ab.map ji)),(58,iv n),(59,iv j)],fH p n m N (j+1) 0 (dH N j (zN p) 0) (dH N j (so p) 0) (dH N j (λ_ => -1) 0) (dH N j (o3 p) 0) (L++[(gt p.ab j).low]) (Hh++[(gt p.ab j).high]) []++[some ⟨16,[ji (gt p.ab j)],false⟩]⟩ (by kernel_rfl) O0 ?_ ?_
   ·simp only[AO,HH,Ig,HX,Fg,Er,IK,Ft,C4,DM,Ae,Ja,PN,MC,L8,Ms,JU,JR,O3,Oa,P8];have w3:(j+1)*72<=70368744177664:=by omega
    simp[ll,lh,hC,vC,u5,u7,aR,bU,Go.Sv.get,fH,r5,fS,w3]
   ·simp only[fH,r5,fS,vC];have ag:avk (j+1) ((pI p).map dh)=L.map dh++[dh (gt p.ab j).low]:=by rw[<-auD,tl];simp
    have thm:avk (j+1) ((j3 p).map dh)=Hh.map dh++[dh (gt p.ab j).high]:=by rw[<-auD,th];simp
    clear hQ tl th;have bn:∀b:Bo,iq (dh b)=dh b:=λ_=>rfl;have gc:∀(l:List Rat),l.length=N->aL (l.map aU) j=aU (gt l j):=λl h=>cy _ (by omega);have gr:=cf (l:=dH N j (λ_=>(-1:Int)) 0) (i:=j) (by simp;omega);have g1:=gc (dH N j (o3 p) 0) (by simp);have g2:∀v,aL (((dH N j (o3 p) 0).set j v).map aU) j=aU (gt ((dH N j (o3 p) 0).set j v) j):=λv=>gc _ (by simp);simp(disch:=omega)[];repeat refine asi ?_
    refine aa.draw (.qs [0,1,2,3,4,5,6,7]<|.l 8 [4] .nil) (by kernel_rfl) (by kernel_rfl) (by simpa using al) ?_;simp(disch:=omega)[g1,gr,cg,dA, -aue];repeat refine asi ?_
    refine⟨λe1=>?_,λe1=>?_⟩
    ·have fc:(dH N j (o3 p) 0).set j (-(gt p.ab j).cost)=dH N (j+1) (o3 p) 0:=by
      rw[<-ek (f:=o3 p)];simp[o3,e1]
     refine aa.draw (.qs [0,1,2,3,4,5,6]<|.l 7 []<|.qs [8]<|.l 9 [4] .nil) (by kernel_rfl) (by kernel_rfl) (by simpa using al) ?_;simp(disch:=omega)[-aue];repeat refine asi ?_
     refine asl (iZ (gt p.ab j).cost) ?_;simp(disch:=omega)[g2,gr,cg,dA, -aue,List.set_set,fc];repeat refine asi ?_
     refine Qq (M':=fH p n m N (j+1) 0 (dH N j (zN p) 0) (dH N j (so p) 0) ((dH N j (λ_ => -1) 0).set j (-1)) (dH N (j+1) (o3 p) 0) (L++[(gt p.ab j).low]) (Hh++[(gt p.ab j).high]) []++[some ⟨16,[ji (gt p.ab j)],false⟩]) (by simp[r5,fS,vC]) ?_;refine QK p n m N j (j+1) 0 _ _ _ _ _ _ _ _ hC (by simp) (by simp) (by omega) (by omega) (by simp[ll]) (by simp[lh]) ?_ ?_ ?_ ?_
     ·exact wS ll
     ·exact wS lh
     ·rw[ek,ek,ek];simp only[fH,r5,fS,vC];simp(disch:=omega)[-aue];repeat refine asi ?_
      refine⟨j+1,by omega,by omega,?_⟩;rw[ag,thm];exact Le.fm (by simp(disch:=omega)[aR,hC,aK,bU,Go.Sv.get])
     ·intro z1 z2;have aj:zN p j=0:=by simp[zN,z1,z2]
      have ak:so p j=0:=by simp[so,z1,z2]
      have x1:=ek (f:=zN p) (N:=N) (j:=j) (d:=0);have x2:=ek (f:=so p) (N:=N) (j:=j) (d:=0);have x3:=ek (f:=λ_=>(-1:Int)) (N:=N) (j:=j) (d:=0);rw[aj]at x1;rw[ak]at x2;rw[x1,x3];simp only[r5,fS,vC];simp(disch:=omega)[];repeat refine asi ?_
      refine⟨j+1,by omega,by omega,?_⟩;rw[ag,thm];refine(Le.nl _).trans ?_;simp only[NU,jd,mc,pA,dv iv (λ_=>rfl),dv aU (λ_=>rfl),CW,dv dh (λ_=>rfl),Qn,cg,x2];exact Le.fm (by simp(disch:=omega)[aR,hC,aK,bU,Go.Sv.get,bn])
    ·have fc:(dH N j (o3 p) 0).set j (gt p.ab j).cost=dH N (j+1) (o3 p) 0:=by
      rw[<-ek (f:=o3 p)];simp[o3,e1]
     rw[fc];refine⟨by omega,?_⟩;refine Qq (M':=fH p n m N (j+1) 0 (dH N j (zN p) 0) (dH N j (so p) 0) ((dH N j (λ_ => -1) 0).set j (-1)) (dH N (j+1) (o3 p) 0) (L++[(gt p.ab j).low]) (Hh++[(gt p.ab j).high]) []++[some ⟨16,[ji (gt p.ab j)],false⟩]) (by simp[r5,fS,vC]) ?_;refine QK p n m N j (j+1) 0 _ _ _ _ _ _ _ _ hC (by simp) (by simp) (by omega) (by omega) (by simp[ll]) (by simp[lh]) ?_ ?_ ?_ ?_
     ·exact wS ll
     ·exact wS lh
     ·rw[ek,ek,ek];simp only[fH,r5,fS,vC];simp(disch:=omega)[-aue];repeat refine asi ?_
      refine⟨j+1,by omega,by omega,?_⟩;rw[ag,thm];exact Le.fm (by simp(disch:=omega)[aR,hC,aK,bU,Go.Sv.get])
     ·intro z1 z2;have aj:zN p j=0:=by simp[zN,z1,z2]
      have ak:so p j=0:=by simp[so,z1,z2]
      have x1:=ek (f:=zN p) (N:=N) (j:=j) (d:=0);have x2:=ek (f:=so p) (N:=N) (j:=j) (d:=0);have x3:=ek (f:=λ_=>(-1:Int)) (N:=N) (j:=j) (d:=0);rw[aj]at x1;rw[ak]at x2;rw[x1,x3];simp only[r5,fS,vC];simp(disch:=omega)[];repeat refine asi ?_
      refine⟨j+1,by omega,by omega,?_⟩;rw[ag,thm];refine(Le.nl _).trans ?_;simp only[NU,jd,mc,pA,dv iv (λ_=>rfl),dv aU (λ_=>rfl),CW,dv dh (λ_=>rfl),Qn,cg,x2];exact Le.fm (by simp(disch:=omega)[aR,hC,aK,bU,Go.Sv.get,bn])
  ·obtain rfl:j=n:=by omega
   simp(disch:=omega)[];repeat refine asi ?_
   exact⟨rfl,by simp[bU,Go.Sv.get,bN],by simp only[bN];exact aq _,.inl rfl⟩
end Go.Proofs


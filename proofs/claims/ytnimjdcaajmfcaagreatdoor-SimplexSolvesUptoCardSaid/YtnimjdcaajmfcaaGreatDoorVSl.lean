/- A text of the prover's own. -/
import Derived.Test.YtnimjdcaajmfcaaGreatDoorVSj
open List renaming range->ayq,replicate->awQ,take->aBA,map_set->aAq,map_take->aAP
namespace Go.Proofs
open Go.Sv Go Go.Tb Go.Pl Go.Ut Go.Sx
def yq:Code->List (Array Oper)
 | .region _ o _=>[o]
 | .seq x y=>yq x++yq y
 | .block _ c=>yq c
 | .loop c=>yq c
 | .cond _ x y=>yq x++yq y
 | _=>[]
noncomputable def gL:Array Oper:=(yq aF).getD 7 #[]
def Re:Pl:=.nil
def amG:Array Bool:=#[true,true,true,true,true,true,true,true,true,true,true,true,true,true,true,true,true,true,true,true,true,true,true,true]
theorem akt:ay gL amG Re=true:=by unfold Re;kernel_rfl
def SN:Pl:=.q 21 [] (.q 22 [] (.l 23 [0,1000000] Re))
def alz:Array Bool:=#[true,true,true,true,true,true,true,true,true,true,true,true,true,true,true,true,true,true,true,true,true,false,false,false]
theorem ak5:ay gL alz SN=true:=by unfold SN;refine bJ (by kernel_rfl) ?_;refine bJ (by kernel_rfl) ?_;refine dT (by kernel_rfl) ?_;exact aw akt (by kernel_rfl)
def SB:Pl:=.q 18 [] (.q 19 [] (.l 20 [0,1000000] SN))
def anj:Array Bool:=#[true,true,true,true,true,true,true,true,true,true,true,true,true,true,true,true,true,true,false,false,false,false,false,false]
theorem alS:ay gL anj SB=true:=by unfold SB;refine bJ (by kernel_rfl) ?_;refine bJ (by kernel_rfl) ?_;refine dT (by kernel_rfl) ?_;exact aw ak5 (by kernel_rfl)
def Lp:Pl:=.l 17 [1000000] SB
def alP:Array Bool:=#[true,true,true,true,true,true,true,true,true,true,true,true,true,true,true,true,true,false,false,false,false,false,false,false]
theorem VT:ay gL alP Lp=true:=by unfold Lp;refine dT (by kernel_rfl) ?_;exact aw alS (by kernel_rfl)
def Ml:Pl:=.l 16 [] Lp
def alU:Array Bool:=#[true,true,true,true,true,true,true,true,true,true,true,true,true,true,true,true,false,false,false,false,false,false,false,false]
theorem Xo:ay gL alU Ml=true:=by unfold Ml;refine dT (by kernel_rfl) ?_;exact aw VT (by kernel_rfl)
def PX:Pl:=.l 15 [] Ml
def amB:Array Bool:=#[true,true,true,true,true,true,true,true,true,true,true,true,true,true,true,false,false,false,false,false,false,false,false,false]
theorem adR:ay gL amB PX=true:=by unfold PX;refine dT (by kernel_rfl) ?_;exact aw Xo (by kernel_rfl)
def Qz:Pl:=.l 13 [] Lp
def anx:Array Bool:=#[true,true,true,true,true,true,true,true,true,true,true,true,true,false,true,true,true,false,false,false,false,false,false,false]
theorem ab7:ay gL anx Qz=true:=by unfold Qz;refine dT (by kernel_rfl) ?_;exact aw VT (by kernel_rfl)
def OB:Pl:=.alt 13 [] Ml (.alt 16 [] Qz (.stop))
def alW:Array Bool:=#[true,true,true,true,true,true,true,true,true,true,true,true,true,false,true,true,false,false,false,false,false,false,false,false]
theorem aaC:ay gL alW OB=true:=by unfold OB;refine bH (by kernel_rfl) ?_;refine aT (aw Xo (by kernel_rfl)) ?_;refine aT (aw ab7 (by kernel_rfl)) ?_;rfl
def Sg:Pl:=.alt 13 [] PX (.alt 15 [] OB (.stop))
def akM:Array Bool:=#[true,true,true,true,true,true,true,true,true,true,true,true,true,false,true,false,false,false,false,false,false,false,false,false]
theorem amO:ay gL akM Sg=true:=by unfold Sg;refine bH (by kernel_rfl) ?_;refine aT (aw adR (by kernel_rfl)) ?_;refine aT (aw aaC (by kernel_rfl)) ?_;rfl
def Mi:Pl:=.l 9 [1000000] Lp
def amz:Array Bool:=#[true,true,true,true,true,true,true,true,true,false,true,true,true,true,true,true,true,false,false,false,false,false,false,false]
theorem Xn:ay gL amz Mi=true:=by unfold Mi;refine dT (by kernel_rfl) ?_;exact aw VT (by kernel_rfl)
def CL:Pl:=.alt 9 [1000000] Ml (.alt 16 [] Mi (.stop))
def ab1:Array Bool:=#[true,true,true,true,true,true,true,true,true,false,true,true,true,true,true,true,false,false,false,false,false,false,false,false]
theorem Oz:ay gL ab1 CL=true:=by unfold CL;refine bH (by kernel_rfl) ?_;refine aT (aw Xo (by kernel_rfl)) ?_;refine aT (aw Xn (by kernel_rfl)) ?_;rfl
def Ff:Pl:=.alt 9 [1000000] PX (.alt 15 [] CL (.stop))
def afy:Array Bool:=#[true,true,true,true,true,true,true,true,true,false,true,true,true,true,true,false,false,false,false,false,false,false,false,false]
theorem Ug:ay gL afy Ff=true:=by unfold Ff;refine bH (by kernel_rfl) ?_;refine aT (aw adR (by kernel_rfl)) ?_;refine aT (aw Oz (by kernel_rfl)) ?_;rfl
def Hd:Pl:=.alt 9 [1000000] Qz (.alt 13 [] Mi (.stop))
def acR:Array Bool:=#[true,true,true,true,true,true,true,true,true,false,true,true,true,false,true,true,true,false,false,false,false,false,false,false]
theorem TP:ay gL acR Hd=true:=by unfold Hd;refine bH (by kernel_rfl) ?_;refine aT (aw ab7 (by kernel_rfl)) ?_;refine aT (aw Xn (by kernel_rfl)) ?_;rfl
def FM:Pl:=.alt 9 [1000000] OB (.alt 13 [] CL (.alt 16 [] Hd (.stop)))
def afe:Array Bool:=#[true,true,true,true,true,true,true,true,true,false,true,true,true,false,true,true,false,false,false,false,false,false,false,false]
theorem TV:ay gL afe FM=true:=by unfold FM;refine bH (by kernel_rfl) ?_;refine aT (aw aaC (by kernel_rfl)) ?_;refine aT (aw Oz (by kernel_rfl)) ?_;refine aT (aw TP (by kernel_rfl)) ?_;rfl
def JV:Pl:=.alt 9 [1000000] Sg (.alt 13 [] Ff (.alt 15 [] FM (.stop)))
def aa5:Array Bool:=#[true,true,true,true,true,true,true,true,true,false,true,true,true,false,true,false,false,false,false,false,false,false,false,false]
theorem acq:ay gL aa5 JV=true:=by unfold JV;refine bH (by kernel_rfl) ?_;refine aT (aw amO (by kernel_rfl)) ?_;refine aT (aw Ug (by kernel_rfl)) ?_;refine aT (aw TV (by kernel_rfl)) ?_;rfl
def Hm:Pl:=.l 8 [] Mi
def aen:Array Bool:=#[true,true,true,true,true,true,true,true,false,false,true,true,true,true,true,true,true,false,false,false,false,false,false,false]
theorem TB:ay gL aen Hm=true:=by unfold Hm;refine dT (by kernel_rfl) ?_;exact aw Xn (by kernel_rfl)
def GW:Pl:=.alt 8 [] CL (.alt 16 [] Hm (.stop))
def afB:Array Bool:=#[true,true,true,true,true,true,true,true,false,false,true,true,true,true,true,true,false,false,false,false,false,false,false,false]
theorem Uk:ay gL afB GW=true:=by unfold GW;refine bH (by kernel_rfl) ?_;refine aT (aw Oz (by kernel_rfl)) ?_;refine aT (aw TB (by kernel_rfl)) ?_;rfl
def JU:Pl:=.alt 8 [] Ff (.alt 15 [] GW (.stop))
def aeX:Array Bool:=#[true,true,true,true,true,true,true,true,false,false,true,true,true,true,true,false,false,false,false,false,false,false,false,false]
theorem ado:ay gL aeX JU=true:=by unfold JU;refine bH (by kernel_rfl) ?_;refine aT (aw Ug (by kernel_rfl)) ?_;refine aT (aw Uk (by kernel_rfl)) ?_;rfl
def JP:Pl:=.alt 8 [] Hd (.alt 13 [] Hm (.stop))
def ab8:Array Bool:=#[true,true,true,true,true,true,true,true,false,false,true,true,true,false,true,true,true,false,false,false,false,false,false,false]
theorem afN:ay gL ab8 JP=true:=by unfold JP;refine bH (by kernel_rfl) ?_;refine aT (aw TP (by kernel_rfl)) ?_;refine aT (aw TB (by kernel_rfl)) ?_;rfl
def Kz:Pl:=.alt 8 [] FM (.alt 13 [] GW (.alt 16 [] JP (.stop)))
def agm:Array Bool:=#[true,true,true,true,true,true,true,true,false,false,true,true,true,false,true,true,false,false,false,false,false,false,false,false]
theorem ac6:ay gL agm Kz=true:=by unfold Kz;refine bH (by kernel_rfl) ?_;refine aT (aw TV (by kernel_rfl)) ?_;refine aT (aw Uk (by kernel_rfl)) ?_;refine aT (aw afN (by kernel_rfl)) ?_;rfl
def CT:Pl:=.q 0 [] (.q 1 [] (.q 2 [] (.q 3 [] (.q 4 [] (.q 5 [] (.q 6 [] (.q 7 [] (.q 10 [] (.q 11 [] (.q 12 [] (.q 14 [] (.alt 8 [] JV (.alt 13 [] JU (.alt 15 [] Kz (.stop)))))))))))))))
def aey:Array Bool:=#[false,false,false,false,false,false,false,false,false,false,false,false,false,false,false,false,false,false,false,false,false,false,false,false]
theorem adP:ay gL aey CT=true:=by unfold CT;refine bJ (by kernel_rfl) ?_;refine bJ (by kernel_rfl) ?_;refine bJ (by kernel_rfl) ?_;refine bJ (by kernel_rfl) ?_;refine bJ (by kernel_rfl) ?_;refine bJ (by kernel_rfl) ?_;refine bJ (by kernel_rfl) ?_;refine bJ (by kernel_rfl) ?_;refine bJ (by kernel_rfl) ?_;refine bJ (by kernel_rfl) ?_;refine bJ (by kernel_rfl) ?_;refine bJ (by kernel_rfl) ?_;refine bH (by kernel_rfl) ?_;refine aT (aw acq (by kernel_rfl)) ?_;refine aT (aw ado (by kernel_rfl)) ?_;refine aT (aw ac6 (by kernel_rfl)) ?_;rfl
theorem Q8:(Region.noSelect gL&&(ay gL (Array.replicate gL.size false) CT&&decide (CT.len<=gL.size)))=true:=by rw[Bool.and_eq_true,Bool.and_eq_true];exact⟨by kernel_rfl,aw adP (by kernel_rfl),by kernel_rfl⟩
end Go.Proofs
set_option maxRecDepth 10000
set_option maxHeartbeats 4000000
namespace Go.Sx
open Go Go.Sv Go.Pl Go.Proofs Go.Tb Go.Ut Go.Mx Go.Li Go.Dt
def du{α:Type}(N j:Nat)(f:Nat->α)(d:α):List α:=(ayq N).map λk=>if k<j then f k else d
@[simp] theorem Rm{α:Type}(N j:Nat)(f:Nat->α)(d:α):(du N j f d).length=N:=by simp[du]
theorem jL{α:Type}[Inhabited α]{N j k:Nat}{f:Nat->α}{d:α}(h:k<N):gt (du N j f d) k=if k<j then f k else d:=by unfold du;rw[aV _ h]
theorem vQ{α:Type}(N:Nat)(f:Nat->α)(d:α):du N 0 f d=awQ N d:=by simp[du,List.map_const']
theorem ef{α:Type}[Inhabited α]{N j:Nat}{f:Nat->α}{d:α}:(du N j f d).set j (f j)=du N (j+1) f d:=bV (by simp) λk hk=>by
 have hk:k<N:=by simpa using hk
 rw[bE (by simpa using hk),jL hk,jL hk];by_cases e:j=k
 ·subst e;rw[if_pos rfl,if_pos (by omega)]
 ·rw[if_neg e];by_cases q:k<j
  ·rw[if_pos q,if_pos (by omega)]
  ·rw[if_neg q,if_neg (by omega)]
def fS(p:aB)(n m N kl kb:Nat):SV:=.agg [.dG (bS p) 0,iv n,iv m,.view 5 0 kl,.view 6 0 kl,.view 4 0 N,.view 1 0 N,.view 2 0 N,.view 7 0 kb,.view 3 0 N,.view 8 0 kb]
def Xa(N i:Nat):SV:=.view (i+9) 0 N
def sW(N kb:Nat):List SV:=(ayq kb).map (Xa N)
def tU(p:aB)(n m N kl kb:Nat)(wh:List Int)(x:List SV)(row:List Int)(cost:List Rat)(low high:List Bo)(basic:List Nat):aC :=
 [some ⟨11,[fS p n m N kl kb],false⟩,some ⟨1,wh.map iv,false⟩,some ⟨4,x,false⟩,some ⟨1,row.map iv,false⟩,some ⟨4,cost.map aS,false⟩,some ⟨5,low.map dA,false⟩,some ⟨5,high.map dA,false⟩,some ⟨1,basic.map cv,false⟩,some ⟨1,sW N kb,false⟩]
abbrev fH(p:aB)(n m N kl kb:Nat)(wh:List Int)(x:List Rat)(row:List Int)(cost:List Rat)(low high:List Bo)(basic:List Nat):aC:=tU p n m N kl kb wh (x.map aS) row cost low high basic
def nr:SV:=.agg [.val (.bool false),.val (.slice none 0 0),.val (.bool false),.val (.slice none 0 0)]
def BH(p:aB)(k:Nat):Int:=if(gt p.ai k).low.has=true then 2 else if(gt p.ai k).high.has=true then 3 else 0
def uu(p:aB)(k:Nat):Rat:=if(gt p.ai k).low.has=true then(gt p.ai k).low.at' else if(gt p.ai k).high.has=true then(gt p.ai k).high.at' else 0
def qK(p:aB)(k:Nat):Rat:=if p.max=true then -(gt p.ai k).cost else(gt p.ai k).cost
def rM(p:aB):List Bo:=p.ai.map (·.low)
def kR(p:aB):List Bo:=p.ai.map (·.high)
def fB(p:aB)(n m N j:Nat):aC:=fH p n m N j 0 (du N j (BH p) 0) (du N j (uu p) 0) (du N j (λ_ => -1) 0) (du N j (qK p) 0) ((rM p).take j) ((kR p).take j) []
theorem Om(N:Nat):kT (zr N)=(awQ N (0:Rat)).map aS:=by unfold zr;rw[p9,List.map_replicate,show ig (.agg [.val (.bool false),.val (.slice none 0 0),.val (.bool false),.val (.slice none 0 0)])=aS 0 by rw[<-ou];rfl]
theorem aav(p:aB)(n m N:Nat){C:Ctx}:Le C ⟨217,[(0,.dG (bS p) 0),(3,.ptr 0 0 0),(4,iv N)],UD p n m N⟩ ⟨217,[(0,.dG (bS p) 0),(3,.ptr 0 0 0),(4,iv N)],fB p n m N 0⟩:=by
 refine(Le.iO 0 3 5 rfl rfl rfl rfl (by simp)).trans ?_;refine(Le.iO 0 4 5 rfl rfl rfl rfl (by simp[da])).trans ?_;refine(Le.iO 0 8 1 rfl rfl rfl rfl (by simp[da])).trans ?_;refine(Le.iO 0 10 1 rfl rfl rfl rfl (by simp[da])).trans ?_;refine(Le.nl _).trans ?_;refine Le.dE ⟨rfl,by simp[LW,bY,Go.Sv.get],?_,.inl ?_⟩
 ·simp[LW,UD,fA,fB,fH,tU,fS,da,Om,vQ,sW,zi,p9]
 ·simp[LW,ry,UD,fB,fH,tU]
end Go.Sx
namespace Go.Proofs
open Go.Sv Go Go.Tb Go.Pl Go.Ut Go.Mx Go.Li Go.Dt Go.Sx
theorem xI{ks:List Nat}{st:St}{t:TypeId}{x:Operand}:okW ks st (.load t x)=True:=rfl
theorem xd{ks:List Nat}{r:Pl}{t:TypeId}{x:Operand}:AD ks r (.load t x)=True:=rfl
theorem OC(b:Bo):SV.agg (aBA 4 (dA b).cells.tail)=aS b.at':=rfl
theorem Uv(p:aB)(n m N j kl kb:Nat)(wh:List Int)(x:List Rat)(row:List Int)(cost:List Rat)(low high:List Bo)(basic:List Nat)(J:aC){k:aC->List Nat->SV->Prop}{C:Ctx}(hC:C.fx=[])(ac:wh.length=N)(ad:x.length=N)(hj:j<N)(an:j<kl)(ae:low.length=kl)(af:high.length=kl)(hl:gt low j=(gt p.ai j).low)(hh:gt high j=(gt p.ai j).high)
  (hk:k (fH p n m N kl kb (wh.set j (BH p j)) (x.set j (uu p j)) row cost low high basic++J) [] (.bM []))
  (hz:(gt p.ai j).low.has=false->(gt p.ai j).high.has=false->k (tU p n m N kl kb (wh.set j 0) (da (x.map aS) j nr) row cost low high basic++J) [] (.bM [])) :
  dK Tryz.prog C 119 [.ptr 0 0 0,.val (.int .i64 (j:Int))] (fH p n m N kl kb wh x row cost low high basic++J) none k:=by
 have gw:aM (wh.map iv) j=iv (gt wh j):=cf (by omega);have gx:aM (x.map aS) j=aS (gt x j):=ct _ (by omega);have gl:aM (low.map dA) j=dA (gt p.ai j).low:=by rw[ct _ (by omega),hl]
 have gh:aM (high.map dA) j=dA (gt p.ai j).high:=by rw[ct _ (by omega),hh]
 have sx:∀v:Rat,da (x.map aS) j (aS v)=(x.set j v).map aS:=λv=>cx;refine ep Tryz.func119 rfl (by simp) [] (by simp) (by simp) (λC' ap=>?_);simp only[fH,tU,fS];simp(disch:=omega)[gl,gh,ae,af];repeat refine awG ?_
 refine⟨λe1=>?_,λe1=>⟨by omega,λe2=>?_,λe2=>?_⟩⟩
 ·refine aa.draw (.qs [0,1,2,3,4,5,6,7,8,9,10,11,12,13,14,15,16,17,18]<|.l 19 [1]<|.qs [20]<|.l 21 [2] .nil) (by kernel_rfl) (by kernel_rfl) (by simp) ?_;simp(disch:=omega)[gw,gx,gl,dM,sx,ac,ad,ae];repeat refine awG ?_
  have er:BH p j=2:=by unfold BH;rw[if_pos e1]
  have ex:uu p j=(gt p.ai j).low.at':=by unfold uu;rw[if_pos e1]
  rw[er,ex]at hk;simpa[fH,tU,fS,OC,sx,aAq]using hk
 ·refine aa.draw (.qs [0,1,2,3,4,5,6,7,8,9,10,11,12,13,14,15,16,17,18]<|.l 19 [1]<|.qs [20]<|.l 21 [2] .nil) (by kernel_rfl) (by kernel_rfl) (by simp) ?_;simp(disch:=omega)[gw,gx,gh,dM,sx,ac,ad,af];repeat refine awG ?_
  have er:BH p j=3:=by unfold BH;rw[if_neg (by simp[e1]),if_pos e2]
  have ex:uu p j=(gt p.ai j).high.at':=by unfold uu;rw[if_neg (by simp[e1]),if_pos e2]
  rw[er,ex]at hk;simpa[fH,tU,fS,OC,sx,aAq]using hk
 ·refine aa.draw (.qs [0,1,2,3,4,5,6,7,8,9,10,11]<|.l 12 [1]<|.qs [13]<|.l 14 [2] .nil) (by kernel_rfl) (by kernel_rfl) (by simp) ?_;simp(disch:=omega)[gw,gx,dM,ac,ad];repeat refine awG ?_
  simpa[fH,tU,fS,OC,sx,aAq,nr]using hz e1 e2
theorem Uw{P:Program}{C:Ctx}{f:FuncId}{a:List SV}{M M':aC}{W:Option (List Nat)}{k:aC->List Nat->SV->Prop}(e:M=M')(h:dK P C f a M' W k):dK P C f a M W k:=by rw[e];exact h
theorem yZ{L:List Bo}{b:Bo}{j:Nat}(h:L.length=j):gt (L++[b]) j=b:=by subst h;simp[gt]
theorem TQ:ig nr=aS 0:=by rw[<-ou];rfl
theorem EL:∀(l r:List SV),kT (l++r)=kT l++kT r
 | [],r=>rfl
 | x::l,r=>by simp only[List.cons_append,kT];rw[EL l r]
theorem yn(N:Nat):sW N 0=[]:=rfl
theorem VU(p:aB)(n m N:Nat)(hn:p.ai.length=n)(hN:n+m=N)(aq:N<=14){C:Ctx}(hC:C.fx=[]){Q:bf}(al:∀c st,¬Q (.panic c) st)(hQ:aa Tryz.prog C (bh 5 aF) ⟨217,[(0,.dG (bS p) 0),(3,.ptr 0 0 0),(4,iv N)],fB p n m N n⟩ Q) :
  aa Tryz.prog C (bh 4 aF) ⟨217,[(0,.dG (bS p) 0),(3,.ptr 0 0 0),(4,iv N)],UD p n m N⟩ Q:=by
 refine aa.le (aav p n m N) ?_;refine aa.cutAt 1 (λst=>st=⟨217,[(0,.dG (bS p) 0),(3,.ptr 0 0 0),(4,iv N)],fB p n m N n⟩) ?_ ?_
 rotate_left 1
 ·rintro st rfl;simp only[aF,Tryz.f77,Option.getD_some,ah,ab]at hQ ⊢;exact hQ
 simp only[aF,Tryz.f77,Option.getD_some,ah,ab,aN,aL];simp only[fB,fH,tU,fS];simp(disch:=omega)[bS,hn];repeat refine awG ?_
 refine aa.bB (ι:=Nat) (λj=>⟨217,[(0,.dG (bS p) 0),(3,.ptr 0 0 0),(4,iv N),(57,.ro (p.ai.map jv)),(58,iv n),(59,iv j)],fB p n m N j⟩)
  (λj=>j<=n) (λj=>n - j) 0 (by simp) ?_ ?_
 ·exact⟨rfl,by simp[bY,Go.Sv.get,bS],ao _,.inl rfl⟩
 ·rintro j hj;simp only[fB,fH,tU,fS];by_cases am:j<n
  ·have lc:aM (p.ai.map jv) j=jv (gt p.ai j):=ct _ (by omega);have tl:(rM p).take (j+1)=(rM p).take j++[(gt p.ai j).low]:=by rw[hO (by simp[rM];omega)];simp[rM,jr _ (show j<p.ai.length by omega)]
   have th:(kR p).take (j+1)=(kR p).take j++[(gt p.ai j).high]:=by rw[hO (by simp[kR];omega)];simp[kR,jr _ (show j<p.ai.length by omega)]
   have ll:((rM p).take j).length=j:=by simp[rM];omega
   have lh:((kR p).take j).length=j:=by simp[kR];omega
   generalize hL:(rM p).take j=L at *;generalize hH:(kR p).take j=Hh at *;simp(disch:=omega)[am,hn,lc];repeat refine awG ?_
   refine aa.xD CT ⟨217,[(0,.dG (bS p) 0),(3,.ptr 0 0 0),(4,iv N),(5,iv j),(6,.ptr 9 0 0),(57,.ro (p.ai.map jv)),(58,iv n),(59,iv j)],fH p n m N (j+1) 0 (du N j (BH p) 0) (du N j (uu p) 0) (du N j (λ_ => -1) 0) (du N j (qK p) 0) (L++[(gt p.ai j).low]) (Hh++[(gt p.ai j).high]) []++[some ⟨16,[jv (gt p.ai j)],false⟩]⟩ (by kernel_rfl) Q8 ?_ ?_
   ·simp only[CT,Kz,JP,JU,GW,Hm,JV,FM,Hd,Ff,CL,Mi,Sg,OB,Qz,PX,Ml,Lp,SB,SN,Re];have w3:(j+1)*72<=70368744177664:=by omega
    simp[ll,lh,hC,yn,xI,xd,aP,bY,Go.Sv.get,fH,tU,fS,w3]
   ·simp only[fH,tU,fS,yn];have ag:aBA (j+1) ((rM p).map dA)=L.map dA++[dA (gt p.ai j).low]:=by rw[<-aAP,tl];simp
    have thm:aBA (j+1) ((kR p).map dA)=Hh.map dA++[dA (gt p.ai j).high]:=by rw[<-aAP,th];simp
    clear hQ tl th;have bn:∀b:Bo,ig (dA b)=dA b:=λ_=>rfl;have gc:∀(l:List Rat),l.length=N->aM (l.map aS) j=aS (gt l j):=λl h=>ct _ (by omega);have gr:=cf (l:=du N j (λ_=>(-1:Int)) 0) (i:=j) (by simp;omega);have g1:=gc (du N j (qK p) 0) (by simp);have g2:∀v,aM (((du N j (qK p) 0).set j v).map aS) j=aS (gt ((du N j (qK p) 0).set j v) j):=λv=>gc _ (by simp);simp(disch:=omega)[];repeat refine awG ?_
    refine aa.draw (.qs [0,1,2,3,4,5,6,7]<|.l 8 [4] .nil) (by kernel_rfl) (by kernel_rfl) (by simpa using al) ?_;simp(disch:=omega)[g1,gr,cx,dM, -aAq];repeat refine awG ?_
    refine⟨λe1=>?_,λe1=>?_⟩
    ·have fc:(du N j (qK p) 0).set j (-(gt p.ai j).cost)=du N (j+1) (qK p) 0:=by
      rw[<-ef (f:=qK p)];simp[qK,e1]
     refine aa.draw (.qs [0,1,2,3,4,5,6]<|.l 7 []<|.qs [8]<|.l 9 [4] .nil) (by kernel_rfl) (by kernel_rfl) (by simpa using al) ?_;simp(disch:=omega)[-aAq];repeat refine awG ?_
     refine awI (jK (gt p.ai j).cost) ?_;simp(disch:=omega)[g2,gr,cx,dM, -aAq,List.set_set,fc];repeat refine awG ?_
     refine Uw (M':=fH p n m N (j+1) 0 (du N j (BH p) 0) (du N j (uu p) 0) ((du N j (λ_ => -1) 0).set j (-1)) (du N (j+1) (qK p) 0) (L++[(gt p.ai j).low]) (Hh++[(gt p.ai j).high]) []++[some ⟨16,[jv (gt p.ai j)],false⟩]) (by simp[tU,fS,yn]) ?_;refine Uv p n m N j (j+1) 0 _ _ _ _ _ _ _ _ hC (by simp) (by simp) (by omega) (by omega) (by simp[ll]) (by simp[lh]) ?_ ?_ ?_ ?_
     ·exact yZ ll
     ·exact yZ lh
     ·rw[ef,ef,ef];simp only[fH,tU,fS,yn];simp(disch:=omega)[-aAq];repeat refine awG ?_
      refine⟨j+1,by omega,by omega,?_⟩;rw[ag,thm];exact Le.dE (by simp(disch:=omega)[aP,hC,aD,bY,Go.Sv.get])
     ·intro z1 z2;have aj:BH p j=0:=by simp[BH,z1,z2]
      have ak:uu p j=0:=by simp[uu,z1,z2]
      have x1:=ef (f:=BH p) (N:=N) (j:=j) (d:=0);have x2:=ef (f:=uu p) (N:=N) (j:=j) (d:=0);have x3:=ef (f:=λ_=>(-1:Int)) (N:=N) (j:=j) (d:=0);rw[aj]at x1;rw[ak]at x2;rw[x1,x3];simp only[tU,fS,yn];simp(disch:=omega)[];repeat refine awG ?_
      refine⟨j+1,by omega,by omega,?_⟩;rw[ag,thm];refine(Le.nl _).trans ?_;simp only[LW,jO,nM,qU,cR iv (λ_=>rfl),cR aS (λ_=>rfl),EL,cR dA (λ_=>rfl),TQ,cx,x2];exact Le.dE (by simp(disch:=omega)[aP,hC,aD,bY,Go.Sv.get,bn])
    ·have fc:(du N j (qK p) 0).set j (gt p.ai j).cost=du N (j+1) (qK p) 0:=by
      rw[<-ef (f:=qK p)];simp[qK,e1]
     rw[fc];refine⟨by omega,?_⟩;refine Uw (M':=fH p n m N (j+1) 0 (du N j (BH p) 0) (du N j (uu p) 0) ((du N j (λ_ => -1) 0).set j (-1)) (du N (j+1) (qK p) 0) (L++[(gt p.ai j).low]) (Hh++[(gt p.ai j).high]) []++[some ⟨16,[jv (gt p.ai j)],false⟩]) (by simp[tU,fS,yn]) ?_;refine Uv p n m N j (j+1) 0 _ _ _ _ _ _ _ _ hC (by simp) (by simp) (by omega) (by omega) (by simp[ll]) (by simp[lh]) ?_ ?_ ?_ ?_
     ·exact yZ ll
     ·exact yZ lh
     ·rw[ef,ef,ef];simp only[fH,tU,fS,yn];simp(disch:=omega)[-aAq];repeat refine awG ?_
      refine⟨j+1,by omega,by omega,?_⟩;rw[ag,thm];exact Le.dE (by simp(disch:=omega)[aP,hC,aD,bY,Go.Sv.get])
     ·intro z1 z2;have aj:BH p j=0:=by simp[BH,z1,z2]
      have ak:uu p j=0:=by simp[uu,z1,z2]
      have x1:=ef (f:=BH p) (N:=N) (j:=j) (d:=0);have x2:=ef (f:=uu p) (N:=N) (j:=j) (d:=0);have x3:=ef (f:=λ_=>(-1:Int)) (N:=N) (j:=j) (d:=0);rw[aj]at x1;rw[ak]at x2;rw[x1,x3];simp only[tU,fS,yn];simp(disch:=omega)[];repeat refine awG ?_
      refine⟨j+1,by omega,by omega,?_⟩;rw[ag,thm];refine(Le.nl _).trans ?_;simp only[LW,jO,nM,qU,cR iv (λ_=>rfl),cR aS (λ_=>rfl),EL,cR dA (λ_=>rfl),TQ,cx,x2];exact Le.dE (by simp(disch:=omega)[aP,hC,aD,bY,Go.Sv.get,bn])
  ·obtain rfl:j=n:=by omega
   simp(disch:=omega)[];repeat refine awG ?_
   exact⟨rfl,by simp[bY,Go.Sv.get,bS],by simp only[bS];exact ao _,.inl rfl⟩
end Go.Proofs


/- A text of the prover's own. -/
import Derived.Test.YtnimjdcaajmfcaaGreatDoorBSi
open List renaming replicate->asr,all_eq_true->atu,mem_append->ath
open Go.Proofs.Tryz renaming f77->axs,prog->awW
open Bool renaming and_eq_true->atl
open Option renaming getD_some->ate
namespace Go.Sx
open Go Go.Sv Go.Pl Go.Proofs Go.Tb Go.Ut Go.Mx Go.Li Go.Dt
def zi(N:Nat):List SV:=asr N (.val (.int .i64 0))
def zr(N:Nat):List SV:=asr N (.agg [.val (.bool false),.val (.slice none 0 0),.val (.bool false),.val (.slice none 0 0)])
theorem Dw{σ:Nat->Nat}{N:Nat}{x:SV}(h:fU σ x=x):dE σ (asr N x)=asr N x:=by
 induction N with
 | zero=>simp
 | succ n ih=>simp only[List.replicate_succ,mU,ih,h]
theorem PK{σ:Nat->Nat}{N:Nat}{v:Value}:dE σ (asr N (.val v))=asr N (.val v):=Dw (by simp)
theorem N8{σ:Nat->Nat}{N:Nat}:dE σ (asr N (.agg [.val (.bool false),.val (.slice none 0 0),.val (.bool false),.val (.slice none 0 0)]))=asr N (.agg [.val (.bool false),.val (.slice none 0 0),.val (.bool false),.val (.slice none 0 0)]):=Dw (by simp)
end Go.Sx
namespace Go.Proofs
open Go.Sv Go Go.Tb Go.Pl Go.Ut Go.Mx Go.Li Go.Dt Go.Sx
noncomputable def aE:Code:=axs.body.getD .skip
def r3:Code->Array Oper
 | .region _ o _=>o
 | .seq x _=>r3 x
 | _=>#[]
noncomputable def aI:Array Oper:=r3 (bs 3 aE)
def frl(k:Nat):Array Bool:=((List.range 24).map λi=>k.testBit i).toArray
def sgb(k:Nat):Nat:=if k=0 then 0 else 1
def frv(N k t i:Nat):List (Nat × SV):=if k=0 then[] else[(t,.view i 0 N)]
def frq(k t o:Nat):List (Nat × SV):=if k<3 then[] else[(t,.ptr 0 0 0),(t+1,.ptr 0 0 o)]
def fre(k z:Nat)(l:List SV):aD:=if k=0 then[] else[some ⟨z,l,false⟩]
def frc(N k i:Nat):SV:=if k=4 then .view i 0 N else .val (.slice none 0 0)
def frS(p:aB)(n m N a b c d:Nat):St:=⟨217,[(0,.dc (bN p) 0),(3,.ptr 0 0 0),(4,iv N),(34,.ptr 0 0 0),(35,.ptr 0 0 0),(36,.ptr 0 0 0),(37,.ptr 0 0 0),(38,iv N),(40,iv N),(42,iv N),(44,iv N)]++(frq a 46 6++(frq b 48 7++(frq c 50 9++(frq d 52 5++(frv N a 39 1++(frv N b 41 (1+sgb a)++(frv N c 43 (1+sgb a+sgb b)++frv N d 45 (1+sgb a+sgb b+sgb c)))))))),
 some ⟨11,[.agg [.dc (bN p) 0,iv n,iv m,.val (.slice none 0 0),.val (.slice none 0 0),frc N d (1+sgb a+sgb b+sgb c),frc N a 1,frc N b (1+sgb a),.val (.slice none 0 0),frc N c (1+sgb a+sgb b),.val (.slice none 0 0)]],false⟩::(fre a 1 (zi N)++(fre b 4 (zr N)++(fre c 1 (zi N)++fre d 4 (zr N))))⟩
def frS0(p:aB)(n m N:Nat):St:=⟨217,[(0,.dc (bN p) 0),(3,.ptr 0 0 0),(4,iv N)],[some ⟨11,[.agg [.dc (bN p) 0,iv n,iv m,.val (.slice none 0 0),.val (.slice none 0 0),.val (.slice none 0 0),.val (.slice none 0 0),.val (.slice none 0 0),.val (.slice none 0 0),.val (.slice none 0 0),.val (.slice none 0 0)]],false⟩]⟩
def o0:Pl->Bool
 | .nil=>true
 | .stop=>true
 | .q _ _ r=>o0 r
 | .l _ ks r=>ks.all (·==0)&&o0 r
 | .alt _ ks r p=>ks.all (·==0)&&(o0 r&&o0 p)
 | .m _ _ _ _ _ _=>false
theorem o0_Y:∀{pl:Pl},o0 pl=true->∀j,∀k∈pl.Y j,k=0
 | .nil,_,j,k,h=>by simp[Pl.Y]at h
 | .stop,_,j,k,h=>by simp[Pl.Y]at h
 | .q _ _ r,e,j,k,h=>o0_Y (pl:=r) e j k h
 | .l _ ks r,e,j,k,h=>by
  simp only[o0,atl,atu,beq_iff_eq]at e;simp only[Pl.Y,ath,one]at h;rcases h with h | h
  ·split at h
   ·exact e.1 k h
   ·simp at h
  ·exact o0_Y e.2 j k h
 | .alt _ ks r p,e,j,k,h=>by
  simp only[o0,atl,atu,beq_iff_eq]at e;simp only[Pl.Y,ath,one]at h;rcases h with h | h | h
  ·split at h
   ·exact e.1 k h
   ·simp at h
  ·exact o0_Y e.2.1 j k h
  ·exact o0_Y e.2.2 j k h
theorem o0_there{x:cz}{M:aD}:∀{pl:Pl},o0 pl=true->Pl.there (some x::M) pl=True
 | .nil,_=>rfl
 | .stop,_=>rfl
 | .q _ _ r,e=>o0_there (pl:=r) e
 | .l _ ks r,e=>by simp only[o0,atl,atu,beq_iff_eq]at e;simp only[Pl.there,o0_there e.2,and_true,eq_iff_iff,iff_true];exact .inr λk hk=>by rw[e.1 k hk];simp[aA]
 | .alt _ ks r p,e=>by simp only[o0,atl,atu,beq_iff_eq]at e;simp only[Pl.there,o0_there e.2.1,o0_there e.2.2,and_true,eq_iff_iff,iff_true];exact .inr λk hk=>by rw[e.1 k hk];simp[aA]
theorem plOK_q{ops:Array Oper}{L:Array Bool}{i:Nat}{ks:List Nat}{r:Pl}(h2:ax ops (L.setIfInBounds i true) r=true)(h1:Uu ops L i ks r.Y=true:=by kernel_rfl):ax ops L (.q i ks r)=true:=bC h1 h2
theorem plOK_l{ops:Array Oper}{L L':Array Bool}{i:Nat}{ks:List Nat}{r:Pl}(h2:ax ops L' r=true)(h1:(Region.ready .any ops L==[i])=true:=by kernel_rfl)(e:L.setIfInBounds i true=L':=by kernel_rfl):ax ops L (.l i ks r)=true:=dB h1 (aw h2 e)
theorem plOK_alt{ops:Array Oper}{L:Array Bool}{i:Nat}{ks:List Nat}{r p:Pl}(h2:ja ops L (.alt i ks r p)=true)(h1:(Region.ready .any ops L==i::p.ry)=true:=by kernel_rfl):ax ops L (.alt i ks r p)=true:=bz h1 h2
theorem alOK_c{ops:Array Oper}{L L':Array Bool}{i:Nat}{ks:List Nat}{r p:Pl}(h1:ax ops L' r=true)(h2:ja ops L p=true)(e:L.setIfInBounds i true=L':=by kernel_rfl):ja ops L (.alt i ks r p)=true:=aS (aw h1 e) h2
theorem altOK_stop{ops:Array Oper}{L:Array Bool}:ja ops L .stop=true:=rfl
structure FH(p:aB)(n m N:Nat)(C:Ctx)(R:bf):Prop where
 c:C.fx=[]
 np:∀c st,¬R (.panic c) st
 h:N<=14
 r:R .normal (frS p n m N 4 4 4 4)
variable {p:aB} {n m N:Nat} {C:Ctx} {R:bf}
theorem frstep{ops:Array Oper}(hC:C.fx=[]){st st':St}{pl:Pl}(h:bR awW C ops pl st' R)(ho:o0 pl=true)(l:List Nat)(h1:(∀a,a<l.length->∀b,b<l.length->l.getD a 0=l.getD b 0->a=b)∧IP l 0=0:=by decide)
  (e:st.n=st'.n∧st.M.length=l.length∧st'.M.length=l.length∧st'.M.map (λoe=>oe.map (fv (IP l)))=(l.map λi=>aA st.M i)∧bU st.fr (st'.fr.map λq=>(q.1,fU (IP l) q.2)):=by simp[frS,frv,frq,fre,frc,sgb,IP,zi,zr,PK,N8,bU,Go.Sv.get]):bR awW C ops pl st R :=
 bR.aba hC l h1.1 e.1 e.2.1 e.2.2.1 e.2.2.2.1 e.2.2.2.2 (λj k h=>by rw[o0_Y ho j k h];exact h1.2) h
set_option maxRecDepth 10000
set_option maxHeartbeats 1000000
def Jc:Pl:=.nil
theorem aje:ax aI (frl 16777215) Jc=true:=by unfold Jc;kernel_rfl
theorem frb0:o0 Jc=true:=by simp[Jc,o0]
def D9:Pl:=.q 21 [] (.q 22 [] (.l 23 [0] Jc))
theorem TQ:ax aI (frl 2097151) D9=true:=plOK_q (plOK_q (plOK_l aje))
theorem frb1:o0 D9=true:=by simp[D9,o0,frb0]
def ER:Pl:=.q 18 [] (.q 19 [] (.l 20 [0] D9))
theorem T3:ax aI (frl 262143) ER=true:=plOK_q (plOK_q (plOK_l TQ))
theorem frb2:o0 ER=true:=by simp[ER,o0,frb1]
def EC:Pl:=.q 15 [] (.q 16 [] (.l 17 [0] ER))
theorem RU:ax aI (frl 32767) EC=true:=plOK_q (plOK_q (plOK_l T3))
theorem frb3:o0 EC=true:=by simp[EC,o0,frb2]
def yt:Pl:=.l 14 [0] EC
theorem Jg:ax aI (frl 16383) yt=true:=plOK_l RU
theorem frb4:o0 yt=true:=by simp[yt,o0,frb3]
def CG:Pl:=.l 17 [0] ER
theorem Pp:ax aI (frl 131071) CG=true:=plOK_l T3
theorem frb5:o0 CG=true:=by simp[CG,o0,frb2]
def JS:Pl:=.l 20 [0] D9
theorem ahx:ax aI (frl 1048575) JS=true:=plOK_l TQ
theorem frb6:o0 JS=true:=by simp[JS,o0,frb1]
def JB:Pl:=.l 11 [] D9
theorem ahT:ax aI (frl 2095103) JB=true:=plOK_l TQ
theorem frb7:o0 JB=true:=by simp[JB,o0,frb1]
def Eb:Pl:=.q 18 [] (.q 19 [] (.alt 11 [] JS (.alt 20 [0] JB (.stop))))
theorem RG:ax aI (frl 260095) Eb=true:=plOK_q (plOK_q (plOK_alt (alOK_c ahx (alOK_c ahT altOK_stop))))
theorem frb8:o0 Eb=true:=by simp[Eb,o0,frb6,frb7]
def C3:Pl:=.q 15 [] (.q 16 [] (.alt 11 [] CG (.alt 17 [0] Eb (.stop))))
theorem Tp:ax aI (frl 30719) C3=true:=plOK_q (plOK_q (plOK_alt (alOK_c Pp (alOK_c RG altOK_stop))))
theorem frb9:o0 C3=true:=by simp[C3,o0,frb5,frb8]
def tX:Pl:=.alt 11 [] yt (.alt 14 [0] C3 (.stop))
theorem Hw:ax aI (frl 14335) tX=true:=plOK_alt (alOK_c Jg (alOK_c Tp altOK_stop))
theorem frb10:o0 tX=true:=by simp[tX,o0,frb4,frb9]
def vG:Pl:=.l 9 [] ER
theorem KE:ax aI (frl 261631) vG=true:=plOK_l T3
theorem frb11:o0 vG=true:=by simp[vG,o0,frb2]
def vN:Pl:=.q 15 [] (.q 16 [] (.alt 9 [] CG (.alt 17 [0] vG (.stop))))
theorem M7:ax aI (frl 32255) vN=true:=plOK_q (plOK_q (plOK_alt (alOK_c Pp (alOK_c KE altOK_stop))))
theorem frb12:o0 vN=true:=by simp[vN,o0,frb5,frb11]
def tY:Pl:=.alt 9 [] yt (.alt 14 [0] vN (.stop))
theorem Hu:ax aI (frl 15871) tY=true:=plOK_alt (alOK_c Jg (alOK_c M7 altOK_stop))
theorem frb13:o0 tY=true:=by simp[tY,o0,frb4,frb12]
def Aq:Pl:=.alt 11 [] CG (.alt 17 [0] Eb (.stop))
theorem ZN:ax aI (frl 129023) Aq=true:=plOK_alt (alOK_c Pp (alOK_c RG altOK_stop))
theorem frb14:o0 Aq=true:=by simp[Aq,o0,frb5,frb8]
def Ax:Pl:=.alt 9 [] CG (.alt 17 [0] vG (.stop))
theorem YH:ax aI (frl 130559) Ax=true:=plOK_alt (alOK_c Pp (alOK_c KE altOK_stop))
theorem frb15:o0 Ax=true:=by simp[Ax,o0,frb5,frb11]
def A5:Pl:=.alt 9 [] Eb (.alt 11 [] vG (.stop))
theorem Xt:ax aI (frl 259583) A5=true:=plOK_alt (alOK_c RG (alOK_c KE altOK_stop))
theorem frb16:o0 A5=true:=by simp[A5,o0,frb8,frb11]
def vv:Pl:=.q 15 [] (.q 16 [] (.alt 9 [] Aq (.alt 11 [] Ax (.alt 17 [0] A5 (.stop)))))
theorem K1:ax aI (frl 30207) vv=true:=plOK_q (plOK_q (plOK_alt (alOK_c ZN (alOK_c YH (alOK_c Xt altOK_stop)))))
theorem frb17:o0 vv=true:=by simp[vv,o0,frb14,frb15,frb16]
def Ay:Pl:=.alt 9 [] tX (.alt 11 [] tY (.alt 14 [0] vv (.stop)))
theorem abc:ax aI (frl 13823) Ay=true:=plOK_alt (alOK_c Hw (alOK_c Hu (alOK_c K1 altOK_stop)))
theorem frb18:o0 Ay=true:=by simp[Ay,o0,frb10,frb13,frb17]
def sJ:Pl:=.l 7 [] EC
theorem IV:ax aI (frl 32639) sJ=true:=plOK_l RU
theorem frb19:o0 sJ=true:=by simp[sJ,o0,frb3]
def sA:Pl:=.alt 7 [] yt (.alt 14 [0] sJ (.stop))
theorem Ij:ax aI (frl 16255) sA=true:=plOK_alt (alOK_c Jg (alOK_c IV altOK_stop))
theorem frb20:o0 sA=true:=by simp[sA,o0,frb4,frb19]
def vz:Pl:=.alt 7 [] C3 (.alt 11 [] sJ (.stop))
theorem Nm:ax aI (frl 30591) vz=true:=plOK_alt (alOK_c Tp (alOK_c IV altOK_stop))
theorem frb21:o0 vz=true:=by simp[vz,o0,frb9,frb19]
def AK:Pl:=.alt 7 [] tX (.alt 11 [] sA (.alt 14 [0] vz (.stop)))
theorem abz:ax aI (frl 14207) AK=true:=plOK_alt (alOK_c Hw (alOK_c Ij (alOK_c Nm altOK_stop)))
theorem frb22:o0 AK=true:=by simp[AK,o0,frb10,frb20,frb21]
def vX:Pl:=.alt 7 [] vN (.alt 9 [] sJ (.stop))
theorem Nl:ax aI (frl 32127) vX=true:=plOK_alt (alOK_c M7 (alOK_c IV altOK_stop))
theorem frb23:o0 vX=true:=by simp[vX,o0,frb12,frb19]
def AQ:Pl:=.alt 7 [] tY (.alt 9 [] sA (.alt 14 [0] vX (.stop)))
theorem abn:ax aI (frl 15743) AQ=true:=plOK_alt (alOK_c Hu (alOK_c Ij (alOK_c Nl altOK_stop)))
theorem frb24:o0 AQ=true:=by simp[AQ,o0,frb13,frb20,frb23]
def Aj:Pl:=.alt 7 [] vv (.alt 9 [] vz (.alt 11 [] vX (.stop)))
theorem abf:ax aI (frl 30079) Aj=true:=plOK_alt (alOK_c K1 (alOK_c Nm (alOK_c Nl altOK_stop)))
theorem frb25:o0 Aj=true:=by simp[Aj,o0,frb17,frb21,frb23]
def AU:Pl:=.q 12 [] (.q 13 [] (.alt 7 [] Ay (.alt 9 [] AK (.alt 11 [] AQ (.alt 14 [0] Aj (.stop))))))
theorem aaz:ax aI (frl 1407) AU=true:=plOK_q (plOK_q (plOK_alt (alOK_c abc (alOK_c abz (alOK_c abn (alOK_c abf altOK_stop))))))
theorem frb26:o0 AU=true:=by simp[AU,o0,frb18,frb22,frb24,frb25]
def Bf:Pl:=.q 12 [] (.q 13 [] (.alt 9 [] tX (.alt 11 [] tY (.alt 14 [0] vv (.stop)))))
theorem aaY:ax aI (frl 1535) Bf=true:=plOK_q (plOK_q (plOK_alt (alOK_c Hw (alOK_c Hu (alOK_c K1 altOK_stop)))))
theorem frb27:o0 Bf=true:=by simp[Bf,o0,frb10,frb13,frb17]
def Bh:Pl:=.q 12 [] (.q 13 [] (.alt 11 [] yt (.alt 14 [0] C3 (.stop))))
theorem acu:ax aI (frl 2047) Bh=true:=plOK_q (plOK_q (plOK_alt (alOK_c Jg (alOK_c Tp altOK_stop))))
theorem frb28:o0 Bh=true:=by simp[Bh,o0,frb4,frb9]
def A4:Pl:=.q 12 [] (.q 13 [] (.l 14 [0] EC))
theorem aae:ax aI (frl 4095) A4=true:=plOK_q (plOK_q (plOK_l RU))
theorem frb29:o0 A4=true:=by simp[A4,o0,frb3]
def vL:Pl:=.l 5 [] A4
theorem Nd:ax aI (frl 4063) vL=true:=plOK_l aae
theorem frb30:o0 vL=true:=by simp[vL,o0,frb29]
def y3:Pl:=.alt 5 [] Bh (.alt 11 [] vL (.stop))
theorem Rp:ax aI (frl 2015) y3=true:=plOK_alt (alOK_c acu (alOK_c Nd altOK_stop))
theorem frb31:o0 y3=true:=by simp[y3,o0,frb28,frb30]
def AX:Pl:=.q 12 [] (.q 13 [] (.alt 9 [] yt (.alt 14 [0] vN (.stop))))
theorem Za:ax aI (frl 3583) AX=true:=plOK_q (plOK_q (plOK_alt (alOK_c Jg (alOK_c M7 altOK_stop))))
theorem frb32:o0 AX=true:=by simp[AX,o0,frb4,frb12]
def zp:Pl:=.alt 5 [] AX (.alt 9 [] vL (.stop))
theorem RB:ax aI (frl 3551) zp=true:=plOK_alt (alOK_c Za (alOK_c Nd altOK_stop))
theorem frb33:o0 zp=true:=by simp[zp,o0,frb32,frb30]
def AG:Pl:=.alt 5 [] Bf (.alt 9 [] y3 (.alt 11 [] zp (.stop)))
theorem Zy:ax aI (frl 1503) AG=true:=plOK_alt (alOK_c aaY (alOK_c Rp (alOK_c RB altOK_stop)))
theorem frb34:o0 AG=true:=by simp[AG,o0,frb27,frb31,frb33]
def A9:Pl:=.q 12 [] (.q 13 [] (.alt 7 [] tX (.alt 11 [] sA (.alt 14 [0] vz (.stop)))))
theorem Yj:ax aI (frl 1919) A9=true:=plOK_q (plOK_q (plOK_alt (alOK_c Hw (alOK_c Ij (alOK_c Nm altOK_stop)))))
theorem frb35:o0 A9=true:=by simp[A9,o0,frb10,frb20,frb21]
def Ak:Pl:=.q 12 [] (.q 13 [] (.alt 7 [] yt (.alt 14 [0] sJ (.stop))))
theorem Z5:ax aI (frl 3967) Ak=true:=plOK_q (plOK_q (plOK_alt (alOK_c Jg (alOK_c IV altOK_stop))))
theorem frb36:o0 Ak=true:=by simp[Ak,o0,frb4,frb19]
def xY:Pl:=.alt 5 [] Ak (.alt 7 [] vL (.stop))
theorem Rg:ax aI (frl 3935) xY=true:=plOK_alt (alOK_c Z5 (alOK_c Nd altOK_stop))
theorem frb37:o0 xY=true:=by simp[xY,o0,frb36,frb30]
def At:Pl:=.alt 5 [] A9 (.alt 7 [] y3 (.alt 11 [] xY (.stop)))
theorem abl:ax aI (frl 1887) At=true:=plOK_alt (alOK_c Yj (alOK_c Rp (alOK_c Rg altOK_stop)))
theorem frb38:o0 At=true:=by simp[At,o0,frb35,frb31,frb37]
def AV:Pl:=.q 12 [] (.q 13 [] (.alt 7 [] tY (.alt 9 [] sA (.alt 14 [0] vX (.stop)))))
theorem Xe:ax aI (frl 3455) AV=true:=plOK_q (plOK_q (plOK_alt (alOK_c Hu (alOK_c Ij (alOK_c Nl altOK_stop)))))
theorem frb39:o0 AV=true:=by simp[AV,o0,frb13,frb20,frb23]
def Av:Pl:=.alt 5 [] AV (.alt 7 [] zp (.alt 9 [] xY (.stop)))
theorem XF:ax aI (frl 3423) Av=true:=plOK_alt (alOK_c Xe (alOK_c RB (alOK_c Rg altOK_stop)))
theorem frb40:o0 Av=true:=by simp[Av,o0,frb39,frb33,frb37]
def AP:Pl:=.q 0 [] (.q 1 [] (.q 2 [] (.q 3 [] (.q 4 [] (.q 6 [] (.q 8 [] (.q 10 [] (.alt 5 [] AU (.alt 7 [] AG (.alt 9 [] At (.alt 11 [] Av (.stop))))))))))))
theorem Y1:ax aI (frl 0) AP=true:=plOK_q (plOK_q (plOK_q (plOK_q (plOK_q (plOK_q (plOK_q (plOK_q (plOK_alt (alOK_c aaz (alOK_c Zy (alOK_c abl (alOK_c XF altOK_stop))))))))))))
theorem ahX(H:FH p n m N C R):bR awW C aI Jc (frS p n m N 4 4 4 4) R:=bR.aie H.r
theorem SO(H:FH p n m N C R):bR awW C aI D9 (frS p n m N 4 4 4 1) R:=by
 have⟨hC,hp,hN,_⟩:=H;unfold D9 frS aI;simp only[aE,axs,ate,ai,ah,r3];refine bR.qO rfl hp ?_;simp(disch:=omega)[frv,frq,fre,frc,sgb];refine bR.qO rfl hp ?_;simp(disch:=omega)[];refine bR.lO rfl ?_;simp(disch:=omega)[o0_there frb0];repeat refine asi ?_
 exact frstep hC (ahX H) frb0 [0,1,2,3,4]
theorem RI(H:FH p n m N C R):bR awW C aI ER (frS p n m N 4 4 1 1) R:=by
 have⟨hC,hp,hN,_⟩:=H;unfold ER frS aI;simp only[aE,axs,ate,ai,ah,r3];refine bR.qO rfl hp ?_;simp(disch:=omega)[frv,frq,fre,frc,sgb];refine bR.qO rfl hp ?_;simp(disch:=omega)[];refine bR.lO rfl ?_;simp(disch:=omega)[o0_there frb1];repeat refine asi ?_
 exact frstep hC (SO H) frb1 [0,1,2,3,4]
theorem TU(H:FH p n m N C R):bR awW C aI EC (frS p n m N 4 1 1 1) R:=by
 have⟨hC,hp,hN,_⟩:=H;unfold EC frS aI;simp only[aE,axs,ate,ai,ah,r3];refine bR.qO rfl hp ?_;simp(disch:=omega)[frv,frq,fre,frc,sgb];refine bR.qO rfl hp ?_;simp(disch:=omega)[];refine bR.lO rfl ?_;simp(disch:=omega)[o0_there frb2];repeat refine asi ?_
 exact frstep hC (RI H) frb2 [0,1,2,3,4]
theorem Jz(H:FH p n m N C R):bR awW C aI yt (frS p n m N 3 1 1 1) R:=by
 have⟨hC,hp,hN,_⟩:=H;unfold yt frS aI;simp only[aE,axs,ate,ai,ah,r3];refine bR.lO rfl ?_;simp(disch:=omega)[frv,frq,fre,frc,sgb,o0_there frb3];repeat refine asi ?_
 exact frstep hC (TU H) frb3 [0,1,2,3,4]
theorem Qa(H:FH p n m N C R):bR awW C aI CG (frS p n m N 4 3 1 1) R:=by
 have⟨hC,hp,hN,_⟩:=H;unfold CG frS aI;simp only[aE,axs,ate,ai,ah,r3];refine bR.lO rfl ?_;simp(disch:=omega)[frv,frq,fre,frc,sgb,o0_there frb2];repeat refine asi ?_
 exact frstep hC (RI H) frb2 [0,1,2,3,4]
theorem akg(H:FH p n m N C R):bR awW C aI JS (frS p n m N 4 4 3 1) R:=by
 have⟨hC,hp,hN,_⟩:=H;unfold JS frS aI;simp only[aE,axs,ate,ai,ah,r3];refine bR.lO rfl ?_;simp(disch:=omega)[frv,frq,fre,frc,sgb,o0_there frb1];repeat refine asi ?_
 exact frstep hC (SO H) frb1 [0,1,2,3,4]
theorem ah0(H:FH p n m N C R):bR awW C aI JB (frS p n m N 4 4 4 0) R:=by
 have⟨hC,hp,hN,_⟩:=H;unfold JB frS aI;simp only[aE,axs,ate,ai,ah,r3];refine bR.lO rfl ?_;simp(disch:=omega)[frv,frq,fre,frc,sgb,o0_there frb1];repeat refine asi ?_
 exact frstep hC (SO H) frb1 [0,1,2,3,4]
theorem TG(H:FH p n m N C R):bR awW C aI Eb (frS p n m N 4 4 1 0) R:=by
 have⟨hC,hp,hN,_⟩:=H;unfold Eb frS aI;simp only[aE,axs,ate,ai,ah,r3];refine bR.qO rfl hp ?_;simp(disch:=omega)[frv,frq,fre,frc,sgb];refine bR.qO rfl hp ?_;simp(disch:=omega)[];refine bR.iV ?_;refine ba.aY rfl ?_ ?_
 ·simp(disch:=omega)[o0_there frb6];repeat refine asi ?_
  exact frstep hC (akg H) frb6 [0,1,2,3,4]
 refine ba.aY rfl ?_ ?_
 ·simp(disch:=omega)[o0_there frb7];repeat refine asi ?_
  exact frstep hC (ah0 H) frb7 [0,1,2,3]
 exact ba.stop
theorem To(H:FH p n m N C R):bR awW C aI C3 (frS p n m N 4 1 1 0) R:=by
 have⟨hC,hp,hN,_⟩:=H;unfold C3 frS aI;simp only[aE,axs,ate,ai,ah,r3];refine bR.qO rfl hp ?_;simp(disch:=omega)[frv,frq,fre,frc,sgb];refine bR.qO rfl hp ?_;simp(disch:=omega)[];refine bR.iV ?_;refine ba.aY rfl ?_ ?_
 ·simp(disch:=omega)[o0_there frb5];repeat refine asi ?_
  exact frstep hC (Qa H) frb5 [0,1,2,3,4]
 refine ba.aY rfl ?_ ?_
 ·simp(disch:=omega)[o0_there frb8];repeat refine asi ?_
  exact frstep hC (TG H) frb8 [0,1,2,3]
 exact ba.stop
theorem Ip(H:FH p n m N C R):bR awW C aI tX (frS p n m N 3 1 1 0) R:=by
 have⟨hC,hp,hN,_⟩:=H;unfold tX frS aI;simp only[aE,axs,ate,ai,ah,r3];refine bR.iV ?_;refine ba.aY rfl ?_ ?_
 ·simp(disch:=omega)[frv,frq,fre,frc,sgb,o0_there frb4];repeat refine asi ?_
  exact frstep hC (Jz H) frb4 [0,1,2,3,4]
 refine ba.aY rfl ?_ ?_
 ·simp(disch:=omega)[frv,frq,fre,frc,sgb,o0_there frb9];repeat refine asi ?_
  exact frstep hC (To H) frb9 [0,1,2,3]
 exact ba.stop
theorem K6(H:FH p n m N C R):bR awW C aI vG (frS p n m N 4 4 0 1) R:=by
 have⟨hC,hp,hN,_⟩:=H;unfold vG frS aI;simp only[aE,axs,ate,ai,ah,r3];refine bR.lO rfl ?_;simp(disch:=omega)[frv,frq,fre,frc,sgb,o0_there frb2];repeat refine asi ?_
 exact frstep hC (RI H) frb2 [0,1,2,4,3]
theorem Ku(H:FH p n m N C R):bR awW C aI vN (frS p n m N 4 1 0 1) R:=by
 have⟨hC,hp,hN,_⟩:=H;unfold vN frS aI;simp only[aE,axs,ate,ai,ah,r3];refine bR.qO rfl hp ?_;simp(disch:=omega)[frv,frq,fre,frc,sgb];refine bR.qO rfl hp ?_;simp(disch:=omega)[];refine bR.iV ?_;refine ba.aY rfl ?_ ?_
 ·simp(disch:=omega)[o0_there frb5];repeat refine asi ?_
  exact frstep hC (Qa H) frb5 [0,1,2,4,3]
 refine ba.aY rfl ?_ ?_
 ·simp(disch:=omega)[o0_there frb11];repeat refine asi ?_
  exact frstep hC (K6 H) frb11 [0,1,2,3]
 exact ba.stop
theorem Ie(H:FH p n m N C R):bR awW C aI tY (frS p n m N 3 1 0 1) R:=by
 have⟨hC,hp,hN,_⟩:=H;unfold tY frS aI;simp only[aE,axs,ate,ai,ah,r3];refine bR.iV ?_;refine ba.aY rfl ?_ ?_
 ·simp(disch:=omega)[frv,frq,fre,frc,sgb,o0_there frb4];repeat refine asi ?_
  exact frstep hC (Jz H) frb4 [0,1,2,4,3]
 refine ba.aY rfl ?_ ?_
 ·simp(disch:=omega)[frv,frq,fre,frc,sgb,o0_there frb12];repeat refine asi ?_
  exact frstep hC (Ku H) frb12 [0,1,2,3]
 exact ba.stop
theorem W4(H:FH p n m N C R):bR awW C aI Aq (frS p n m N 4 3 1 0) R:=by
 have⟨hC,hp,hN,_⟩:=H;unfold Aq frS aI;simp only[aE,axs,ate,ai,ah,r3];refine bR.iV ?_;refine ba.aY rfl ?_ ?_
 ·simp(disch:=omega)[frv,frq,fre,frc,sgb,o0_there frb5];repeat refine asi ?_
  exact frstep hC (Qa H) frb5 [0,1,2,3,4]
 refine ba.aY rfl ?_ ?_
 ·simp(disch:=omega)[frv,frq,fre,frc,sgb,o0_there frb8];repeat refine asi ?_
  exact frstep hC (TG H) frb8 [0,1,2,3]
 exact ba.stop
theorem acv(H:FH p n m N C R):bR awW C aI Ax (frS p n m N 4 3 0 1) R:=by
 have⟨hC,hp,hN,_⟩:=H;unfold Ax frS aI;simp only[aE,axs,ate,ai,ah,r3];refine bR.iV ?_;refine ba.aY rfl ?_ ?_
 ·simp(disch:=omega)[frv,frq,fre,frc,sgb,o0_there frb5];repeat refine asi ?_
  exact frstep hC (Qa H) frb5 [0,1,2,4,3]
 refine ba.aY rfl ?_ ?_
 ·simp(disch:=omega)[frv,frq,fre,frc,sgb,o0_there frb11];repeat refine asi ?_
  exact frstep hC (K6 H) frb11 [0,1,2,3]
 exact ba.stop
theorem Xg(H:FH p n m N C R):bR awW C aI A5 (frS p n m N 4 4 0 0) R:=by
 have⟨hC,hp,hN,_⟩:=H;unfold A5 frS aI;simp only[aE,axs,ate,ai,ah,r3];refine bR.iV ?_;refine ba.aY rfl ?_ ?_
 ·simp(disch:=omega)[frv,frq,fre,frc,sgb,o0_there frb8];repeat refine asi ?_
  exact frstep hC (TG H) frb8 [0,1,2,3]
 refine ba.aY rfl ?_ ?_
 ·simp(disch:=omega)[frv,frq,fre,frc,sgb,o0_there frb11];repeat refine asi ?_
  exact frstep hC (K6 H) frb11 [0,1,2,3]
 exact ba.stop
theorem NC(H:FH p n m N C R):bR awW C aI vv (frS p n m N 4 1 0 0) R:=by
 have⟨hC,hp,hN,_⟩:=H;unfold vv frS aI;simp only[aE,axs,ate,ai,ah,r3];refine bR.qO rfl hp ?_;simp(disch:=omega)[frv,frq,fre,frc,sgb];refine bR.qO rfl hp ?_;simp(disch:=omega)[];refine bR.iV ?_;refine ba.aY rfl ?_ ?_
 ·simp(disch:=omega)[o0_there frb14];repeat refine asi ?_
  exact frstep hC (W4 H) frb14 [0,1,2,3]
 refine ba.aY rfl ?_ ?_
 ·simp(disch:=omega)[o0_there frb15];repeat refine asi ?_
  exact frstep hC (acv H) frb15 [0,1,2,3]
 refine ba.aY rfl ?_ ?_
 ·simp(disch:=omega)[o0_there frb16];repeat refine asi ?_
  exact frstep hC (Xg H) frb16 [0,1,2]
 exact ba.stop
theorem aau(H:FH p n m N C R):bR awW C aI Ay (frS p n m N 3 1 0 0) R:=by
 have⟨hC,hp,hN,_⟩:=H;unfold Ay frS aI;simp only[aE,axs,ate,ai,ah,r3];refine bR.iV ?_;refine ba.aY rfl ?_ ?_
 ·simp(disch:=omega)[frv,frq,fre,frc,sgb,o0_there frb10];repeat refine asi ?_
  exact frstep hC (Ip H) frb10 [0,1,2,3]
 refine ba.aY rfl ?_ ?_
 ·simp(disch:=omega)[frv,frq,fre,frc,sgb,o0_there frb13];repeat refine asi ?_
  exact frstep hC (Ie H) frb13 [0,1,2,3]
 refine ba.aY rfl ?_ ?_
 ·simp(disch:=omega)[frv,frq,fre,frc,sgb,o0_there frb17];repeat refine asi ?_
  exact frstep hC (NC H) frb17 [0,1,2]
 exact ba.stop
theorem HY(H:FH p n m N C R):bR awW C aI sJ (frS p n m N 4 0 1 1) R:=by
 have⟨hC,hp,hN,_⟩:=H;unfold sJ frS aI;simp only[aE,axs,ate,ai,ah,r3];refine bR.lO rfl ?_;simp(disch:=omega)[frv,frq,fre,frc,sgb,o0_there frb3];repeat refine asi ?_
 exact frstep hC (TU H) frb3 [0,1,4,2,3]
theorem IX(H:FH p n m N C R):bR awW C aI sA (frS p n m N 3 0 1 1) R:=by
 have⟨hC,hp,hN,_⟩:=H;unfold sA frS aI;simp only[aE,axs,ate,ai,ah,r3];refine bR.iV ?_;refine ba.aY rfl ?_ ?_
 ·simp(disch:=omega)[frv,frq,fre,frc,sgb,o0_there frb4];repeat refine asi ?_
  exact frstep hC (Jz H) frb4 [0,1,4,2,3]
 refine ba.aY rfl ?_ ?_
 ·simp(disch:=omega)[frv,frq,fre,frc,sgb,o0_there frb19];repeat refine asi ?_
  exact frstep hC (HY H) frb19 [0,1,2,3]
 exact ba.stop
theorem Mn(H:FH p n m N C R):bR awW C aI vz (frS p n m N 4 0 1 0) R:=by
 have⟨hC,hp,hN,_⟩:=H;unfold vz frS aI;simp only[aE,axs,ate,ai,ah,r3];refine bR.iV ?_;refine ba.aY rfl ?_ ?_
 ·simp(disch:=omega)[frv,frq,fre,frc,sgb,o0_there frb9];repeat refine asi ?_
  exact frstep hC (To H) frb9 [0,1,3,2]
 refine ba.aY rfl ?_ ?_
 ·simp(disch:=omega)[frv,frq,fre,frc,sgb,o0_there frb19];repeat refine asi ?_
  exact frstep hC (HY H) frb19 [0,1,2,3]
 exact ba.stop
theorem Zm(H:FH p n m N C R):bR awW C aI AK (frS p n m N 3 0 1 0) R:=by
 have⟨hC,hp,hN,_⟩:=H;unfold AK frS aI;simp only[aE,axs,ate,ai,ah,r3];refine bR.iV ?_;refine ba.aY rfl ?_ ?_
 ·simp(disch:=omega)[frv,frq,fre,frc,sgb,o0_there frb10];repeat refine asi ?_
  exact frstep hC (Ip H) frb10 [0,1,3,2]
 refine ba.aY rfl ?_ ?_
 ·simp(disch:=omega)[frv,frq,fre,frc,sgb,o0_there frb20];repeat refine asi ?_
  exact frstep hC (IX H) frb20 [0,1,2,3]
 refine ba.aY rfl ?_ ?_
 ·simp(disch:=omega)[frv,frq,fre,frc,sgb,o0_there frb21];repeat refine asi ?_
  exact frstep hC (Mn H) frb21 [0,1,2]
 exact ba.stop
theorem Ld(H:FH p n m N C R):bR awW C aI vX (frS p n m N 4 0 0 1) R:=by
 have⟨hC,hp,hN,_⟩:=H;unfold vX frS aI;simp only[aE,axs,ate,ai,ah,r3];refine bR.iV ?_;refine ba.aY rfl ?_ ?_
 ·simp(disch:=omega)[frv,frq,fre,frc,sgb,o0_there frb12];repeat refine asi ?_
  exact frstep hC (Ku H) frb12 [0,1,3,2]
 refine ba.aY rfl ?_ ?_
 ·simp(disch:=omega)[frv,frq,fre,frc,sgb,o0_there frb19];repeat refine asi ?_
  exact frstep hC (HY H) frb19 [0,1,3,2]
 exact ba.stop
theorem aar(H:FH p n m N C R):bR awW C aI AQ (frS p n m N 3 0 0 1) R:=by
 have⟨hC,hp,hN,_⟩:=H;unfold AQ frS aI;simp only[aE,axs,ate,ai,ah,r3];refine bR.iV ?_;refine ba.aY rfl ?_ ?_
 ·simp(disch:=omega)[frv,frq,fre,frc,sgb,o0_there frb13];repeat refine asi ?_
  exact frstep hC (Ie H) frb13 [0,1,3,2]
 refine ba.aY rfl ?_ ?_
 ·simp(disch:=omega)[frv,frq,fre,frc,sgb,o0_there frb20];repeat refine asi ?_
  exact frstep hC (IX H) frb20 [0,1,3,2]
 refine ba.aY rfl ?_ ?_
 ·simp(disch:=omega)[frv,frq,fre,frc,sgb,o0_there frb23];repeat refine asi ?_
  exact frstep hC (Ld H) frb23 [0,1,2]
 exact ba.stop
theorem abS(H:FH p n m N C R):bR awW C aI Aj (frS p n m N 4 0 0 0) R:=by
 have⟨hC,hp,hN,_⟩:=H;unfold Aj frS aI;simp only[aE,axs,ate,ai,ah,r3];refine bR.iV ?_;refine ba.aY rfl ?_ ?_
 ·simp(disch:=omega)[frv,frq,fre,frc,o0_there frb17];repeat refine asi ?_
  exact frstep hC (NC H) frb17 [0,1,2]
 refine ba.aY rfl ?_ ?_
 ·simp(disch:=omega)[frv,frq,fre,frc,o0_there frb21];repeat refine asi ?_
  exact frstep hC (Mn H) frb21 [0,1,2]
 refine ba.aY rfl ?_ ?_
 ·simp(disch:=omega)[frv,frq,fre,frc,o0_there frb23];repeat refine asi ?_
  exact frstep hC (Ld H) frb23 [0,1,2]
 exact ba.stop
theorem X7(H:FH p n m N C R):bR awW C aI AU (frS p n m N 1 0 0 0) R:=by
 have⟨hC,hp,hN,_⟩:=H;unfold AU frS aI;simp only[aE,axs,ate,ai,ah,r3];refine bR.qO rfl hp ?_;simp(disch:=omega)[frv,frq,fre,frc];refine bR.qO rfl hp ?_;simp(disch:=omega)[];refine bR.iV ?_;refine ba.aY rfl ?_ ?_
 ·simp(disch:=omega)[o0_there frb18];repeat refine asi ?_
  exact frstep hC (aau H) frb18 [0,1,2]
 refine ba.aY rfl ?_ ?_
 ·simp(disch:=omega)[o0_there frb22];repeat refine asi ?_
  exact frstep hC (Zm H) frb22 [0,1,2]
 refine ba.aY rfl ?_ ?_
 ·simp(disch:=omega)[o0_there frb24];repeat refine asi ?_
  exact frstep hC (aar H) frb24 [0,1,2]
 refine ba.aY rfl ?_ ?_
 ·simp(disch:=omega)[o0_there frb25];repeat refine asi ?_
  exact frstep hC (abS H) frb25 [0,1]
 exact ba.stop
theorem acM(H:FH p n m N C R):bR awW C aI Bf (frS p n m N 1 1 0 0) R:=by
 have⟨hC,hp,hN,_⟩:=H;unfold Bf frS aI;simp only[aE,axs,ate,ai,ah,r3];refine bR.qO rfl hp ?_;simp(disch:=omega)[frv,frq,fre,frc,sgb];refine bR.qO rfl hp ?_;simp(disch:=omega)[];refine bR.iV ?_;refine ba.aY rfl ?_ ?_
 ·simp(disch:=omega)[o0_there frb10];repeat refine asi ?_
  exact frstep hC (Ip H) frb10 [0,1,2,3]
 refine ba.aY rfl ?_ ?_
 ·simp(disch:=omega)[o0_there frb13];repeat refine asi ?_
  exact frstep hC (Ie H) frb13 [0,1,2,3]
 refine ba.aY rfl ?_ ?_
 ·simp(disch:=omega)[o0_there frb17];repeat refine asi ?_
  exact frstep hC (NC H) frb17 [0,1,2]
 exact ba.stop
theorem Z0(H:FH p n m N C R):bR awW C aI Bh (frS p n m N 1 1 1 0) R:=by
 have⟨hC,hp,hN,_⟩:=H;unfold Bh frS aI;simp only[aE,axs,ate,ai,ah,r3];refine bR.qO rfl hp ?_;simp(disch:=omega)[frv,frq,fre,frc,sgb];refine bR.qO rfl hp ?_;simp(disch:=omega)[];refine bR.iV ?_;refine ba.aY rfl ?_ ?_
 ·simp(disch:=omega)[o0_there frb4];repeat refine asi ?_
  exact frstep hC (Jz H) frb4 [0,1,2,3,4]
 refine ba.aY rfl ?_ ?_
 ·simp(disch:=omega)[o0_there frb9];repeat refine asi ?_
  exact frstep hC (To H) frb9 [0,1,2,3]
 exact ba.stop
theorem W8(H:FH p n m N C R):bR awW C aI A4 (frS p n m N 1 1 1 1) R:=by
 have⟨hC,hp,hN,_⟩:=H;unfold A4 frS aI;simp only[aE,axs,ate,ai,ah,r3];refine bR.qO rfl hp ?_;simp(disch:=omega)[frv,frq,fre,frc,sgb];refine bR.qO rfl hp ?_;simp(disch:=omega)[];refine bR.lO rfl ?_;simp(disch:=omega)[o0_there frb3];repeat refine asi ?_
 exact frstep hC (TU H) frb3 [0,1,2,3,4]
theorem LV(H:FH p n m N C R):bR awW C aI vL (frS p n m N 0 1 1 1) R:=by
 have⟨hC,hp,hN,_⟩:=H;unfold vL frS aI;simp only[aE,axs,ate,ai,ah,r3];refine bR.lO rfl ?_;simp(disch:=omega)[frv,frq,fre,frc,sgb,o0_there frb29];repeat refine asi ?_
 exact frstep hC (W8 H) frb29 [0,4,1,2,3]
theorem Q9(H:FH p n m N C R):bR awW C aI y3 (frS p n m N 0 1 1 0) R:=by
 have⟨hC,hp,hN,_⟩:=H;unfold y3 frS aI;simp only[aE,axs,ate,ai,ah,r3];refine bR.iV ?_;refine ba.aY rfl ?_ ?_
 ·simp(disch:=omega)[frv,frq,fre,frc,sgb,o0_there frb28];repeat refine asi ?_
  exact frstep hC (Z0 H) frb28 [0,3,1,2]
 refine ba.aY rfl ?_ ?_
 ·simp(disch:=omega)[frv,frq,fre,frc,sgb,o0_there frb30];repeat refine asi ?_
  exact frstep hC (LV H) frb30 [0,1,2,3]
 exact ba.stop
theorem abF(H:FH p n m N C R):bR awW C aI AX (frS p n m N 1 1 0 1) R:=by
 have⟨hC,hp,hN,_⟩:=H;unfold AX frS aI;simp only[aE,axs,ate,ai,ah,r3];refine bR.qO rfl hp ?_;simp(disch:=omega)[frv,frq,fre,frc,sgb];refine bR.qO rfl hp ?_;simp(disch:=omega)[];refine bR.iV ?_;refine ba.aY rfl ?_ ?_
 ·simp(disch:=omega)[o0_there frb4];repeat refine asi ?_
  exact frstep hC (Jz H) frb4 [0,1,2,4,3]
 refine ba.aY rfl ?_ ?_
 ·simp(disch:=omega)[o0_there frb12];repeat refine asi ?_
  exact frstep hC (Ku H) frb12 [0,1,2,3]
 exact ba.stop
theorem Qu(H:FH p n m N C R):bR awW C aI zp (frS p n m N 0 1 0 1) R:=by
 have⟨hC,hp,hN,_⟩:=H;unfold zp frS aI;simp only[aE,axs,ate,ai,ah,r3];refine bR.iV ?_;refine ba.aY rfl ?_ ?_
 ·simp(disch:=omega)[frv,frq,fre,frc,sgb,o0_there frb32];repeat refine asi ?_
  exact frstep hC (abF H) frb32 [0,3,1,2]
 refine ba.aY rfl ?_ ?_
 ·simp(disch:=omega)[frv,frq,fre,frc,sgb,o0_there frb30];repeat refine asi ?_
  exact frstep hC (LV H) frb30 [0,1,3,2]
 exact ba.stop
theorem abL(H:FH p n m N C R):bR awW C aI AG (frS p n m N 0 1 0 0) R:=by
 have⟨hC,hp,hN,_⟩:=H;unfold AG frS aI;simp only[aE,axs,ate,ai,ah,r3];refine bR.iV ?_;refine ba.aY rfl ?_ ?_
 ·simp(disch:=omega)[frv,frq,fre,frc,sgb,o0_there frb27];repeat refine asi ?_
  exact frstep hC (acM H) frb27 [0,2,1]
 refine ba.aY rfl ?_ ?_
 ·simp(disch:=omega)[frv,frq,fre,frc,sgb,o0_there frb31];repeat refine asi ?_
  exact frstep hC (Q9 H) frb31 [0,1,2]
 refine ba.aY rfl ?_ ?_
 ·simp(disch:=omega)[frv,frq,fre,frc,sgb,o0_there frb33];repeat refine asi ?_
  exact frstep hC (Qu H) frb33 [0,1,2]
 exact ba.stop
theorem YT(H:FH p n m N C R):bR awW C aI A9 (frS p n m N 1 0 1 0) R:=by
 have⟨hC,hp,hN,_⟩:=H;unfold A9 frS aI;simp only[aE,axs,ate,ai,ah,r3];refine bR.qO rfl hp ?_;simp(disch:=omega)[frv,frq,fre,frc,sgb];refine bR.qO rfl hp ?_;simp(disch:=omega)[];refine bR.iV ?_;refine ba.aY rfl ?_ ?_
 ·simp(disch:=omega)[o0_there frb10];repeat refine asi ?_
  exact frstep hC (Ip H) frb10 [0,1,3,2]
 refine ba.aY rfl ?_ ?_
 ·simp(disch:=omega)[o0_there frb20];repeat refine asi ?_
  exact frstep hC (IX H) frb20 [0,1,2,3]
 refine ba.aY rfl ?_ ?_
 ·simp(disch:=omega)[o0_there frb21];repeat refine asi ?_
  exact frstep hC (Mn H) frb21 [0,1,2]
 exact ba.stop
theorem aa6(H:FH p n m N C R):bR awW C aI Ak (frS p n m N 1 0 1 1) R:=by
 have⟨hC,hp,hN,_⟩:=H;unfold Ak frS aI;simp only[aE,axs,ate,ai,ah,r3];refine bR.qO rfl hp ?_;simp(disch:=omega)[frv,frq,fre,frc,sgb];refine bR.qO rfl hp ?_;simp(disch:=omega)[];refine bR.iV ?_;refine ba.aY rfl ?_ ?_
 ·simp(disch:=omega)[o0_there frb4];repeat refine asi ?_
  exact frstep hC (Jz H) frb4 [0,1,4,2,3]
 refine ba.aY rfl ?_ ?_
 ·simp(disch:=omega)[o0_there frb19];repeat refine asi ?_
  exact frstep hC (HY H) frb19 [0,1,2,3]
 exact ba.stop
theorem Rh(H:FH p n m N C R):bR awW C aI xY (frS p n m N 0 0 1 1) R:=by
 have⟨hC,hp,hN,_⟩:=H;unfold xY frS aI;simp only[aE,axs,ate,ai,ah,r3];refine bR.iV ?_;refine ba.aY rfl ?_ ?_
 ·simp(disch:=omega)[frv,frq,fre,frc,sgb,o0_there frb36];repeat refine asi ?_
  exact frstep hC (aa6 H) frb36 [0,3,1,2]
 refine ba.aY rfl ?_ ?_
 ·simp(disch:=omega)[frv,frq,fre,frc,sgb,o0_there frb30];repeat refine asi ?_
  exact frstep hC (LV H) frb30 [0,3,1,2]
 exact ba.stop
theorem X2(H:FH p n m N C R):bR awW C aI At (frS p n m N 0 0 1 0) R:=by
 have⟨hC,hp,hN,_⟩:=H;unfold At frS aI;simp only[aE,axs,ate,ai,ah,r3];refine bR.iV ?_;refine ba.aY rfl ?_ ?_
 ·simp(disch:=omega)[frv,frq,fre,frc,sgb,o0_there frb35];repeat refine asi ?_
  exact frstep hC (YT H) frb35 [0,2,1]
 refine ba.aY rfl ?_ ?_
 ·simp(disch:=omega)[frv,frq,fre,frc,sgb,o0_there frb31];repeat refine asi ?_
  exact frstep hC (Q9 H) frb31 [0,2,1]
 refine ba.aY rfl ?_ ?_
 ·simp(disch:=omega)[frv,frq,fre,frc,sgb,o0_there frb37];repeat refine asi ?_
  exact frstep hC (Rh H) frb37 [0,1,2]
 exact ba.stop
theorem ZV(H:FH p n m N C R):bR awW C aI AV (frS p n m N 1 0 0 1) R:=by
 have⟨hC,hp,hN,_⟩:=H;unfold AV frS aI;simp only[aE,axs,ate,ai,ah,r3];refine bR.qO rfl hp ?_;simp(disch:=omega)[frv,frq,fre,frc,sgb];refine bR.qO rfl hp ?_;simp(disch:=omega)[];refine bR.iV ?_;refine ba.aY rfl ?_ ?_
 ·simp(disch:=omega)[o0_there frb13];repeat refine asi ?_
  exact frstep hC (Ie H) frb13 [0,1,3,2]
 refine ba.aY rfl ?_ ?_
 ·simp(disch:=omega)[o0_there frb20];repeat refine asi ?_
  exact frstep hC (IX H) frb20 [0,1,3,2]
 refine ba.aY rfl ?_ ?_
 ·simp(disch:=omega)[o0_there frb23];repeat refine asi ?_
  exact frstep hC (Ld H) frb23 [0,1,2]
 exact ba.stop
theorem ace(H:FH p n m N C R):bR awW C aI Av (frS p n m N 0 0 0 1) R:=by
 have⟨hC,hp,hN,_⟩:=H;unfold Av frS aI;simp only[aE,axs,ate,ai,ah,r3];refine bR.iV ?_;refine ba.aY rfl ?_ ?_
 ·simp(disch:=omega)[frv,frq,fre,frc,sgb,o0_there frb39];repeat refine asi ?_
  exact frstep hC (ZV H) frb39 [0,2,1]
 refine ba.aY rfl ?_ ?_
 ·simp(disch:=omega)[frv,frq,fre,frc,sgb,o0_there frb33];repeat refine asi ?_
  exact frstep hC (Qu H) frb33 [0,2,1]
 refine ba.aY rfl ?_ ?_
 ·simp(disch:=omega)[frv,frq,fre,frc,sgb,o0_there frb37];repeat refine asi ?_
  exact frstep hC (Rh H) frb37 [0,2,1]
 exact ba.stop
theorem YO(H:FH p n m N C R):bR awW C aI AP (frS0 p n m N) R:=by
 have⟨hC,hp,hN,_⟩:=H;unfold AP frS0 aI;simp only[aE,axs,ate,ai,ah,r3];refine bR.qO rfl hp ?_;simp(disch:=omega)[];refine bR.qO rfl hp ?_;simp(disch:=omega)[];refine bR.qO rfl hp ?_;simp(disch:=omega)[];refine bR.qO rfl hp ?_;simp(disch:=omega)[];refine bR.qO rfl hp ?_;simp(disch:=omega)[];refine bR.qO rfl hp ?_;simp(disch:=omega)[];refine bR.qO rfl hp ?_;simp(disch:=omega)[];refine bR.qO rfl hp ?_;simp(disch:=omega)[];refine bR.iV ?_;refine ba.aY rfl ?_ ?_
 ·simp(disch:=omega)[o0_there frb26];repeat refine asi ?_
  exact frstep hC (X7 H) frb26 [0,1]
 refine ba.aY rfl ?_ ?_
 ·simp(disch:=omega)[o0_there frb34];repeat refine asi ?_
  exact frstep hC (abL H) frb34 [0,1]
 refine ba.aY rfl ?_ ?_
 ·simp(disch:=omega)[o0_there frb38];repeat refine asi ?_
  exact frstep hC (X2 H) frb38 [0,1]
 refine ba.aY rfl ?_ ?_
 ·simp(disch:=omega)[o0_there frb40];repeat refine asi ?_
  exact frstep hC (ace H) frb40 [0,1]
 exact ba.stop
theorem Oi:(Region.noSelect aI&&(ax aI (Array.replicate aI.size false) AP&&decide (AP.len<=aI.size)))=true:=by rw[atl,atl];exact⟨by kernel_rfl,aw Y1 (by kernel_rfl),by kernel_rfl⟩
end Go.Proofs


/- A text of the prover's own. -/
import Derived.Test.YtnimjdcaajmfcaaGreatDoorVSi
open List renaming replicate->awQ,all_eq_true->ayG,mem_append->ayp
open Go.Proofs.Tryz renaming f77->aB0,prog->ay9
open Bool renaming and_eq_true->ayt
open Option renaming getD_some->ayj
namespace Go.Sx
open Go Go.Sv Go.Pl Go.Proofs Go.Tb Go.Ut Go.Mx Go.Li Go.Dt
def zi(N:Nat):List SV:=awQ N (.val (.int .i64 0))
def zr(N:Nat):List SV:=awQ N (.agg [.val (.bool false),.val (.slice none 0 0),.val (.bool false),.val (.slice none 0 0)])
theorem FD{σ:Nat->Nat}{N:Nat}{x:SV}(h:gJ σ x=x):dW σ (awQ N x)=awQ N x:=by
 induction N with
 | zero=>simp
 | succ n ih=>simp only[List.replicate_succ,oU,ih,h]
theorem S6{σ:Nat->Nat}{N:Nat}{v:Value}:dW σ (awQ N (.val v))=awQ N (.val v):=FD (by simp)
theorem Sm{σ:Nat->Nat}{N:Nat}:dW σ (awQ N (.agg [.val (.bool false),.val (.slice none 0 0),.val (.bool false),.val (.slice none 0 0)]))=awQ N (.agg [.val (.bool false),.val (.slice none 0 0),.val (.bool false),.val (.slice none 0 0)]):=FD (by simp)
end Go.Sx
namespace Go.Proofs
open Go.Sv Go Go.Tb Go.Pl Go.Ut Go.Mx Go.Li Go.Dt Go.Sx
noncomputable def aF:Code:=aB0.body.getD .skip
def r3:Code->Array Oper
 | .region _ o _=>o
 | .seq x _=>r3 x
 | _=>#[]
noncomputable def aJ:Array Oper:=r3 (bh 3 aF)
def frl(k:Nat):Array Bool:=((List.range 24).map λi=>k.testBit i).toArray
def sgb(k:Nat):Nat:=if k=0 then 0 else 1
def frv(N k t i:Nat):List (Nat × SV):=if k=0 then[] else[(t,.view i 0 N)]
def frq(k t o:Nat):List (Nat × SV):=if k<3 then[] else[(t,.ptr 0 0 0),(t+1,.ptr 0 0 o)]
def fre(k z:Nat)(l:List SV):aC:=if k=0 then[] else[some ⟨z,l,false⟩]
def frc(N k i:Nat):SV:=if k=4 then .view i 0 N else .val (.slice none 0 0)
def frS(p:aB)(n m N a b c d:Nat):St:=⟨217,[(0,.dG (bS p) 0),(3,.ptr 0 0 0),(4,iv N),(34,.ptr 0 0 0),(35,.ptr 0 0 0),(36,.ptr 0 0 0),(37,.ptr 0 0 0),(38,iv N),(40,iv N),(42,iv N),(44,iv N)]++(frq a 46 6++(frq b 48 7++(frq c 50 9++(frq d 52 5++(frv N a 39 1++(frv N b 41 (1+sgb a)++(frv N c 43 (1+sgb a+sgb b)++frv N d 45 (1+sgb a+sgb b+sgb c)))))))),
 some ⟨11,[.agg [.dG (bS p) 0,iv n,iv m,.val (.slice none 0 0),.val (.slice none 0 0),frc N d (1+sgb a+sgb b+sgb c),frc N a 1,frc N b (1+sgb a),.val (.slice none 0 0),frc N c (1+sgb a+sgb b),.val (.slice none 0 0)]],false⟩::(fre a 1 (zi N)++(fre b 4 (zr N)++(fre c 1 (zi N)++fre d 4 (zr N))))⟩
def frS0(p:aB)(n m N:Nat):St:=⟨217,[(0,.dG (bS p) 0),(3,.ptr 0 0 0),(4,iv N)],[some ⟨11,[.agg [.dG (bS p) 0,iv n,iv m,.val (.slice none 0 0),.val (.slice none 0 0),.val (.slice none 0 0),.val (.slice none 0 0),.val (.slice none 0 0),.val (.slice none 0 0),.val (.slice none 0 0),.val (.slice none 0 0)]],false⟩]⟩
def o0:Pl->Bool
 | .nil=>true
 | .stop=>true
 | .q _ _ r=>o0 r
 | .l _ ks r=>ks.all (·==0)&&o0 r
 | .alt _ ks r p=>ks.all (·==0)&&(o0 r&&o0 p)
 | .m _ _ _ _ _ _=>false
theorem o0_Y:∀{pl:Pl},o0 pl=true->∀j,∀k∈pl.Y j,k=0
 | .nil,_,j,k,h=>by simp[Pl.Y]at h
 | .stop,_,j,k,h=>by simp[Pl.Y]at h
 | .q _ _ r,e,j,k,h=>o0_Y (pl:=r) e j k h
 | .l _ ks r,e,j,k,h=>by
  simp only[o0,ayt,ayG,beq_iff_eq]at e;simp only[Pl.Y,ayp,one]at h;rcases h with h | h
  ·split at h
   ·exact e.1 k h
   ·simp at h
  ·exact o0_Y e.2 j k h
 | .alt _ ks r p,e,j,k,h=>by
  simp only[o0,ayt,ayG,beq_iff_eq]at e;simp only[Pl.Y,ayp,one]at h;rcases h with h | h | h
  ·split at h
   ·exact e.1 k h
   ·simp at h
  ·exact o0_Y e.2.1 j k h
  ·exact o0_Y e.2.2 j k h
theorem o0_there{x:cJ}{M:aC}:∀{pl:Pl},o0 pl=true->Pl.there (some x::M) pl=True
 | .nil,_=>rfl
 | .stop,_=>rfl
 | .q _ _ r,e=>o0_there (pl:=r) e
 | .l _ ks r,e=>by simp only[o0,ayt,ayG,beq_iff_eq]at e;simp only[Pl.there,o0_there e.2,and_true,eq_iff_iff,iff_true];exact .inr λk hk=>by rw[e.1 k hk];simp[aA]
 | .alt _ ks r p,e=>by simp only[o0,ayt,ayG,beq_iff_eq]at e;simp only[Pl.there,o0_there e.2.1,o0_there e.2.2,and_true,eq_iff_iff,iff_true];exact .inr λk hk=>by rw[e.1 k hk];simp[aA]
theorem plOK_q{ops:Array Oper}{L:Array Bool}{i:Nat}{ks:List Nat}{r:Pl}(h2:ay ops (L.setIfInBounds i true) r=true)(h1:Vr ops L i ks r.Y=true:=by kernel_rfl):ay ops L (.q i ks r)=true:=bJ h1 h2
theorem plOK_l{ops:Array Oper}{L L':Array Bool}{i:Nat}{ks:List Nat}{r:Pl}(h2:ay ops L' r=true)(h1:(Region.ready .any ops L==[i])=true:=by kernel_rfl)(e:L.setIfInBounds i true=L':=by kernel_rfl):ay ops L (.l i ks r)=true:=dT h1 (aw h2 e)
theorem plOK_alt{ops:Array Oper}{L:Array Bool}{i:Nat}{ks:List Nat}{r p:Pl}(h2:jJ ops L (.alt i ks r p)=true)(h1:(Region.ready .any ops L==i::p.s7)=true:=by kernel_rfl):ay ops L (.alt i ks r p)=true:=bH h1 h2
theorem alOK_c{ops:Array Oper}{L L':Array Bool}{i:Nat}{ks:List Nat}{r p:Pl}(h1:ay ops L' r=true)(h2:jJ ops L p=true)(e:L.setIfInBounds i true=L':=by kernel_rfl):jJ ops L (.alt i ks r p)=true:=aT (aw h1 e) h2
theorem altOK_stop{ops:Array Oper}{L:Array Bool}:jJ ops L .stop=true:=rfl
structure FH(p:aB)(n m N:Nat)(C:Ctx)(R:bf):Prop where
 c:C.fx=[]
 np:∀c st,¬R (.panic c) st
 h:N<=14
 r:R .normal (frS p n m N 4 4 4 4)
variable {p:aB} {n m N:Nat} {C:Ctx} {R:bf}
theorem frstep{ops:Array Oper}(hC:C.fx=[]){st st':St}{pl:Pl}(h:cj ay9 C ops pl st' R)(ho:o0 pl=true)(l:List Nat)(h1:(∀a,a<l.length->∀b,b<l.length->l.getD a 0=l.getD b 0->a=b)∧Kr l 0=0:=by decide)
  (e:st.n=st'.n∧st.M.length=l.length∧st'.M.length=l.length∧st'.M.map (λoe=>oe.map (fP (Kr l)))=(l.map λi=>aA st.M i)∧bY st.fr (st'.fr.map λq=>(q.1,gJ (Kr l) q.2)):=by simp[frS,frv,frq,fre,frc,sgb,Kr,zi,zr,S6,Sm,bY,Go.Sv.get]):cj ay9 C ops pl st R :=
 cj.acJ hC l h1.1 e.1 e.2.1 e.2.2.1 e.2.2.2.1 e.2.2.2.2 (λj k h=>by rw[o0_Y ho j k h];exact h1.2) h
set_option maxRecDepth 10000
set_option maxHeartbeats 1000000
def L6:Pl:=.nil
theorem amb:ay aJ (frl 16777215) L6=true:=by unfold L6;kernel_rfl
theorem frb0:o0 L6=true:=by simp[L6,o0]
def Gw:Pl:=.q 21 [] (.q 22 [] (.l 23 [0] L6))
theorem Xc:ay aJ (frl 2097151) Gw=true:=plOK_q (plOK_q (plOK_l amb))
theorem frb1:o0 Gw=true:=by simp[Gw,o0,frb0]
def Fv:Pl:=.q 18 [] (.q 19 [] (.l 20 [0] Gw))
theorem UX:ay aJ (frl 262143) Fv=true:=plOK_q (plOK_q (plOK_l Xc))
theorem frb2:o0 Fv=true:=by simp[Fv,o0,frb1]
def FF:Pl:=.q 15 [] (.q 16 [] (.l 17 [0] Fv))
theorem Vh:ay aJ (frl 32767) FF=true:=plOK_q (plOK_q (plOK_l UX))
theorem frb3:o0 FF=true:=by simp[FF,o0,frb2]
def Ab:Pl:=.l 14 [0] FF
theorem LH:ay aJ (frl 16383) Ab=true:=plOK_l Vh
theorem frb4:o0 Ab=true:=by simp[Ab,o0,frb3]
def EP:Pl:=.l 17 [0] Fv
theorem Tg:ay aJ (frl 131071) EP=true:=plOK_l UX
theorem frb5:o0 EP=true:=by simp[EP,o0,frb2]
def Mm:Pl:=.l 20 [0] Gw
theorem amp:ay aJ (frl 1048575) Mm=true:=plOK_l Xc
theorem frb6:o0 Mm=true:=by simp[Mm,o0,frb1]
def MS:Pl:=.l 11 [] Gw
theorem alB:ay aJ (frl 2095103) MS=true:=plOK_l Xc
theorem frb7:o0 MS=true:=by simp[MS,o0,frb1]
def E8:Pl:=.q 18 [] (.q 19 [] (.alt 11 [] Mm (.alt 20 [0] MS (.stop))))
theorem WJ:ay aJ (frl 260095) E8=true:=plOK_q (plOK_q (plOK_alt (alOK_c amp (alOK_c alB altOK_stop))))
theorem frb8:o0 E8=true:=by simp[E8,o0,frb6,frb7]
def Fl:Pl:=.q 15 [] (.q 16 [] (.alt 11 [] EP (.alt 17 [0] E8 (.stop))))
theorem V1:ay aJ (frl 30719) Fl=true:=plOK_q (plOK_q (plOK_alt (alOK_c Tg (alOK_c WJ altOK_stop))))
theorem frb9:o0 Fl=true:=by simp[Fl,o0,frb5,frb8]
def vW:Pl:=.alt 11 [] Ab (.alt 14 [0] Fl (.stop))
theorem Kh:ay aJ (frl 14335) vW=true:=plOK_alt (alOK_c LH (alOK_c V1 altOK_stop))
theorem frb10:o0 vW=true:=by simp[vW,o0,frb4,frb9]
def xW:Pl:=.l 9 [] Fv
theorem No:ay aJ (frl 261631) xW=true:=plOK_l UX
theorem frb11:o0 xW=true:=by simp[xW,o0,frb2]
def ya:Pl:=.q 15 [] (.q 16 [] (.alt 9 [] EP (.alt 17 [0] xW (.stop))))
theorem NP:ay aJ (frl 32255) ya=true:=plOK_q (plOK_q (plOK_alt (alOK_c Tg (alOK_c No altOK_stop))))
theorem frb12:o0 ya=true:=by simp[ya,o0,frb5,frb11]
def v9:Pl:=.alt 9 [] Ab (.alt 14 [0] ya (.stop))
theorem K7:ay aJ (frl 15871) v9=true:=plOK_alt (alOK_c LH (alOK_c NP altOK_stop))
theorem frb13:o0 v9=true:=by simp[v9,o0,frb4,frb12]
def CS:Pl:=.alt 11 [] EP (.alt 17 [0] E8 (.stop))
theorem aaF:ay aJ (frl 129023) CS=true:=plOK_alt (alOK_c Tg (alOK_c WJ altOK_stop))
theorem frb14:o0 CS=true:=by simp[CS,o0,frb5,frb8]
def Ce:Pl:=.alt 9 [] EP (.alt 17 [0] xW (.stop))
theorem afF:ay aJ (frl 130559) Ce=true:=plOK_alt (alOK_c Tg (alOK_c No altOK_stop))
theorem frb15:o0 Ce=true:=by simp[Ce,o0,frb5,frb11]
def C5:Pl:=.alt 9 [] E8 (.alt 11 [] xW (.stop))
theorem adM:ay aJ (frl 259583) C5=true:=plOK_alt (alOK_c WJ (alOK_c No altOK_stop))
theorem frb16:o0 C5=true:=by simp[C5,o0,frb8,frb11]
def xX:Pl:=.q 15 [] (.q 16 [] (.alt 9 [] CS (.alt 11 [] Ce (.alt 17 [0] C5 (.stop)))))
theorem N4:ay aJ (frl 30207) xX=true:=plOK_q (plOK_q (plOK_alt (alOK_c aaF (alOK_c afF (alOK_c adM altOK_stop)))))
theorem frb17:o0 xX=true:=by simp[xX,o0,frb14,frb15,frb16]
def Cd:Pl:=.alt 9 [] vW (.alt 11 [] v9 (.alt 14 [0] xX (.stop)))
theorem aaI:ay aJ (frl 13823) Cd=true:=plOK_alt (alOK_c Kh (alOK_c K7 (alOK_c N4 altOK_stop)))
theorem frb18:o0 Cd=true:=by simp[Cd,o0,frb10,frb13,frb17]
def uL:Pl:=.l 7 [] FF
theorem KK:ay aJ (frl 32639) uL=true:=plOK_l Vh
theorem frb19:o0 uL=true:=by simp[uL,o0,frb3]
def vF:Pl:=.alt 7 [] Ab (.alt 14 [0] uL (.stop))
theorem K4:ay aJ (frl 16255) vF=true:=plOK_alt (alOK_c LH (alOK_c KK altOK_stop))
theorem frb20:o0 vF=true:=by simp[vF,o0,frb4,frb19]
def xV:Pl:=.alt 7 [] Fl (.alt 11 [] uL (.stop))
theorem O5:ay aJ (frl 30591) xV=true:=plOK_alt (alOK_c V1 (alOK_c KK altOK_stop))
theorem frb21:o0 xV=true:=by simp[xV,o0,frb9,frb19]
def Cs:Pl:=.alt 7 [] vW (.alt 11 [] vF (.alt 14 [0] xV (.stop)))
theorem aeb:ay aJ (frl 14207) Cs=true:=plOK_alt (alOK_c Kh (alOK_c K4 (alOK_c O5 altOK_stop)))
theorem frb22:o0 Cs=true:=by simp[Cs,o0,frb10,frb20,frb21]
def yt:Pl:=.alt 7 [] ya (.alt 9 [] uL (.stop))
theorem Od:ay aJ (frl 32127) yt=true:=plOK_alt (alOK_c NP (alOK_c KK altOK_stop))
theorem frb23:o0 yt=true:=by simp[yt,o0,frb12,frb19]
def Dh:Pl:=.alt 7 [] v9 (.alt 9 [] vF (.alt 14 [0] yt (.stop)))
theorem ad2:ay aJ (frl 15743) Dh=true:=plOK_alt (alOK_c K7 (alOK_c K4 (alOK_c Od altOK_stop)))
theorem frb24:o0 Dh=true:=by simp[Dh,o0,frb13,frb20,frb23]
def Dk:Pl:=.alt 7 [] xX (.alt 9 [] xV (.alt 11 [] yt (.stop)))
theorem acm:ay aJ (frl 30079) Dk=true:=plOK_alt (alOK_c N4 (alOK_c O5 (alOK_c Od altOK_stop)))
theorem frb25:o0 Dk=true:=by simp[Dk,o0,frb17,frb21,frb23]
def Cm:Pl:=.q 12 [] (.q 13 [] (.alt 7 [] Cd (.alt 9 [] Cs (.alt 11 [] Dh (.alt 14 [0] Dk (.stop))))))
theorem abu:ay aJ (frl 1407) Cm=true:=plOK_q (plOK_q (plOK_alt (alOK_c aaI (alOK_c aeb (alOK_c ad2 (alOK_c acm altOK_stop))))))
theorem frb26:o0 Cm=true:=by simp[Cm,o0,frb18,frb22,frb24,frb25]
def CB:Pl:=.q 12 [] (.q 13 [] (.alt 9 [] vW (.alt 11 [] v9 (.alt 14 [0] xX (.stop)))))
theorem afZ:ay aJ (frl 1535) CB=true:=plOK_q (plOK_q (plOK_alt (alOK_c Kh (alOK_c K7 (alOK_c N4 altOK_stop)))))
theorem frb27:o0 CB=true:=by simp[CB,o0,frb10,frb13,frb17]
def Ca:Pl:=.q 12 [] (.q 13 [] (.alt 11 [] Ab (.alt 14 [0] Fl (.stop))))
theorem adQ:ay aJ (frl 2047) Ca=true:=plOK_q (plOK_q (plOK_alt (alOK_c LH (alOK_c V1 altOK_stop))))
theorem frb28:o0 Ca=true:=by simp[Ca,o0,frb4,frb9]
def Dq:Pl:=.q 12 [] (.q 13 [] (.l 14 [0] FF))
theorem ad6:ay aJ (frl 4095) Dq=true:=plOK_q (plOK_q (plOK_l Vh))
theorem frb29:o0 Dq=true:=by simp[Dq,o0,frb3]
def xL:Pl:=.l 5 [] Dq
theorem Ov:ay aJ (frl 4063) xL=true:=plOK_l ad6
theorem frb30:o0 xL=true:=by simp[xL,o0,frb29]
def z5:Pl:=.alt 5 [] Ca (.alt 11 [] xL (.stop))
theorem Uo:ay aJ (frl 2015) z5=true:=plOK_alt (alOK_c adQ (alOK_c Ov altOK_stop))
theorem frb31:o0 z5=true:=by simp[z5,o0,frb28,frb30]
def Cq:Pl:=.q 12 [] (.q 13 [] (.alt 9 [] Ab (.alt 14 [0] ya (.stop))))
theorem acp:ay aJ (frl 3583) Cq=true:=plOK_q (plOK_q (plOK_alt (alOK_c LH (alOK_c NP altOK_stop))))
theorem frb32:o0 Cq=true:=by simp[Cq,o0,frb4,frb12]
def zG:Pl:=.alt 5 [] Cq (.alt 9 [] xL (.stop))
theorem UB:ay aJ (frl 3551) zG=true:=plOK_alt (alOK_c acp (alOK_c Ov altOK_stop))
theorem frb33:o0 zG=true:=by simp[zG,o0,frb32,frb30]
def Cu:Pl:=.alt 5 [] CB (.alt 9 [] z5 (.alt 11 [] zG (.stop)))
theorem afd:ay aJ (frl 1503) Cu=true:=plOK_alt (alOK_c afZ (alOK_c Uo (alOK_c UB altOK_stop)))
theorem frb34:o0 Cu=true:=by simp[Cu,o0,frb27,frb31,frb33]
def CG:Pl:=.q 12 [] (.q 13 [] (.alt 7 [] vW (.alt 11 [] vF (.alt 14 [0] xV (.stop)))))
theorem aaO:ay aJ (frl 1919) CG=true:=plOK_q (plOK_q (plOK_alt (alOK_c Kh (alOK_c K4 (alOK_c O5 altOK_stop)))))
theorem frb35:o0 CG=true:=by simp[CG,o0,frb10,frb20,frb21]
def CW:Pl:=.q 12 [] (.q 13 [] (.alt 7 [] Ab (.alt 14 [0] uL (.stop))))
theorem acX:ay aJ (frl 3967) CW=true:=plOK_q (plOK_q (plOK_alt (alOK_c LH (alOK_c KK altOK_stop))))
theorem frb36:o0 CW=true:=by simp[CW,o0,frb4,frb19]
def Af:Pl:=.alt 5 [] CW (.alt 7 [] xL (.stop))
theorem TR:ay aJ (frl 3935) Af=true:=plOK_alt (alOK_c acX (alOK_c Ov altOK_stop))
theorem frb37:o0 Af=true:=by simp[Af,o0,frb36,frb30]
def Cw:Pl:=.alt 5 [] CG (.alt 7 [] z5 (.alt 11 [] Af (.stop)))
theorem aa1:ay aJ (frl 1887) Cw=true:=plOK_alt (alOK_c aaO (alOK_c Uo (alOK_c TR altOK_stop)))
theorem frb38:o0 Cw=true:=by simp[Cw,o0,frb35,frb31,frb37]
def CE:Pl:=.q 12 [] (.q 13 [] (.alt 7 [] v9 (.alt 9 [] vF (.alt 14 [0] yt (.stop)))))
theorem aax:ay aJ (frl 3455) CE=true:=plOK_q (plOK_q (plOK_alt (alOK_c K7 (alOK_c K4 (alOK_c Od altOK_stop)))))
theorem frb39:o0 CE=true:=by simp[CE,o0,frb13,frb20,frb23]
def Dg:Pl:=.alt 5 [] CE (.alt 7 [] zG (.alt 9 [] Af (.stop)))
theorem aer:ay aJ (frl 3423) Dg=true:=plOK_alt (alOK_c aax (alOK_c UB (alOK_c TR altOK_stop)))
theorem frb40:o0 Dg=true:=by simp[Dg,o0,frb39,frb33,frb37]
def CO:Pl:=.q 0 [] (.q 1 [] (.q 2 [] (.q 3 [] (.q 4 [] (.q 6 [] (.q 8 [] (.q 10 [] (.alt 5 [] Cm (.alt 7 [] Cu (.alt 9 [] Cw (.alt 11 [] Dg (.stop))))))))))))
theorem acI:ay aJ (frl 0) CO=true:=plOK_q (plOK_q (plOK_q (plOK_q (plOK_q (plOK_q (plOK_q (plOK_q (plOK_alt (alOK_c abu (alOK_c afd (alOK_c aa1 (alOK_c aer altOK_stop))))))))))))
theorem anI(H:FH p n m N C R):cj ay9 C aJ L6 (frS p n m N 4 4 4 4) R:=cj.alF H.r
theorem W2(H:FH p n m N C R):cj ay9 C aJ Gw (frS p n m N 4 4 4 1) R:=by
 have⟨hC,hp,hN,_⟩:=H;unfold Gw frS aJ;simp only[aF,aB0,ayj,ah,ab,r3];refine cj.qO rfl hp ?_;simp(disch:=omega)[frv,frq,fre,frc,sgb];refine cj.qO rfl hp ?_;simp(disch:=omega)[];refine cj.lO rfl ?_;simp(disch:=omega)[o0_there frb0];repeat refine awG ?_
 exact frstep hC (anI H) frb0 [0,1,2,3,4]
theorem U6(H:FH p n m N C R):cj ay9 C aJ Fv (frS p n m N 4 4 1 1) R:=by
 have⟨hC,hp,hN,_⟩:=H;unfold Fv frS aJ;simp only[aF,aB0,ayj,ah,ab,r3];refine cj.qO rfl hp ?_;simp(disch:=omega)[frv,frq,fre,frc,sgb];refine cj.qO rfl hp ?_;simp(disch:=omega)[];refine cj.lO rfl ?_;simp(disch:=omega)[o0_there frb1];repeat refine awG ?_
 exact frstep hC (W2 H) frb1 [0,1,2,3,4]
theorem Wl(H:FH p n m N C R):cj ay9 C aJ FF (frS p n m N 4 1 1 1) R:=by
 have⟨hC,hp,hN,_⟩:=H;unfold FF frS aJ;simp only[aF,aB0,ayj,ah,ab,r3];refine cj.qO rfl hp ?_;simp(disch:=omega)[frv,frq,fre,frc,sgb];refine cj.qO rfl hp ?_;simp(disch:=omega)[];refine cj.lO rfl ?_;simp(disch:=omega)[o0_there frb2];repeat refine awG ?_
 exact frstep hC (U6 H) frb2 [0,1,2,3,4]
theorem MH(H:FH p n m N C R):cj ay9 C aJ Ab (frS p n m N 3 1 1 1) R:=by
 have⟨hC,hp,hN,_⟩:=H;unfold Ab frS aJ;simp only[aF,aB0,ayj,ah,ab,r3];refine cj.lO rfl ?_;simp(disch:=omega)[frv,frq,fre,frc,sgb,o0_there frb3];repeat refine awG ?_
 exact frstep hC (Wl H) frb3 [0,1,2,3,4]
theorem Sb(H:FH p n m N C R):cj ay9 C aJ EP (frS p n m N 4 3 1 1) R:=by
 have⟨hC,hp,hN,_⟩:=H;unfold EP frS aJ;simp only[aF,aB0,ayj,ah,ab,r3];refine cj.lO rfl ?_;simp(disch:=omega)[frv,frq,fre,frc,sgb,o0_there frb2];repeat refine awG ?_
 exact frstep hC (U6 H) frb2 [0,1,2,3,4]
theorem amW(H:FH p n m N C R):cj ay9 C aJ Mm (frS p n m N 4 4 3 1) R:=by
 have⟨hC,hp,hN,_⟩:=H;unfold Mm frS aJ;simp only[aF,aB0,ayj,ah,ab,r3];refine cj.lO rfl ?_;simp(disch:=omega)[frv,frq,fre,frc,sgb,o0_there frb1];repeat refine awG ?_
 exact frstep hC (W2 H) frb1 [0,1,2,3,4]
theorem al0(H:FH p n m N C R):cj ay9 C aJ MS (frS p n m N 4 4 4 0) R:=by
 have⟨hC,hp,hN,_⟩:=H;unfold MS frS aJ;simp only[aF,aB0,ayj,ah,ab,r3];refine cj.lO rfl ?_;simp(disch:=omega)[frv,frq,fre,frc,sgb,o0_there frb1];repeat refine awG ?_
 exact frstep hC (W2 H) frb1 [0,1,2,3,4]
theorem Vi(H:FH p n m N C R):cj ay9 C aJ E8 (frS p n m N 4 4 1 0) R:=by
 have⟨hC,hp,hN,_⟩:=H;unfold E8 frS aJ;simp only[aF,aB0,ayj,ah,ab,r3];refine cj.qO rfl hp ?_;simp(disch:=omega)[frv,frq,fre,frc,sgb];refine cj.qO rfl hp ?_;simp(disch:=omega)[];refine cj.jE ?_;refine bj.bg rfl ?_ ?_
 ·simp(disch:=omega)[o0_there frb6];repeat refine awG ?_
  exact frstep hC (amW H) frb6 [0,1,2,3,4]
 refine bj.bg rfl ?_ ?_
 ·simp(disch:=omega)[o0_there frb7];repeat refine awG ?_
  exact frstep hC (al0 H) frb7 [0,1,2,3]
 exact bj.stop
theorem UP(H:FH p n m N C R):cj ay9 C aJ Fl (frS p n m N 4 1 1 0) R:=by
 have⟨hC,hp,hN,_⟩:=H;unfold Fl frS aJ;simp only[aF,aB0,ayj,ah,ab,r3];refine cj.qO rfl hp ?_;simp(disch:=omega)[frv,frq,fre,frc,sgb];refine cj.qO rfl hp ?_;simp(disch:=omega)[];refine cj.jE ?_;refine bj.bg rfl ?_ ?_
 ·simp(disch:=omega)[o0_there frb5];repeat refine awG ?_
  exact frstep hC (Sb H) frb5 [0,1,2,3,4]
 refine bj.bg rfl ?_ ?_
 ·simp(disch:=omega)[o0_there frb8];repeat refine awG ?_
  exact frstep hC (Vi H) frb8 [0,1,2,3]
 exact bj.stop
theorem K0(H:FH p n m N C R):cj ay9 C aJ vW (frS p n m N 3 1 1 0) R:=by
 have⟨hC,hp,hN,_⟩:=H;unfold vW frS aJ;simp only[aF,aB0,ayj,ah,ab,r3];refine cj.jE ?_;refine bj.bg rfl ?_ ?_
 ·simp(disch:=omega)[frv,frq,fre,frc,sgb,o0_there frb4];repeat refine awG ?_
  exact frstep hC (MH H) frb4 [0,1,2,3,4]
 refine bj.bg rfl ?_ ?_
 ·simp(disch:=omega)[frv,frq,fre,frc,sgb,o0_there frb9];repeat refine awG ?_
  exact frstep hC (UP H) frb9 [0,1,2,3]
 exact bj.stop
theorem Ng(H:FH p n m N C R):cj ay9 C aJ xW (frS p n m N 4 4 0 1) R:=by
 have⟨hC,hp,hN,_⟩:=H;unfold xW frS aJ;simp only[aF,aB0,ayj,ah,ab,r3];refine cj.lO rfl ?_;simp(disch:=omega)[frv,frq,fre,frc,sgb,o0_there frb2];repeat refine awG ?_
 exact frstep hC (U6 H) frb2 [0,1,2,4,3]
theorem Pa(H:FH p n m N C R):cj ay9 C aJ ya (frS p n m N 4 1 0 1) R:=by
 have⟨hC,hp,hN,_⟩:=H;unfold ya frS aJ;simp only[aF,aB0,ayj,ah,ab,r3];refine cj.qO rfl hp ?_;simp(disch:=omega)[frv,frq,fre,frc,sgb];refine cj.qO rfl hp ?_;simp(disch:=omega)[];refine cj.jE ?_;refine bj.bg rfl ?_ ?_
 ·simp(disch:=omega)[o0_there frb5];repeat refine awG ?_
  exact frstep hC (Sb H) frb5 [0,1,2,4,3]
 refine bj.bg rfl ?_ ?_
 ·simp(disch:=omega)[o0_there frb11];repeat refine awG ?_
  exact frstep hC (Ng H) frb11 [0,1,2,3]
 exact bj.stop
theorem K1(H:FH p n m N C R):cj ay9 C aJ v9 (frS p n m N 3 1 0 1) R:=by
 have⟨hC,hp,hN,_⟩:=H;unfold v9 frS aJ;simp only[aF,aB0,ayj,ah,ab,r3];refine cj.jE ?_;refine bj.bg rfl ?_ ?_
 ·simp(disch:=omega)[frv,frq,fre,frc,sgb,o0_there frb4];repeat refine awG ?_
  exact frstep hC (MH H) frb4 [0,1,2,4,3]
 refine bj.bg rfl ?_ ?_
 ·simp(disch:=omega)[frv,frq,fre,frc,sgb,o0_there frb12];repeat refine awG ?_
  exact frstep hC (Pa H) frb12 [0,1,2,3]
 exact bj.stop
theorem abf(H:FH p n m N C R):cj ay9 C aJ CS (frS p n m N 4 3 1 0) R:=by
 have⟨hC,hp,hN,_⟩:=H;unfold CS frS aJ;simp only[aF,aB0,ayj,ah,ab,r3];refine cj.jE ?_;refine bj.bg rfl ?_ ?_
 ·simp(disch:=omega)[frv,frq,fre,frc,sgb,o0_there frb5];repeat refine awG ?_
  exact frstep hC (Sb H) frb5 [0,1,2,3,4]
 refine bj.bg rfl ?_ ?_
 ·simp(disch:=omega)[frv,frq,fre,frc,sgb,o0_there frb8];repeat refine awG ?_
  exact frstep hC (Vi H) frb8 [0,1,2,3]
 exact bj.stop
theorem abB(H:FH p n m N C R):cj ay9 C aJ Ce (frS p n m N 4 3 0 1) R:=by
 have⟨hC,hp,hN,_⟩:=H;unfold Ce frS aJ;simp only[aF,aB0,ayj,ah,ab,r3];refine cj.jE ?_;refine bj.bg rfl ?_ ?_
 ·simp(disch:=omega)[frv,frq,fre,frc,sgb,o0_there frb5];repeat refine awG ?_
  exact frstep hC (Sb H) frb5 [0,1,2,4,3]
 refine bj.bg rfl ?_ ?_
 ·simp(disch:=omega)[frv,frq,fre,frc,sgb,o0_there frb11];repeat refine awG ?_
  exact frstep hC (Ng H) frb11 [0,1,2,3]
 exact bj.stop
theorem abW(H:FH p n m N C R):cj ay9 C aJ C5 (frS p n m N 4 4 0 0) R:=by
 have⟨hC,hp,hN,_⟩:=H;unfold C5 frS aJ;simp only[aF,aB0,ayj,ah,ab,r3];refine cj.jE ?_;refine bj.bg rfl ?_ ?_
 ·simp(disch:=omega)[frv,frq,fre,frc,sgb,o0_there frb8];repeat refine awG ?_
  exact frstep hC (Vi H) frb8 [0,1,2,3]
 refine bj.bg rfl ?_ ?_
 ·simp(disch:=omega)[frv,frq,fre,frc,sgb,o0_there frb11];repeat refine awG ?_
  exact frstep hC (Ng H) frb11 [0,1,2,3]
 exact bj.stop
theorem Ql(H:FH p n m N C R):cj ay9 C aJ xX (frS p n m N 4 1 0 0) R:=by
 have⟨hC,hp,hN,_⟩:=H;unfold xX frS aJ;simp only[aF,aB0,ayj,ah,ab,r3];refine cj.qO rfl hp ?_;simp(disch:=omega)[frv,frq,fre,frc,sgb];refine cj.qO rfl hp ?_;simp(disch:=omega)[];refine cj.jE ?_;refine bj.bg rfl ?_ ?_
 ·simp(disch:=omega)[o0_there frb14];repeat refine awG ?_
  exact frstep hC (abf H) frb14 [0,1,2,3]
 refine bj.bg rfl ?_ ?_
 ·simp(disch:=omega)[o0_there frb15];repeat refine awG ?_
  exact frstep hC (abB H) frb15 [0,1,2,3]
 refine bj.bg rfl ?_ ?_
 ·simp(disch:=omega)[o0_there frb16];repeat refine awG ?_
  exact frstep hC (abW H) frb16 [0,1,2]
 exact bj.stop
theorem adE(H:FH p n m N C R):cj ay9 C aJ Cd (frS p n m N 3 1 0 0) R:=by
 have⟨hC,hp,hN,_⟩:=H;unfold Cd frS aJ;simp only[aF,aB0,ayj,ah,ab,r3];refine cj.jE ?_;refine bj.bg rfl ?_ ?_
 ·simp(disch:=omega)[frv,frq,fre,frc,sgb,o0_there frb10];repeat refine awG ?_
  exact frstep hC (K0 H) frb10 [0,1,2,3]
 refine bj.bg rfl ?_ ?_
 ·simp(disch:=omega)[frv,frq,fre,frc,sgb,o0_there frb13];repeat refine awG ?_
  exact frstep hC (K1 H) frb13 [0,1,2,3]
 refine bj.bg rfl ?_ ?_
 ·simp(disch:=omega)[frv,frq,fre,frc,sgb,o0_there frb17];repeat refine awG ?_
  exact frstep hC (Ql H) frb17 [0,1,2]
 exact bj.stop
theorem KB(H:FH p n m N C R):cj ay9 C aJ uL (frS p n m N 4 0 1 1) R:=by
 have⟨hC,hp,hN,_⟩:=H;unfold uL frS aJ;simp only[aF,aB0,ayj,ah,ab,r3];refine cj.lO rfl ?_;simp(disch:=omega)[frv,frq,fre,frc,sgb,o0_there frb3];repeat refine awG ?_
 exact frstep hC (Wl H) frb3 [0,1,4,2,3]
theorem JY(H:FH p n m N C R):cj ay9 C aJ vF (frS p n m N 3 0 1 1) R:=by
 have⟨hC,hp,hN,_⟩:=H;unfold vF frS aJ;simp only[aF,aB0,ayj,ah,ab,r3];refine cj.jE ?_;refine bj.bg rfl ?_ ?_
 ·simp(disch:=omega)[frv,frq,fre,frc,sgb,o0_there frb4];repeat refine awG ?_
  exact frstep hC (MH H) frb4 [0,1,4,2,3]
 refine bj.bg rfl ?_ ?_
 ·simp(disch:=omega)[frv,frq,fre,frc,sgb,o0_there frb19];repeat refine awG ?_
  exact frstep hC (KB H) frb19 [0,1,2,3]
 exact bj.stop
theorem O2(H:FH p n m N C R):cj ay9 C aJ xV (frS p n m N 4 0 1 0) R:=by
 have⟨hC,hp,hN,_⟩:=H;unfold xV frS aJ;simp only[aF,aB0,ayj,ah,ab,r3];refine cj.jE ?_;refine bj.bg rfl ?_ ?_
 ·simp(disch:=omega)[frv,frq,fre,frc,sgb,o0_there frb9];repeat refine awG ?_
  exact frstep hC (UP H) frb9 [0,1,3,2]
 refine bj.bg rfl ?_ ?_
 ·simp(disch:=omega)[frv,frq,fre,frc,sgb,o0_there frb19];repeat refine awG ?_
  exact frstep hC (KB H) frb19 [0,1,2,3]
 exact bj.stop
theorem ad7(H:FH p n m N C R):cj ay9 C aJ Cs (frS p n m N 3 0 1 0) R:=by
 have⟨hC,hp,hN,_⟩:=H;unfold Cs frS aJ;simp only[aF,aB0,ayj,ah,ab,r3];refine cj.jE ?_;refine bj.bg rfl ?_ ?_
 ·simp(disch:=omega)[frv,frq,fre,frc,sgb,o0_there frb10];repeat refine awG ?_
  exact frstep hC (K0 H) frb10 [0,1,3,2]
 refine bj.bg rfl ?_ ?_
 ·simp(disch:=omega)[frv,frq,fre,frc,sgb,o0_there frb20];repeat refine awG ?_
  exact frstep hC (JY H) frb20 [0,1,2,3]
 refine bj.bg rfl ?_ ?_
 ·simp(disch:=omega)[frv,frq,fre,frc,sgb,o0_there frb21];repeat refine awG ?_
  exact frstep hC (O2 H) frb21 [0,1,2]
 exact bj.stop
theorem Pb(H:FH p n m N C R):cj ay9 C aJ yt (frS p n m N 4 0 0 1) R:=by
 have⟨hC,hp,hN,_⟩:=H;unfold yt frS aJ;simp only[aF,aB0,ayj,ah,ab,r3];refine cj.jE ?_;refine bj.bg rfl ?_ ?_
 ·simp(disch:=omega)[frv,frq,fre,frc,sgb,o0_there frb12];repeat refine awG ?_
  exact frstep hC (Pa H) frb12 [0,1,3,2]
 refine bj.bg rfl ?_ ?_
 ·simp(disch:=omega)[frv,frq,fre,frc,sgb,o0_there frb19];repeat refine awG ?_
  exact frstep hC (KB H) frb19 [0,1,3,2]
 exact bj.stop
theorem abU(H:FH p n m N C R):cj ay9 C aJ Dh (frS p n m N 3 0 0 1) R:=by
 have⟨hC,hp,hN,_⟩:=H;unfold Dh frS aJ;simp only[aF,aB0,ayj,ah,ab,r3];refine cj.jE ?_;refine bj.bg rfl ?_ ?_
 ·simp(disch:=omega)[frv,frq,fre,frc,sgb,o0_there frb13];repeat refine awG ?_
  exact frstep hC (K1 H) frb13 [0,1,3,2]
 refine bj.bg rfl ?_ ?_
 ·simp(disch:=omega)[frv,frq,fre,frc,sgb,o0_there frb20];repeat refine awG ?_
  exact frstep hC (JY H) frb20 [0,1,3,2]
 refine bj.bg rfl ?_ ?_
 ·simp(disch:=omega)[frv,frq,fre,frc,sgb,o0_there frb23];repeat refine awG ?_
  exact frstep hC (Pb H) frb23 [0,1,2]
 exact bj.stop
theorem ac9(H:FH p n m N C R):cj ay9 C aJ Dk (frS p n m N 4 0 0 0) R:=by
 have⟨hC,hp,hN,_⟩:=H;unfold Dk frS aJ;simp only[aF,aB0,ayj,ah,ab,r3];refine cj.jE ?_;refine bj.bg rfl ?_ ?_
 ·simp(disch:=omega)[frv,frq,fre,frc,o0_there frb17];repeat refine awG ?_
  exact frstep hC (Ql H) frb17 [0,1,2]
 refine bj.bg rfl ?_ ?_
 ·simp(disch:=omega)[frv,frq,fre,frc,o0_there frb21];repeat refine awG ?_
  exact frstep hC (O2 H) frb21 [0,1,2]
 refine bj.bg rfl ?_ ?_
 ·simp(disch:=omega)[frv,frq,fre,frc,o0_there frb23];repeat refine awG ?_
  exact frstep hC (Pb H) frb23 [0,1,2]
 exact bj.stop
theorem afv(H:FH p n m N C R):cj ay9 C aJ Cm (frS p n m N 1 0 0 0) R:=by
 have⟨hC,hp,hN,_⟩:=H;unfold Cm frS aJ;simp only[aF,aB0,ayj,ah,ab,r3];refine cj.qO rfl hp ?_;simp(disch:=omega)[frv,frq,fre,frc];refine cj.qO rfl hp ?_;simp(disch:=omega)[];refine cj.jE ?_;refine bj.bg rfl ?_ ?_
 ·simp(disch:=omega)[o0_there frb18];repeat refine awG ?_
  exact frstep hC (adE H) frb18 [0,1,2]
 refine bj.bg rfl ?_ ?_
 ·simp(disch:=omega)[o0_there frb22];repeat refine awG ?_
  exact frstep hC (ad7 H) frb22 [0,1,2]
 refine bj.bg rfl ?_ ?_
 ·simp(disch:=omega)[o0_there frb24];repeat refine awG ?_
  exact frstep hC (abU H) frb24 [0,1,2]
 refine bj.bg rfl ?_ ?_
 ·simp(disch:=omega)[o0_there frb25];repeat refine awG ?_
  exact frstep hC (ac9 H) frb25 [0,1]
 exact bj.stop
theorem abJ(H:FH p n m N C R):cj ay9 C aJ CB (frS p n m N 1 1 0 0) R:=by
 have⟨hC,hp,hN,_⟩:=H;unfold CB frS aJ;simp only[aF,aB0,ayj,ah,ab,r3];refine cj.qO rfl hp ?_;simp(disch:=omega)[frv,frq,fre,frc,sgb];refine cj.qO rfl hp ?_;simp(disch:=omega)[];refine cj.jE ?_;refine bj.bg rfl ?_ ?_
 ·simp(disch:=omega)[o0_there frb10];repeat refine awG ?_
  exact frstep hC (K0 H) frb10 [0,1,2,3]
 refine bj.bg rfl ?_ ?_
 ·simp(disch:=omega)[o0_there frb13];repeat refine awG ?_
  exact frstep hC (K1 H) frb13 [0,1,2,3]
 refine bj.bg rfl ?_ ?_
 ·simp(disch:=omega)[o0_there frb17];repeat refine awG ?_
  exact frstep hC (Ql H) frb17 [0,1,2]
 exact bj.stop
theorem aai(H:FH p n m N C R):cj ay9 C aJ Ca (frS p n m N 1 1 1 0) R:=by
 have⟨hC,hp,hN,_⟩:=H;unfold Ca frS aJ;simp only[aF,aB0,ayj,ah,ab,r3];refine cj.qO rfl hp ?_;simp(disch:=omega)[frv,frq,fre,frc,sgb];refine cj.qO rfl hp ?_;simp(disch:=omega)[];refine cj.jE ?_;refine bj.bg rfl ?_ ?_
 ·simp(disch:=omega)[o0_there frb4];repeat refine awG ?_
  exact frstep hC (MH H) frb4 [0,1,2,3,4]
 refine bj.bg rfl ?_ ?_
 ·simp(disch:=omega)[o0_there frb9];repeat refine awG ?_
  exact frstep hC (UP H) frb9 [0,1,2,3]
 exact bj.stop
theorem aak(H:FH p n m N C R):cj ay9 C aJ Dq (frS p n m N 1 1 1 1) R:=by
 have⟨hC,hp,hN,_⟩:=H;unfold Dq frS aJ;simp only[aF,aB0,ayj,ah,ab,r3];refine cj.qO rfl hp ?_;simp(disch:=omega)[frv,frq,fre,frc,sgb];refine cj.qO rfl hp ?_;simp(disch:=omega)[];refine cj.lO rfl ?_;simp(disch:=omega)[o0_there frb3];repeat refine awG ?_
 exact frstep hC (Wl H) frb3 [0,1,2,3,4]
theorem OO(H:FH p n m N C R):cj ay9 C aJ xL (frS p n m N 0 1 1 1) R:=by
 have⟨hC,hp,hN,_⟩:=H;unfold xL frS aJ;simp only[aF,aB0,ayj,ah,ab,r3];refine cj.lO rfl ?_;simp(disch:=omega)[frv,frq,fre,frc,sgb,o0_there frb29];repeat refine awG ?_
 exact frstep hC (aak H) frb29 [0,4,1,2,3]
theorem T0(H:FH p n m N C R):cj ay9 C aJ z5 (frS p n m N 0 1 1 0) R:=by
 have⟨hC,hp,hN,_⟩:=H;unfold z5 frS aJ;simp only[aF,aB0,ayj,ah,ab,r3];refine cj.jE ?_;refine bj.bg rfl ?_ ?_
 ·simp(disch:=omega)[frv,frq,fre,frc,sgb,o0_there frb28];repeat refine awG ?_
  exact frstep hC (aai H) frb28 [0,3,1,2]
 refine bj.bg rfl ?_ ?_
 ·simp(disch:=omega)[frv,frq,fre,frc,sgb,o0_there frb30];repeat refine awG ?_
  exact frstep hC (OO H) frb30 [0,1,2,3]
 exact bj.stop
theorem aeP(H:FH p n m N C R):cj ay9 C aJ Cq (frS p n m N 1 1 0 1) R:=by
 have⟨hC,hp,hN,_⟩:=H;unfold Cq frS aJ;simp only[aF,aB0,ayj,ah,ab,r3];refine cj.qO rfl hp ?_;simp(disch:=omega)[frv,frq,fre,frc,sgb];refine cj.qO rfl hp ?_;simp(disch:=omega)[];refine cj.jE ?_;refine bj.bg rfl ?_ ?_
 ·simp(disch:=omega)[o0_there frb4];repeat refine awG ?_
  exact frstep hC (MH H) frb4 [0,1,2,4,3]
 refine bj.bg rfl ?_ ?_
 ·simp(disch:=omega)[o0_there frb12];repeat refine awG ?_
  exact frstep hC (Pa H) frb12 [0,1,2,3]
 exact bj.stop
theorem Ua(H:FH p n m N C R):cj ay9 C aJ zG (frS p n m N 0 1 0 1) R:=by
 have⟨hC,hp,hN,_⟩:=H;unfold zG frS aJ;simp only[aF,aB0,ayj,ah,ab,r3];refine cj.jE ?_;refine bj.bg rfl ?_ ?_
 ·simp(disch:=omega)[frv,frq,fre,frc,sgb,o0_there frb32];repeat refine awG ?_
  exact frstep hC (aeP H) frb32 [0,3,1,2]
 refine bj.bg rfl ?_ ?_
 ·simp(disch:=omega)[frv,frq,fre,frc,sgb,o0_there frb30];repeat refine awG ?_
  exact frstep hC (OO H) frb30 [0,1,3,2]
 exact bj.stop
theorem abv(H:FH p n m N C R):cj ay9 C aJ Cu (frS p n m N 0 1 0 0) R:=by
 have⟨hC,hp,hN,_⟩:=H;unfold Cu frS aJ;simp only[aF,aB0,ayj,ah,ab,r3];refine cj.jE ?_;refine bj.bg rfl ?_ ?_
 ·simp(disch:=omega)[frv,frq,fre,frc,sgb,o0_there frb27];repeat refine awG ?_
  exact frstep hC (abJ H) frb27 [0,2,1]
 refine bj.bg rfl ?_ ?_
 ·simp(disch:=omega)[frv,frq,fre,frc,sgb,o0_there frb31];repeat refine awG ?_
  exact frstep hC (T0 H) frb31 [0,1,2]
 refine bj.bg rfl ?_ ?_
 ·simp(disch:=omega)[frv,frq,fre,frc,sgb,o0_there frb33];repeat refine awG ?_
  exact frstep hC (Ua H) frb33 [0,1,2]
 exact bj.stop
theorem acF(H:FH p n m N C R):cj ay9 C aJ CG (frS p n m N 1 0 1 0) R:=by
 have⟨hC,hp,hN,_⟩:=H;unfold CG frS aJ;simp only[aF,aB0,ayj,ah,ab,r3];refine cj.qO rfl hp ?_;simp(disch:=omega)[frv,frq,fre,frc,sgb];refine cj.qO rfl hp ?_;simp(disch:=omega)[];refine cj.jE ?_;refine bj.bg rfl ?_ ?_
 ·simp(disch:=omega)[o0_there frb10];repeat refine awG ?_
  exact frstep hC (K0 H) frb10 [0,1,3,2]
 refine bj.bg rfl ?_ ?_
 ·simp(disch:=omega)[o0_there frb20];repeat refine awG ?_
  exact frstep hC (JY H) frb20 [0,1,2,3]
 refine bj.bg rfl ?_ ?_
 ·simp(disch:=omega)[o0_there frb21];repeat refine awG ?_
  exact frstep hC (O2 H) frb21 [0,1,2]
 exact bj.stop
theorem aex(H:FH p n m N C R):cj ay9 C aJ CW (frS p n m N 1 0 1 1) R:=by
 have⟨hC,hp,hN,_⟩:=H;unfold CW frS aJ;simp only[aF,aB0,ayj,ah,ab,r3];refine cj.qO rfl hp ?_;simp(disch:=omega)[frv,frq,fre,frc,sgb];refine cj.qO rfl hp ?_;simp(disch:=omega)[];refine cj.jE ?_;refine bj.bg rfl ?_ ?_
 ·simp(disch:=omega)[o0_there frb4];repeat refine awG ?_
  exact frstep hC (MH H) frb4 [0,1,4,2,3]
 refine bj.bg rfl ?_ ?_
 ·simp(disch:=omega)[o0_there frb19];repeat refine awG ?_
  exact frstep hC (KB H) frb19 [0,1,2,3]
 exact bj.stop
theorem T4(H:FH p n m N C R):cj ay9 C aJ Af (frS p n m N 0 0 1 1) R:=by
 have⟨hC,hp,hN,_⟩:=H;unfold Af frS aJ;simp only[aF,aB0,ayj,ah,ab,r3];refine cj.jE ?_;refine bj.bg rfl ?_ ?_
 ·simp(disch:=omega)[frv,frq,fre,frc,sgb,o0_there frb36];repeat refine awG ?_
  exact frstep hC (aex H) frb36 [0,3,1,2]
 refine bj.bg rfl ?_ ?_
 ·simp(disch:=omega)[frv,frq,fre,frc,sgb,o0_there frb30];repeat refine awG ?_
  exact frstep hC (OO H) frb30 [0,3,1,2]
 exact bj.stop
theorem af3(H:FH p n m N C R):cj ay9 C aJ Cw (frS p n m N 0 0 1 0) R:=by
 have⟨hC,hp,hN,_⟩:=H;unfold Cw frS aJ;simp only[aF,aB0,ayj,ah,ab,r3];refine cj.jE ?_;refine bj.bg rfl ?_ ?_
 ·simp(disch:=omega)[frv,frq,fre,frc,sgb,o0_there frb35];repeat refine awG ?_
  exact frstep hC (acF H) frb35 [0,2,1]
 refine bj.bg rfl ?_ ?_
 ·simp(disch:=omega)[frv,frq,fre,frc,sgb,o0_there frb31];repeat refine awG ?_
  exact frstep hC (T0 H) frb31 [0,2,1]
 refine bj.bg rfl ?_ ?_
 ·simp(disch:=omega)[frv,frq,fre,frc,sgb,o0_there frb37];repeat refine awG ?_
  exact frstep hC (T4 H) frb37 [0,1,2]
 exact bj.stop
theorem adw(H:FH p n m N C R):cj ay9 C aJ CE (frS p n m N 1 0 0 1) R:=by
 have⟨hC,hp,hN,_⟩:=H;unfold CE frS aJ;simp only[aF,aB0,ayj,ah,ab,r3];refine cj.qO rfl hp ?_;simp(disch:=omega)[frv,frq,fre,frc,sgb];refine cj.qO rfl hp ?_;simp(disch:=omega)[];refine cj.jE ?_;refine bj.bg rfl ?_ ?_
 ·simp(disch:=omega)[o0_there frb13];repeat refine awG ?_
  exact frstep hC (K1 H) frb13 [0,1,3,2]
 refine bj.bg rfl ?_ ?_
 ·simp(disch:=omega)[o0_there frb20];repeat refine awG ?_
  exact frstep hC (JY H) frb20 [0,1,3,2]
 refine bj.bg rfl ?_ ?_
 ·simp(disch:=omega)[o0_there frb23];repeat refine awG ?_
  exact frstep hC (Pb H) frb23 [0,1,2]
 exact bj.stop
theorem ae9(H:FH p n m N C R):cj ay9 C aJ Dg (frS p n m N 0 0 0 1) R:=by
 have⟨hC,hp,hN,_⟩:=H;unfold Dg frS aJ;simp only[aF,aB0,ayj,ah,ab,r3];refine cj.jE ?_;refine bj.bg rfl ?_ ?_
 ·simp(disch:=omega)[frv,frq,fre,frc,sgb,o0_there frb39];repeat refine awG ?_
  exact frstep hC (adw H) frb39 [0,2,1]
 refine bj.bg rfl ?_ ?_
 ·simp(disch:=omega)[frv,frq,fre,frc,sgb,o0_there frb33];repeat refine awG ?_
  exact frstep hC (Ua H) frb33 [0,2,1]
 refine bj.bg rfl ?_ ?_
 ·simp(disch:=omega)[frv,frq,fre,frc,sgb,o0_there frb37];repeat refine awG ?_
  exact frstep hC (T4 H) frb37 [0,2,1]
 exact bj.stop
theorem abX(H:FH p n m N C R):cj ay9 C aJ CO (frS0 p n m N) R:=by
 have⟨hC,hp,hN,_⟩:=H;unfold CO frS0 aJ;simp only[aF,aB0,ayj,ah,ab,r3];refine cj.qO rfl hp ?_;simp(disch:=omega)[];refine cj.qO rfl hp ?_;simp(disch:=omega)[];refine cj.qO rfl hp ?_;simp(disch:=omega)[];refine cj.qO rfl hp ?_;simp(disch:=omega)[];refine cj.qO rfl hp ?_;simp(disch:=omega)[];refine cj.qO rfl hp ?_;simp(disch:=omega)[];refine cj.qO rfl hp ?_;simp(disch:=omega)[];refine cj.qO rfl hp ?_;simp(disch:=omega)[];refine cj.jE ?_;refine bj.bg rfl ?_ ?_
 ·simp(disch:=omega)[o0_there frb26];repeat refine awG ?_
  exact frstep hC (afv H) frb26 [0,1]
 refine bj.bg rfl ?_ ?_
 ·simp(disch:=omega)[o0_there frb34];repeat refine awG ?_
  exact frstep hC (abv H) frb34 [0,1]
 refine bj.bg rfl ?_ ?_
 ·simp(disch:=omega)[o0_there frb38];repeat refine awG ?_
  exact frstep hC (af3 H) frb38 [0,1]
 refine bj.bg rfl ?_ ?_
 ·simp(disch:=omega)[o0_there frb40];repeat refine awG ?_
  exact frstep hC (ae9 H) frb40 [0,1]
 exact bj.stop
theorem RH:(Region.noSelect aJ&&(ay aJ (Array.replicate aJ.size false) CO&&decide (CO.len<=aJ.size)))=true:=by rw[ayt,ayt];exact⟨by kernel_rfl,aw acI (by kernel_rfl),by kernel_rfl⟩
end Go.Proofs


/- A text of the prover's own. -/
import Derived.Test.YtmghjkkjaolpgaaGreatDoorUIh
import Derived.Test.YtmghjkkjaolpgaaGreatDoorUIn
import Derived.Test.YtmghjkkjaolpgaaGreatDoorUIq
open List renaming take→aoM,drop→aoN,take_of_length_le→anE,map_set→anF
namespace Go.Ps
open Go Go.Sv Go.Pl Go.Proofs Go.Tb Go.Ut Go.Li
def mX(s:lU):SV:=.agg ([iv s.aq]++(cC s.at').cells++[.ro (s.ab.map fun t=>iv t.aq),.ro (s.ab.map fun t=>cC t.num)])
@[simp] theorem XY(s:lU):(mX s).fj=7:=rfl
@[simp] theorem PB(s:lU):(mX s).aM=false:=rfl
@[simp] theorem Ni(s:lU):(mX s).isAgg=true:=rfl
@[simp] theorem P6(s:lU):(mX s).pure=true:=rfl
@[simp] theorem acx(n:Nat)(s:lU):(mX s).lt n=true:=rfl
@[simp] theorem QF(n:Nat)(s:lU):(mX s).bC n=false:=rfl
@[simp] theorem Zk(s:lU):aA (mX s).cells 0=iv s.aq:=rfl
@[simp] theorem YP(s:lU):aA (mX s).cells 5=.ro (s.ab.map fun t=>iv t.aq):=rfl
@[simp] theorem acV(s:lU):aA (mX s).cells 6=.ro (s.ab.map fun t=>cC t.num):=rfl
def wkV(mx:Bool)(sh:Rat)(n m n' m' k:Nat)(no:Bool):SV:=.agg (cU mx::((cC sh).cells++[.view 1 0 n,.view 2 0 m,.view 3 0 n',.view 4 0 m',.view 5 0 k,cU no]))
def wkT(mx:Bool)(w:Wk):aJ:=[some ⟨11,[wkV mx w.sh w.aa.length w.rows.length w.gc.length w.gr.length w.steps.length w.no],false⟩,
 some ⟨16,w.aa.map cB,false⟩,some ⟨13,w.rows.map dW,false⟩,some ⟨1,w.gc.map cU,false⟩,some ⟨1,w.gr.map cU,false⟩,some ⟨7,w.steps.map mX,false⟩]
@[simp] theorem adE(c:df):aA (cB c).cells 2=.val (.bool c.low.has):=rfl
@[simp] theorem afz(c:df):aA (cB c).cells 7=.val (.bool c.high.has):=rfl
@[simp] theorem agu(c:df):SV.agg (aoM 4 (aoN 3 (cB c).cells))=qb c.low:=rfl
@[simp] theorem ad5(c:df):SV.agg (aoM 4 (aoN 8 (cB c).cells))=qb c.high:=rfl
@[simp] theorem adA(r:Row):aA (dW r).cells 3=.val (.bool r.low.has):=rfl
@[simp] theorem agp(r:Row):aA (dW r).cells 8=.val (.bool r.high.has):=rfl
@[simp] theorem aek(r:Row):SV.agg (aoM 4 (aoN 4 (dW r).cells))=qb r.low:=rfl
@[simp] theorem af1(r:Row):SV.agg (aoM 4 (aoN 9 (dW r).cells))=qb r.high:=rfl
@[simp] theorem agC(σ:Nat→Nat)(l:List df):dC σ (l.map cB)=l.map cB:=cY σ _ (by simp)
@[simp] theorem aei(σ:Nat→Nat)(l:List Row):dC σ (l.map dW)=l.map dW:=cY σ _ (by simp)
@[simp] theorem ae4(σ:Nat→Nat)(l:List lU):dC σ (l.map mX)=l.map mX:=cY σ _ (by simp)
@[simp] theorem afk(σ:Nat→Nat)(q:Rat):dC σ (cC q).cells=(cC q).cells:=cY σ _ rfl
theorem R4(l:List df)(i:Nat)(c:df):bD (l.map cB) i (cB c)=(l.set i c).map cB:=wV cB l i c
theorem Rp(l:List Row)(i:Nat)(r:Row):bD (l.map dW) i (dW r)=(l.set i r).map dW:=wV dW l i r
theorem Tf{c:df}{q:Rat}:SV.agg (aoM 2 (cB c).cells++(SV.val (.bool true)::((cC q).cells++aoN 7 (cB c).cells)))=cB ⟨c.name,c.whole,⟨true,q⟩,c.high,c.cost⟩:=rfl
theorem Rv{c:df}{q:Rat}:SV.agg (aoM 7 (cB c).cells++(SV.val (.bool true)::((cC q).cells++aoN 12 (cB c).cells)))=cB ⟨c.name,c.whole,c.low,⟨true,q⟩,c.cost⟩:=rfl
end Go.Ps
namespace Go.Proofs
open Go.Sv Go Go.Tb Go.Pl Go.Ut Go.Li Go.Ps
end Go.Proofs
namespace Go.Ps
open Go Go.Sv Go.Pl Go.Proofs Go.Tb Go.Ut Go.Li
theorem RA{c:df}{q:Rat}:SV.agg (aoM 12 (cB c).cells++((cC q).cells++aoN 16 (cB c).cells))=cB ⟨c.name,c.whole,c.low,c.high,q⟩:=rfl
def Cl(ts:List Term):List SV:=ts.map fun t=>iv t.aq
def Cm(ts:List Term):List SV:=ts.map fun t=>cC t.num
@[simp] theorem YH(ts:List Term):(Cl ts).length=ts.length:=by simp[Cl]
@[simp] theorem YD(ts:List Term):(Cm ts).length=ts.length:=by simp[Cm]
theorem Hb(ts:List Term)(t:Term):Cl (ts++[t])=Cl ts++[iv t.aq]:=by simp[Cl]
theorem Hs(ts:List Term)(t:Term):Cm (ts++[t])=Cm ts++[cC t.num]:=by simp[Cm]
@[simp] theorem UG(ts:List Term):SV.ba (Cl ts)=true:=by unfold Cl;simp
@[simp] theorem XK(ts:List Term):SV.ba (Cm ts)=true:=by unfold Cm;simp
@[simp] theorem Vf(ts:List Term):aoM ts.length (Cl ts)=Cl ts:=anE (by simp)
@[simp] theorem XA(ts:List Term):aoM ts.length (Cm ts)=Cm ts:=anE (by simp)
@[simp] theorem agE(k:Nat)(ts:List Term):SV.lS k (Cl ts)=true:=by unfold Cl;simp
@[simp] theorem afK(k:Nat)(ts:List Term):SV.lS k (Cm ts)=true:=by unfold Cm;simp
@[simp] theorem TE(k:Nat)(ts:List Term):SV.aX k (Cl ts)=false:=by unfold Cl;simp
@[simp] theorem Xc(k:Nat)(ts:List Term):SV.aX k (Cm ts)=false:=by unfold Cm;simp
def Jl(nm:ByteArray)(x y:SV)(b:Bo):SV:=.agg (.val (.string nm)::x::y::((iz b).cells++[.val (.bool false),.val (.bool false),.val (.slice none 0 0),.val (.bool false),.val (.slice none 0 0)]))
@[simp] theorem Vw(nm:ByteArray)(x y:SV)(b:Bo):(Jl nm x y b).fj=13:=rfl
@[simp] theorem OB(nm:ByteArray)(x y:SV)(b:Bo):(Jl nm x y b).aM=false:=rfl
theorem YV{nm:ByteArray}{x y:SV}{b:Bo}:SV.agg (.val (.string nm)::x::y::((iz b).cells++[.val (.bool false),.val (.bool false),.val (.slice none 0 0),.val (.bool false),.val (.slice none 0 0)]))=Jl nm x y b:=rfl
theorem aa3{nm:ByteArray}{x y:SV}{b c:Bo}:SV.agg (aoM 8 (Jl nm x y b).cells++((iz c).cells++aoN 13 (Jl nm x y b).cells))=SV.agg (.val (.string nm)::x::y::((iz b).cells++(iz c).cells)):=rfl
def akd(nm:ByteArray)(x y:SV):SV:=.agg [.val (.string nm),x,y,.val (.bool false),.val (.bool false),.val (.slice none 0 0),.val (.bool false),.val (.slice none 0 0),.val (.bool false),.val (.bool false),.val (.slice none 0 0),.val (.bool false),.val (.slice none 0 0)]
theorem ai0{q:Rat}:SV.agg (.val (.bool true)::(cC q).cells)=iz ⟨true,q⟩:=rfl
theorem T7(k:Nat)(l:List Row)(i:Nat)(r:Row):SV.lS k ((l.map dW).set i (dW r))=true:=by rw[←anF];simp[-anF]
end Go.Ps
namespace Go.Proofs
open Go.Sv Go Go.Tb Go.Pl Go.Ut Go.Li Go.Ps
end Go.Proofs
namespace Go.Ps
open Go Go.Sv Go.Pl Go.Proofs Go.Tb Go.Ut Go.Li
@[simp] theorem aiA(l:List df):jQ (l.map cB)=l.map cB:=rG (fun _=>rfl) l
@[simp] theorem aib(l:List Row):jQ (l.map dW)=l.map dW:=rG (fun _=>rfl) l
@[simp] theorem ah8(l:List lU):jQ (l.map mX)=l.map mX:=rG (fun _=>rfl) l
@[simp] theorem W1(c:df):iR (cB c)=cB c:=rfl
@[simp] theorem Yn(b:Bo):iR (iz b)=iz b:=rfl
@[simp] theorem W2(q:Rat):iR (cC q)=cC q:=rfl
@[simp] theorem afn(q:Rat)(a b c d e:Nat)(x:Bool):jQ ((cC q).cells++[.view 1 0 a,.view 2 0 b,.view 3 0 c,.view 4 0 d,.view 5 0 e,.val (.bool x)])=(cC q).cells++[.view 1 0 a,.view 2 0 b,.view 3 0 c,.view 4 0 d,.view 5 0 e,.val (.bool x)]:=rfl
theorem aa7{c:df}:SV.agg (aoM 7 (cB c).cells++((iz c.low).cells++aoN 12 (cB c).cells))=cB ⟨c.name,c.whole,c.low,c.low,c.cost⟩:=rfl
theorem Yl{c:df}:SV.agg (aoM 2 (cB c).cells++((iz c.high).cells++aoN 7 (cB c).cells))=cB ⟨c.name,c.whole,c.high,c.high,c.cost⟩:=rfl
theorem EC{w:Wk}{i:Nat}:gC w i=(if aH (bK w.aa (gt w.rows i).ab (gt w.rows i).ab.length).lo (gt w.rows i).high=true∨aH (gt w.rows i).low (bK w.aa (gt w.rows i).ab (gt w.rows i).ab.length).hi=true then(true,fh (eD w true) i) else
 if alike (bK w.aa (gt w.rows i).ab (gt w.rows i).ab.length).lo (gt w.rows i).high=true∨alike (bK w.aa (gt w.rows i).ab (gt w.rows i).ab.length).hi (gt w.rows i).low=true then(true,fh (jR w (bN (alike (bK w.aa (gt w.rows i).ab (gt w.rows i).ab.length).lo (gt w.rows i).high) (gt w.rows i).ab w.aa (gt w.rows i).ab.length)) i) else
 if Ce (bK w.aa (gt w.rows i).ab (gt w.rows i).ab.length).lo (gt w.rows i).low=true∧BX (bK w.aa (gt w.rows i).ab (gt w.rows i).ab.length).hi (gt w.rows i).high=true then(true,fh w i) else(false,w)):=rfl
end Go.Ps
namespace Go.Proofs
open Go.Sv Go Go.Tb Go.Pl Go.Ut Go.Li Go.Ps
end Go.Proofs


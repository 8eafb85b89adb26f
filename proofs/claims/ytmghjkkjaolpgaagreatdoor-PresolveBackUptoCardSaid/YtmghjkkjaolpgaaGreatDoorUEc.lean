/- A text of the prover's own. -/
import Derived.Test.YtmghjkkjaolpgaaGreatDoorUIp
import Derived.Test.YtmghjkkjaolpgaaGreatDoorUIw
namespace Go.Ps
open Go Go.Sv Go.Pl Go.Proofs Go.Tb Go.Ut Go.Li
structure ScI(n m u:Nat)(d:Wk→Nat→Bool × Wk)(g:Wk→List Bool)(N:Nat)(w0:Wk)(i:Nat)(w:Wk):Prop where
 G:aW n m u w
 no:w.no=false
 eq:bH d g N 0 w0=bH d g (N - i) i w
section
variable {n m u:Nat} {d:Wk→Nat→Bool × Wk} {g:Wk→List Bool} {N:Nat} {w0:Wk} {i:Nat} {w:Wk}
end
structure LSc where
 i:Nat
 w:Wk
end Go.Ps
namespace Go.Proofs
open Go.Sv Go Go.Tb Go.Pl Go.Ut Go.Li Go.Ps
end Go.Proofs
namespace Go.Ps
open Go Go.Sv Go.Pl Go.Proofs Go.Tb Go.Ut Go.Li
def QB(g:List Bool)(n:Nat):Nat→List Int
 | 0=>List.replicate n 0
 | j+1=>if gt g j=true then QB g n j else(QB g n j).set j ((aB g j).length:Nat)
theorem KT(g:List Bool)(n:Nat):∀j,(QB g n j).length=n
 | 0=>by simp[QB]
 | j+1=>by unfold QB;split<;>simp[KT g n j]
def wkF(mx:Bool)(w:Wk):SV:=.agg (cU mx::((cC w.sh).cells++[.ro (w.aa.map cB),.ro (w.rows.map dW),.ro (w.gc.map cU),.ro (w.gr.map cU),.ro (w.steps.map mX),cU w.no]))
def w9(g:List Bool)(j:Nat):List SV:=(aB g j).map fun k:Nat=>iv k
@[simp] theorem aai(g:List Bool)(j:Nat):(w9 g j).length=(aB g j).length:=by simp[w9]
def ph(mx:Bool)(w:Wk):SV:=.agg (cU false::cU mx::((cC w.sh).cells++[.ro ((dD w w.aa.length).map cB),.ro ((cO w w.rows.length).map dW),.ro (w9 w.gc w.aa.length),.ro (w.steps.map mX)]))
def aki(mx:Bool)(w:Wk)(j i:Nat):aJ:=[some ⟨10,[.agg [.val (.bool false),.val (.bool false),.val (.bool false),.val (.slice none 0 0),.val (.bool false),.val (.slice none 0 0),.val (.slice none 0 0),.val (.slice none 0 0),.val (.slice none 0 0),.val (.slice none 0 0)]],false⟩,
 some ⟨10,[.agg (cU false::cU mx::((cC w.sh).cells++[.view 4 0 (dD w j).length,.view 5 0 (cO w i).length,.view 3 0 (aB w.gc j).length,.ro (w.steps.map mX)]))],false⟩,
 some ⟨1,(QB w.gc w.aa.length j).map iv,false⟩,some ⟨1,w9 w.gc j,false⟩,some ⟨16,(dD w j).map cB,false⟩,some ⟨13,(cO w i).map dW,false⟩]
@[simp] theorem adm(k:Nat)(g:List Bool)(j:Nat):SV.lS k (w9 g j)=true:=by unfold w9;simp
@[simp] theorem TF(k:Nat)(g:List Bool)(j:Nat):SV.aX k (w9 g j)=false:=by unfold w9;simp
@[simp] theorem WU(g:List Bool)(j:Nat):SV.ba (w9 g j)=true:=by unfold w9;simp
@[simp] theorem Vb(g:List Bool)(j:Nat):List.take (aB g j).length (w9 g j)=w9 g j:=List.take_of_length_le (by simp)
end Go.Ps
namespace Go.Proofs
open Go.Sv Go Go.Tb Go.Pl Go.Ut Go.Li Go.Ps
end Go.Proofs
namespace Go.Ps
open Go Go.Sv Go.Pl Go.Proofs Go.Tb Go.Ut Go.Li
def ajg(p:aO):aJ:=[none,none,none,some ⟨16,p.aa.map cB,false⟩,some ⟨13,p.rows.map dW,false⟩]
def alb(p:aO):SV:=.agg (cU p.max::((cC p.shift).cells++[.view 3 0 p.aa.length,.view 4 0 p.rows.length]))
def ajr(mx:Bool)(w:Wk):SV:=if w.no=true then .agg [cU true,cU false,cU false,.ro [],cU false,.ro [],.ro [],.ro [],.ro [],.ro []] else ph mx w
structure LSd where
 b:Bool
 w:Wk
 w':Wk
structure LRu where
 i:Nat
 b:Bool
 w:Wk
 w':Wk
def vR:SV:=.agg [.val (.bool false),.val (.bool false),.val (.bool false),.val (.slice none 0 0),.val (.bool false),.val (.slice none 0 0),.val (.slice none 0 0),.val (.slice none 0 0),.val (.slice none 0 0),.val (.slice none 0 0)]
@[simp] theorem QE:vR.fj=10:=rfl
@[simp] theorem Mu:vR.aM=false:=rfl
@[simp] theorem RG(mx:Bool)(w:Wk):(ph mx w).fj=10:=rfl
@[simp] theorem L9(mx:Bool)(w:Wk):(ph mx w).aM=false:=rfl
@[simp] theorem MS(mx:Bool)(w:Wk):(ph mx w).isAgg=true:=rfl
@[simp] theorem ND(mx:Bool)(w:Wk):(ph mx w).pure=true:=by simp[ph]
@[simp] theorem Nh(k:Nat):SV.bC k vR=false:=rfl
@[simp] theorem Ui(k:Nat):SV.lt k vR=true:=rfl
@[simp] theorem Vj(k:Nat)(es:List SV):jT k es vR=vR:=rfl
def smD(mx:Bool)(w:Wk):aJ:=wkT mx w++[some ⟨10,[vR],false⟩]
structure RuI(mx:Bool)(w:Wk)(i:Nat)(b:Bool)(v:Wk):Prop where
 lo:1≤i
 hi:i≤8
 eq:eo mx w (i - 1)=(b,v)
end Go.Ps
namespace Go.Proofs
open Go.Sv Go Go.Tb Go.Pl Go.Ut Go.Li Go.Ps
end Go.Proofs


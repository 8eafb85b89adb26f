/- A text of the prover's own. -/
import Derived.Test.YtmghjkkjaolpgaaGreatDoorUIz
import Derived.Test.YtmghjkkjaolpgaaGreatDoorUIm
import Derived.Test.YtmghjkkjaolpgaaGreatDoorUIr
import Derived.Test.YtmghjkkjaolpgaaGreatDoorUIi
namespace Go.Ps
open Go Go.Sv Go.Pl Go.Proofs Go.Tb Go.Ut Go.Li
theorem Ww(k:Nat)(l:List df)(i:Nat)(c:df):SV.lS k ((l.map cB).set i (cB c))=true:=by rw[←List.map_set];simp[-List.map_set]
end Go.Ps
namespace Go.Proofs
open Go.Sv Go Go.Tb Go.Pl Go.Ut Go.Li Go.Ps
end Go.Proofs
namespace Go.Ps
open Go Go.Sv Go.Pl Go.Proofs Go.Tb Go.Ut Go.Li
end Go.Ps
namespace Go.Proofs
open Go.Sv Go Go.Tb Go.Pl Go.Ut Go.Li Go.Ps
end Go.Proofs
namespace Go.Ps
open Go Go.Sv Go.Pl Go.Proofs Go.Tb Go.Ut Go.Li
theorem Ji{w:Wk}{j:Nat}:o3 w j=(if alike (gt w.aa j).low (gt w.aa j).high=true then(if(gt w.aa j).whole=true∧(gt w.aa j).low.at'.den≠1 then(true,eD w true) else(true,k8 w j (gt w.aa j).low.at' [])) else(false,w)):=rfl
theorem Iy{w:Wk}{i:Nat}:jA w i=(if(gt w.rows i).ab.length=1 then(true,fh (cD w (gt (gt w.rows i).ab 0).aq.toNat (bg (gt w.aa (gt (gt w.rows i).ab 0).aq.toNat) (ck zB (gt w.rows i).low (gt w.rows i).high (1 / (gt (gt w.rows i).ab 0).num)).lo (ck zB (gt w.rows i).low (gt w.rows i).high (1 / (gt (gt w.rows i).ab 0).num)).hi)) i) else(false,w)):=rfl
theorem Ns{w:Wk}{i:Nat}:iF w i=(if(gt w.rows i).ab.length=0 then(true,fh (eD w (!ix 0 (gt w.rows i).low (gt w.rows i).high)) i) else(false,w)):=rfl
end Go.Ps
namespace Go.Proofs
open Go.Sv Go Go.Tb Go.Pl Go.Ut Go.Li Go.Ps
end Go.Proofs


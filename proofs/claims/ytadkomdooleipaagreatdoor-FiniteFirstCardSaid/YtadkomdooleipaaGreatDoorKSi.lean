/- Entries in another order. A text of the prover's own. -/
import Derived.Test.YtadkomdooleipaaGreatDoorKVr
namespace Go.Sv
open Go
/-- all that comes out of such a region is told by one state, entries in another order -/
def toLe (C : Ctx) (st1 : St) : Post := fun e s => match e with
  | .normal => Le C s st1
  | _ => False
@[simp] theorem toLe_normal {C : Ctx} {st1 s : St} : toLe C st1 .normal s = Le C s st1 := rfl
/-! plans whose equal parts are told once -/
section
variable {P : Program} {C : Ctx} {ops : Array Oper} {st : St} {R : Post}
theorem AltJ.stop : AltJ P C ops .stop st R := fun _ L _ β H a w _ _ Y' n _ _ j hj => by simp [Pl.heads] at hj
theorem AltJ.cons {i : Nat} {ks : List Nat} {r p : Pl} (h : match ops[i]? with
    | none => False
    | some o => gd ops o st (fun st' => ((okW ks st' o.op ∧ okA ks r o.op) ∧ r.there st'.M) ∧ vcOp P C (some (nb ks)) o st' (fun st'' => PlJ P C ops r st'' R) (fun st'' => PlJ P C ops r st'' R)) (fun st' => PlJ P C ops r st' R)) (hp : AltJ P C ops p st R) : AltJ P C ops (.alt i ks r p) st R := fun hns L hL β H a w hF hW Y' n hY hn j hj => by
  simp only [altOK, Bool.and_eq_true] at hL
  split at h
  · exact h.elim
  · rename_i o ho
    simp only [Pl.len] at hn
    simp only [Pl.heads, List.mem_cons] at hj
    rcases hj with rfl | hj
    · exact loud_step ho hns hL.1 (fun _ h => h) (fun _ h => h) (fun _ h => h) h hF hW (fun k hk => hY j k (by simp [Pl.Y, one, hk])) (fun j' k hk => hY j' k (by simp [Pl.Y, hk])) (by omega)
    · exact hp hns L hL.2 β H a w hF hW Y' n (fun j' k hk => hY j' k (by simp [Pl.Y, hk])) (by omega) j hj
theorem AltJ.consO {i : Nat} {ks : List Nat} {r p : Pl} {o : Oper} (ho : ops[i]? = some o) (h : gd ops o st (fun st' => ((okW ks st' o.op ∧ okA ks r o.op) ∧ r.there st'.M) ∧ vcOp P C (some (nb ks)) o st' (fun st'' => PlJ P C ops r st'' R) (fun st'' => PlJ P C ops r st'' R)) (fun st' => PlJ P C ops r st' R)) (hp : AltJ P C ops p st R) : AltJ P C ops (.alt i ks r p) st R :=
  AltJ.cons (by rw [ho]; exact h) hp
end
end Go.Sv


/- A text of the prover's own. -/
import Derived.Test.YtnimjdcaajmfcaaGreatDoorUVr
namespace Go.Sv
open Go
theorem Le.perm {C:Ctx} (hC:C.fx=[]) (σ:Nat→Nat) {st st':St} (hn:st.n=st'.n) (hi:∀k k',k<st'.M.length→k'<st'.M.length→σ k=σ k'→k=k') (hl:∀k,st'.M.length≤k→st.M.length≤σ k)
  (hM:∀(k:Nat) (e:Ent),st'.M[k]?=some (some e)→st.M[σ k]?=some (some (renE σ e))) (hf:∀t x,get st'.fr t=some x→get st.fr t=some (ren σ x)):Le C st st':=by
 rintro a w ⟨β,H,hF,hW⟩
 have lt:∀(k:Nat) (e:Ent),st'.M[k]?=some (some e)→k<st'.M.length:=fun k e h=>(List.getElem?_eq_some_iff.1 h).1
 refine ⟨fun k=>β (σ k),H,⟨⟨hF.1.1,hF.1.2⟩,by rw [←hn];exact hF.2.1,fun t x hg=>?_⟩,?_⟩
 ·obtain ⟨v,h1,h2⟩:=hF.2.2 t _ (hf t x hg)
  exact ⟨v,h1,ren_den.1 h2⟩
 ·refine ⟨hW.os,hW.tape,hW.output,hW.size,hW.frame,hW.ext,hW.new,hW.inv,fun k e hk=>EntOK.ren.1 (hW.ents _ _ (hM k e hk)),fun k e d hk hd=>hW.own (σ k) (renE σ e) d (hM k e hk) hd,
   fun k k' e e' d d' hk hk' hd hd' he=>hi k k' (lt k e hk) (lt k' e' hk') (hW.inj _ _ _ _ _ _ (hM k e hk) (hM k' e' hk') hd hd' he),fun k hk=>hW.fresh _ (hl k hk),fun k d hk=>absurd hk (by rw [hC];simp),hW.glob⟩
/-! plans whose equal parts are told once -/
section
variable {P:Program} {C:Ctx} {ops:Array Oper} {st:St} {R:Post}
theorem planOK_q {L:Array Bool} {i:Nat} {ks:List Nat} {r:Pl} (h1:qOK ops L i ks r.Y=true) (h2:planOK ops (L.setIfInBounds i true) r=true):planOK ops L (.q i ks r)=true:=by
 simp only [planOK,h1,h2,Bool.and_self]
theorem planOK_l {L:Array Bool} {i:Nat} {ks:List Nat} {r:Pl} (h1:(Region.ready .any ops L==[i])=true) (h2:planOK ops (L.setIfInBounds i true) r=true):planOK ops L (.l i ks r)=true:=by
 simp only [planOK,h1,h2,Bool.and_self]
theorem planOK_alt {L:Array Bool} {i:Nat} {ks:List Nat} {r p:Pl} (h1:(Region.ready .any ops L==i::p.heads)=true) (h2:altOK ops L (.alt i ks r p)=true):planOK ops L (.alt i ks r p)=true:=by
 simp only [altOK] at h2
 simp only [planOK,h1,h2,Bool.and_self]
theorem altOK_c {L:Array Bool} {i:Nat} {ks:List Nat} {r p:Pl} (h1:planOK ops (L.setIfInBounds i true) r=true) (h2:altOK ops L p=true):altOK ops L (.alt i ks r p)=true:=by
 simp only [altOK,h1,h2,Bool.and_self]
theorem planOK_at {L L':Array Bool} {r:Pl} (h:planOK ops L' r=true) (e:L=L'):planOK ops L r=true:=by rw [e];exact h
theorem AltJ.stop:AltJ P C ops .stop st R:=fun _ L _ β H a w _ _ Y' n _ _ j hj=>by simp [Pl.heads] at hj
theorem AltJ.cons {i:Nat} {ks:List Nat} {r p:Pl} (h:match ops[i]? with
  | none=>False
  | some o=>gd ops o st (fun st'=>((okW ks st' o.op∧okA ks r o.op)∧r.there st'.M)∧vcOp P C (some (nb ks)) o st' (fun st''=>PlJ P C ops r st'' R) (fun st''=>PlJ P C ops r st'' R)) (fun st'=>PlJ P C ops r st' R)) (hp:AltJ P C ops p st R):AltJ P C ops (.alt i ks r p) st R:=fun hns L hL β H a w hF hW Y' n hY hn j hj=>by
 simp only [altOK,Bool.and_eq_true] at hL
 split at h
 ·exact h.elim
 ·rename_i o ho
  simp only [Pl.len] at hn
  simp only [Pl.heads,List.mem_cons] at hj
  rcases hj with rfl | hj
  ·exact loud_step ho hns hL.1 (fun _ h=>h) (fun _ h=>h) (fun _ h=>h) h hF hW (fun k hk=>hY j k (by simp [Pl.Y,one,hk])) (fun j' k hk=>hY j' k (by simp [Pl.Y,hk])) (by omega)
  ·exact hp hns L hL.2 β H a w hF hW Y' n (fun j' k hk=>hY j' k (by simp [Pl.Y,hk])) (by omega) j hj
theorem PlJ.altI {i:Nat} {ks:List Nat} {r p:Pl} (h:AltJ P C ops (.alt i ks r p) st R):PlJ P C ops (.alt i ks r p) st R:=fun hns L hL β H a w hF hW=>by
 simp only [planOK,Bool.and_eq_true,beq_iff_eq] at hL
 have hlen:(Pl.alt i ks r p).len=(max r.len (p.len - 1))+1:=by simp only [Pl.len];omega
 rw [hlen]
 refine wpG_all hL.1 (by simp) fun j hj=>?_
 exact h hns L (by simp only [altOK,Bool.and_eq_true];exact hL.2) β H a w hF hW _ _ (fun j k hk=>hk) (by omega) j (by simpa [Pl.heads] using hj)
theorem PlJ.nilI (h:R .normal st):PlJ P C ops .nil st R:=fun _ L hL β H a w hF hW=>by
 simp only [planOK,List.isEmpty_iff] at hL
 exact ⟨hL,st,h,β,H,hF,hW⟩
theorem PlJ.perm (hC:C.fx=[]) (σ:Nat→Nat) {st':St} {pl:Pl} (hn:st.n=st'.n) (hi:∀k k',k<st'.M.length→k'<st'.M.length→σ k=σ k'→k=k') (hl:∀k,st'.M.length≤k→st.M.length≤σ k)
  (hM:∀(k:Nat) (e:Ent),st'.M[k]?=some (some e)→st.M[σ k]?=some (some (renE σ e))) (hf:∀t x,get st'.fr t=some x→get st.fr t=some (ren σ x)) (hY:∀j,∀k∈pl.Y j,σ k=k) (h:PlJ P C ops pl st' R):PlJ P C ops pl st R:=fun hns L hL β H a w hF hW=>by
 have lt:∀(k:Nat) (e:Ent),st'.M[k]?=some (some e)→k<st'.M.length:=fun k e h=>(List.getElem?_eq_some_iff.1 h).1
 have hF':FOK (fun k=>β (σ k)) H st'.n st'.fr a:=⟨⟨hF.1.1,hF.1.2⟩,by rw [←hn];exact hF.2.1,fun t x hg=>by
  obtain ⟨v,h1,h2⟩:=hF.2.2 t _ (hf t x hg)
  exact ⟨v,h1,ren_den.1 h2⟩⟩
 have hW':WOK C (fun k=>β (σ k)) H st'.M w:=⟨hW.os,hW.tape,hW.output,hW.size,hW.frame,hW.ext,hW.new,hW.inv,fun k e hk=>EntOK.ren.1 (hW.ents _ _ (hM k e hk)),fun k e d hk hd=>hW.own (σ k) (renE σ e) d (hM k e hk) hd,
   fun k k' e e' d d' hk hk' hd hd' he=>hi k k' (lt k e hk) (lt k' e' hk') (hW.inj _ _ _ _ _ _ (hM k e hk) (hM k' e' hk') hd hd' he),fun k hk=>hW.fresh _ (hl k hk),fun k d hk=>absurd hk (by rw [hC];simp),hW.glob⟩
 refine wpG_mono _ _ _ _ (fun j w1 w2 _ hr=>⟨hr.1.mono fun b _ hb=>?_,hr.2⟩) (h hns L hL _ H a w hF' hW')
 rcases hb with ⟨h1,h2 | h2 | ⟨k,hk,d,hd,hdb⟩⟩
 ·exact ⟨h1,.inl h2⟩
 ·exact ⟨h1,.inr (.inl h2)⟩
 ·exact ⟨h1,.inr (.inr ⟨k,hk,d,by rw [←hY j k hk];exact hd,hdb⟩)⟩
def pmL (l:List Nat) (k:Nat):Nat:=if k<l.length then l.getD k 0 else k
theorem PlJ.permL (hC:C.fx=[]) (l:List Nat) (hl:∀a,a<l.length→∀b,b<l.length→l.getD a 0=l.getD b 0→a=b) {st':St} {pl:Pl} (hn:st.n=st'.n) (h1:st.M.length=l.length) (h2:st'.M.length=l.length) (hM:st'.M.map (fun oe=>oe.map (renE (pmL l)))=l.map fun i=>tget st.M i)
  (hf:leF st.fr (st'.fr.map fun q=>(q.1,ren (pmL l) q.2))) (hY:∀j,∀k∈pl.Y j,pmL l k=k) (h:PlJ P C ops pl st' R):PlJ P C ops pl st R:=by
 have at':∀k (hk:k<l.length),pmL l k=l[k]:=fun k hk=>by unfold pmL;rw [if_pos hk];simp [hk]
 refine PlJ.perm hC (pmL l) hn (fun k k' hk hk' e=>?_) (fun k hk=>?_) (fun k e hk=>?_) (fun t x hg=>?_) hY h
 ·unfold pmL at e
  rw [if_pos (by omega),if_pos (by omega)] at e
  exact hl k (by omega) k' (by omega) e
 ·unfold pmL;rw [if_neg (by omega)];omega
 ·have hkl:k<l.length:=by rw [←h2];exact (List.getElem?_eq_some_iff.1 hk).1
  have e1:(st'.M.map (fun oe=>oe.map (renE (pmL l))))[k]?=some (some (renE (pmL l) e)):=by rw [List.getElem?_map,hk];rfl
  rw [hM,List.getElem?_map,List.getElem?_eq_getElem hkl] at e1
  simp only [Option.map_some,Option.some.injEq] at e1
  rw [at' k hkl]
  exact tget_some e1
 ·refine leF_get hf t _ ?_
  clear hf
  revert hg
  induction st'.fr with
  | nil=>intro hg;simp [get] at hg
  | cons q r ih =>
   intro hg
   simp only [get,List.map_cons] at hg ⊢
   split at hg
   ·rename_i e;rw [if_pos e];cases hg;rfl
   ·rename_i e;rw [if_neg e];exact ih hg
theorem PlJ.qO {i:Nat} {ks:List Nat} {r:Pl} {o:Oper} (ho:ops[i]?=some o) (np:∀c st,¬R (.panic c) st) (h:gd ops o st (fun st'=>okI ks st' o.op∧vcOp P C none o st' (fun st''=>PlJ P C ops r st'' R) (fun _=>False)) (fun st'=>PlJ P C ops r st' R)):PlJ P C ops (.q i ks r) st R :=
 PlJ.qI np (by rw [ho];exact h)
theorem PlJ.lO {i:Nat} {ks:List Nat} {r:Pl} {o:Oper} (ho:ops[i]?=some o) (h:gd ops o st (fun st'=>((okW ks st' o.op∧okA ks r o.op)∧r.there st'.M)∧vcOp P C (some (nb ks)) o st' (fun st''=>PlJ P C ops r st'' R) (fun st''=>PlJ P C ops r st'' R)) (fun st'=>PlJ P C ops r st' R)):PlJ P C ops (.l i ks r) st R :=
 PlJ.lI (by rw [ho];exact h)
theorem AltJ.consO {i:Nat} {ks:List Nat} {r p:Pl} {o:Oper} (ho:ops[i]?=some o) (h:gd ops o st (fun st'=>((okW ks st' o.op∧okA ks r o.op)∧r.there st'.M)∧vcOp P C (some (nb ks)) o st' (fun st''=>PlJ P C ops r st'' R) (fun st''=>PlJ P C ops r st'' R)) (fun st'=>PlJ P C ops r st' R)) (hp:AltJ P C ops p st R):AltJ P C ops (.alt i ks r p) st R :=
 AltJ.cons (by rw [ho];exact h) hp
end
end Go.Sv


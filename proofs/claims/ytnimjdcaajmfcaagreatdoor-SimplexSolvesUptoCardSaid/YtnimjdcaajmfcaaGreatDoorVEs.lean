/- A text of the prover's own. -/
import Derived.Test.YtnimjdcaajmfcaaGreatDoorChecked
import Derived.WalkKit
import Derived.LaidEql
import Derived.Stop.Asserts
import Derived.RowKitTokens
import Derived.Test.YtnimjdcaajmfcaaGreatDoorVPl
import Derived.Test.YtnimjdcaajmfcaaGreatDoorVTy
open Go.Extern.ReflectliteType renaming method->azb,typeOf->azc,toType->azd,abiMethod->aze,elem->azf,relation->azg,implements_->azh,typeOf->azc,assignableTo->azi
open Go.Proofs.Tryz renaming prog->ay9,underlying293->azj,underlying296->azk,func137->azl,func217->azm,underlying33->azn,underlying319->azo,func95->azp,ntmps95->azq
open Go renaming method->azs
open Go.Instr renaming typeAssert->azt
open Option renaming map_eq_some_iff->azu
open Go.Extern.ReflectliteValue renaming unpack->azv,methodAny->azw,valueError->azx,method->azy,parts->azz,isNil->azA,mk->azB,flagAddr->azC,elem->azD,set->azE
open Go.World renaming cell?->azF,cell?_alloc_lt->azG
set_option maxRecDepth 100000
namespace Go.Proofs
open Go.RowKit Go.Extern.Stop Go.Stop Go.Extern
def XE : Array Value -> Sem Value := azb λt => do Rtype.noPackHeld "Comparable" t; pure (.bool (<- typeInfo t).comparable)
theorem Tryz.Ft(v:Value)(w:World):(azc #[.iface 319 v]).run ay9 w=.ok (.iface 291 (.agg #[.pointer (some ⟨11,319,none⟩)])) w:=by kernel_rfl
theorem Tryz.uP(w:World):(XE #[.agg #[.pointer (some ⟨11,319,none⟩)]]).run ay9 w=.ok (.bool true) w:=by kernel_rfl
theorem Tryz.mn (v : Value) (w : World) : (azs 450 291 v "Comparable").run ay9 w = .ok (217, v) w := by kernel_rfl
theorem Tryz.Pr:(ay9.info? 319).map (·.comparable)=some true:=by kernel_rfl
theorem Tryz.Nh:(ay9.info? 338).map (·.size)=some 1:=by kernel_rfl
theorem Tryz.acZ(v:Value)(xT:TypeId)(w:World):(azt (.iface 319 v) xT 293 true).run ay9 w=.ok (.tuple #[.nilIface,.bool false]) w:=run_typeAssert_lacksB azj (by kernel_rfl) (by kernel_rfl) v xT w
theorem Tryz.Cz(v:Value)(xT:TypeId)(w:World):(azt (.iface 319 v) xT 296 true).run ay9 w=.ok (.tuple #[.nilIface,.bool false]) w:=run_typeAssert_lacksB azk (by kernel_rfl) (by kernel_rfl) v xT w
theorem Tryz.Bt(v:Value)(xT:TypeId)(w:World):(azt (.iface 319 v) xT 298 true).run ay9 w=.ok (.tuple #[.nilIface,.bool false]) w:=run_typeAssert_lacksB Tryz.underlying298 (by kernel_rfl) (by kernel_rfl) v xT w
theorem Tryz.ab4(v:Value)(xT:TypeId)(w:World):(azt (.iface 186 v) xT 293 true).run ay9 w=.ok (.tuple #[.nilIface,.bool false]) w:=run_typeAssert_lacksB azj (by kernel_rfl) (by kernel_rfl) v xT w
theorem Tryz.Jc(v:Value)(xT:TypeId)(w:World):(azt (.iface 186 v) xT 296 true).run ay9 w=.ok (.tuple #[.iface 186 v,.bool true]) w:=run_typeAssert_hasB azk (by kernel_rfl) v xT w
theorem Tryz.Er (v : Value) (w : World) : (azs 450 186 v "Unwrap").run ay9 w = .ok (211, v) w := by kernel_rfl
theorem Sk(a:Addr)(w:World) :
  Calls ay9 95 #[.iface 319 (.pointer (some a)),.iface 319 (.pointer (some a))] w λe w'=>e=.returned (.bool true)∧w'=w:=by
 obtain⟨i,hi,ac⟩:=azu.1 Tryz.Pr;obtain⟨j,hj,ai⟩:=azu.1 Tryz.Nh;have h8:=@run_callFunc_extern ay9 137 _ azc azl (by kernel_rfl) (by kernel_rfl) (by kernel_rfl) (by kernel_rfl);have al:=@run_callFunc_extern ay9 217 _ XE azm (by kernel_rfl) (by kernel_rfl) (by kernel_rfl) (by kernel_rfl);have tT:=Tryz.Ft;have cT:=Tryz.uP;have mR:=Tryz.mn;have heq:=run_eql_iface_ptr_same (P:=ay9) w a azn azo hi ac hj
 go_enter azp,azq
 go_wp2
 refine wp_loop_rounds 1 ?_;rw[rounds_succ]
 go_wp2
 go_ret
 exact⟨rfl,rfl⟩
theorem NH(a b:Addr)(ca cb:Array Value)(ta tb:TypeId)(w:World)(af:a≠b)(ha:w.heap[a.block]?=some (.cells ca ta (0,0)))(hb:w.heap[b.block]?=some (.cells cb tb (0,0))) :
  Calls ay9 95 #[.iface 319 (.pointer (some a)),.iface 319 (.pointer (some b))] w λe w'=>e=.returned (.bool false)∧w'=w:=by
 obtain⟨i,hi,ac⟩:=azu.1 Tryz.Pr;obtain⟨j,hj,ai⟩:=azu.1 Tryz.Nh;have h8:=@run_callFunc_extern ay9 137 _ azc azl (by kernel_rfl) (by kernel_rfl) (by kernel_rfl) (by kernel_rfl);have al:=@run_callFunc_extern ay9 217 _ XE azm (by kernel_rfl) (by kernel_rfl) (by kernel_rfl) (by kernel_rfl);have tT:=Tryz.Ft;have cT:=Tryz.uP;have mR:=Tryz.mn;have nE:=Tryz.acZ;have uE:=Tryz.Cz;have vE:=Tryz.Bt;have nW:=Tryz.ab4;have uW:=Tryz.Jc;have mU:=Tryz.Er;have heq:=run_eql_iface_ptr_other (P:=ay9) w azn azo hi ac hj (by rw[ai];decide) af ha hb
 go_enter azp,azq
 go_wp2
 refine wp_loop_rounds 1 ?_;rw[rounds_succ]
 go_wp2
 go_ret
 exact⟨rfl,rfl⟩
end Go.Proofs
namespace Go.Proofs
open Go.RowKit Go.Extern.Stop Go.Stop Go.Extern
/-! ### CLOSED FACTS ON THE MODEL's ENTRIES FOR internal/reflectlite, at this program's types: 25: *p.E · 27: **p.E · 23: error · 45: reflectlite's rtype · 1: how many package-level variables the dump has -/
theorem EB(t:Addr)(w:World):(azv (.iface 188 (.pointer (some t)))).run ay9 w
  = .ok (.agg #[.pointer (some ⟨11,188,none⟩),.pointer (some ⟨w.heap.size,0,none⟩),.int .u64 150]) (w.alloc (.cells #[.pointer (some t)] 188)):=by kernel_rfl
theorem MA (a : Addr) (w : World) : (azw (azx "reflectlite.Value.Type" 0) (λt _ _ _ => azd t) #[.agg #[.pointer (some ⟨11, 188, none⟩), .pointer (some a), .int .u64 150]]).run ay9 w
  = .ok (.iface 291 (.agg #[.pointer (some ⟨11,188,none⟩)])) w:=by kernel_rfl
theorem BS (h : Value) (w : World) : (azs 450 291 (.agg #[h]) "Kind").run ay9 w = .ok (207, h) w := by kernel_rfl
theorem Mb(w:World):((aze λt=>(λa:Nat=>Value.int IntKind.u8 (a:Int)) <$> Rtype.kind t) #[.pointer (some ⟨11,188,none⟩)]).run ay9 w=.ok (.int .u8 22) w:=by kernel_rfl
theorem Lv(w:World):((aze λt=>(λa:Nat=>Value.int IntKind.u8 (a:Int)) <$> Rtype.kind t) #[.pointer (some ⟨11,186,none⟩)]).run ay9 w=.ok (.int .u8 22) w:=by kernel_rfl
/-! ### THE ENTRIES THAT READ OR WRITE MEMORY: laws with a premise on the cell (after Derived/Lib/ReflectliteSlice.lean's manner: each unfolding a lemma of its own, by rfl) -/
theorem rlm(z:Sem Value)(f:TypeId->Addr->Nat->Nat->Sem Value)(v:Value) :
  azy z f #[v]=(do match <-azz v with | none=>z | some (t,a,fl)=>f t a fl (fl % 32)):=rfl
theorem Jl(a:Addr)(w:World):(azz (.agg #[.pointer (some ⟨11,188,none⟩),.pointer (some a),.int .u64 150])).run ay9 w=.ok (some (188,a,150)) w:=by kernel_rfl
theorem Ip(a p:Addr)(W:World)(ha:W.cell? a=some (.pointer (some p))) :
  (azy (azx "reflectlite.Value.IsNil" 0) azA #[.agg #[.pointer (some ⟨11, 188, none⟩), .pointer (some a), .int .u64 150]]).run ay9 W = .ok (.bool false) W := by
 rw[rlm];simp only[Sem.run_bind,Jl,Result.andThen];simp[azA,loadVar,isAgg,underlying,Tryz.underlying188,ha,Result.andThen]
theorem BW (h : Value) (w : World) : (azs 450 291 (.agg #[h]) "Elem").run ay9 w = .ok (218, .agg #[h]) w := by kernel_rfl
theorem sT (h : Value) (w : World) : (azs 450 291 (.agg #[h]) "Implements").run ay9 w = .ok (219, .agg #[h]) w := by kernel_rfl
theorem qF (h : Value) (w : World) : (azs 450 291 (.agg #[h]) "AssignableTo").run ay9 w = .ok (216, .agg #[h]) w := by kernel_rfl
theorem LL(w:World):(azb azf #[.agg #[.pointer (some ⟨11,188,none⟩)]]).run ay9 w=.ok (.iface 291 (.agg #[.pointer (some ⟨11,186,none⟩)])) w:=by kernel_rfl
theorem yG (w : World) : (azg "Implements" azh #[.agg #[.pointer (some ⟨11, 186, none⟩)], .iface 291 (.agg #[.pointer (some ⟨11, 33, none⟩)])]).run ay9 w = .ok (.bool true) w := by kernel_rfl
theorem UH(w:World):(Rtype.elem? 188).run ay9 w=.ok (some 186) w:=by kernel_rfl
theorem ahd(p:Addr)(w:World):(azB 186 p azC).run ay9 w=.ok (.agg #[.pointer (some ⟨11,186,none⟩),.pointer (some p),.int .u64 406]) w:=by kernel_rfl
theorem UG(a:Addr)(w:World):(azz (.agg #[.pointer (some ⟨11,186,none⟩),.pointer (some a),.int .u64 406])).run ay9 w=.ok (some (186,a,406)) w:=by kernel_rfl
theorem UO(a:Addr)(w:World):(azz (.agg #[.pointer (some ⟨11,186,none⟩),.pointer (some a),.int .u64 150])).run ay9 w=.ok (some (186,a,150)) w:=by kernel_rfl
theorem TM(w:World):(Rtype.directlyAssignable 186 186).run ay9 w=.ok true w:=by kernel_rfl
end Go.Proofs
set_option maxRecDepth 100000
set_option maxHeartbeats 4000000
namespace Go.Proofs
open Go.RowKit Go.Extern.Stop Go.Stop Go.Extern
theorem Eb(v:Value)(w:World):(azc #[.iface 319 v]).run ay9 w=.ok (.iface 291 (.agg #[.pointer (some ⟨11,319,none⟩)])) w:=by kernel_rfl
theorem wI (w : World) : (azg "AssignableTo" azi #[.agg #[.pointer (some ⟨11, 319, none⟩)], .iface 291 (.agg #[.pointer (some ⟨11, 186, none⟩)])]).run ay9 w = .ok (.bool false) w := by kernel_rfl
theorem N5(v:Value)(xT:TypeId)(w:World):(azt (.iface 319 v) xT 302 true).run ay9 w=.ok (.tuple #[.nilIface,.bool false]) w:=run_typeAssert_lacksB Tryz.underlying302 (by kernel_rfl) (by kernel_rfl) v xT w
theorem Nu(e t:Addr)(w:World)(hg:w.cell? ⟨10,0,none⟩=some (.iface 291 (.agg #[.pointer (some ⟨11,33,none⟩)]))) :
  Calls ay9 96 #[.iface 319 (.pointer (some e)),.iface 188 (.pointer (some t))] w λev w'=>ev=.returned (.bool false)∧w'=((w.alloc (.cells #[.pointer (some t)] 188)).alloc (.cells #[.pointer (some ⟨11,188,none⟩),.pointer (some ⟨w.heap.size,0,none⟩),.int .u64 150] 246)).alloc (.cells #[.pointer (some ⟨11,188,none⟩),.pointer (some ⟨w.heap.size,0,none⟩),.int .u64 150] 246):=by
 have h6:=@run_callFunc_extern ay9 139 _ (λargs=>azv (args.getD 0 (.tuple #[]))) Tryz.func139 (by kernel_rfl) (by kernel_rfl) (by kernel_rfl) (by kernel_rfl)
 have h7 := @run_callFunc_extern ay9 140 _ (azw (azx "reflectlite.Value.Type" 0) (λt _ _ _ => azd t)) Tryz.func140 (by kernel_rfl) (by kernel_rfl) (by kernel_rfl) (by kernel_rfl)
 have h8 := @run_callFunc_extern ay9 141 _ (azy (azx "reflectlite.Value.IsNil" 0) azA) Tryz.func141 (by kernel_rfl) (by kernel_rfl) (by kernel_rfl) (by kernel_rfl)
 have ay:=@run_callFunc_extern ay9 207 _ (aze λt=>do pure (.int .u8 (<-Rtype.kind t))) Tryz.func207 (by kernel_rfl) (by kernel_rfl) (by kernel_rfl) (by kernel_rfl);have az:=@run_callFunc_extern ay9 218 _ (azb azf) Tryz.func218 (by kernel_rfl) (by kernel_rfl) (by kernel_rfl) (by kernel_rfl)
 have aA := @run_callFunc_extern ay9 219 _ (azg "Implements" azh) Tryz.func219 (by kernel_rfl) (by kernel_rfl) (by kernel_rfl) (by kernel_rfl)
 have aB:=@run_callFunc_extern ay9 137 _ azc azl (by kernel_rfl) (by kernel_rfl) (by kernel_rfl) (by kernel_rfl)
 have aE := @run_callFunc_extern ay9 216 _ (azg "AssignableTo" azi) Tryz.func216 (by kernel_rfl) (by kernel_rfl) (by kernel_rfl) (by kernel_rfl)
 have aF := @run_callFunc_extern ay9 176 _ (azy (azx "reflectlite.Value.Elem" 0) azD) Tryz.func176 (by kernel_rfl) (by kernel_rfl) (by kernel_rfl) (by kernel_rfl)
 have aG:=@run_callFunc_extern ay9 177 _ azE Tryz.func177 (by kernel_rfl) (by kernel_rfl) (by kernel_rfl) (by kernel_rfl);have tO:=Eb;have mA:=qF;have am:=wI;have f6:=EB;have f7:=MA;have mK:=BS;have mE:=BW;have mI:=sT;have aH:=Mb;have aI:=Lv;have aJ:=LL;have i25:=yG;have n8:=Ip ⟨w.heap.size,0,none⟩ t ((w.alloc (.cells #[.pointer (some t)] 188)).alloc (.cells #[.pointer (some ⟨11,188,none⟩),.pointer (some ⟨w.heap.size,0,none⟩),.int .u64 150] 246)) (by simp);have aR:10<w.heap.size:=by
  rcases Nat.lt_or_ge 10 w.heap.size with h | h
  ·exact h
  ·simp[azF,Array.getElem?_eq_none h]at hg
 have aK:((w.alloc (.cells #[.pointer (some t)] 188)).alloc (.cells #[.pointer (some ⟨11,188,none⟩),.pointer (some ⟨w.heap.size,0,none⟩),.int .u64 150] 246)).cell? ⟨10,0,none⟩=some (.iface 291 (.agg #[.pointer (some ⟨11,33,none⟩)])):=by rw[azG _ _ ⟨10,0,none⟩ (by simp;omega),azG _ _ ⟨10,0,none⟩ aR];exact hg
 have nA:=N5;have uE:=Tryz.Cz;have vE:=Tryz.Bt
 go_enter Tryz.func96,Tryz.ntmps96
 go_wp2
 refine wp_loop_rounds 1 ?_;rw[rounds_succ]
 go_wp2
 go_ret
 exact⟨rfl,rfl⟩
end Go.Proofs
set_option maxRecDepth 20000
namespace Go.Sv
open Go Go.RowKit
def LP(w:World):Prop:=(∀g,vC.contains g=true->∃(a:Addr) (T:TypeId) (z:Nat × Nat) (cs:Array Value) (T':TypeId),w.heap[g]?=some (.cells #[.iface fD (.pointer (some a))] T z)∧w.heap[a.block]?=some (.cells cs T' (0,0))) ∧
 w.cell? ⟨10,0,none⟩=some (.iface 291 (.agg #[.pointer (some ⟨11,33,none⟩)]))
theorem LP.frame{w w':World}(h:LP w)(hb:∀b,b<w.heap.size->w'.heap[b]?=w.heap[b]?):LP w':=by
 have lt:∀(b:Nat) x,w.heap[b]?=some x->b<w.heap.size:=λb x hx=>(Array.getElem?_eq_some_iff.1 hx).1;refine⟨λg hg=>?_,?_⟩
 ·obtain⟨a,T,z,cs,T',h1,h2⟩:=h.1 g hg;exact⟨a,T,z,cs,T',by rw[hb g (lt g _ h1)];exact h1,by rw[hb _ (lt _ _ h2)];exact h2⟩
 ·have h2:=h.2;have aR:10<w.heap.size:=by
   rcases Nat.lt_or_ge 10 w.heap.size with h | h
   ·exact h
   ·simp[azF,Array.getElem?_eq_none h]at h2
  unfold azF at h2 ⊢;rw[hb 10 aR];exact h2
def Bp(P:Program)(f:FuncId)(args:List SV)(Φ:SV->Prop):Prop :=
 ∀(H:Hp) (w:World) (ab:List Value),pV H w->LP w->bZ o4 H args ab->Calls P f ab.toArray w λe w' =>
  ∃H' v x,e=.returned v∧Den o4 H' x v∧Φ x∧(∀b cs,H b=some cs->H' b=some cs)∧(∀b cs,H' b=some cs->H b=some cs∨w.heap.size<=b)∧pV H' w'∧Below w.heap.size w w'
section
variable {P:Program}
theorem P7{C:Ctx}{f:FuncId}{args:List SV}{Φ:SV->Prop}{M:aC}{W:Option (List Nat)}{K:aC->List Nat->SV->Prop}(h:Bp P f args Φ)(hE:LP C.w0)(hX:C.X=[])(hp:SV.bF args=true)(hk:∀x,Φ x->K M [] x):dK P C f args M W K:=by
 intro β H w ab hd hW;have hs:=jy M args hp;obtain⟨H1,h1,h2,h3⟩:=rB (SV.uM args) hW (jC hs);have ag:=jz h2 hs ⟨λk e he hk=>by obtain⟨e',g1,g2, -,g4⟩:=h3 k e he;exact⟨e',g1,g2,g4 (.inr hk)⟩⟩ (bZ.mono h1 _ _ (λ_ _ _ h=>h) hd)
 have ah:LP w:=hE.frame λb hb=>hW.frame b hb (by rw[hX];simp);refine Calls.mono (h H1 w ab h2.IE ah ag) ?_;rintro e w' ⟨H',v,x,rfl,g1,g2,g3,g4,g5,g6⟩;refine⟨β,H',_,v,x,[],rfl,Den.up g1 (λk d hd=>by simp[o4]at hd) (λ_ _ h=>h),h2.after g6 g3 g4 g5,λ_ _ _ h=>h,λb cs hb=>g3 b cs (h1 b cs hb),?_,g6.size,λks _=>⟨rfl,λb hb _=>g6.block b hb⟩⟩;rw[kH args hp];exact hk x g2
theorem qM{f:FuncId}{fn:Func}{c:Code}{args:List SV}{Φ:SV->Prop}(hf:P.funcs[f]?=some fn)(hb:fn.body=some c)(hn:args.length<=fn.ntmps)
  (h:∀C:Ctx,C.fx=[]->C.X=[]->LP C.w0->aa P C c ⟨fn.ntmps,l6 0 args,[]⟩ (kg P fn.results.toList Φ)):Bp P f args Φ:=by
 intro H w ab hi hE hd;refine calls_of_wp hf hb ?_;have hj:=h ⟨w,H,[],o4,[]⟩ rfl rfl hE;refine wp_mono (hj _ w ⟨o4,H,uK hd hn hi.2 rfl (by simp),?_⟩) ?_
 ·exact⟨rfl,rfl,rfl,Nat.le_refl _,λ_ _ _=>rfl,λ_ _ h=>h,λ_ _ h=>.inl h,hi.1,λk e hk=>by simp at hk,λk e d hk=>by simp at hk,λk k' e e' d d' hk=>by simp at hk,λ_ _=>rfl,(λk d hk=>by cases hk),hi.2⟩
 ·rintro e a w' ⟨st,hq,β,H',hF,hW⟩;have key:(match k8 P st fn.results.toList with | some (c,x)=>c∧∃y,Sub st.M x y∧Φ y | none=>False) ->
    a.defers=[]∧∃v,(results fn a.tmps).run P w'=.ok v w'∧∃H' v' x,Ending.returned v=.returned v'∧Den o4 H' x v'∧Φ x∧(∀b cs,H b=some cs->H' b=some cs)∧(∀b cs,H' b=some cs->H b=some cs∨w.heap.size<=b)∧pV H' w'∧Below w.heap.size w w':=by
   intro hq;refine⟨hF.1.1,?_⟩;split at hq
   ·rename_i c' x hr;obtain⟨hc,y,hs,hΦ⟩:=hq;obtain⟨v,an,ao⟩:=A7 hF hW hr hc;obtain⟨H1,h1,h2,h3⟩:=rB x.ks hW (rp hs);have ag:=rU h2 hs ⟨λk e he hk=>by
     obtain⟨e',g1,g2, -,g4⟩:=h3 k e he;exact⟨e',g1,g2,g4 (.inr hk)⟩⟩ (Den.up ao (λ_ _ h=>h) h1)
    exact⟨v,an,H1,v,y,rfl,ag,hΦ,h2.ext,λb cs hb=>(h2.new b cs hb).imp id (λh=>h.resolve_right (by simp)),h2.IE,h2.os,h2.tape,h2.output,h2.size,λk hk=>h2.frame k hk (by simp)⟩
   ·exact hq.elim
  cases e<;>simp only[kg]at hq<;>simp only[bodyPost]
  case normal=>exact key hq
  case ret=>exact key hq
end
end Go.Sv
namespace Go.Proofs
open Go.Sv Go Go.RowKit
theorem Qp{H:Hp}{w:World}(hi:pV H w)(hE:LP w){g:Nat}(hg:vC.contains g=true){b:Addr}(h:H g=some #[.iface fD (.pointer (some b))]):∃cs T',w.heap[b.block]?=some (.cells cs T' (0,0)):=by obtain⟨a,T,z,cs,T',h1,h2⟩:=hE.1 g hg;obtain⟨T2,z2,h3⟩:=hi.1 _ _ h;rw[h1]at h3;simp only[Option.some.injEq,Obj.cells.injEq,Array.mk.injEq,List.cons.injEq,Value.iface.injEq,Value.pointer.injEq,and_true,true_and]at h3;rw[<-h3.1];exact⟨cs,T',h2⟩
end Go.Proofs
namespace Go.Proofs
open Go.Sv Go Go.RowKit
def gs(i:Nat):Nat:=[3,4,5,0,1,6,7,8,2,9].getD i 0
def gsL:List SV:=[.fT fD 3,.fT fD 4,.fT fD 5,.fT fD 0,.fT fD 1,.fT fD 6,.fT fD 7,.fT fD 8,.fT fD 2,.fT fD 9]
theorem aal:∀i:Nat,i<10->aM gsL i=.fT fD (gs i)
 | 0,_ | 1,_ | 2,_ | 3,_ | 4,_ | 5,_ | 6,_ | 7,_ | 8,_ | 9,_=>rfl
 | n+10,h=>absurd h (by omega)
theorem Jx:∀i:Nat,i<10->vC.contains (gs i)=true
 | 0,_ | 1,_ | 2,_ | 3,_ | 4,_ | 5,_ | 6,_ | 7,_ | 8,_ | 9,_=>rfl
 | n+10,h=>absurd h (by omega)
theorem Xb{g g':Nat}(hg:vC.contains g=true)(aj:vC.contains g'=true):Bp ay9 95 [.fT fD g,.fT fD g'] (λx=>x=.val (.bool (decide (g=g')))):=by
 intro H w ab hi hE hd;simp only[bZ,Den]at hd;obtain⟨v1,r1,rfl,⟨q,hq,rfl⟩,v2,r2,rfl,⟨q2,ad,rfl⟩,rfl⟩:=hd;obtain⟨ca,ta,ha⟩:=Qp hi hE hg hq;obtain⟨cb,tb,ap⟩:=Qp hi hE aj ad;have ae:∀x:Bool,(decide (g=g')=x)->(Calls ay9 95 #[.iface 319 (.pointer (some q)),.iface 319 (.pointer (some q2))] w λe w'=>e=.returned (.bool x)∧w'=w)->Calls ay9 95 [Value.iface fD (Value.pointer (some q)),Value.iface fD (Value.pointer (some q2))].toArray w λe w' =>
   ∃H' v x,e=.returned v∧Den o4 H' x v∧x=.val (.bool (decide (g=g')))∧(∀b cs,H b=some cs->H' b=some cs)∧(∀b cs,H' b=some cs->H b=some cs∨w.heap.size<=b)∧pV H' w'∧Below w.heap.size w w':=by
  intro x hx h;refine Calls.mono h ?_;rintro e w' ⟨rfl,rfl⟩;exact⟨H,_,_,rfl,by simp only[Den];exact⟨by rw[hx],rfl⟩,rfl,λ_ _ h=>h,λ_ _ h=>.inl h,hi,Below.refl _ _⟩
 by_cases e:g=g'
 ·subst e;rw[hq]at ad;simp only[Option.some.injEq,Array.mk.injEq,List.cons.injEq,Value.iface.injEq,Value.pointer.injEq,and_true,true_and]at ad;subst ad;exact ae true (by simp) (Sk q w)
 ·have af:q≠q2:=λh=>by
   subst h;have g1:gl g=some (.fT fD g):=by unfold gl;rw[if_pos hg]
   have g2:gl g'=some (.fT fD g'):=by unfold gl;rw[if_pos aj]
   exact hi.2.ne _ _ _ _ g1 g2 e (by rw[hq,ad])
  exact ae false (by simp[e]) (NH q q2 ca cb ta tb w af ha ap)
theorem Ni{C:Ctx}{g k:Nat}{M:aC}{K:aC->List Nat->SV->Prop}(hE:LP C.w0)(hX:C.X=[])(hk:K M [] (.val (.bool false))) :
  dK ay9 C 96 [.fT fD g,.ju 188 (.ptr k 0 0)] M none K:=by
 intro β H w ab hd hW;simp only[bZ,Den]at hd;obtain⟨v1,r1,rfl,⟨q,hq,rfl⟩,v2,r2,rfl,⟨p2,rfl,d,hd,rfl⟩,rfl⟩:=hd;have ah:LP w:=hE.frame λb hb=>hW.frame b hb (by rw[hX];simp);refine Calls.mono (Nu q ⟨d.b,0*d.sz+0,none⟩ w ah.2) ?_;generalize aq:(((w.alloc (.cells #[.pointer (some ⟨d.b,0*d.sz+0,none⟩)] 188)).alloc (.cells #[.pointer (some ⟨11,188,none⟩),.pointer (some ⟨w.heap.size,0,none⟩),.int .u64 150] 246)).alloc (.cells #[.pointer (some ⟨11,188,none⟩),.pointer (some ⟨w.heap.size,0,none⟩),.int .u64 150] 246))=w1;have hB:Below w.heap.size w w1:=by rw[<-aq];exact(((Below.refl _ _).alloc (Nat.le_refl _) _).alloc (by simp) _).alloc (by simp;omega) _
 rintro e w' ⟨rfl,rfl⟩;have ar:pV H w':=⟨λb' au av=>by obtain⟨T',z',h⟩:=hW.inv b' au av;exact⟨T',z',by rw[hB.block b' (iL h)];exact h⟩,hW.fM⟩
 exact⟨β,H,_,_,_,[],rfl,by simp[Den,Value.oneCell'],hW.after hB (λ_ _ h=>h) (λ_ _ h=>.inl h) ar,λ_ _ _ h=>h,λ_ _ h=>h,hk,hB.size,λks h=>by cases h⟩
theorem W9:∀i,i<10->∀j,j<10->(gs j=gs i↔i=j):=by decide
theorem abi(i j:Nat)(hi:i<10)(hj:j<10):gs j=gs i↔i=j:=W9 i hi j hj
theorem Nv{j:Nat}(hj:j<10):Bp ay9 45 [.fT fD (gs j)] (λx=>x=.bM [.val (.int .i64 (j+1:Nat)),.val (.int .i64 (-1))]):=by
 refine qM Tryz.func45 rfl (by simp) (λC hC hX hE=>?_);refine aa.go ?_;simp;have hlen:gsL.length=10:=rfl;refine aa.loop (ι:=Nat) (λi=>⟨51,[(0,.fT fD (gs j)),(4,.val (.int .i64 (if i<j+1 then 0 else j+1:Nat))),(20,.view 0 0 10),(21,.val (.int .i64 10)),(22,.val (.int .i64 i))],[some ⟨1,gsL,false⟩]⟩)
  (λi=>i<=10) (λi=>10 - i) 0 ?_ ?_ ?_
 ·exact Nat.zero_le _
 ·simp[aP,hC,gsL]
 ·rintro i hi;by_cases h:i<10
  ·have hI:(i:Int)<10:=by omega
   have e1:=aal i h;have e2:=abi i j h hj;have is:=Xb (Jx j hj) (Jx i h);simp only[e2]at is;simp(disch:=omega)[hI,e1,hlen];refine⟨h,P7 is hE hX (by simp) (λx hx=>?_)⟩;subst hx;by_cases ak:i=j
   ·subst ak;simp(disch:=omega)[aD];refine⟨i+1,by omega,by omega,?_⟩;simp[aP,hC]
   ·have h4:(if i+1<j+1 then 0 else j+1)=(if i<j+1 then 0 else j+1):=by
     by_cases h1:i<j
     ·rw[if_pos (by omega),if_pos (by omega)]
     ·rw[if_neg (by omega),if_neg (by omega)]
    simp(disch:=omega)[ak,aD];refine⟨i+1,by omega,by omega,?_⟩;rw[h4];simp[aP,hC]
  ·obtain rfl:i=10:=by omega
   have aw:¬10<j+1:=by omega
   have ax:¬(j:Int)+1=0:=by omega
   simp only[if_neg aw];simp[ax];refine Ni hE hX ?_;simp
end Go.Proofs


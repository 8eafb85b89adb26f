/- A text of the prover's own. -/
import Derived.Test.YtmghjkkjaolpgaaGreatDoorChecked
import Derived.WalkKit
import Derived.LaidEql
import Derived.Stop.Asserts
import Derived.RowKitTokens
import Derived.Test.YtmghjkkjaolpgaaGreatDoorUPl
import Derived.Test.YtmghjkkjaolpgaaGreatDoorUVz
import Derived.Test.YtmghjkkjaolpgaaGreatDoorUTy
open Option renaming map_eq_some_iff→anr
set_option maxRecDepth 100000
namespace Go.Proofs
open Go.RowKit Go.Extern.Stop Go.Stop Go.Extern
def PI : Array Value → Sem Value := ReflectliteType.method fun t => do Rtype.noPackHeld "Comparable" t; pure (.bool (← typeInfo t).comparable)
theorem Tryz.Ba(v:Value)(w:World):(Extern.ReflectliteType.typeOf #[.iface 285 v]).run Tryz.prog w=.ok (.iface 252 (.agg #[.pointer (some ⟨11,285,none⟩)])) w:=by kernel_rfl
theorem Tryz.rM(w:World):(PI #[.agg #[.pointer (some ⟨11,285,none⟩)]]).run Tryz.prog w=.ok (.bool true) w:=by kernel_rfl
theorem Tryz.kq (v : Value) (w : World) : (Go.method 416 252 v "Comparable").run Tryz.prog w = .ok (196, v) w := by kernel_rfl
theorem Tryz.I4:(Tryz.prog.info? 285).map (·.comparable)=some true:=by kernel_rfl
theorem Tryz.Jr:(Tryz.prog.info? 304).map (·.size)=some 1:=by kernel_rfl
theorem Tryz.Xr(v:Value)(xT:TypeId)(w:World):(Instr.typeAssert (.iface 285 v) xT 254 true).run Tryz.prog w=.ok (.tuple #[.nilIface,.bool false]) w:=run_typeAssert_lacksB Tryz.underlying254 (by kernel_rfl) (by kernel_rfl) v xT w
theorem Tryz.ym(v:Value)(xT:TypeId)(w:World):(Instr.typeAssert (.iface 285 v) xT 257 true).run Tryz.prog w=.ok (.tuple #[.nilIface,.bool false]) w:=run_typeAssert_lacksB Tryz.underlying257 (by kernel_rfl) (by kernel_rfl) v xT w
theorem Tryz.vH(v:Value)(xT:TypeId)(w:World):(Instr.typeAssert (.iface 285 v) xT 259 true).run Tryz.prog w=.ok (.tuple #[.nilIface,.bool false]) w:=run_typeAssert_lacksB Tryz.underlying259 (by kernel_rfl) (by kernel_rfl) v xT w
theorem Tryz.XQ(v:Value)(xT:TypeId)(w:World):(Instr.typeAssert (.iface 161 v) xT 254 true).run Tryz.prog w=.ok (.tuple #[.nilIface,.bool false]) w:=run_typeAssert_lacksB Tryz.underlying254 (by kernel_rfl) (by kernel_rfl) v xT w
theorem Tryz.CI(v:Value)(xT:TypeId)(w:World):(Instr.typeAssert (.iface 161 v) xT 257 true).run Tryz.prog w=.ok (.tuple #[.iface 161 v,.bool true]) w:=run_typeAssert_hasB Tryz.underlying257 (by kernel_rfl) v xT w
theorem Tryz.zA (v : Value) (w : World) : (Go.method 416 161 v "Unwrap").run Tryz.prog w = .ok (190, v) w := by kernel_rfl
theorem LK(a:Addr)(w:World) :
  Calls Tryz.prog 68 #[.iface 285 (.pointer (some a)),.iface 285 (.pointer (some a))] w fun e w'=>e=.returned (.bool true)∧w'=w:=by
 obtain⟨i,hi,hcmp⟩:=anr.1 Tryz.I4;obtain⟨j,hj,hjs⟩:=anr.1 Tryz.Jr;have h8:=@run_callFunc_extern Tryz.prog 104 _ Extern.ReflectliteType.typeOf Tryz.func104 (by kernel_rfl) (by kernel_rfl) (by kernel_rfl) (by kernel_rfl);have h32:=@run_callFunc_extern Tryz.prog 196 _ PI Tryz.func196 (by kernel_rfl) (by kernel_rfl) (by kernel_rfl) (by kernel_rfl);have tT:=Tryz.Ba;have cT:=Tryz.rM;have mR:=Tryz.kq;have heq:=run_eql_iface_ptr_same (P:=Tryz.prog) w a Tryz.underlying41 Tryz.underlying285 hi hcmp hj
 go_enter Tryz.func68,Tryz.ntmps68
 go_wp2
 refine wp_loop_rounds 1 ?_;rw[rounds_succ]
 go_wp2
 go_ret
 exact⟨rfl,rfl⟩
theorem Hz(a b:Addr)(ca cb:Array Value)(ta tb:TypeId)(w:World)(hne:a≠b)(ha:w.heap[a.block]?=some (.cells ca ta (0,0)))(hb:w.heap[b.block]?=some (.cells cb tb (0,0))) :
  Calls Tryz.prog 68 #[.iface 285 (.pointer (some a)),.iface 285 (.pointer (some b))] w fun e w'=>e=.returned (.bool false)∧w'=w:=by
 obtain⟨i,hi,hcmp⟩:=anr.1 Tryz.I4;obtain⟨j,hj,hjs⟩:=anr.1 Tryz.Jr;have h8:=@run_callFunc_extern Tryz.prog 104 _ Extern.ReflectliteType.typeOf Tryz.func104 (by kernel_rfl) (by kernel_rfl) (by kernel_rfl) (by kernel_rfl);have h32:=@run_callFunc_extern Tryz.prog 196 _ PI Tryz.func196 (by kernel_rfl) (by kernel_rfl) (by kernel_rfl) (by kernel_rfl);have tT:=Tryz.Ba;have cT:=Tryz.rM;have mR:=Tryz.kq;have nE:=Tryz.Xr;have uE:=Tryz.ym;have vE:=Tryz.vH;have nW:=Tryz.XQ;have uW:=Tryz.CI;have mU:=Tryz.zA;have heq:=run_eql_iface_ptr_other (P:=Tryz.prog) w Tryz.underlying41 Tryz.underlying285 hi hcmp hj (by rw[hjs];decide) hne ha hb
 go_enter Tryz.func68,Tryz.ntmps68
 go_wp2
 refine wp_loop_rounds 1 ?_;rw[rounds_succ]
 go_wp2
 go_ret
 exact⟨rfl,rfl⟩
end Go.Proofs
namespace Go.Proofs
open Go.RowKit Go.Extern.Stop Go.Stop Go.Extern
/-! ### CLOSED FACTS ON THE MODEL's ENTRIES FOR internal/reflectlite, at this program's types: 25: *p.E · 27: **p.E · 23: error · 45: reflectlite's rtype · 1: how many package-level variables the dump has -/
theorem yJ(t:Addr)(w:World):(ReflectliteValue.unpack (.iface 163 (.pointer (some t)))).run Tryz.prog w
  = .ok (.agg #[.pointer (some ⟨11,163,none⟩),.pointer (some ⟨w.heap.size,0,none⟩),.int .u64 150]) (w.alloc (.cells #[.pointer (some t)] 163)):=by kernel_rfl
theorem FQ (a : Addr) (w : World) : (ReflectliteValue.methodAny (ReflectliteValue.valueError "reflectlite.Value.Type" 0) (fun t _ _ _ => ReflectliteType.toType t) #[.agg #[.pointer (some ⟨11, 163, none⟩), .pointer (some a), .int .u64 150]]).run Tryz.prog w
  = .ok (.iface 252 (.agg #[.pointer (some ⟨11,163,none⟩)])) w:=by kernel_rfl
theorem xg (h : Value) (w : World) : (Go.method 416 252 (.agg #[h]) "Kind").run Tryz.prog w = .ok (186, h) w := by kernel_rfl
theorem FG(w:World):((ReflectliteType.abiMethod fun t=>(fun a:Nat=>Value.int IntKind.u8 (a:Int)) <$> Rtype.kind t) #[.pointer (some ⟨11,163,none⟩)]).run Tryz.prog w=.ok (.int .u8 22) w:=by kernel_rfl
theorem E6(w:World):((ReflectliteType.abiMethod fun t=>(fun a:Nat=>Value.int IntKind.u8 (a:Int)) <$> Rtype.kind t) #[.pointer (some ⟨11,161,none⟩)]).run Tryz.prog w=.ok (.int .u8 22) w:=by kernel_rfl
/-! ### THE ENTRIES THAT READ OR WRITE MEMORY: laws with a premise on the cell (after Derived/Lib/ReflectliteSlice.lean's manner: each unfolding a lemma of its own, by rfl) -/
theorem rlm(z:Sem Value)(f:TypeId→Addr→Nat→Nat→Sem Value)(v:Value) :
  ReflectliteValue.method z f #[v]=(do match ←ReflectliteValue.parts v with | none=>z | some (t,a,fl)=>f t a fl (fl % 32)):=rfl
theorem C8(a:Addr)(w:World):(ReflectliteValue.parts (.agg #[.pointer (some ⟨11,163,none⟩),.pointer (some a),.int .u64 150])).run Tryz.prog w=.ok (some (163,a,150)) w:=by kernel_rfl
theorem Cs(a p:Addr)(W:World)(ha:W.cell? a=some (.pointer (some p))) :
  (ReflectliteValue.method (ReflectliteValue.valueError "reflectlite.Value.IsNil" 0) ReflectliteValue.isNil #[.agg #[.pointer (some ⟨11, 163, none⟩), .pointer (some a), .int .u64 150]]).run Tryz.prog W = .ok (.bool false) W := by
 rw[rlm];simp only[Sem.run_bind,C8,Result.andThen];simp[ReflectliteValue.isNil,loadVar,isAgg,underlying,Tryz.underlying163,ha,Result.andThen]
theorem xq (h : Value) (w : World) : (Go.method 416 252 (.agg #[h]) "Elem").run Tryz.prog w = .ok (197, .agg #[h]) w := by kernel_rfl
theorem o4 (h : Value) (w : World) : (Go.method 416 252 (.agg #[h]) "Implements").run Tryz.prog w = .ok (198, .agg #[h]) w := by kernel_rfl
theorem mV (h : Value) (w : World) : (Go.method 416 252 (.agg #[h]) "AssignableTo").run Tryz.prog w = .ok (195, .agg #[h]) w := by kernel_rfl
theorem FF(w:World):(ReflectliteType.method ReflectliteType.elem #[.agg #[.pointer (some ⟨11,163,none⟩)]]).run Tryz.prog w=.ok (.iface 252 (.agg #[.pointer (some ⟨11,161,none⟩)])) w:=by kernel_rfl
theorem tK (w : World) : (ReflectliteType.relation "Implements" ReflectliteType.implements_ #[.agg #[.pointer (some ⟨11, 161, none⟩)], .iface 252 (.agg #[.pointer (some ⟨11, 41, none⟩)])]).run Tryz.prog w = .ok (.bool true) w := by kernel_rfl
theorem Mr(w:World):(Rtype.elem? 163).run Tryz.prog w=.ok (some 161) w:=by kernel_rfl
theorem Ze(p:Addr)(w:World):(ReflectliteValue.mk 161 p ReflectliteValue.flagAddr).run Tryz.prog w=.ok (.agg #[.pointer (some ⟨11,161,none⟩),.pointer (some p),.int .u64 406]) w:=by kernel_rfl
theorem Mk(a:Addr)(w:World):(ReflectliteValue.parts (.agg #[.pointer (some ⟨11,161,none⟩),.pointer (some a),.int .u64 406])).run Tryz.prog w=.ok (some (161,a,406)) w:=by kernel_rfl
theorem Nn(a:Addr)(w:World):(ReflectliteValue.parts (.agg #[.pointer (some ⟨11,161,none⟩),.pointer (some a),.int .u64 150])).run Tryz.prog w=.ok (some (161,a,150)) w:=by kernel_rfl
theorem Mx(w:World):(Rtype.directlyAssignable 161 161).run Tryz.prog w=.ok true w:=by kernel_rfl
end Go.Proofs
set_option maxRecDepth 100000
set_option maxHeartbeats 4000000
namespace Go.Proofs
open Go.RowKit Go.Extern.Stop Go.Stop Go.Extern
theorem yX(v:Value)(w:World):(ReflectliteType.typeOf #[.iface 285 v]).run Tryz.prog w=.ok (.iface 252 (.agg #[.pointer (some ⟨11,285,none⟩)])) w:=by kernel_rfl
theorem sO (w : World) : (ReflectliteType.relation "AssignableTo" ReflectliteType.assignableTo #[.agg #[.pointer (some ⟨11, 285, none⟩)], .iface 252 (.agg #[.pointer (some ⟨11, 161, none⟩)])]).run Tryz.prog w = .ok (.bool false) w := by kernel_rfl
theorem Hr(v:Value)(xT:TypeId)(w:World):(Instr.typeAssert (.iface 285 v) xT 263 true).run Tryz.prog w=.ok (.tuple #[.nilIface,.bool false]) w:=run_typeAssert_lacksB Tryz.underlying263 (by kernel_rfl) (by kernel_rfl) v xT w
theorem IV(e t:Addr)(w:World)(hg:w.cell? ⟨10,0,none⟩=some (.iface 252 (.agg #[.pointer (some ⟨11,41,none⟩)]))) :
  Calls Tryz.prog 69 #[.iface 285 (.pointer (some e)),.iface 163 (.pointer (some t))] w fun ev w'=>ev=.returned (.bool false)∧w'=((w.alloc (.cells #[.pointer (some t)] 163)).alloc (.cells #[.pointer (some ⟨11,163,none⟩),.pointer (some ⟨w.heap.size,0,none⟩),.int .u64 150] 202)).alloc (.cells #[.pointer (some ⟨11,163,none⟩),.pointer (some ⟨w.heap.size,0,none⟩),.int .u64 150] 202):=by
 have h6:=@run_callFunc_extern Tryz.prog 106 _ (fun args=>ReflectliteValue.unpack (args.getD 0 (.tuple #[]))) Tryz.func106 (by kernel_rfl) (by kernel_rfl) (by kernel_rfl) (by kernel_rfl)
 have h7 := @run_callFunc_extern Tryz.prog 107 _ (ReflectliteValue.methodAny (ReflectliteValue.valueError "reflectlite.Value.Type" 0) (fun t _ _ _ => ReflectliteType.toType t)) Tryz.func107 (by kernel_rfl) (by kernel_rfl) (by kernel_rfl) (by kernel_rfl)
 have h8 := @run_callFunc_extern Tryz.prog 108 _ (ReflectliteValue.method (ReflectliteValue.valueError "reflectlite.Value.IsNil" 0) ReflectliteValue.isNil) Tryz.func108 (by kernel_rfl) (by kernel_rfl) (by kernel_rfl) (by kernel_rfl)
 have h27:=@run_callFunc_extern Tryz.prog 186 _ (ReflectliteType.abiMethod fun t=>do pure (.int .u8 (←Rtype.kind t))) Tryz.func186 (by kernel_rfl) (by kernel_rfl) (by kernel_rfl) (by kernel_rfl);have h37:=@run_callFunc_extern Tryz.prog 197 _ (ReflectliteType.method ReflectliteType.elem) Tryz.func197 (by kernel_rfl) (by kernel_rfl) (by kernel_rfl) (by kernel_rfl)
 have h38 := @run_callFunc_extern Tryz.prog 198 _ (ReflectliteType.relation "Implements" ReflectliteType.implements_) Tryz.func198 (by kernel_rfl) (by kernel_rfl) (by kernel_rfl) (by kernel_rfl)
 have h10:=@run_callFunc_extern Tryz.prog 104 _ ReflectliteType.typeOf Tryz.func104 (by kernel_rfl) (by kernel_rfl) (by kernel_rfl) (by kernel_rfl)
 have h35 := @run_callFunc_extern Tryz.prog 195 _ (ReflectliteType.relation "AssignableTo" ReflectliteType.assignableTo) Tryz.func195 (by kernel_rfl) (by kernel_rfl) (by kernel_rfl) (by kernel_rfl)
 have h11 := @run_callFunc_extern Tryz.prog 149 _ (ReflectliteValue.method (ReflectliteValue.valueError "reflectlite.Value.Elem" 0) ReflectliteValue.elem) Tryz.func149 (by kernel_rfl) (by kernel_rfl) (by kernel_rfl) (by kernel_rfl)
 have h12:=@run_callFunc_extern Tryz.prog 150 _ ReflectliteValue.set Tryz.func150 (by kernel_rfl) (by kernel_rfl) (by kernel_rfl) (by kernel_rfl);have tO:=yX;have mA:=mV;have a191:=sO;have f6:=yJ;have f7:=FQ;have mK:=xg;have mE:=xq;have mI:=o4;have k27:=FG;have k25:=E6;have e27:=FF;have i25:=tK;have n8:=Cs ⟨w.heap.size,0,none⟩ t ((w.alloc (.cells #[.pointer (some t)] 163)).alloc (.cells #[.pointer (some ⟨11,163,none⟩),.pointer (some ⟨w.heap.size,0,none⟩),.int .u64 150] 202)) (by simp);have aF:10<w.heap.size:=by
  rcases Nat.lt_or_ge 10 w.heap.size with h | h
  ·exact h
  ·simp[World.cell?,Array.getElem?_eq_none h]at hg
 have hg2:((w.alloc (.cells #[.pointer (some t)] 163)).alloc (.cells #[.pointer (some ⟨11,163,none⟩),.pointer (some ⟨w.heap.size,0,none⟩),.int .u64 150] 202)).cell? ⟨10,0,none⟩=some (.iface 252 (.agg #[.pointer (some ⟨11,41,none⟩)])):=by
  rw[World.cell?_alloc_lt _ _ ⟨10,0,none⟩ (by simp;omega),World.cell?_alloc_lt _ _ ⟨10,0,none⟩ aF];exact hg
 have nA:=Hr;have uE:=Tryz.ym;have vE:=Tryz.vH
 go_enter Tryz.func69,Tryz.ntmps69
 go_wp2
 refine wp_loop_rounds 1 ?_;rw[rounds_succ]
 go_wp2
 go_ret
 exact⟨rfl,rfl⟩
end Go.Proofs
set_option maxRecDepth 20000
namespace Go.Sv
open Go Go.RowKit
def Fj(w:World):Prop:=(∀g,pX.contains g=true→∃(a:Addr) (T:TypeId) (z:Nat × Nat) (cs:Array Value) (T':TypeId),w.heap[g]?=some (.cells #[.iface eM (.pointer (some a))] T z)∧w.heap[a.block]?=some (.cells cs T' (0,0))) ∧
 w.cell? ⟨10,0,none⟩=some (.iface 252 (.agg #[.pointer (some ⟨11,41,none⟩)]))
theorem Fj.frame{w w':World}(h:Fj w)(hb:∀b,b<w.heap.size→w'.heap[b]?=w.heap[b]?):Fj w':=by
 have lt:∀(b:Nat) x,w.heap[b]?=some x→b<w.heap.size:=fun b x hx=>(Array.getElem?_eq_some_iff.1 hx).1;refine⟨fun g hg=>?_,?_⟩
 ·obtain⟨a,T,z,cs,T',h1,h2⟩:=h.1 g hg;exact⟨a,T,z,cs,T',by rw[hb g (lt g _ h1)];exact h1,by rw[hb _ (lt _ _ h2)];exact h2⟩
 ·have h2:=h.2;have aF:10<w.heap.size:=by
   rcases Nat.lt_or_ge 10 w.heap.size with h | h
   ·exact h
   ·simp[World.cell?,Array.getElem?_eq_none h]at h2
  unfold World.cell? at h2 ⊢;rw[hb 10 aF];exact h2
def wD(P:Program)(f:FuncId)(args:List SV)(Φ:SV→Prop):Prop :=
 ∀(H:Hp) (w:World) (vals:List Value),mn H w→Fj w→bF lF H args vals→Calls P f vals.toArray w fun e w' =>
  ∃H' v x,e=.returned v∧Den lF H' x v∧Φ x∧(∀b cs,H b=some cs→H' b=some cs)∧(∀b cs,H' b=some cs→H b=some cs∨w.heap.size≤b)∧mn H' w'∧Below w.heap.size w w'
section
variable {P:Program}
theorem DS{C:Ctx}{f:FuncId}{args:List SV}{Φ:SV→Prop}{M:aJ}{W:Option (List Nat)}{K:aJ→List Nat→SV→Prop}(h:wD P f args Φ)(hE:Fj C.w0)(hX:C.X=[])(hp:SV.ba args=true)(hk:∀x,Φ x→K M [] x):dH P C f args M W K:=by
 intro β H w vals hd hW;have hs:=ij M args hp;obtain⟨H1,h1,h2,h3⟩:=nq (SV.qk args) hW (ig hs);have hd':=fL h2 hs ⟨fun k e he hk=>by
  obtain⟨e',g1,g2, -,g4⟩:=h3 k e he;exact⟨e',g1,g2,g4 (.inr hk)⟩⟩ (bF.mono h1 _ _ (fun _ _ _ h=>h) hd)
 have hEw:Fj w:=hE.frame fun b hb=>hW.frame b hb (by rw[hX];simp);refine Calls.mono (h H1 w vals h2.zj hEw hd') ?_;rintro e w' ⟨H',v,x,rfl,g1,g2,g3,g4,g5,g6⟩;refine⟨β,H',_,v,x,[],rfl,Den.up g1 (fun k d hd=>by simp[lF]at hd) (fun _ _ h=>h),h2.after g6 g3 g4 g5,fun _ _ _ h=>h,fun b cs hb=>g3 b cs (h1 b cs hb),?_,g6.size,fun ks _=>⟨rfl,fun b hb _=>g6.block b hb⟩⟩;rw[jE args hp];exact hk x g2
theorem nU{f:FuncId}{fn:Func}{c:Code}{args:List SV}{Φ:SV→Prop}(hf:P.funcs[f]?=some fn)(hb:fn.body=some c)(hn:args.length≤fn.ntmps)
  (h:∀C:Ctx,C.fx=[]→C.X=[]→Fj C.w0→ae P C c ⟨fn.ntmps,kO 0 args,[]⟩ (jX P fn.results.toList Φ)):wD P f args Φ:=by
 intro H w vals hi hE hd;refine calls_of_wp hf hb ?_;have hj:=h ⟨w,H,[],lF,[]⟩ rfl rfl hE;refine wp_mono (hj _ w ⟨lF,H,rm hd hn hi.2 rfl (by simp),?_⟩) ?_
 ·exact⟨rfl,rfl,rfl,Nat.le_refl _,fun _ _ _=>rfl,fun _ _ h=>h,fun _ _ h=>.inl h,hi.1,fun k e hk=>by simp at hk,fun k e d hk=>by simp at hk,fun k k' e e' d d' hk=>by simp at hk,fun _ _=>rfl,(fun k d hk=>by cases hk),hi.2⟩
 ·rintro e a w' ⟨st,hq,β,H',hF,hW⟩;have key:(match jS P st fn.results.toList with | some (c,x)=>c∧∃y,Sub st.M x y∧Φ y | none=>False) →
    a.defers=[]∧∃v,(results fn a.tmps).run P w'=.ok v w'∧∃H' v' x,Ending.returned v=.returned v'∧Den lF H' x v'∧Φ x∧(∀b cs,H b=some cs→H' b=some cs)∧(∀b cs,H' b=some cs→H b=some cs∨w.heap.size≤b)∧mn H' w'∧Below w.heap.size w w':=by
   intro hq;refine⟨hF.1.1,?_⟩;split at hq
   ·rename_i c' x hr;obtain⟨hc,y,hs,hΦ⟩:=hq;obtain⟨v,hv1,hv2⟩:=u5 hF hW hr hc;obtain⟨H1,h1,h2,h3⟩:=nq x.ks hW (nD hs);have hd':=oL h2 hs ⟨fun k e he hk=>by
     obtain⟨e',g1,g2, -,g4⟩:=h3 k e he;exact⟨e',g1,g2,g4 (.inr hk)⟩⟩ (Den.up hv2 (fun _ _ h=>h) h1)
    exact⟨v,hv1,H1,v,y,rfl,hd',hΦ,h2.ext,fun b cs hb=>(h2.new b cs hb).imp id (fun h=>h.resolve_right (by simp)),h2.zj,h2.os,h2.tape,h2.output,h2.size,fun k hk=>h2.frame k hk (by simp)⟩
   ·exact hq.elim
  cases e<;>simp only[jX]at hq<;>simp only[bodyPost]
  case normal=>exact key hq
  case ret=>exact key hq
end
end Go.Sv
namespace Go.Proofs
open Go.Sv Go Go.RowKit
theorem I9{H:Hp}{w:World}(hi:mn H w)(hE:Fj w){g:Nat}(hg:pX.contains g=true){b:Addr}(h:H g=some #[.iface eM (.pointer (some b))]):∃cs T',w.heap[b.block]?=some (.cells cs T' (0,0)):=by
 obtain⟨a,T,z,cs,T',h1,h2⟩:=hE.1 g hg;obtain⟨T2,z2,h3⟩:=hi.1 _ _ h;rw[h1]at h3;simp only[Option.some.injEq,Obj.cells.injEq,Array.mk.injEq,List.cons.injEq,Value.iface.injEq,Value.pointer.injEq,and_true,true_and]at h3;rw[←h3.1];exact⟨cs,T',h2⟩
end Go.Proofs
namespace Go.Proofs
open Go.Sv Go Go.RowKit
def gs(i:Nat):Nat:=[3,1,4,0,5,6,2,7,8,9].getD i 0
def gsL:List SV:=[.fp eM 3,.fp eM 1,.fp eM 4,.fp eM 0,.fp eM 5,.fp eM 6,.fp eM 2,.fp eM 7,.fp eM 8,.fp eM 9]
theorem Yf:∀i:Nat,i<10→aA gsL i=.fp eM (gs i)
 | 0,_ | 1,_ | 2,_ | 3,_ | 4,_ | 5,_ | 6,_ | 7,_ | 8,_ | 9,_=>rfl
 | n+10,h=>absurd h (by omega)
theorem DQ:∀i:Nat,i<10→pX.contains (gs i)=true
 | 0,_ | 1,_ | 2,_ | 3,_ | 4,_ | 5,_ | 6,_ | 7,_ | 8,_ | 9,_=>rfl
 | n+10,h=>absurd h (by omega)
theorem Oh{g g':Nat}(hg:pX.contains g=true)(hg':pX.contains g'=true):wD Tryz.prog 68 [.fp eM g,.fp eM g'] (fun x=>x=.val (.bool (decide (g=g')))):=by
 intro H w vals hi hE hd;simp only[bF,Den]at hd;obtain⟨v1,r1,rfl,⟨q,hq,rfl⟩,v2,r2,rfl,⟨q2,hq2,rfl⟩,rfl⟩:=hd;obtain⟨ca,ta,ha⟩:=I9 hi hE hg hq;obtain⟨cb,tb,hb2⟩:=I9 hi hE hg' hq2;have hfin:∀x:Bool,(decide (g=g')=x)→(Calls Tryz.prog 68 #[.iface 285 (.pointer (some q)),.iface 285 (.pointer (some q2))] w fun e w'=>e=.returned (.bool x)∧w'=w)→Calls Tryz.prog 68 [Value.iface eM (Value.pointer (some q)),Value.iface eM (Value.pointer (some q2))].toArray w fun e w' =>
   ∃H' v x,e=.returned v∧Den lF H' x v∧x=.val (.bool (decide (g=g')))∧(∀b cs,H b=some cs→H' b=some cs)∧(∀b cs,H' b=some cs→H b=some cs∨w.heap.size≤b)∧mn H' w'∧Below w.heap.size w w':=by
  intro x hx h;refine Calls.mono h ?_;rintro e w' ⟨rfl,rfl⟩;exact⟨H,_,_,rfl,by simp only[Den];exact⟨by rw[hx],rfl⟩,rfl,fun _ _ h=>h,fun _ _ h=>.inl h,hi,Below.refl _ _⟩
 by_cases e:g=g'
 ·subst e;rw[hq]at hq2;simp only[Option.some.injEq,Array.mk.injEq,List.cons.injEq,Value.iface.injEq,Value.pointer.injEq,and_true,true_and]at hq2;subst hq2;exact hfin true (by simp) (LK q w)
 ·have hne:q≠q2:=fun h=>by
   subst h;have g1:gl g=some (.fp eM g):=by unfold gl;rw[if_pos hg]
   have g2:gl g'=some (.fp eM g'):=by unfold gl;rw[if_pos hg']
   exact hi.2.ne _ _ _ _ g1 g2 e (by rw[hq,hq2])
  exact hfin false (by simp[e]) (Hz q q2 ca cb ta tb w hne ha hb2)
theorem Iz{C:Ctx}{g k:Nat}{M:aJ}{K:aJ→List Nat→SV→Prop}(hE:Fj C.w0)(hX:C.X=[])(hk:K M [] (.val (.bool false))) :
  dH Tryz.prog C 69 [.fp eM g,.iw 163 (.ptr k 0 0)] M none K:=by
 intro β H w vals hd hW;simp only[bF,Den]at hd;obtain⟨v1,r1,rfl,⟨q,hq,rfl⟩,v2,r2,rfl,⟨p2,rfl,d,hd,rfl⟩,rfl⟩:=hd;have hEw:Fj w:=hE.frame fun b hb=>hW.frame b hb (by rw[hX];simp);refine Calls.mono (IV q ⟨d.b,0*d.sz+0,none⟩ w hEw.2) ?_;generalize hw1:(((w.alloc (.cells #[.pointer (some ⟨d.b,0*d.sz+0,none⟩)] 163)).alloc (.cells #[.pointer (some ⟨11,163,none⟩),.pointer (some ⟨w.heap.size,0,none⟩),.int .u64 150] 202)).alloc (.cells #[.pointer (some ⟨11,163,none⟩),.pointer (some ⟨w.heap.size,0,none⟩),.int .u64 150] 202))=w1;have hB:Below w.heap.size w w1:=by
  rw[←hw1];exact(((Below.refl _ _).alloc (Nat.le_refl _) _).alloc (by simp) _).alloc (by simp;omega) _
 rintro e w' ⟨rfl,rfl⟩;have hi1:mn H w':=⟨fun b' cs' hb'=>by
  obtain⟨T',z',h⟩:=hW.inv b' cs' hb';exact⟨T',z',by rw[hB.block b' (gn h)];exact h⟩,hW.eW⟩
 exact⟨β,H,_,_,_,[],rfl,by simp[Den,Value.oneCell'],hW.after hB (fun _ _ h=>h) (fun _ _ h=>.inl h) hi1,fun _ _ _ h=>h,fun _ _ h=>h,hk,hB.size,fun ks h=>by cases h⟩
theorem OR:∀i,i<10→∀j,j<10→(gs j=gs i↔i=j):=by decide
theorem Uq(i j:Nat)(hi:i<10)(hj:j<10):gs j=gs i↔i=j:=OR i hi j hj
theorem Jq{j:Nat}(hj:j<10):wD Tryz.prog 32 [.fp eM (gs j)] (fun x=>x=.bG [.val (.int .i64 (j+1:Nat)),.val (.int .i64 (-1))]):=by
 refine nU Tryz.func32 rfl (by simp) (fun C hC hX hE=>?_);refine ae.go ?_;simp;have hlen:gsL.length=10:=rfl;refine ae.loop (ι:=Nat) (fun i=>⟨51,[(0,.fp eM (gs j)),(4,.val (.int .i64 (if i<j+1 then 0 else j+1:Nat))),(20,.view 0 0 10),(21,.val (.int .i64 10)),(22,.val (.int .i64 i))],[some ⟨1,gsL,false⟩]⟩)
  (fun i=>i≤10) (fun i=>10 - i) 0 ?_ ?_ ?_
 ·exact Nat.zero_le _
 ·simp[ar,hC,gsL]
 ·rintro i hi;by_cases h:i<10
  ·have hI:(i:Int)<10:=by omega
   have e1:=Yf i h;have e2:=Uq i j h hj;have is:=Oh (DQ j hj) (DQ i h);simp only[e2]at is;simp(disch:=omega)[hI,e1,hlen];refine⟨h,DS is hE hX (by simp) (fun x hx=>?_)⟩;subst hx;by_cases hic:i=j
   ·subst hic;simp(disch:=omega)[aP];refine⟨i+1,by omega,by omega,?_⟩;simp[ar,hC]
   ·have h4:(if i+1<j+1 then 0 else j+1)=(if i<j+1 then 0 else j+1):=by
     by_cases h1:i<j
     ·rw[if_pos (by omega),if_pos (by omega)]
     ·rw[if_neg (by omega),if_neg (by omega)]
    simp(disch:=omega)[hic,aP];refine⟨i+1,by omega,by omega,?_⟩;rw[h4];simp[ar,hC]
  ·obtain rfl:i=10:=by omega
   have hcn:¬10<j+1:=by omega
   have hj1:¬(j:Int)+1=0:=by omega
   simp only[if_neg hcn];simp[hj1];refine Iz hE hX ?_;simp
end Go.Proofs


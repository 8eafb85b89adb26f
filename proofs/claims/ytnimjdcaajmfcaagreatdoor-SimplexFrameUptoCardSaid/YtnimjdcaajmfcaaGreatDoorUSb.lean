/- A text of the prover's own. -/
import Derived.Test.YtnimjdcaajmfcaaGreatDoorUVe
import Derived.Test.YtnimjdcaajmfcaaGreatDoorUKb
import Derived.Test.YtnimjdcaajmfcaaGreatDoorUMx
import Derived.Test.YtnimjdcaajmfcaaGreatDoorUDu
import Derived.Test.YtnimjdcaajmfcaaGreatDoorUVr
namespace Go.Sv
open Go
section
variable {σ:Nat→Nat} {n:Nat}
mutual
theorem ren_id (h:∀i,i<n→σ i=i):∀x:SV,x.lt n=true→ren σ x=x
 | .val _,_=>by simp
 | .ptr k _ _,hx=>by simp only [SV.lt,decide_eq_true_eq] at hx;simp [h k hx]
 | .view k _ _,hx=>by simp only [SV.lt,decide_eq_true_eq] at hx;simp [h k hx]
 | .ro _,_=>by simp
 | .rop _ _,_=>by simp
 | .agg l,hx=>by simp only [SV.lt] at hx;rw [ren_agg,renL_id h l hx]
 | .tup l,hx=>by simp only [SV.lt] at hx;rw [ren_tup,renL_id h l hx]
 | .ifc _ x,hx=>by simp only [SV.lt] at hx;rw [ren_ifc,ren_id h x hx]
 | .sen _ _,_=>by simp
 | .any,_=>by simp
 | .fnv _ l r,hx=>by
  simp only [SV.lt,Bool.and_eq_true] at hx
  rw [ren_fnv,renL_id h l hx.1,renL_id h r hx.2]
 | .mp k,hx=>by simp only [SV.lt,decide_eq_true_eq] at hx;simp [h k hx]
theorem renL_id (h:∀i,i<n→σ i=i):∀l:List SV,SV.ltL n l=true→renL σ l=l
 | [],_=>by simp
 | x::l,hx=>by
  simp only [SV.ltL,Bool.and_eq_true] at hx
  rw [renL_cons,ren_id h x hx.1,renL_id h l hx.2]
end
end
theorem sg_range (m:Nat):∀(n a i:Nat),i<n→sg (List.range' a n) m i=a+i
 | 0,_,_,h=>by omega
 | n+1,a,0,_=>by simp [List.range'_succ]
 | n+1,a,i+1,h=>by rw [List.range'_succ,sg_succ,sg_range m n (a+1) i (by omega)];omega
def whole (n:Nat):Tab→Prop
 | []=>True
 | none::_=>False
 | some e::M=>SV.ltL n e.es=true∧whole n M
theorem tget_at (pre T:Tab) (x:Option Ent):tget (pre++x::T) pre.length=x:=by
 induction pre with
 | nil=>rfl
 | cons y pre ih=>simpa [tget] using ih
theorem tset_at (pre T:Tab) (x y:Option Ent):tset (pre++x::T) pre.length y=pre++y::T:=by
 induction pre with
 | nil=>rfl
 | cons z pre ih=>simpa [tset] using ih
theorem matchT_pre {σ:Nat→Nat} {N:Nat} (h:∀i,i<N→σ i=i):∀(T pre tl:Tab),whole N T→matchT σ (pre++(T++tl)) (List.range' pre.length T.length) T
 | [],_,_,_=>by simp
 | none::_,_,_,hw=>hw.elim
 | some e::T,pre,tl,hw=>by
  rw [List.length_cons,List.range'_succ,matchT_cons]
  refine ⟨?_,?_⟩
  ·rw [List.cons_append,tget_at]
   cases e
   rw [renE_eq,renL_id h _ hw.1]
  ·have:=matchT_pre h T (pre++[some e]) tl hw.2
   simpa using this
theorem setA_pre {σ:Nat→Nat} {N:Nat} (h:∀i,i<N→σ i=i):∀(T1 T pre tl:Tab),whole N T1→T1.length=T.length→setA σ (pre++(T++tl)) (List.range' pre.length T.length) T1=pre++(T1++tl)
 | [],[],pre,tl,_,_=>by simp
 | [],_::_,_,_,_,e=>by simp at e
 | _::_,[],_,_,_,e=>by simp at e
 | none::_,_::_,_,_,hw,_=>hw.elim
 | some e::T1,x::T,pre,tl,hw,hl=>by
  rw [List.length_cons,List.range'_succ,setA_cons,List.cons_append,tset_at]
  have hr:(some e).map (renE σ)=some e:=by
   cases e
   rw [Option.map_some,renE_eq,renL_id h _ hw.1]
  rw [hr]
  have:=setA_pre h T1 T (pre++[some e]) tl hw.2 (by simpa using hl)
  simpa using this
theorem callPre {P:Program} {C:Ctx} {f:FuncId} {args:List SV} {T tl:Tab} {Φ:Tab→SV→Prop} {W:Option (List Nat)} {K:Tab→List Nat→SV→Prop} (h:EffC P f args T [] Φ)
  (hT:whole T.length T) (ha:SV.ltL T.length args=true) (hW:∀ks,W=some ks→∀k,k<T.length→k∈ks)
  (hK:∀T1 y,Φ T1 y→whole T.length T1∧T1.length=T.length∧y.lt T.length=true∧K (T1++tl) [] y):CallJ P C f args (T++tl) W K:=by
 have hs:∀i,i<T.length→sg (List.range' 0 T.length) (T++tl).length i=i:=fun i hi=>by rw [sg_range _ _ _ _ hi];omega
 refine callT h (List.range' 0 T.length) (List.nodup_range' ..) ?_ ?_ (fun k hk=>by cases hk) (fun ks e=>⟨rfl,fun k hk=>hW ks e k (by simpa using hk)⟩) (fun T1 y hΦ=>?_)
 ·exact matchT_pre hs T [] tl hT
 ·rw [renL_id hs _ ha]
 ·obtain ⟨g1,g2,g3,g4⟩:=hK T1 y hΦ
  rw [List.map_nil,ren_id hs y g3]
  have e:fgts [] (T++tl)=T++tl:=rfl
  rw [e]
  have:=setA_pre hs T1 T [] tl g1 g2
  rw [List.nil_append,List.nil_append,List.length_nil] at this
  rw [this]
  exact g4
end Go.Sv
set_option maxRecDepth 10000
namespace Go.Sx
open Go Go.Sv Go.Pl Go.Proofs Go.Tb Go.Ut Go.Mx Go.Li Go.Dt
structure Tc where
 p:Prob
 n:Nat
 m:Nat
 N:Nat
 low:List Bo
 high:List Bo
 cost:List Rat
structure Tb where
 wh:List Int
 x:List Rat
 basic:List Nat
 row:List Int
 R:List (List Rat)
def tS (c:Tc):SV:=.agg [.rop (probQ c.p) 0,iv c.n,iv c.m,.ro (c.low.map boQ),.ro (c.high.map boQ),.ro (c.cost.map rsv),.view 1 0 c.N,.view 2 0 c.N,.view 3 0 c.m,.view 4 0 c.N,.view 5 0 c.m]
def rw6 (N i:Nat):SV:=.view (i+6) 0 N
def byV (N m:Nat):List SV:=(List.range m).map (rw6 N)
def tH (c:Tc) (s:Tb):Tab:=[some ⟨11,[tS c],false⟩,some ⟨1,s.wh.map iv,false⟩,some ⟨4,s.x.map rsv,false⟩,some ⟨1,s.basic.map natV,false⟩,some ⟨1,s.row.map iv,false⟩,some ⟨1,byV c.N c.m,false⟩]
def tT (c:Tc) (s:Tb) (tl:Tab):Tab:=tH c s++(rwT s.R++tl)
structure TcL (c:Tc):Prop where
 m7:c.m≤7
 N14:c.N≤14
 lo:c.low.length=c.N
 hi:c.high.length=c.N
 co:c.cost.length=c.N
structure TbL (c:Tc) (s:Tb):Prop where
 w:s.wh.length=c.N
 x:s.x.length=c.N
 b:s.basic.length=c.m
 r:s.row.length=c.N
 R:s.R.length=c.m
 Rr:∀i,i<c.m→(gt s.R i).length=c.N
 bb:∀i,i<c.m→gt s.basic i<c.N
@[simp] theorem byV_len (N m:Nat):(byV N m).length=m:=by simp [byV]
theorem lget_byV {N m i:Nat} (h:i<m):lget (byV N m) i=.view (i+6) 0 N:=by
 unfold byV;rw [lget_m _ (by simpa using h)];simp [rw6,gt,h]
def rkX (s:Tb) (N:Nat):Nat→List Rat
 | 0=>s.x
 | i+1=>(rkX s N i).set (gt s.basic i) (sumR (fun j=>gt (gt s.R i) j*gt (rkX s N i) j) N)
@[simp] theorem rkX_len (s:Tb) (N:Nat):∀i,(rkX s N i).length=s.x.length
 | 0=>rfl
 | i+1=>by simp only [rkX,List.length_set];exact rkX_len s N i
theorem tT_len {c:Tc} {s:Tb} {tl:Tab} (h:s.R.length=c.m):(tT c s tl).length=c.m+6+tl.length:=by simp [tT,tH,h];omega
theorem fx_lt {C:Ctx} {c:Tc} {s:Tb} {pk:List Nat} (h:s.R.length=c.m) (hC:C.fx=(List.range (tT c s []).length).filter (fun i=>!pk.contains i)):∀k∈C.fx,k<c.m+6:=fun k hk=>by
 rw [hC,List.mem_filter,List.mem_range,tT_len h] at hk
 simpa using hk.1
theorem ltL_byV {N m k:Nat} (h:m+6≤k):SV.ltL k (byV N m)=true:=by
 unfold byV;rw [ltL_map,List.all_eq_true]
 intro i hi
 have hi:i<m:=by simpa using hi
 simp [rw6];omega
theorem le_tT {C:Ctx} {N0:Nat} {c:Tc} (s:Tb) {fr fr':List (Nat × SV)} {tl tl':Tab} (h:s.R.length=c.m) (hx:∀k∈C.fx,k<c.m+6) (hf:leF fr fr') (ht:leM tl tl') (h2:ltF (c.m+6+tl'.length) fr') (h3:ltM (c.m+6+tl'.length) tl') :
  Le C ⟨N0,fr,tT c s tl⟩ ⟨N0,fr',tT c s tl'⟩:=by
 refine Le.syn ⟨rfl,hf,?_,.inr ⟨?_,?_,?_⟩⟩
 ·exact leM_ap (tH c s) (leM_ap _ ht)
 ·rw [tT_len h];exact h2
 ·rw [tT_len h]
  refine ltM_ap ?_ (ltM_ap (ltM_rwT _ _) h3)
  have:=ltL_byV (N:=c.N) (m:=c.m) (k:=c.m+6+tl'.length) (by omega)
  simp [tH,tS,ltM,this]
  omega
 ·rw [tT_len h];intro k hk;have:=hx k hk;omega
theorem qw_sumX {f:Nat→Rat} {V:Nat}:∀k,(∀i,i<k→Proofs.qw V (f i))→Proofs.qw (1+k*(V+1)) (sumR f k)
 | 0,_=>⟨fw_zero _,fw_one (by omega)⟩
 | k+1,h=>by
  have h1:=qw_sumX k fun i hi=>h i (by omega)
  refine qw_mono (qw_add h1 (h k (by omega))) ?_
  rw [Nat.add_mul];omega
theorem nlL_map {α:Type} (f:α→SV) (hf:∀a,nlV (f a)=f a):∀l:List α,nlL (l.map f)=l.map f
 | []=>rfl
 | a::l=>by simp only [List.map_cons,nlL,hf a,nlL_map f hf l]
theorem lset_iv {l:List Int} {i:Nat} {x:Int}:lset (l.map iv) i (.val (.int .i64 x))=(l.set i x).map iv:=by rw [lset_eq,List.map_set];rfl
@[simp] theorem nlV_rsvS (q:Rat):nlV (rsv q)=rsv q:=rfl
theorem nlL_lset:∀{l:List SV} {j:Nat} {x:SV},nlL (lset l j x)=lset (nlL l) j (nlV x)
 | [],_,_=>rfl
 | _::_,0,_=>by simp [lset,nlL]
 | _::l,j+1,x=>by simp only [lset,nlL];rw [nlL_lset]
theorem nlM_tset {M:Tab} {k:Nat} {e:Ent}:nlM (tset M k (some e))=tset (nlM M) k (some ⟨e.sz,nlL e.es,e.fz⟩):=by
 unfold nlM
 rw [tset_eq,List.map_set,tset_eq];rfl
theorem nlM_tT (c:Tc) (s:Tb) (tl:Tab):nlM (tT c s tl)=tT c s (nlM tl):=by
 unfold tT
 rw [nlM_app,nlM_app,nlM_rwT]
 congr 1
 unfold tH tS byV
 simp only [nlM_some,nlM_nil,nlL,nlV_agg]
 rw [nlL_map iv (fun _=>rfl),nlL_map rsv (fun _=>rfl),nlL_map natV (fun _=>rfl),nlL_map iv (fun _=>rfl),nlL_map (rw6 c.N) (fun _=>rfl)]
 simp
theorem nlM_row {s:Tb} {c:Tc} {l:List Rat} {i j:Nat} {tl:Tab} (hi:i<s.R.length):nlM (tH c s++tset (rwT s.R++tl) i (some ⟨4,lset (l.map rsv) j (.agg [.val (.bool false),.val (.slice none 0 0),.val (.bool false),.val (.slice none 0 0)]),false⟩))=tT c { s with R:=s.R.set i (l.set j 0) } (nlM tl):=by
 have e1:nlM (tH c s)=tH c s:=by
  have h0:nlM (tH c { s with R:=[] })=tH c { s with R:=[] }:=by simpa [tT,rwT] using nlM_tT c { s with R:=[] } []
  exact h0
 rw [nlM_app,e1,nlM_tset,nlM_app,nlM_rwT,nlL_lset,nlL_r]
 have e2:nlV (.agg [.val (.bool false),.val (.slice none 0 0),.val (.bool false),.val (.slice none 0 0)])=rsv 0:=by rw [←rsv0];rfl
 rw [e2,lset_rat,tset_rw hi]
 rfl
theorem leM_pre:∀(A B:Tab),leM (A++B) A
 | [],B=>by cases B<;>trivial
 | _::A,B=>⟨.inr rfl,leM_pre A B⟩
theorem leM_tT (c:Tc) (s:Tb) (tl:Tab):leM (tT c s tl) (tH c s++rwT s.R):=leM_ap _ (leM_pre _ _)
theorem ltM_tT {c:Tc} {s:Tb} (h:s.R.length=c.m):ltM (tH c s++rwT s.R).length (tH c s++rwT s.R):=by
 have e:(tH c s++rwT s.R).length=c.m+6:=by simp [tH,h]
 rw [e]
 refine ltM_ap ?_ (ltM_rwT _ _)
 have:=ltL_byV (N:=c.N) (m:=c.m) (k:=c.m+6) (by omega)
 simp [tH,tS,ltM,this]
theorem le_tT0 {C:Ctx} {N0:Nat} {c:Tc} (s:Tb) {fr fr':List (Nat × SV)} {tl:Tab} (h:s.R.length=c.m) (hx:∀k∈C.fx,k<c.m+6) (hf:leF fr fr') (h2:ltF (c.m+6) fr') :
  Le C ⟨N0,fr,tT c s tl⟩ ⟨N0,fr',tH c s++rwT s.R⟩:=by
 have:=le_tT (C:=C) (N0:=N0) (c:=c) (tl:=tl) (tl':=[]) s h hx hf (by simp [leM]) h2 (by simp [ltM])
 unfold tT at this ⊢
 simpa using this
theorem le_nlR {C:Ctx} {N0:Nat} {c:Tc} (s:Tb) {l:List Rat} {i j:Nat} {fr fr':List (Nat × SV)} {tl tl':Tab} (h:s.R.length=c.m) (hi:i<c.m) (hx:∀k∈C.fx,k<c.m+6) (hf:leF (nlF fr) fr') (ht:leM (nlM tl) tl') (h2:ltF (c.m+6+tl'.length) fr') (h3:ltM (c.m+6+tl'.length) tl') :
  Le C ⟨N0,fr,tH c s++tset (rwT s.R++tl) i (some ⟨4,lset (l.map rsv) j (.agg [.val (.bool false),.val (.slice none 0 0),.val (.bool false),.val (.slice none 0 0)]),false⟩)⟩ ⟨N0,fr',tT c { s with R:=s.R.set i (l.set j 0) } tl'⟩:=by
 refine (Le.nl _).trans ?_
 unfold nlS
 rw [nlM_row (by omega)]
 exact le_tT { s with R:=s.R.set i (l.set j 0) } (by simpa using h) hx hf ht h2 h3
theorem le_nlX {C:Ctx} {N0:Nat} {c:Tc} (s:Tb) {x:List Rat} {j:Nat} {fr fr':List (Nat × SV)} (h:s.R.length=c.m) (hx:∀k∈C.fx,k<c.m+6) (hf:leF (nlF fr) fr') (h2:ltF (c.m+6) fr') :
  Le C ⟨N0,fr,[some ⟨11,[tS c],false⟩,some ⟨1,s.wh.map iv,false⟩,some ⟨4,lset (x.map rsv) j (.agg [.val (.bool false),.val (.slice none 0 0),.val (.bool false),.val (.slice none 0 0)]),false⟩,some ⟨1,s.basic.map natV,false⟩,some ⟨1,s.row.map iv,false⟩,some ⟨1,byV c.N c.m,false⟩]++rwT s.R⟩ ⟨N0,fr',tH c { s with x:=x.set j 0 }++rwT s.R⟩:=by
 refine (Le.nl _).trans ?_
 have e2:nlV (.agg [.val (.bool false),.val (.slice none 0 0),.val (.bool false),.val (.slice none 0 0)])=rsv 0:=by rw [←rsv0];rfl
 have e:nlM ([some ⟨11,[tS c],false⟩,some ⟨1,s.wh.map iv,false⟩,some ⟨4,lset (x.map rsv) j (.agg [.val (.bool false),.val (.slice none 0 0),.val (.bool false),.val (.slice none 0 0)]),false⟩,some ⟨1,s.basic.map natV,false⟩,some ⟨1,s.row.map iv,false⟩,some ⟨1,byV c.N c.m,false⟩]++rwT s.R)=tT c { s with x:=x.set j 0 } []:=by
  have h0:=nlM_tT c { s with x:=x.set j 0 } []
  unfold tT tH at h0 ⊢
  rw [nlM_app,nlM_app,nlM_rwT] at h0
  rw [nlM_app,nlM_rwT]
  simp only [nlM_some,nlM_nil,nlL_lset,nlL_r,e2,lset_rat] at h0 ⊢
  simpa using h0
 unfold nlS
 rw [e]
 exact le_tT0 { s with x:=x.set j 0 } h hx hf h2
theorem le_nlT {C:Ctx} {N0:Nat} {c:Tc} (s:Tb) {fr fr':List (Nat × SV)} {tl tl':Tab} (h:s.R.length=c.m) (hx:∀k∈C.fx,k<c.m+6) (hf:leF (nlF fr) fr') (ht:leM (nlM tl) tl') (h2:ltF (c.m+6+tl'.length) fr') (h3:ltM (c.m+6+tl'.length) tl') :
  Le C ⟨N0,fr,tT c s tl⟩ ⟨N0,fr',tT c s tl'⟩:=by
 refine (Le.nl _).trans ?_
 unfold nlS
 rw [nlM_tT]
 exact le_tT s h hx hf ht h2 h3
end Go.Sx
namespace Go.Proofs
open Go.Sv Go Go.Tb Go.Pl Go.Ut Go.Mx Go.Li Go.Dt Go.Sx
theorem qReckon_ok (c:Tc) (s:Tb) (hc:TcL c) (h:TbL c s) {W V:Nat} (h1:1≤W) (hW:∀i j,i<c.m→j<c.N→qw W (gt (gt s.R i) j)) (hV:∀i k,i<c.m→k<c.N→gt (gt s.R i) k≠0→qw V (gt (rkX s c.N i) k)) (hz:1+c.N*(W+V+1)≤10000000000) :
  EffC Tryz.prog 120 [.ptr 0 0 0] (tT c s []) [] (fun T x=>T=tT c { s with x:=rkX s c.N c.m } []∧x=.tup []):=by
 have h7:=hc.m7
 have h14:=hc.N14
 have hR:=h.R
 have hx:=h.x
 have hb:=h.b
 refine eff_enter Tryz.func120 rfl (by simp) (fun C hC=>?_)
 have fx:=fx_lt hR hC
 simp [tT,tH,tS]
 refine CodeJ.loopL (ι:=Nat) (fun i=>⟨53,[(0,.ptr 0 0 0),(10,.view 5 0 c.m),(11,iv c.m),(12,iv i)],tT c { s with x:=rkX s c.N i } []⟩)
  (fun i=>i≤c.m) (fun i=>c.m - i) 0 (by simp) ?_ ?_
 ·simp [leS,tT,tH,tS,rkX]
 ·rintro i hi
  by_cases hlt:i<c.m
  ·have lb:=lget_byV (N:=c.N) hlt
   simp only [tT,tH,tS,List.cons_append,List.nil_append]
   simp (disch:=omega) [hlt,lb,hR]
   repeat (refine And.intro (by omega) ?_)
   refine CodeJ.le (le_nlT (tl:=[some ⟨4,[.agg [.val (.bool false),.val (.slice none 0 0),.val (.bool false),.val (.slice none 0 0)]],false⟩]) (fr':=[(0,.ptr 0 0 0),(10,.view 5 0 c.m),(11,iv c.m),(12,iv i),(2,iv i),(4,.ptr (c.m+6) 0 0),(17,.view (i+6) 0 c.N),(18,iv c.N),(19,iv (0:Nat))]) (tl':=[some ⟨4,[rsv 0],false⟩]) { s with x:=rkX s c.N i } hR fx ?_ (by simp [leM,rsv0]) (by simp [ltF];omega) (by simp [ltM])) ?_
   ·simp [leF,Go.Sv.get]
   refine CodeJ.loopL (ι:=Nat) (fun j=>⟨53,[(0,.ptr 0 0 0),(10,.view 5 0 c.m),(11,iv c.m),(12,iv i),(2,iv i),(4,.ptr (c.m+6) 0 0),(17,.view (i+6) 0 c.N),(18,iv c.N),(19,iv j)],tT c { s with x:=rkX s c.N i } [some ⟨4,[rsv (sumR (fun j=>gt (gt s.R i) j*gt (rkX s c.N i) j) j)],false⟩]⟩)
    (fun j=>j≤c.N) (fun j=>c.N - j) 0 (by simp) ?_ ?_
   ·simp [leS,tT,tH,tS,sumR,leM_self]
   ·rintro j hj
    have tg:=fun tl:Tab=>tget_rw (C:=s.R) (tl:=tl) (e:=i) (by omega)
    have lr:=lget_r (l:=gt s.R i) (i:=j)
    simp only [tT,tH,tS,List.cons_append,List.nil_append]
    by_cases hjN:j<c.N
    ·have Rr:=h.Rr i hlt
     have lr:=lget_r (l:=gt s.R i) (i:=j) (by omega)
     have lx:=lget_r (l:=rkX s c.N i) (i:=j) (by simp;omega)
     have xl:(rkX s c.N i).length=c.N:=by rw [rkX_len,hx]
     have q1:=hW i j hlt hjN
     have qs:=qw_sumX (f:=fun j=>gt (gt s.R i) j*gt (rkX s c.N i) j) (V:=W+V) j (fun k hk=>by
      by_cases z:gt (gt s.R i) k=0
      ·rw [z,Rat.zero_mul];exact qw_mono (qw_int (k:=1) (x:=0) (fw_zero _) (by omega)) (by omega)
      ·exact qw_mul (hW i k hlt (by omega)) (hV i k hlt (by omega) z) (by omega))
     have hN1:1*(W+V+1)≤c.N*(W+V+1):=Nat.mul_le_mul_right _ (by omega)
     have hj1:j*(W+V+1)≤c.N*(W+V+1):=Nat.mul_le_mul_right _ hj
     simp (disch:=omega) [hjN,tg,Rr,lr,hR,tgA,tgB,tsA,tsB]
     repeat (refine And.intro (by omega) ?_)
     refine callS (qSign_ok (gt (gt s.R i) j)) (by simp) ?_
     simp (disch:=omega) [w64,Int.sign_eq_zero_iff_zero,Rat.num_eq_zero]
     repeat (refine And.intro (by omega) ?_)
     refine ⟨fun z=>?_,fun z=>?_⟩
     ·have q2:=hV i j hlt hjN z
      refine CodeJ.draw (.qs [0,1,2,3,4,5,6,7,8]<|.l 9 []<|.l 10 []<|.l 11 [c.m+6]<|.nil) (by kernel_rfl) (by kernel_rfl) (by simp) ?_
      simp (disch:=omega) [hjN,hR,tgA,tgB,tsA,tsB,lx,xl]
      repeat (refine And.intro (by omega) ?_)
      refine callS (qMul_ok _ _ (qok_of q1 (by omega)) (qok_of q2 (by omega))) (by simp) ?_
      simp (disch:=omega) [hjN,hR,tgA,tgB,tsA,tsB,lx,xl]
      repeat (refine And.intro (by omega) ?_)
      refine callS (qAdd_ok _ _ (qok_of qs (by omega)) (qok_of (qw_mul q1 q2 (by omega)) (by omega))) (by simp) ?_
      simp (disch:=omega) [hjN,hR,tgA,tgB,tsA,tsB,w64]
      repeat (refine And.intro (by omega) ?_)
      refine ⟨j+1,by omega,by omega,?_⟩
      exact le_tT { s with x:=rkX s c.N i } hR fx (by simp (disch:=omega) [leF,Go.Sv.get,w64]) (by simp [leM,sumR]) (by simp [ltF];omega) (by simp [ltM])
     ·refine ⟨j+1,by omega,by omega,?_⟩
      exact le_tT { s with x:=rkX s c.N i } hR fx (by simp (disch:=omega) [leF,Go.Sv.get,w64]) (by simp [leM,sumR,z,Rat.zero_mul,Rat.add_zero]) (by simp [ltF];omega) (by simp [ltM])
    ·obtain rfl:j=c.N:=by omega
     have lbi:=lget_nat (l:=s.basic) (i:=i) (by omega)
     have bbi:=h.bb i hlt
     have xl:(rkX s c.N i).length=c.N:=by rw [rkX_len,hx]
     have lxb:=lget_r (l:=rkX s c.N i) (i:=gt s.basic i) (by omega)
     simp (disch:=omega) [hR]
     repeat (refine And.intro (by omega) ?_)
     refine CodeJ.draw (.qs [0,1,2,3,4,5,6,7,8,9,10,11,12]<|.l 13 [2]<|.nil) (by kernel_rfl) (by kernel_rfl) (by simp) ?_
     simp (disch:=omega) [hR,tgA,tgB,lbi,xl,hb,lxb,lset_rat, -List.map_set]
     repeat (refine And.intro (by omega) ?_)
     refine ⟨i+1,by omega,by omega,?_⟩
     exact le_tT0 { s with x:=rkX s c.N (i+1) } hR fx (by simp (disch:=omega) [leF,Go.Sv.get,w64]) (by simp [ltF])
  ·obtain rfl:i=c.m:=by omega
   simp
   exact ⟨_,_,⟨rfl,rfl⟩,rfl,(by rw [tT,List.append_nil];exact leM_self _),by simp,.inl (by simp [tT,tH])⟩
end Go.Proofs


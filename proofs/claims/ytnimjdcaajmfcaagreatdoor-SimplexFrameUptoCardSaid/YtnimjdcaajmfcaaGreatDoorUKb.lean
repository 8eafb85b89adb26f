/- A text of the prover's own. -/
import Derived.Test.YtnimjdcaajmfcaaGreatDoorUUt
import Derived.Test.YtnimjdcaajmfcaaGreatDoorUVe
namespace Go.Li
open Go Go.Sv Go.Pl Go.Proofs Go.Tb Go.Ut
@[simp] theorem Sub_isP {M:Tab} {x:SV} (h:isP x):Sv.Sub M x x=True:=eq_true (Sub_self M x h)
structure Bo where
 has:Bool
 at':Rat
instance:Inhabited Bo:=⟨⟨false,0⟩⟩
structure Col where
 name:ByteArray
 whole:Bool
 low:Bo
 high:Bo
 cost:Rat
instance:Inhabited Col:=⟨⟨.empty,false,default,default,0⟩⟩
structure Term where
 col:Int
 num:Rat
instance:Inhabited Term:=⟨⟨0,0⟩⟩
structure Row where
 name:ByteArray
 terms:List Term
 low:Bo
 high:Bo
instance:Inhabited Row:=⟨⟨.empty,[],default,default⟩⟩
structure Prob where
 max:Bool
 shift:Rat
 cols:List Col
 rows:List Row
structure ColT where
 name:ByteArray
 whole:Bool
 low:ByteArray
 high:ByteArray
 cost:ByteArray
instance:Inhabited ColT:=⟨⟨.empty,false,.empty,.empty,.empty⟩⟩
structure RowT where
 name:ByteArray
 low:ByteArray
 high:ByteArray
 cols:List Int
 nums:List ByteArray
instance:Inhabited RowT:=⟨⟨.empty,.empty,.empty,[],[]⟩⟩
structure SpecT where
 max:Bool
 shift:ByteArray
 cols:List ColT
 rows:List RowT
def qb (b:Bo):SV:=.agg [.val (.bool (decide (b.at'.num<0))),.ro ((dig 10000 b.at'.num.natAbs).map i64),.val (.bool false),.ro (if b.has=true then (dig 10000 b.at'.den).map i64 else [])]
theorem qb_has {b:Bo} (h:b.has=true):qb b=qsv b.at':=by unfold qb;rw [if_pos h];rfl
theorem qb_none:qb ⟨false,0⟩=qnil:=by simp [qb,qnil,dig_zero]
@[simp] theorem qb_csz (b:Bo):(qb b).csz=4:=rfl
@[simp] theorem qb_isTup (b:Bo):(qb b).isTup=false:=rfl
@[simp] theorem qb_isAgg (b:Bo):(qb b).isAgg=true:=rfl
@[simp] theorem qb_pure (b:Bo):(qb b).pure=true:=rfl
@[simp] theorem qb_lt (n:Nat) (b:Bo):(qb b).lt n=true:=rfl
@[simp] theorem qb_uses (n:Nat) (b:Bo):(qb b).uses n=false:=rfl
@[simp] theorem qbc_pure (b:Bo):SV.pureL (qb b).cells=true:=rfl
@[simp] theorem qbc_uses (b:Bo) (k:Nat):SV.usesL k (qb b).cells=false:=rfl
@[simp] theorem qbc_lt (b:Bo) (k:Nat):SV.ltL k (qb b).cells=true:=rfl
@[simp] theorem qbc_len (b:Bo):(qb b).cells.length=4:=rfl
@[simp] theorem qbc_take' (b:Bo) (r:List SV) (n:Nat):List.take (n+4) ((qb b).cells++r)=(qb b).cells++List.take n r:=rfl
@[simp] theorem qbc_drop (b:Bo) (r:List SV) (n:Nat):List.drop (n+4) ((qb b).cells++r)=List.drop n r:=rfl
def boQ (b:Bo):SV:=.agg ([bov b.has]++(rsv b.at').cells)
@[simp] theorem boQ_csz (b:Bo):(boQ b).csz=5:=rfl
@[simp] theorem boQ_isTup (b:Bo):(boQ b).isTup=false:=rfl
@[simp] theorem boQ_isAgg (b:Bo):(boQ b).isAgg=true:=rfl
@[simp] theorem boQ_pure (b:Bo):(boQ b).pure=true:=rfl
@[simp] theorem boQ_lt (n:Nat) (b:Bo):(boQ b).lt n=true:=rfl
@[simp] theorem boQ_uses (n:Nat) (b:Bo):(boQ b).uses n=false:=rfl
@[simp] theorem boQ_f0 (b:Bo):lget (boQ b).cells 0=bov b.has:=rfl
def boP (b:Bo):SV:=.agg ([bov b.has]++(qb b).cells)
@[simp] theorem boP_csz (b:Bo):(boP b).csz=5:=rfl
@[simp] theorem boP_isTup (b:Bo):(boP b).isTup=false:=rfl
@[simp] theorem boP_isAgg (b:Bo):(boP b).isAgg=true:=rfl
@[simp] theorem boP_pure (b:Bo):(boP b).pure=true:=rfl
@[simp] theorem boP_uses (n:Nat) (b:Bo):(boP b).uses n=false:=rfl
@[simp] theorem boP_f0 (b:Bo):lget (boP b).cells 0=bov b.has:=rfl
def boX (h:Bool) (b:Bo):SV:=.agg ([bov h]++(qb b).cells)
@[simp] theorem boX_csz (h:Bool) (b:Bo):(boX h b).csz=5:=rfl
@[simp] theorem boX_isTup (h:Bool) (b:Bo):(boX h b).isTup=false:=rfl
@[simp] theorem boX_isAgg (h:Bool) (b:Bo):(boX h b).isAgg=true:=rfl
@[simp] theorem boX_pure (h:Bool) (b:Bo):(boX h b).pure=true:=rfl
@[simp] theorem boX_lt (n:Nat) (h:Bool) (b:Bo):(boX h b).lt n=true:=rfl
@[simp] theorem boX_uses (n:Nat) (h:Bool) (b:Bo):(boX h b).uses n=false:=rfl
@[simp] theorem boQc_pure (b:Bo):SV.pureL (boQ b).cells=true:=rfl
@[simp] theorem boQc_uses (b:Bo) (k:Nat):SV.usesL k (boQ b).cells=false:=rfl
@[simp] theorem boQc_lt (b:Bo) (k:Nat):SV.ltL k (boQ b).cells=true:=rfl
@[simp] theorem boQc_len (b:Bo):(boQ b).cells.length=5:=rfl
@[simp] theorem boQc_take' (b:Bo) (r:List SV) (n:Nat):List.take (n+5) ((boQ b).cells++r)=(boQ b).cells++List.take n r:=rfl
@[simp] theorem boQc_drop (b:Bo) (r:List SV) (n:Nat):List.drop (n+5) ((boQ b).cells++r)=List.drop n r:=rfl
@[simp] theorem boPc_len (b:Bo):(boP b).cells.length=5:=rfl
@[simp] theorem boPc_take' (b:Bo) (r:List SV) (n:Nat):List.take (n+5) ((boP b).cells++r)=(boP b).cells++List.take n r:=rfl
@[simp] theorem boPc_drop (b:Bo) (r:List SV) (n:Nat):List.drop (n+5) ((boP b).cells++r)=List.drop n r:=rfl
@[simp] theorem boXc_pure (h:Bool) (b:Bo):SV.pureL (boX h b).cells=true:=rfl
@[simp] theorem boXc_uses (h:Bool) (b:Bo) (k:Nat):SV.usesL k (boX h b).cells=false:=rfl
@[simp] theorem boXc_lt (h:Bool) (b:Bo) (k:Nat):SV.ltL k (boX h b).cells=true:=rfl
@[simp] theorem boXc_len (h:Bool) (b:Bo):(boX h b).cells.length=5:=rfl
@[simp] theorem boXc_take' (h:Bool) (b:Bo) (r:List SV) (n:Nat):List.take (n+5) ((boX h b).cells++r)=(boX h b).cells++List.take n r:=rfl
@[simp] theorem boXc_drop (h:Bool) (b:Bo) (r:List SV) (n:Nat):List.drop (n+5) ((boX h b).cells++r)=List.drop n r:=rfl
theorem boQ_no:boQ ⟨false,0⟩=.agg [.val (.bool false),.val (.bool false),.ro [],.val (.bool false),.ro []]:=by simp [boQ,rsv,dig_zero]
theorem boX_no:boX false ⟨false,0⟩=.agg [.val (.bool false),.val (.bool false),.ro [],.val (.bool false),.ro []]:=by simp [boX,qb,dig_zero]
theorem boQ_mk {h:Bool} {q:Rat}:SV.agg (.val (.bool h)::(rsv q).cells)=boQ ⟨h,q⟩:=rfl
theorem boX_mk {h:Bool} {b:Bo}:SV.agg (.val (.bool h)::(qb b).cells)=boX h b:=rfl
def termQ (t:Term):SV:=.agg ([iv t.col]++(rsv t.num).cells)
@[simp] theorem termQ_csz (t:Term):(termQ t).csz=5:=rfl
@[simp] theorem termQ_isTup (t:Term):(termQ t).isTup=false:=rfl
@[simp] theorem termQ_isAgg (t:Term):(termQ t).isAgg=true:=rfl
@[simp] theorem termQ_pure (t:Term):(termQ t).pure=true:=rfl
@[simp] theorem termQ_lt (n:Nat) (t:Term):(termQ t).lt n=true:=rfl
@[simp] theorem termQ_uses (n:Nat) (t:Term):(termQ t).uses n=false:=rfl
@[simp] theorem termQ_f0 (t:Term):lget (termQ t).cells 0=iv t.col:=rfl
theorem lget_termQ {l:List _} {i:Nat} (h:i<l.length):lget (l.map termQ) i=termQ (gt l i):=lget_m _ h
theorem termQ_mk {c:Int} {q:Rat}:SV.agg (.val (.int .i64 c)::(rsv q).cells)=termQ ⟨c,q⟩:=rfl
@[simp] theorem termQ_num (t:Term):SV.agg (List.take 4 (termQ t).cells.tail)=rsv t.num:=rfl
def colQ (c:Col):SV:=.agg ([.val (.string c.name),bov c.whole]++(boQ c.low).cells++(boQ c.high).cells++(rsv c.cost).cells)
@[simp] theorem colQ_csz (c:Col):(colQ c).csz=16:=rfl
@[simp] theorem colQ_isTup (c:Col):(colQ c).isTup=false:=rfl
@[simp] theorem colQ_isAgg (c:Col):(colQ c).isAgg=true:=rfl
@[simp] theorem colQ_pure (c:Col):(colQ c).pure=true:=rfl
@[simp] theorem colQ_lt (n:Nat) (c:Col):(colQ c).lt n=true:=rfl
@[simp] theorem colQ_uses (n:Nat) (c:Col):(colQ c).uses n=false:=rfl
@[simp] theorem colQ_f0 (c:Col):lget (colQ c).cells 0=.val (.string c.name):=rfl
@[simp] theorem colQ_f2 (c:Col):SV.agg (((colQ c).cells.drop 2).take 5)=boQ c.low:=rfl
@[simp] theorem colQ_f7 (c:Col):SV.agg (((colQ c).cells.drop 7).take 5)=boQ c.high:=rfl
@[simp] theorem colQ_f12 (c:Col):SV.agg (((colQ c).cells.drop 12).take 4)=rsv c.cost:=rfl
theorem lget_colQ {l:List _} {i:Nat} (h:i<l.length):lget (l.map colQ) i=colQ (gt l i):=lget_m _ h
theorem colQ_mk {n:ByteArray} {w:Bool} {l h:Bo} {q:Rat}:SV.agg (.val (.string n)::.val (.bool w)::((boQ l).cells++((boQ h).cells++(rsv q).cells)))=colQ ⟨n,w,l,h,q⟩:=rfl
def colP (c:Col):SV:=.agg ([.val (.string c.name),bov c.whole]++(boP c.low).cells++(boP c.high).cells++(qsv c.cost).cells)
@[simp] theorem colP_csz (c:Col):(colP c).csz=16:=rfl
@[simp] theorem colP_isTup (c:Col):(colP c).isTup=false:=rfl
@[simp] theorem colP_isAgg (c:Col):(colP c).isAgg=true:=rfl
@[simp] theorem colP_f0 (c:Col):lget (colP c).cells 0=.val (.string c.name):=rfl
@[simp] theorem colP_f1 (c:Col):lget (colP c).cells 1=bov c.whole:=rfl
@[simp] theorem colP_f2 (c:Col):SV.agg (((colP c).cells.drop 2).take 5)=boP c.low:=rfl
@[simp] theorem colP_f7 (c:Col):SV.agg (((colP c).cells.drop 7).take 5)=boP c.high:=rfl
@[simp] theorem colP_f12 (c:Col):SV.agg (((colP c).cells.drop 12).take 4)=qsv c.cost:=rfl
theorem lget_colP {l:List _} {i:Nat} (h:i<l.length):lget (l.map colP) i=colP (gt l i):=lget_m _ h
def rowQ (r:Row):SV:=.agg ([.val (.string r.name),.ro (r.terms.map termQ)]++(boQ r.low).cells++(boQ r.high).cells)
@[simp] theorem rowQ_csz (r:Row):(rowQ r).csz=12:=rfl
@[simp] theorem rowQ_isTup (r:Row):(rowQ r).isTup=false:=rfl
@[simp] theorem rowQ_isAgg (r:Row):(rowQ r).isAgg=true:=rfl
@[simp] theorem rowQ_pure (r:Row):(rowQ r).pure=true:=rfl
@[simp] theorem rowQ_lt (n:Nat) (r:Row):(rowQ r).lt n=true:=rfl
@[simp] theorem rowQ_uses (n:Nat) (r:Row):(rowQ r).uses n=false:=rfl
@[simp] theorem rowQ_f0 (r:Row):lget (rowQ r).cells 0=.val (.string r.name):=rfl
@[simp] theorem rowQ_f1 (r:Row):lget (rowQ r).cells 1=.ro (r.terms.map termQ):=rfl
@[simp] theorem rowQ_f2 (r:Row):SV.agg (((rowQ r).cells.drop 2).take 5)=boQ r.low:=rfl
@[simp] theorem rowQ_f7 (r:Row):SV.agg (((rowQ r).cells.drop 7).take 5)=boQ r.high:=rfl
theorem lget_rowQ {l:List _} {i:Nat} (h:i<l.length):lget (l.map rowQ) i=rowQ (gt l i):=lget_m _ h
def rowP (r:Row):SV:=.agg ([.val (.string r.name),.ro (r.terms.map fun t=>iv t.col),.ro (r.terms.map fun t=>qsv t.num)]++(boP r.low).cells++(boP r.high).cells)
@[simp] theorem rowP_csz (r:Row):(rowP r).csz=13:=rfl
@[simp] theorem rowP_isTup (r:Row):(rowP r).isTup=false:=rfl
@[simp] theorem rowP_isAgg (r:Row):(rowP r).isAgg=true:=rfl
@[simp] theorem rowP_pure (r:Row):(rowP r).pure=true:=rfl
@[simp] theorem rowP_lt (n:Nat) (r:Row):(rowP r).lt n=true:=rfl
@[simp] theorem rowP_f0 (r:Row):lget (rowP r).cells 0=.val (.string r.name):=rfl
@[simp] theorem rowP_f1 (r:Row):lget (rowP r).cells 1=.ro (r.terms.map fun t=>iv t.col):=rfl
@[simp] theorem rowP_f2 (r:Row):lget (rowP r).cells 2=.ro (r.terms.map fun t=>qsv t.num):=rfl
@[simp] theorem rowP_f3 (r:Row):SV.agg (((rowP r).cells.drop 3).take 5)=boP r.low:=rfl
@[simp] theorem rowP_f8 (r:Row):SV.agg (((rowP r).cells.drop 8).take 5)=boP r.high:=rfl
theorem lget_rowP {l:List _} {i:Nat} (h:i<l.length):lget (l.map rowP) i=rowP (gt l i):=lget_m _ h
def probQ (p:Prob):SV:=.agg ([bov p.max]++(rsv p.shift).cells++[.ro (p.cols.map colQ),.ro (p.rows.map rowQ)])
@[simp] theorem probQ_csz (p:Prob):(probQ p).csz=7:=rfl
@[simp] theorem probQ_isTup (p:Prob):(probQ p).isTup=false:=rfl
@[simp] theorem probQ_isAgg (p:Prob):(probQ p).isAgg=true:=rfl
@[simp] theorem probQ_f0 (p:Prob):lget (probQ p).cells 0=bov p.max:=rfl
@[simp] theorem probQ_f5 (p:Prob):lget (probQ p).cells 5=.ro (p.cols.map colQ):=rfl
@[simp] theorem probQ_f6 (p:Prob):lget (probQ p).cells 6=.ro (p.rows.map rowQ):=rfl
def probP (p:Prob):SV:=.agg ([bov p.max]++(qsv p.shift).cells++[.ro (p.cols.map colP),.ro (p.rows.map rowP)])
@[simp] theorem probP_csz (p:Prob):(probP p).csz=7:=rfl
@[simp] theorem probP_isTup (p:Prob):(probP p).isTup=false:=rfl
@[simp] theorem probP_isAgg (p:Prob):(probP p).isAgg=true:=rfl
@[simp] theorem probP_pure (p:Prob):(probP p).pure=true:=rfl
@[simp] theorem probP_lt (n:Nat) (p:Prob):(probP p).lt n=true:=rfl
@[simp] theorem probP_uses (n:Nat) (p:Prob):(probP p).uses n=false:=rfl
@[simp] theorem probP_ks (p:Prob):(probP p).ks=[]:=rfl
@[simp] theorem probP_f0 (p:Prob):lget (probP p).cells 0=bov p.max:=rfl
@[simp] theorem probP_f5 (p:Prob):lget (probP p).cells 5=.ro (p.cols.map colP):=rfl
@[simp] theorem probP_f6 (p:Prob):lget (probP p).cells 6=.ro (p.rows.map rowP):=rfl
def colT (c:ColT):SV:=.agg ([strv c.name,bov c.whole,strv c.low,strv c.high,strv c.cost])
@[simp] theorem colT_csz (c:ColT):(colT c).csz=5:=rfl
@[simp] theorem colT_isTup (c:ColT):(colT c).isTup=false:=rfl
@[simp] theorem colT_isAgg (c:ColT):(colT c).isAgg=true:=rfl
@[simp] theorem colT_uses (n:Nat) (c:ColT):(colT c).uses n=false:=rfl
@[simp] theorem colT_f0 (c:ColT):lget (colT c).cells 0=strv c.name:=rfl
@[simp] theorem colT_f1 (c:ColT):lget (colT c).cells 1=bov c.whole:=rfl
@[simp] theorem colT_f2 (c:ColT):lget (colT c).cells 2=strv c.low:=rfl
@[simp] theorem colT_f3 (c:ColT):lget (colT c).cells 3=strv c.high:=rfl
@[simp] theorem colT_f4 (c:ColT):lget (colT c).cells 4=strv c.cost:=rfl
theorem lget_colT {l:List _} {i:Nat} (h:i<l.length):lget (l.map colT) i=colT (gt l i):=lget_m _ h
def rowT (r:RowT):SV:=.agg ([strv r.name,strv r.low,strv r.high,.ro (r.cols.map iv),.ro (r.nums.map strv)])
@[simp] theorem rowT_csz (r:RowT):(rowT r).csz=5:=rfl
@[simp] theorem rowT_isTup (r:RowT):(rowT r).isTup=false:=rfl
@[simp] theorem rowT_isAgg (r:RowT):(rowT r).isAgg=true:=rfl
@[simp] theorem rowT_pure (r:RowT):(rowT r).pure=true:=rfl
@[simp] theorem rowT_lt (n:Nat) (r:RowT):(rowT r).lt n=true:=rfl
@[simp] theorem rowT_uses (n:Nat) (r:RowT):(rowT r).uses n=false:=rfl
@[simp] theorem rowT_f0 (r:RowT):lget (rowT r).cells 0=strv r.name:=rfl
@[simp] theorem rowT_f1 (r:RowT):lget (rowT r).cells 1=strv r.low:=rfl
@[simp] theorem rowT_f2 (r:RowT):lget (rowT r).cells 2=strv r.high:=rfl
@[simp] theorem rowT_f3 (r:RowT):lget (rowT r).cells 3=.ro (r.cols.map iv):=rfl
@[simp] theorem rowT_f4 (r:RowT):lget (rowT r).cells 4=.ro (r.nums.map strv):=rfl
theorem lget_rowT {l:List _} {i:Nat} (h:i<l.length):lget (l.map rowT) i=rowT (gt l i):=lget_m _ h
def specT (s:SpecT):SV:=.agg ([bov s.max,strv s.shift,.ro (s.cols.map colT),.ro (s.rows.map rowT)])
@[simp] theorem specT_csz (s:SpecT):(specT s).csz=4:=rfl
@[simp] theorem specT_isTup (s:SpecT):(specT s).isTup=false:=rfl
@[simp] theorem specT_isAgg (s:SpecT):(specT s).isAgg=true:=rfl
@[simp] theorem specT_pure (s:SpecT):(specT s).pure=true:=rfl
@[simp] theorem specT_lt (n:Nat) (s:SpecT):(specT s).lt n=true:=rfl
@[simp] theorem specT_uses (n:Nat) (s:SpecT):(specT s).uses n=false:=rfl
@[simp] theorem specT_f0 (s:SpecT):lget (specT s).cells 0=bov s.max:=rfl
@[simp] theorem specT_f1 (s:SpecT):lget (specT s).cells 1=strv s.shift:=rfl
@[simp] theorem specT_f2 (s:SpecT):lget (specT s).cells 2=.ro (s.cols.map colT):=rfl
@[simp] theorem specT_f3 (s:SpecT):lget (specT s).cells 3=.ro (s.rows.map rowT):=rfl
@[simp] theorem rc_lget (q:Rat) (r:List SV) (n:Nat):lget ((rsv q).cells++r) (n+4)=lget r n:=rfl
@[simp] theorem rc_lset (q:Rat) (r:List SV) (n:Nat) (x:SV):lset ((rsv q).cells++r) (n+4) x=(rsv q).cells++lset r n x:=rfl
@[simp] theorem qbc_lget (q:Bo) (r:List SV) (n:Nat):lget ((qb q).cells++r) (n+4)=lget r n:=rfl
@[simp] theorem qbc_lset (q:Bo) (r:List SV) (n:Nat) (x:SV):lset ((qb q).cells++r) (n+4) x=(qb q).cells++lset r n x:=rfl
theorem usesL_tk {α:Type} (k i:Nat) (f:α→SV) (l:List α):SV.usesL k ((l.map f).take i)=(l.take i).any fun x=>(f x).uses k:=by
 rw [←List.map_take,usesL_map]
theorem pureL_tk {α:Type} (i:Nat) (f:α→SV) (l:List α):SV.pureL ((l.map f).take i)=(l.take i).all fun x=>(f x).pure:=by
 rw [←List.map_take,pureL_map]
theorem ltL_tk {α:Type} (k i:Nat) (f:α→SV) (l:List α):SV.ltL k ((l.map f).take i)=(l.take i).all fun x=>(f x).lt k:=by
 rw [←List.map_take,ltL_map]
attribute [simp] usesL_map usesL_tk pureL_tk ltL_tk
@[simp] theorem rc_fgt (q:Rat) (k:Nat):(rsv q).cells.map (fun y=>if SV.uses k y=true then SV.any else y)=(rsv q).cells:=rfl
@[simp] theorem qbc_fgt (q:Bo) (k:Nat):(qb q).cells.map (fun y=>if SV.uses k y=true then SV.any else y)=(qb q).cells:=rfl
@[simp] theorem boQc_fgt (b:Bo) (k:Nat):(boQ b).cells.map (fun y=>if SV.uses k y=true then SV.any else y)=(boQ b).cells:=rfl
@[simp] theorem boXc_fgt (h:Bool) (b:Bo) (k:Nat):(boX h b).cells.map (fun y=>if SV.uses k y=true then SV.any else y)=(boX h b).cells:=rfl
theorem take1 {α:Type} [Inhabited α] (f:α→SV) {l:List α} {i:Nat} (h:i<l.length):(l.map f).take (i+1)=(l.map f).take i++[f (gt l i)]:=by
 rw [←List.map_take,take_gt h];simp
/-! out of texts -/
def okNum (s:ByteArray):Bool:=decide ((qrd 300 s).2.1=0)
def numB (s:ByteArray):Bo:=if okNum s=true then ⟨true,num s⟩ else ⟨false,0⟩
def isNo (s:ByteArray):Bool:=decide (s=⟨#[]⟩)
def okBo (s:ByteArray):Bool:=isNo s||okNum s
def boOf (s:ByteArray):Bo:=if isNo s=true then ⟨false,0⟩ else ⟨true,num s⟩
def boN (s:ByteArray):Bo:=if isNo s=true then ⟨false,0⟩ else numB s
def okC (c:ColT):Bool:=okBo c.low&&okBo c.high&&okNum c.cost
def colOf (c:ColT):Col:=⟨c.name,c.whole,boOf c.low,boOf c.high,num c.cost⟩
def zipR (r:RowT):List (Int × ByteArray):=r.cols.zip r.nums
def okR (r:RowT):Bool:=okBo r.low&&okBo r.high&&(zipR r).all fun z=>okNum z.2
def termOf (z:Int × ByteArray):Term:=⟨z.1,num z.2⟩
def rowOf (r:RowT):Row:=⟨r.name,(zipR r).map termOf,boOf r.low,boOf r.high⟩
def okS (s:SpecT):Bool:=okNum s.shift&&s.cols.all okC&&s.rows.all okR
def probOf (s:SpecT):Prob:=⟨s.max,num s.shift,s.cols.map colOf,s.rows.map rowOf⟩
theorem rowQ_of {r:RowT}:rowQ (rowOf r)=.agg (.val (.string r.name)::.ro ((zipR r).map fun z=>termQ (termOf z))::((boQ (boOf r.low)).cells++(boQ (boOf r.high)).cells)):=by
 unfold rowQ rowOf
 rw [List.map_map];rfl
theorem probQ_of {s:SpecT}:probQ (probOf s)=.agg (.val (.bool s.max)::((rsv (num s.shift)).cells++[.ro (s.cols.map fun c=>colQ (colOf c)),.ro (s.rows.map fun r=>rowQ (rowOf r))])):=by
 unfold probQ probOf
 rw [List.map_map,List.map_map];rfl
def colX (c:ColT):SV:=.agg ([.val (.string c.name),bov c.whole]++(boX (!isNo c.low) (boN c.low)).cells++(boX (!isNo c.high) (boN c.high)).cells++(qb (numB c.cost)).cells)
@[simp] theorem colX_pure (c:ColT):(colX c).pure=true:=rfl
@[simp] theorem colX_lt (n:Nat) (c:ColT):(colX c).lt n=true:=rfl
@[simp] theorem colX_uses (n:Nat) (c:ColT):(colX c).uses n=false:=rfl
theorem colX_mk {n:ByteArray} {w:Bool} {l h q:ByteArray}:SV.agg (.val (.string n)::.val (.bool w)::((boX (!isNo l) (boN l)).cells++((boX (!isNo h) (boN h)).cells++(qb (numB q)).cells)))=colX ⟨n,w,l,h,q⟩:=rfl
def rowX (r:RowT):SV:=.agg ([.val (.string r.name),.ro ((zipR r).map fun z=>iv z.1),.ro ((zipR r).map fun z=>qb (numB z.2))]++(boX (!isNo r.low) (boN r.low)).cells++(boX (!isNo r.high) (boN r.high)).cells)
@[simp] theorem rowX_pure (r:RowT):(rowX r).pure=true:=rfl
@[simp] theorem rowX_lt (n:Nat) (r:RowT):(rowX r).lt n=true:=rfl
@[simp] theorem rowX_uses (n:Nat) (r:RowT):(rowX r).uses n=false:=rfl
def probX (s:SpecT):SV:=.agg ([bov s.max]++(qb (numB s.shift)).cells++[.ro (s.cols.map colX),.ro (s.rows.map rowX)])
@[simp] theorem probX_csz (s:SpecT):(probX s).csz=7:=rfl
@[simp] theorem probX_isTup (s:SpecT):(probX s).isTup=false:=rfl
@[simp] theorem probX_isAgg (s:SpecT):(probX s).isAgg=true:=rfl
@[simp] theorem probX_pure (s:SpecT):(probX s).pure=true:=rfl
theorem probX_mk {s:SpecT}:probX s=.agg (.val (.bool s.max)::((qb (numB s.shift)).cells++[.ro (s.cols.map colX),.ro (s.rows.map rowX)])):=rfl
theorem rowX_mk {r:RowT}:rowX r=.agg (.val (.string r.name)::.ro ((zipR r).map fun z=>.val (.int .i64 z.1))::.ro ((zipR r).map fun z=>qb (numB z.2))::((boX (!isNo r.low) (boN r.low)).cells++(boX (!isNo r.high) (boN r.high)).cells)):=rfl
theorem qb_num {s:ByteArray} (h:okNum s=true):qb (numB s)=qsv (num s):=by unfold numB;rw [if_pos h];rfl
theorem boX_of {s:ByteArray} (h:okBo s=true):boX (!isNo s) (boN s)=boP (boOf s):=by
 unfold boN boOf
 by_cases h0:isNo s=true
 ·rw [if_pos h0,if_pos h0,h0];rfl
 ·rw [if_neg h0,if_neg h0]
  have h1:okNum s=true:=by
   unfold okBo at h
   have h0':isNo s=false:=by simpa using h0
   rw [h0'] at h;simpa using h
  have h0':isNo s=false:=by simpa using h0
  rw [h0'];unfold numB;rw [if_pos h1];rfl
theorem colX_of {c:ColT} (h:okC c=true):colX c=colP (colOf c):=by
 unfold okC at h
 simp only [Bool.and_eq_true] at h
 unfold colX colP colOf
 rw [boX_of h.1.1,boX_of h.1.2,qb_num h.2]
theorem rowX_of {r:RowT} (h:okR r=true):rowX r=rowP (rowOf r):=by
 unfold okR at h
 simp only [Bool.and_eq_true] at h
 unfold rowX rowP rowOf
 rw [boX_of h.1.1,boX_of h.1.2]
 have e1:(zipR r).map (fun z=>iv z.1)=((zipR r).map termOf).map fun t=>iv t.col:=by rw [List.map_map];rfl
 have e2:(zipR r).map (fun z=>qb (numB z.2))=((zipR r).map termOf).map fun t=>qsv t.num:=by
  rw [List.map_map]
  refine List.map_congr_left fun z hz=>?_
  have:=List.all_eq_true.1 h.2 z hz
  rw [qb_num this];rfl
 rw [e1,e2]
theorem probX_of {s:SpecT} (h:okS s=true):probX s=probP (probOf s):=by
 unfold okS at h
 simp only [Bool.and_eq_true] at h
 unfold probX probP probOf
 have e1:s.cols.map colX=(s.cols.map colOf).map colP:=by
  rw [List.map_map]
  exact List.map_congr_left fun c hc=>colX_of (List.all_eq_true.1 h.1.2 c hc)
 have e2:s.rows.map rowX=(s.rows.map rowOf).map rowP:=by
  rw [List.map_map]
  exact List.map_congr_left fun c hc=>rowX_of (List.all_eq_true.1 h.2 c hc)
 rw [e1,e2,qb_num h.1.1]
structure SmC (c:ColT):Prop where
 name:c.name.size≤1048576
 low:c.low.size≤1048576
 high:c.high.size≤1048576
 cost:c.cost.size≤1048576
structure SmR (r:RowT):Prop where
 name:r.name.size≤1048576
 low:r.low.size≤1048576
 high:r.high.size≤1048576
 cols:r.cols.length≤1048576
 nums:SmN r.nums
structure SmS (s:SpecT):Prop where
 shift:s.shift.size≤1048576
 nc:s.cols.length≤1048576
 nr:s.rows.length≤1048576
 cols:∀i,i<s.cols.length→SmC (gt s.cols i)
 rows:∀i,i<s.rows.length→SmR (gt s.rows i)
/-! taking one more -/
theorem map_take {α:Type} [Inhabited α] (f:α→SV) {l:List α} {i:Nat} (h:i<l.length):(l.take (i+1)).map f=(l.take i).map f++[f (gt l i)]:=by
 rw [take_gt h];simp
theorem all_take {α:Type} [Inhabited α] (f:α→Bool) {l:List α} {i:Nat} (h:i<l.length):(l.take (i+1)).all f=((l.take i).all f&&f (gt l i)):=by
 rw [take_gt h];simp
theorem zipR_len (r:RowT):(zipR r).length=min r.cols.length r.nums.length:=by simp [zipR]
theorem gt_zipR {r:RowT} {i:Nat} (h:i<(zipR r).length):gt (zipR r) i=(gt r.cols i,gt r.nums i):=by
 rw [zipR_len] at h
 have h1:i<r.cols.length:=by omega
 have h2:i<r.nums.length:=by omega
 rw [←gt_get (by rw [zipR_len];exact h),←gt_get h1,←gt_get h2]
 simp [zipR]
end Go.Li
namespace Go.Proofs
open Go.Sv Go Go.Tb Go.Pl Go.Ut Go.Li
def flV (s:ByteArray):SV:=.agg [.val (.int .i64 ((qrd 300 s).2.1:Nat)),.val (.int .i64 (if okNum s=true then -1 else ((qrd 300 s).2.2:Nat)))]
@[simp] theorem flV_pure (s:ByteArray):(flV s).pure=true:=rfl
@[simp] theorem flV_uses (s:ByteArray) (k:Nat):(flV s).uses k=false:=rfl
@[simp] theorem flV_lt (s:ByteArray) (k:Nat):(flV s).lt k=true:=rfl
theorem readB_ok (s:ByteArray) (h:s.size≤1048576):PureF Tryz.prog 66 [.val (.string s)] (.tup [qb (numB s),flV s]):=by
 by_cases hq:(qrd 300 s).2.1=0
 ·have:=pnum_ok s (by omega) hq
  have hk:okNum s=true:=decide_eq_true hq
  rwa [show (SV.tup [qsv (num s),fsv 0 (-1)])=.tup [qb (numB s),flV s] by rw [qb_num hk];simp [flV,hk,hq,fsv]] at this
 ·have:=pQRead_ok s (by omega)
  have hk:okNum s=false:=decide_eq_false hq
  rwa [show outP (qrd 300 s)=.tup [qb (numB s),flV s] by simp [outP,hq,numB,hk,qb_none,flV,fsv]] at this
theorem number1_ok (s:ByteArray) (h:s.size≤1048576):PureF Tryz.prog 167 [.val (.string s),.val (.bool false)] (.tup [qb (numB s),flV s]):=by
 refine pure_enter Tryz.func167 rfl (by simp) (fun C hC=>?_)
 simp
 refine callS (readB_ok s h) (by simp) ?_
 simp [flV]
theorem rBound_ok (s:ByteArray) (h:s.size≤1048576):PureF Tryz.prog 168 [.val (.string s),.val (.bool false)] (.tup [boX (!isNo s) (boN s),.val (.bool (okBo s))]):=by
 refine pure_enter Tryz.func168 rfl (by simp) (fun C hC=>?_)
 simp
 by_cases h0:isNo s=true
 ·have e:s=⟨#[]⟩:=of_decide_eq_true h0
  simp [okBo,boN,h0,e,isNo,boX_no]
 ·have h0':isNo s=false:=by simpa using h0
  have e:¬s=⟨#[]⟩:=of_decide_eq_false h0'
  simp [e]
  refine callS (number1_ok s h) (by simp) ?_
  simp [flV]
  refine CodeJ.draw (.qs [0,1,2]<|.q 3 [0]<|.qs [4]<|.l 5 [0]<|.qs [6]<|.nil) (by kernel_rfl) (by kernel_rfl) (by simp) ?_
  simp [okBo,boN,h0',boX_mk,okNum]
end Go.Proofs


/- A text of the prover's own. -/
import Derived.Test.YtnimjdcaajmfcaaGreatDoorUQo
import Derived.Test.YtnimjdcaajmfcaaGreatDoorUKk
import Derived.Test.YtnimjdcaajmfcaaGreatDoorUUt
import Derived.Test.YtnimjdcaajmfcaaGreatDoorUKb
import Derived.Test.YtnimjdcaajmfcaaGreatDoorUMt
namespace Go.Proofs
open Go.Sv Go Go.Pl
end Go.Proofs
namespace Go.Li
open Go Go.Sv Go.Pl Go.Proofs Go.Tb Go.Ut
def sumK (x:List Rat) (ts:List Term):Nat→Rat
 | 0=>0
 | k+1=>sumK x ts k+(gt ts k).num*gt x (gt ts k).col.toNat
def valK (p:Prob) (x:List Rat):Nat→Rat
 | 0=>p.shift
 | j+1=>valK p x j+(gt p.cols j).cost*gt x j
def inB (q:Rat) (low high:Bo):Bool:=!(low.has&&decide (q<low.at'))&&!(high.has&&decide (high.at'<q))
def colB (p:Prob) (x:List Rat) (whole:Bool) (j:Nat):Bool:=inB (gt x j) (gt p.cols j).low (gt p.cols j).high&&!(whole&&(gt p.cols j).whole&&!decide ((gt x j).den=1))
def rowB (p:Prob) (x:List Rat) (i:Nat):Bool:=inB (sumK x (gt p.rows i).terms (gt p.rows i).terms.length) (gt p.rows i).low (gt p.rows i).high
def holdsB (p:Prob) (x:List Rat) (whole:Bool):Bool:=(List.range p.cols.length).all (colB p x whole)&&(List.range p.rows.length).all (rowB p x)
end Go.Li
namespace Go.Proofs
open Go.Sv Go Go.Tb Go.Pl Go.Ut Go.Li
/-! the program's -/
end Go.Proofs
namespace Go.Li
open Go Go.Sv Go.Pl Go.Proofs Go.Tb Go.Ut
def sumN (f:Nat→Rat):Nat→Rat
 | 0=>0
 | n+1=>sumN f n+f n
theorem sumN_congr {f g:Nat→Rat} {n:Nat} (h:∀j,j<n→f j=g j):sumN f n=sumN g n:=by
 induction n with
 | zero=>rfl
 | succ n ih=>simp only [sumN];rw [ih fun j hj=>h j (by omega),h n (by omega)]
theorem sumN_sub {f g:Nat→Rat} {n:Nat}:sumN (fun j=>f j - g j) n=sumN f n - sumN g n:=by
 induction n with
 | zero=>simp only [sumN];grind
 | succ n ih=>simp only [sumN];rw [ih];grind
theorem sumN_mul {f:Nat→Rat} {c:Rat} {n:Nat}:sumN (fun j=>c*f j) n=c*sumN f n:=by
 induction n with
 | zero=>simp [sumN]
 | succ n ih=>simp only [sumN];rw [ih];grind
theorem sumN_add {f g:Nat→Rat} {n:Nat}:sumN (fun j=>f j+g j) n=sumN f n+sumN g n:=by
 induction n with
 | zero=>simp only [sumN];grind
 | succ n ih=>simp only [sumN];rw [ih];grind
theorem sumN_at {c:Nat} {v:Rat}:∀{n:Nat},sumN (fun j=>if j=c then v else 0) n=if c<n then v else 0
 | 0=>by simp [sumN]
 | n+1=>by
  simp only [sumN]
  rw [sumN_at]
  by_cases h:n=c
  ·subst h;rw [if_neg (by omega),if_pos rfl,if_pos (by omega)];grind
  ·rw [if_neg h]
   by_cases h':c<n
   ·rw [if_pos h',if_pos (by omega)];grind
   ·rw [if_neg h',if_neg (by omega)];grind
theorem sumK_cols {n:Nat} {ts:List Term} (hb:badT n (-1) ts=false) (x:List Rat):∀k,k≤ts.length→sumN (fun j=>gt x j*entT (ts.take k) j) n=sumK x ts k
 | 0,_=>by
  have:sumN (fun j=>gt x j*entT (ts.take 0) j) n=sumN (fun _=>0) n:=sumN_congr fun j _=>by simp [entT]
  rw [this]
  have z:∀m,sumN (fun _=>0) m=0:=fun m=>by
   induction m with
   | zero=>rfl
   | succ m ih=>simp only [sumN];rw [ih];grind
  rw [z];rfl
 | k+1,hk=>by
  obtain ⟨h1,h2,h3,h4⟩:=badT_ok hb k (by omega)
  have ih:=sumK_cols hb x k (by omega)
  have e:∀j,j<n→gt x j*entT (ts.take (k+1)) j=gt x j*entT (ts.take k) j+if j=(gt ts k).col.toNat then (gt ts k).num*gt x (gt ts k).col.toNat else 0:=fun j hj=>by
   rw [take_gt (show k<ts.length by omega),entT_snoc]
   by_cases e:j=(gt ts k).col.toNat
   ·have e':(gt ts k).col=(j:Int):=by omega
    have hn:∀k',k'<(ts.take k).length→(gt (ts.take k) k').col≠(j:Int):=fun k' hk'=>by
     simp only [List.length_take] at hk'
     have e2:gt (ts.take k) k'=gt ts k':=by
      rw [←gt_get (by simpa using hk'),List.getElem_take,gt_get (by omega)]
     have:=h4 k' (by omega)
     rw [e2];omega
    rw [if_pos e',if_pos hn,if_pos e,entT_no hn,e];grind
   ·have e':¬(gt ts k).col=(j:Int):=by omega
    rw [if_neg e',if_neg e];grind
  rw [sumN_congr e,sumN_add,ih,sumN_at,if_pos (by omega)]
  rfl
theorem sumK_all {n:Nat} {ts:List Term} (hb:badT n (-1) ts=false) (x:List Rat):sumN (fun j=>gt x j*entT ts j) n=sumK x ts ts.length:=by
 have:=sumK_cols hb x ts.length (Nat.le_refl _)
 rwa [List.take_length] at this
def rowS (p:Prob) (x:List Rat) (i:Nat):Rat:=sumK x (gt p.rows i).terms (gt p.rows i).terms.length
theorem sumD {p:Prob} (hb:∀i,i<p.rows.length→badT p.cols.length (-1) (gt p.rows i).terms=false) (x y:List Rat):∀i,i≤p.rows.length →
  sumN (fun j=>gt x j*dP p y j i) p.cols.length=sumN (fun j=>gt x j*(gt p.cols j).cost) p.cols.length - sumN (fun k=>gt y k*rowS p x k) i
 | 0,_=>by simp only [sumN,dP];grind
 | i+1,hi=>by
  have ih:=sumD hb x y i (by omega)
  have e:∀j,j<p.cols.length→gt x j*dP p y j (i+1)=gt x j*dP p y j i - gt y i*(gt x j*entT (gt p.rows i).terms j):=fun j _=>by simp only [dP];grind
  rw [sumN_congr e,sumN_sub,sumN_mul,ih,sumK_all (hb i (by omega)) x]
  simp only [sumN,rowS];grind
theorem valK_sum (p:Prob) (x:List Rat):∀j,valK p x j=p.shift+sumN (fun k=>gt x k*(gt p.cols k).cost) j
 | 0=>by simp only [valK,sumN];grind
 | j+1=>by simp only [valK,sumN];rw [valK_sum p x j];grind
/-! between two ends -/
def inSp (s:Sp) (q:Rat):Prop:=(s.lo.has=true→s.lo.at'≤q)∧(s.hi.has=true→q≤s.hi.at')
theorem inB_iff {q:Rat} {a b:Bo}:inB q a b=true↔(a.has=true→a.at'≤q)∧(b.has=true→q≤b.at'):=by
 unfold inB
 simp only [Bool.and_eq_true,Bool.not_eq_true',Bool.and_eq_false_iff,decide_eq_false_iff_not,Rat.not_lt]
 constructor
 ·rintro ⟨h1,h2⟩
  refine ⟨fun h=>?_,fun h=>?_⟩
  ·rcases h1 with h1 | h1
   ·rw [h] at h1;cases h1
   ·exact h1
  ·rcases h2 with h2 | h2
   ·rw [h] at h2;cases h2
   ·exact h2
 ·rintro ⟨h1,h2⟩
  refine ⟨?_,?_⟩
  ·by_cases h:a.has=true
   ·exact .inr (h1 h)
   ·exact .inl (by simpa using h)
  ·by_cases h:b.has=true
   ·exact .inr (h2 h)
   ·exact .inl (by simpa using h)
theorem join_has {a b:Bo} {r:Rat} (h:(joinB a b r).has=true):a.has=true∧b.has=true∧(joinB a b r).at'=a.at'+b.at'*r:=by
 unfold joinB at h ⊢
 by_cases c:a.has=true∧b.has=true
 ·rw [if_pos c];exact ⟨c.1,c.2,rfl⟩
 ·rw [if_neg c] at h;cases h
theorem inSp_plus {s:Sp} {q z r:Rat} {low high:Bo} (hs:inSp s q) (hz:inB z low high=true):inSp (plusS s low high r) (q+z*r):=by
 obtain ⟨z1,z2⟩:=inB_iff.1 hz
 unfold plusS
 by_cases h0:r=0
 ·rw [if_pos h0,h0]
  have:q+z*0=q:=by grind
  rwa [this]
 ·rw [if_neg h0]
  by_cases h1:r<0
  ·rw [if_pos h1]
   refine ⟨fun h=>?_,fun h=>?_⟩
   ·obtain ⟨g1,g2,g3⟩:=join_has h
    show (joinB s.lo high r).at'≤_
    rw [g3]
    have m:=Rat.mul_le_mul_of_nonneg_right (z2 g2) (show 0 ≤ -r by grind)
    have:=hs.1 g1
    grind
   ·obtain ⟨g1,g2,g3⟩:=join_has h
    show _≤(joinB s.hi low r).at'
    rw [g3]
    have m:=Rat.mul_le_mul_of_nonneg_right (z1 g2) (show 0 ≤ -r by grind)
    have:=hs.2 g1
    grind
  ·rw [if_neg h1]
   have hr:0≤r:=Rat.not_lt.1 h1
   refine ⟨fun h=>?_,fun h=>?_⟩
   ·obtain ⟨g1,g2,g3⟩:=join_has h
    show (joinB s.lo low r).at'≤_
    rw [g3]
    have m:=Rat.mul_le_mul_of_nonneg_right (z1 g2) hr
    have:=hs.1 g1
    grind
   ·obtain ⟨g1,g2,g3⟩:=join_has h
    show _≤(joinB s.hi high r).at'
    rw [g3]
    have m:=Rat.mul_le_mul_of_nonneg_right (z2 g2) hr
    have:=hs.2 g1
    grind
theorem holds_col {p:Prob} {x:List Rat} {w:Bool} (h:holdsB p x w=true) {j:Nat} (hj:j<p.cols.length):inB (gt x j) (gt p.cols j).low (gt p.cols j).high=true:=by
 unfold holdsB at h
 simp only [Bool.and_eq_true,List.all_eq_true,List.mem_range] at h
 have:=h.1 j hj
 unfold colB at this
 simp only [Bool.and_eq_true] at this
 exact this.1
theorem holds_row {p:Prob} {x:List Rat} {w:Bool} (h:holdsB p x w=true) {i:Nat} (hi:i<p.rows.length):inB (rowS p x i) (gt p.rows i).low (gt p.rows i).high=true:=by
 unfold holdsB at h
 simp only [Bool.and_eq_true,List.all_eq_true,List.mem_range] at h
 exact h.2 i hi
theorem inSp_R {p:Prob} {x:List Rat} (y:List Rat) (h:holdsB p x false=true):∀i,i≤p.rows.length→inSp (spR p y i) (p.shift+sumN (fun k=>gt y k*rowS p x k) i)
 | 0,_=>by
  have e:p.shift+sumN (fun k=>gt y k*rowS p x k) 0=p.shift:=by simp only [sumN];grind
  rw [e];exact ⟨fun _=>Rat.le_refl,fun _=>Rat.le_refl⟩
 | i+1,hi=>by
  have:=inSp_plus (r:=gt y i) (inSp_R y h i (by omega)) (holds_row h (i:=i) (by omega))
  have e:p.shift+sumN (fun k=>gt y k*rowS p x k) (i+1)=p.shift+sumN (fun k=>gt y k*rowS p x k) i+rowS p x i*gt y i:=by simp only [sumN];grind
  rw [e];exact this
theorem inSp_C {p:Prob} {x:List Rat} (y:List Rat) (h:holdsB p x false=true):∀j,j≤p.cols.length→inSp (spC p y j) (p.shift+sumN (fun k=>gt y k*rowS p x k) p.rows.length+sumN (fun k=>gt x k*dP p y k p.rows.length) j)
 | 0,_=>by
  have e:p.shift+sumN (fun k=>gt y k*rowS p x k) p.rows.length+sumN (fun k=>gt x k*dP p y k p.rows.length) 0=p.shift+sumN (fun k=>gt y k*rowS p x k) p.rows.length:=by simp only [sumN];grind
  rw [e];exact inSp_R y h _ (Nat.le_refl _)
 | j+1,hj=>by
  have:=inSp_plus (r:=dP p y j p.rows.length) (inSp_C y h j (by omega)) (holds_col h (j:=j) (by omega))
  have e:p.shift+sumN (fun k=>gt y k*rowS p x k) p.rows.length+sumN (fun k=>gt x k*dP p y k p.rows.length) (j+1)=p.shift+sumN (fun k=>gt y k*rowS p x k) p.rows.length+sumN (fun k=>gt x k*dP p y k p.rows.length) j+gt x j*dP p y j p.rows.length:=by simp only [sumN];grind
  rw [e];exact this
theorem weak {p:Prob} (hv:validC p=0) {x:List Rat} (y:List Rat) (h:holdsB p x false=true):inSp (spC p y p.cols.length) (valK p x p.cols.length):=by
 have h1:=inSp_C y h p.cols.length (Nat.le_refl _)
 rw [sumD (valid_yes hv).2.2 x y p.rows.length (Nat.le_refl _)] at h1
 rw [valK_sum]
 have e:p.shift+sumN (fun k=>gt y k*rowS p x k) p.rows.length+(sumN (fun j=>gt x j*(gt p.cols j).cost) p.cols.length - sumN (fun k=>gt y k*rowS p x k) p.rows.length)=p.shift+sumN (fun k=>gt x k*(gt p.cols k).cost) p.cols.length:=by grind
 rwa [e] at h1
/-! nothing holds -/
def free (p:Prob):Prob:=⟨p.max,p.shift,p.cols.map fun c=>{ c with cost:=0 },p.rows⟩
end Go.Li
namespace Go.Sv
open Go
end Go.Sv
namespace Go.Li
open Go Go.Sv Go.Pl Go.Proofs Go.Tb Go.Ut
structure Clm where
 kind:Int
 x:List Rat
 y:List Rat
 ray:List Rat
 value:Rat
structure ClmT where
 kind:Int
 x:List ByteArray
 y:List ByteArray
 ray:List ByteArray
 value:ByteArray
structure ClW (c:Clm):Prop where
 x:Wd 2200 c.x
 y:Wd 2200 c.y
 r:Wd 2200 c.ray
 v:qw 2200 c.value
 nx:c.x.length≤1048576
 ny:c.y.length≤1048576
 nr:c.ray.length≤1048576
structure SmCl (c:ClmT):Prop where
 x:SmN c.x
 y:SmN c.y
 r:SmN c.ray
 v:c.value.size≤1048576
theorem nlL_map {α:Type} (f:α→SV) (l:List α):nlL (l.map f)=l.map fun x=>nlV (f x):=by
 induction l with
 | nil=>rfl
 | cons a l ih=>simp [ih]
end Go.Li
namespace Go.Proofs
open Go.Sv Go Go.Tb Go.Pl Go.Ut Go.Li
end Go.Proofs
namespace Go.Proofs
open Go.Sv Go Go.Pl
end Go.Proofs
namespace Go.Li
open Go Go.Sv Go.Pl Go.Proofs Go.Tb Go.Ut
end Go.Li
namespace Go.Proofs
open Go.Sv Go Go.Tb Go.Pl Go.Ut Go.Li
end Go.Proofs
namespace Go.Ut
open Go Go.Sv Go.Pl Go.Proofs Go.Tb
theorem sl_len {e:Pt} {x:(Pt.sl e).T} (h1:∀y,1≤e.bk y) (h:(Pt.sl e).bk x≤1048576):(show List e.T from x).length≤1048576:=by
 have h':(List.map e.bk (show List e.T from x)).sum+1≤1048576:=h
 exact Nat.le_trans (sum_len (f:=e.bk) h1 (l:=(show List e.T from x))) (by omega)
theorem sl_mem {e:Pt} {x:(Pt.sl e).T} (h:(Pt.sl e).bk x≤1048576) {y:e.T} (hy:y∈(show List e.T from x)):e.bk y≤1048576:=by
 have h':(List.map e.bk (show List e.T from x)).sum+1≤1048576:=h
 have:e.bk y≤_:=sum_mem (f:=e.bk) hy
 omega
end Go.Ut
namespace Go.Li
open Go Go.Sv Go.Pl Go.Proofs Go.Tb Go.Ut
def colD:Pt:=.pair .str (.pair .bool (.pair .str (.pair .str (.pair .str .unit))))
def rowD:Pt:=.pair .str (.pair .str (.pair .str (.pair (.sl (.int .i64)) (.pair textsT .unit))))
def specD:Pt:=.pair .bool (.pair .str (.pair (.sl colD) (.pair (.sl rowD) .unit)))
def colOne (y:colD.T):ColT:=⟨y.1,y.2.1,y.2.2.1,y.2.2.2.1,y.2.2.2.2.1⟩
def rowOne (y:rowD.T):RowT:=⟨y.1,y.2.1,y.2.2.1,y.2.2.2.1,y.2.2.2.2.1⟩
def colsOf (x:(Pt.sl colD).T):List ColT:=List.map colOne x
def rowsOf (x:(Pt.sl rowD).T):List RowT:=List.map rowOne x
def specOf (y:specD.T):SpecT:=⟨y.1,y.2.1,colsOf y.2.2.1,rowsOf y.2.2.2.1⟩
theorem spec_sv (x:specD.T):specD.sv x=specT (specOf x):=by
 have e1:∀l:List colD.T,List.map colT (List.map colOne l)=List.map (fun y=>colD.sv y) l:=fun l=>by rw [List.map_map];rfl
 have e2:∀l:List rowD.T,List.map rowT (List.map rowOne l)=List.map (fun y=>rowD.sv y) l:=fun l=>by rw [List.map_map];rfl
 show SV.agg [.val (.bool x.1),.val (.string x.2.1),.ro (List.map (fun y=>colD.sv y) x.2.2.1),.ro (List.map (fun y=>rowD.sv y) x.2.2.2.1)]=SV.agg [.val (.bool x.1),.val (.string x.2.1),.ro (List.map colT (List.map colOne x.2.2.1)),.ro (List.map rowT (List.map rowOne x.2.2.2.1))]
 have g:∀a a' b b':List SV,a=a'→b=b'→SV.agg [.val (.bool x.1),.val (.string x.2.1),.ro a,.ro b]=SV.agg [.val (.bool x.1),.val (.string x.2.1),.ro a',.ro b']:=fun a a' b b' h1 h2=>by rw [h1,h2]
 exact g _ _ _ _ (e1 _).symm (e2 _).symm
theorem col_bk (y:colD.T):colD.bk y=(ByteArray.size y.1+1)+(1+((ByteArray.size y.2.2.1+1)+((ByteArray.size y.2.2.2.1+1)+((ByteArray.size y.2.2.2.2.1+1)+0)))):=rfl
theorem row_bk (y:rowD.T):rowD.bk y=(ByteArray.size y.1+1)+((ByteArray.size y.2.1+1)+((ByteArray.size y.2.2.1+1)+((Pt.sl (.int .i64)).bk y.2.2.2.1+(textsT.bk y.2.2.2.2.1+0)))):=rfl
theorem spec_bk (y:specD.T):specD.bk y=1+((ByteArray.size y.2.1+1)+((Pt.sl colD).bk y.2.2.1+((Pt.sl rowD).bk y.2.2.2.1+0))):=rfl
theorem col_sm {y:colD.T} (h:colD.bk y≤1048576):SmC (colOne y):=by
 rw [col_bk] at h
 refine ⟨?_,?_,?_,?_⟩
 ·show ByteArray.size y.1≤_;omega
 ·show ByteArray.size y.2.2.1≤_;omega
 ·show ByteArray.size y.2.2.2.1≤_;omega
 ·show ByteArray.size y.2.2.2.2.1≤_;omega
theorem row_sm {y:rowD.T} (h:rowD.bk y≤1048576):SmR (rowOne y):=by
 rw [row_bk] at h
 refine ⟨?_,?_,?_,?_,?_⟩
 ·show ByteArray.size y.1≤_;omega
 ·show ByteArray.size y.2.1≤_;omega
 ·show ByteArray.size y.2.2.1≤_;omega
 ·exact sl_len (e:=.int .i64) (x:=y.2.2.2.1) (fun _=>Nat.le_refl 1) (by omega)
 ·exact texts_sm (x:=y.2.2.2.2.1) (by omega)
theorem spec_sm {x:specD.T} (h:specD.bk x≤1048576):SmS (specOf x):=by
 rw [spec_bk] at h
 have hc:(Pt.sl colD).bk x.2.2.1≤1048576:=by omega
 have hr:(Pt.sl rowD).bk x.2.2.2.1≤1048576:=by omega
 refine ⟨?_,?_,?_,fun i hi=>?_,fun i hi=>?_⟩
 ·show ByteArray.size x.2.1≤_;omega
 ·refine Nat.le_trans (Nat.le_of_eq (List.length_map ..)) ?_
  exact sl_len (e:=colD) (fun y=>by rw [col_bk];omega) hc
 ·refine Nat.le_trans (Nat.le_of_eq (List.length_map ..)) ?_
  exact sl_len (e:=rowD) (fun y=>by rw [row_bk];omega) hr
 ·obtain ⟨y,hy,e⟩:=List.mem_map.1 (gt_mem hi)
  have e':gt (specOf x).cols i=colOne y:=e.symm
  rw [e'];exact col_sm (sl_mem (e:=colD) hc hy)
 ·obtain ⟨y,hy,e⟩:=List.mem_map.1 (gt_mem hi)
  have e':gt (specOf x).rows i=rowOne y:=e.symm
  rw [e'];exact row_sm (sl_mem (e:=rowD) hr hy)
end Go.Li
namespace Go.Li
open Go Go.Sv Go.Pl Go.Proofs Go.Tb Go.Ut
end Go.Li


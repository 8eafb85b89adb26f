/- A text of the prover's own. -/
import Derived.Test.YtnimjdcaajmfcaaGreatDoorUQe
import Derived.Test.YtnimjdcaajmfcaaGreatDoorUNa
set_option maxRecDepth 10000
namespace Go.Proofs
open Go.Sv Go Go.Pl
def qsv (q:Rat):SV:=.agg [.val (.bool (decide (q.num<0))),.ro ((dig 10000 q.num.natAbs).map i64),.val (.bool false),.ro ((dig 10000 q.den).map i64)]
@[simp] theorem qsv_csz (x:Rat):(qsv x).csz=4:=rfl
@[simp] theorem qsv_isTup (x:Rat):(qsv x).isTup=false:=rfl
@[simp] theorem qsv_isAgg (x:Rat):(qsv x).isAgg=true:=rfl
@[simp] theorem qsv_pure (x:Rat):(qsv x).pure=true:=rfl
@[simp] theorem qsv_lt (n:Nat) (x:Rat):(qsv x).lt n=true:=rfl
@[simp] theorem qsv_uses (k:Nat) (x:Rat):(qsv x).uses k=false:=rfl
@[simp] theorem Sub_qsv (M:Tab) (x:Rat) (y:SV):Sub M (qsv x) y=(y=qsv x):=by
 cases y with
 | agg l =>
  match l with
  | []=>simp [qsv,Sv.Sub,SubL]
  | [a]=>simp [qsv,Sv.Sub,SubL]
  | [a,b]=>simp [qsv,Sv.Sub,SubL]
  | [a,b,c]=>simp [qsv,Sv.Sub,SubL]
  | a::b::c::d::e::r=>simp [qsv,Sv.Sub,SubL]
  | [a,b,c,d]=>cases a<;>cases c<;>simp [qsv,Sv.Sub,SubL]<;>grind
 | _=>simp [qsv,Sv.Sub]
@[simp] theorem qsv_num (q:Rat):SV.agg ((qsv q).cells.take 2)=nsv q.num:=rfl
@[simp] theorem qsv_den (q:Rat):SV.agg (((qsv q).cells.drop 2).take 2)=nsv (q.den:Int):=by simp [nsv];rfl
@[simp] theorem nsv_cells (x:Int):(nsv x).cells=[.val (.bool (decide (x<0))),.ro ((dig 10000 x.natAbs).map i64)]:=rfl
theorem rfit_of {k x} (h:fw k x) (hk:k≤100000000000):rfit x:=by
 unfold fw at h
 have h1:=wid_ten x.natAbs
 have h2:=wid_base (A:=10) (B:=10000) (by omega) (by omega) x.natAbs
 unfold rfit
 omega
theorem rok_num {q:Rat} (h:qok q):rfit q.num:=rfit_of h.1 (by omega)
theorem rok_den {q:Rat} (h:qok q):rfit q.den:=rfit_of h.2 (by omega)
theorem rok2 {a b:Int} (ha:fw 10000000000 a) (hb:fw 10000000000 b):rfit (a*b):=rfit_of (fw_mul ha hb) (by omega)
theorem rfit_gcd {x y:Int} (hy:rfit y) (h:y≠0):rfit ((Int.gcd x y:Nat):Int):=rfit_le (by
 have:=Nat.le_of_dvd (by omega) (Nat.gcd_dvd_right x.natAbs y.natAbs)
 simpa [Int.gcd] using this) hy
theorem pOver_ok (n d:Int) (hn:rfit n) (hd:rfit d) (h0:d≠0):PureF Tryz.prog 98 [nsv n,nsv d] (qsv (Rat.divInt n d)):=by
 refine pure_enter Tryz.func98 rfl (by simp) (fun C hC=>?_)
 obtain ⟨q,hq⟩:∃q,q=Rat.divInt n d:=⟨_,rfl⟩
 rw [←hq]
 by_cases hneg:d<0
 case' pos =>
  simp [hneg]
  obtain ⟨x,hx⟩:∃x,x = -n:=⟨_,rfl⟩
  obtain ⟨y,hy⟩:∃y,y = -d:=⟨_,rfl⟩
  have n1:=rNeg_ok n
  have n2:=rNeg_ok d
  rw [←hx] at n1
  rw [←hy] at n2
  have hy0:0<y:=by omega
  have hxf:rfit x:=by rw [hx];exact rfit_neg.2 hn
  have hyf:rfit y:=by rw [hy];exact rfit_neg.2 hd
  obtain ⟨e1,e2⟩:=divInt_pos (x:=x) hy0 (hq.trans (by rw [hx,hy,Rat.neg_divInt_neg]))
  refine callS n1 (by simp) ?_
  simp
  refine callS n2 (by simp) ?_
  simp
  clear hx hy n1 n2 hneg hq hn hd
 case' neg =>
  simp [hneg]
  have hy0:0<d:=by omega
  obtain ⟨e1,e2⟩:=divInt_pos hy0 hq
  obtain ⟨x,rfl⟩:∃x,x=n:=⟨_,rfl⟩
  obtain ⟨y,rfl⟩:∃y,y=d:=⟨_,rfl⟩
  have hxf:=hn
  have hyf:=hd
  clear hneg hq hn hd
 all_goals
  refine callS (rGcd_ok x y hxf hyf) (by simp) ?_
  have hgf:=rfit_gcd (x:=x) hyf (by omega)
  have hg0:(0:Int)<(Int.gcd x y:Nat):=by have:=Int.gcd_pos_of_ne_zero_right x (b:=y) (by omega);omega
  generalize ((Int.gcd x y:Nat):Int)=g at *
  have dm1:=rDivMod_ok x g hxf hgf
  have dm2:=rDivMod_ok y g hyf hgf
  rw [e1] at dm1
  rw [e2] at dm2
  simp
  refine callS dm1 (by simp) ?_
  simp
  refine callS dm2 (by simp) ?_
  simp [qsv,Sv.Sub,SubL]
theorem pSign_ok (q:Rat):PureF Tryz.prog 14 [qsv q] (.val (.int .i64 q.num.sign)):=by
 refine pure_enter Tryz.func14 rfl (by simp) (fun C hC=>?_)
 simp
 refine callS (rSign_ok _) (by simp) ?_
 simp
theorem Sub_qint (M:Tab) (x:Int):Sub M (.agg [.val (.bool (decide (x<0))),.ro ((dig 10000 x.natAbs).map i64),.val (.bool false),.ro ((dig 10000 1).map i64)]) (qsv (x:Rat)):=by
 simp [qsv,Sv.Sub,SubL];rfl
theorem pInt_ok (n:Int) (h1 : -9223372036854775807≤n) (h2:n≤9223372036854775807):PureF Tryz.prog 46 [.val (.int .i64 n)] (qsv (n:Rat)):=by
 refine pure_enter Tryz.func46 rfl (by simp) (fun C hC=>?_)
 simp
 refine callS (rSmall_ok n h1 h2) (by simp) ?_
 simp
 refine callS (rSmall_ok 1 (by omega) (by omega)) (by simp) ?_
 simp
 exact Sub_qint _ n
theorem dig_one {x:Nat}:(dig 10000 x).length=1∧dg (dig 10000 x) 0=1↔x=1:=by
 constructor
 ·rintro ⟨h1,h2⟩
  have hv:=val_dig (B:=10000) (by omega) x
  match hd:dig 10000 x,h1 with
  | [d],_ =>
   rw [hd] at hv h2
   simp [dg] at h2
   simp [val,h2] at hv;omega
 ·rintro rfl;decide
theorem pIsWhole_ok (q:Rat):PureF Tryz.prog 57 [qsv q] (.val (.bool (decide (q.den=1)))):=by
 refine pure_enter Tryz.func57 rfl (by simp) (fun C hC=>?_)
 have key:=dig_one (x:=q.den)
 simp only [qsv]
 generalize dig 10000 q.den=L at *
 obtain ⟨b,hb⟩:∃b,b=decide (q.den=1):=⟨_,rfl⟩
 rw [←hb]
 by_cases h:L.length=1
 ·have h':(L.length:Int)=1:=by omega
  have e:=lget_i64 (xs:=L) (i:=0) (by omega)
  by_cases h2:dg L 0=1
  ·have:b=true:=by simp [hb];exact key.1 ⟨h,h2⟩
   simp [h',e,h2,this,h]
  ·have:b=false:=by simp [hb];exact fun hh=>h2 (key.2 hh).2
   have h2':¬((dg L 0:Nat):Int)=1:=by omega
   simp [h',e,h2',this,h]
 ·have h':¬(L.length:Int)=1:=by omega
  have:b=false:=by simp [hb];exact fun hh=>h (key.2 hh).1
  simp [h',this]
theorem pNeg_ok (q:Rat):PureF Tryz.prog 48 [qsv q] (qsv (-q)):=by
 refine pure_enter Tryz.func48 rfl (by simp) (fun C hC=>?_)
 simp
 refine CodeJ.draw (.qs [0,1,3,4]<|.l 2 []<|.qs [5]<|.l 6 [1]<|.nil) (by kernel_rfl) (by kernel_rfl) (by simp) ?_
 simp
 refine callS (rNeg_ok _) (by simp) ?_
 simp [qsv,Sv.Sub,SubL]
theorem den2 (x y:Rat):(x.den:Int)*y.den≠0:=Int.mul_ne_zero (by have:=x.den_nz;omega) (by have:=y.den_nz;omega)
theorem pAdd_ok (x y:Rat) (hx:qok x) (hy:qok y):PureF Tryz.prog 68 [qsv x,qsv y] (qsv (x+y)):=by
 refine pure_enter Tryz.func68 rfl (by simp) (fun C hC=>?_)
 simp
 refine callS (rMul_ok _ _ (rok_num hx) (rok_den hy)) (by simp) ?_
 simp
 refine callS (rMul_ok _ _ (rok_num hy) (rok_den hx)) (by simp) ?_
 simp
 refine CodeJ.draw (.qs [0,1,3,4,5,6]<|.l 2 []<|.l 7 []<|.l 8 []<|.l 9 [2]<|.nil) (by kernel_rfl) (by kernel_rfl) (by simp) ?_
 simp
 refine callS (rAdd_ok _ _ (rok2 hx.1 hy.2) (rok2 hy.1 hx.2)) (by simp) ?_
 simp
 refine callS (rMul_ok _ _ (rok_den hx) (rok_den hy)) (by simp) ?_
 simp
 refine callS (pOver_ok _ _ (rfit_of (fw_add (fw_mul hx.1 hy.2) (fw_mul hy.1 hx.2)) (by omega)) (rok2 hx.2 hy.2) (den2 x y)) (by simp) ?_
 simp [←rat_add_eq]
theorem pSub_ok (x y:Rat) (hx:qok x) (hy:qok y):PureF Tryz.prog 146 [qsv x,qsv y] (qsv (x - y)):=by
 refine pure_enter Tryz.func146 rfl (by simp) (fun C hC=>?_)
 simp
 refine callS (pNeg_ok y) (by simp) ?_
 simp
 refine callS (pAdd_ok x (-y) hx (qw_neg hy)) (by simp) ?_
 simp [Rat.sub_eq_add_neg]
theorem pMul_ok (x y:Rat) (hx:qok x) (hy:qok y):PureF Tryz.prog 47 [qsv x,qsv y] (qsv (x*y)):=by
 refine pure_enter Tryz.func47 rfl (by simp) (fun C hC=>?_)
 simp
 refine CodeJ.draw (.qs [0,1,2,3,5,6,7,8]<|.l 4 []<|.l 9 []<|.l 10 []<|.l 11 [2]<|.nil) (by kernel_rfl) (by kernel_rfl) (by simp) ?_
 simp
 refine callS (rMul_ok _ _ (rok_num hx) (rok_num hy)) (by simp) ?_
 simp
 refine callS (rMul_ok _ _ (rok_den hx) (rok_den hy)) (by simp) ?_
 simp
 refine callS (pOver_ok _ _ (rok2 hx.1 hy.1) (rok2 hx.2 hy.2) (den2 x y)) (by simp) ?_
 simp [←rat_mul_eq]
theorem pQuo_ok (x y:Rat) (hx:qok x) (hy:qok y) (h0:y≠0):PureF Tryz.prog 101 [qsv x,qsv y] (qsv (x / y)):=by
 refine pure_enter Tryz.func101 rfl (by simp) (fun C hC=>?_)
 simp
 refine CodeJ.draw (.qs [0,1,2,3,5,6,7,8]<|.l 4 []<|.l 9 []<|.l 10 []<|.l 11 [2]<|.nil) (by kernel_rfl) (by kernel_rfl) (by simp) ?_
 simp
 refine callS (rMul_ok _ _ (rok_num hx) (rok_den hy)) (by simp) ?_
 simp
 refine callS (rMul_ok _ _ (rok_den hx) (rok_num hy)) (by simp) ?_
 simp
 refine callS (pOver_ok _ _ (rok2 hx.1 hy.2) (rok2 hx.2 hy.1) (Int.mul_ne_zero (by have:=x.den_nz;omega) (fun h=>h0 (Rat.num_eq_zero.1 h)))) (by simp) ?_
 simp [←rat_div_eq]
theorem strOf_size (l:List SV):(strOf l).size=l.length:=by
 show (strOf l).data.size=_
 unfold strOf strOfNums
 simp
theorem txt_size {x:Int} (hx:fit x):(txt x).size≤20000000000000:=by
 have hw:wid 10 x.natAbs≤10000000000000:=Nat.le_trans (wid_ten _) (by unfold fit at hx;omega)
 unfold wid at hw
 unfold txt txtL
 rw [strOf_size]
 split
 ·simp
 ·split<;>simp<;>omega
theorem slash_size:({ data:=#[47] }:ByteArray).size=1:=rfl
def qtxt (q:Rat):ByteArray:=if q.den=1 then txt q.num else txt q.num++⟨#[47]⟩++txt q.den
theorem qText_ok (q:Rat) (hq:qok q):PureF Tryz.prog 17 [rsv q] (.val (.string (qtxt q))):=by
 refine pure_enter Tryz.func17 rfl (by simp) (fun C hC=>?_)
 simp
 refine callS (qIsWhole_ok q) (by simp) ?_
 by_cases h:q.den=1
 ·simp [h]
  refine callS (text_ok _ (qok_num hq)) (by simp) ?_
  simp [qtxt,h]
 ·simp [h]
  refine CodeJ.draw (.qs [0,1,4]<|.l 2 []<|.qs [3]<|.l 5 []<|.l 6 []<|.qs [7,8]<|.nil) (by kernel_rfl) (by kernel_rfl) (by simp) ?_
  simp
  refine callS (text_ok _ (qok_num hq)) (by simp) ?_
  simp
  have t1:=txt_size (qok_num hq)
  have t2:=txt_size (qok_den hq)
  refine ⟨by rw [slash_size];omega,?_⟩
  refine callS (qDen_ok q hq) (by simp) ?_
  simp
  refine callS (text_ok _ (qok_den hq)) (by simp) ?_
  simp [qtxt,h]
  rw [slash_size];omega
theorem pText_ok (q:Rat) (hq:qok q):PureF Tryz.prog 18 [qsv q] (.val (.string (qtxt q))):=by
 refine pure_enter Tryz.func18 rfl (by simp) (fun C hC=>?_)
 simp
 refine callS (pIsWhole_ok q) (by simp) ?_
 simp
 refine callS (rText_ok _ (rok_num hq)) (by simp) ?_
 by_cases h:q.den=1
 ·simp [h,qtxt]
 ·simp [h]
  have t1:=txt_size (qok_num hq)
  have t2:=txt_size (qok_den hq)
  refine ⟨by rw [slash_size];omega,?_⟩
  refine callS (rText_ok _ (rok_den hq)) (by simp) ?_
  simp [qtxt,h]
  rw [slash_size];omega
end Go.Proofs
namespace Go.Pl
end Go.Pl
namespace Go.Proofs
open Go.Sv Go Go.Pl
attribute [simp] Sub_int
theorem fw_le {k:Nat} {x y:Int} (h:x.natAbs≤y.natAbs) (hy:fw k y):fw k x:=by unfold fw at *;exact Nat.le_trans (wid_mono (by omega) h) hy
end Go.Proofs
namespace Go.Pl
def bld:List Int→Rat→Rat
 | [],x=>x
 | p::l,x=>(p:Rat)+(bld l x)⁻¹
def prd (q:Rat):Nat:=q.num.natAbs*q.den
end Go.Pl
namespace Go.Proofs
open Go.Sv Go Go.Pl
structure BI (k:Nat) (v:Rat) (P0:Nat) (parts:List Int) (low high:Rat) (n:Nat):Prop where
 l0:0<low
 lh:low≤high
 dn:low.den+high.den≤n
 kl:qw k low
 kh:qw k high
 kp:∀p∈parts,fw k p
 bv:bld parts (btw n low high)=v
 bk:∀i,i≤parts.length→qw k (bld (parts.drop i) (btw n low high))∧0<bld (parts.drop i) (btw n low high)
 wt:2^(parts.length - 1)*(prd low*prd high)≤P0
 big:1≤parts.length→1<low
def bv (b:Bool):SV:=.val (.bool b)
theorem rsv_zero:rsv 0=.agg [.val (.bool false),.ro [],.val (.bool false),.ro []]:=rfl
theorem num_neg {q:Rat}:q.num<0↔q<0:=by
 have:=Rat.num_nonneg (q:=q);rw [←Rat.not_le,←this];omega
def qnil:SV:=.agg [.val (.bool false),.ro [],.val (.bool false),.ro []]
@[simp] theorem qnil_csz:qnil.csz=4:=rfl
@[simp] theorem qnil_isTup:qnil.isTup=false:=rfl
@[simp] theorem qnil_isAgg:qnil.isAgg=true:=rfl
@[simp] theorem qnil_uses (k:Nat):qnil.uses k=false:=rfl
end Go.Proofs


/- A text of the prover's own. -/
import Derived.Test.YtnimjdcaajmfcaaGreatDoorUFs
import Derived.Test.YtnimjdcaajmfcaaGreatDoorUVz
set_option maxRecDepth 10000
namespace Go.Pl
def btw:Nat→Rat→Rat→Rat
 | 0,_,_=>0
 | n+1,low,high =>
  if (low.ceil:Rat)≤high then (low.ceil:Rat)
  else (low.floor:Rat)+(btw n (high - low.floor)⁻¹ (low - low.floor)⁻¹)⁻¹
end Go.Pl
namespace Go.Proofs
open Go.Sv Go Go.Pl
def rsv (q:Rat):SV:=.agg [.val (.bool (decide (q.num<0))),.ro ((dig 4294967296 q.num.natAbs).map u32),.val (.bool false),.ro ((dig 4294967296 (q.den - 1)).map u32)]
@[simp] theorem rsv_csz (x:Rat):(rsv x).csz=4:=rfl
@[simp] theorem rsv_isTup (x:Rat):(rsv x).isTup=false:=rfl
@[simp] theorem rsv_isAgg (x:Rat):(rsv x).isAgg=true:=rfl
@[simp] theorem rsv_pure (x:Rat):(rsv x).pure=true:=rfl
@[simp] theorem rsv_lt (n:Nat) (x:Rat):(rsv x).lt n=true:=rfl
@[simp] theorem rsv_uses (k:Nat) (x:Rat):(rsv x).uses k=false:=rfl
@[simp] theorem Sub_rsv (M:Tab) (x:Rat) (y:SV):Sub M (rsv x) y=(y=rsv x):=by
 cases y with
 | agg l =>
  match l with
  | []=>simp [rsv,Sv.Sub,SubL]
  | [a]=>simp [rsv,Sv.Sub,SubL]
  | [a,b]=>simp [rsv,Sv.Sub,SubL]
  | [a,b,c]=>simp [rsv,Sv.Sub,SubL]
  | a::b::c::d::e::r=>simp [rsv,Sv.Sub,SubL]
  | [a,b,c,d]=>cases a<;>cases c<;>simp [rsv,Sv.Sub,SubL]<;>grind
 | _=>simp [rsv,Sv.Sub]
def qw (k:Nat) (q:Rat):Prop:=fw k q.num∧fw k (q.den:Int)
theorem abs_div_le (x:Int) (g:Nat):(x / g).natAbs≤x.natAbs:=Int.natAbs_ediv_le_natAbs _ _
theorem fw_one {k:Nat} (h:1≤k):fw k 1:=Nat.le_trans (wid_le (by omega) (by decide)) h
theorem fw_zero (k:Nat):fw k 0:=by simp [fw,wid,dig_zero]
theorem qw_divInt {k x y} (hx:fw k x) (hy:fw k y) (h1:1≤k):qw k (Rat.divInt x y):=by
 constructor
 ·unfold fw at *
  rw [Rat.num_divInt]
  refine Nat.le_trans (wid_mono (by omega) (Nat.le_trans (abs_div_le _ _) ?_)) hx
  rw [Int.natAbs_mul]
  rcases Int.lt_trichotomy y 0 with h | h | h
  ·rw [Int.sign_eq_neg_one_of_neg h];simp
  ·subst h;simp
  ·rw [Int.sign_eq_one_of_pos h];simp
 ·unfold fw at *
  rw [Rat.den_divInt]
  split
  ·exact fw_one h1
  ·refine Nat.le_trans (wid_mono (by omega) ?_) hy
   rw [Int.natAbs_natCast];exact Nat.div_le_self _ _
theorem qw_mono {k l q} (h:qw k q) (hk:k≤l):qw l q:=⟨fw_mono h.1 hk,fw_mono h.2 hk⟩
theorem qw_add {k l x y} (hx:qw k x) (hy:qw l y):qw (k+l+1) (x+y):=by
 rw [←Rat.num_divInt_den x,←Rat.num_divInt_den y,Rat.divInt_add_divInt _ _ (by have:=x.den_nz;omega) (by have:=y.den_nz;omega)]
 exact qw_divInt (fw_add (k:=k+l) (fw_mul hx.1 hy.2) (by rw [Nat.add_comm];exact fw_mul hy.1 hx.2)) (fw_mono (fw_mul hx.2 hy.2) (by omega)) (by omega)
theorem qw_neg {k x} (hx:qw k x):qw k (-x):=⟨by rw [Rat.neg_num];exact fw_neg hx.1,hx.2⟩
theorem qw_sub {k l x y} (hx:qw k x) (hy:qw l y):qw (k+l+1) (x - y):=by rw [Rat.sub_eq_add_neg];exact qw_add hx (qw_neg hy)
theorem qw_mul {k l x y} (hx:qw k x) (hy:qw l y) (h1:1≤k+l):qw (k+l) (x*y):=by
 rw [←Rat.num_divInt_den x,←Rat.num_divInt_den y,Rat.divInt_mul_divInt]
 exact qw_divInt (fw_mul hx.1 hy.1) (fw_mul hx.2 hy.2) h1
theorem qw_inv {k x} (hx:qw k x) (h1:1≤k):qw k x⁻¹:=by
 rw [Rat.inv_def];exact qw_divInt hx.2 hx.1 h1
theorem qw_div {k l x y} (hx:qw k x) (hy:qw l y) (h1:1≤l):qw (k+l) (x / y):=by
 rw [Rat.div_def];exact qw_mul hx (qw_inv hy h1) (by omega)
theorem qw_int {k x} (hx:fw k x) (h1:1≤k):qw k (x:Rat):=⟨by simpa using hx,by simpa using fw_one h1⟩
def qok (q:Rat):Prop:=qw 10000000000 q
theorem qok_of {k q} (h:qw k q) (hk:k≤10000000000):qok q:=qw_mono h hk
theorem den_pred (q:Rat):((q.den - 1:Nat):Int)=(q.den:Int) - 1:=by have:=q.den_nz;omega
theorem rsv_den (q:Rat):zsv ((q.den:Int) - 1)=.agg [.val (.bool false),.ro ((dig 4294967296 (q.den - 1)).map u32)]:=by
 rw [←den_pred];simp [zsv]
theorem fw_less {k:Nat} {q:Rat} (h:qw k q):fw k ((q.den:Int) - 1):=by
 have h1:=h.2
 unfold fw at *
 have h2:=q.den_nz
 refine Nat.le_trans (wid_mono (by omega) ?_) h1
 omega
end Go.Proofs
namespace Go.Proofs
open Go.Sv Go Go.Pl
@[simp] theorem rsv_num (q:Rat):SV.agg ((rsv q).cells.take 2)=zsv q.num:=rfl
@[simp] theorem rsv_less (q:Rat):SV.agg (((rsv q).cells.drop 2).take 2)=zsv ((q.den:Int) - 1):=by rw [rsv_den];rfl
@[simp] theorem zsv_cells (x:Int):(zsv x).cells=[.val (.bool (decide (x<0))),.ro ((dig 4294967296 x.natAbs).map u32)]:=rfl
theorem qok_num {q:Rat} (h:qok q):fit q.num:=fit_fw h.1 (by omega)
theorem qok_den {q:Rat} (h:qok q):fit q.den:=fit_fw h.2 (by omega)
theorem qok_less {q:Rat} (h:qok q):fit ((q.den:Int) - 1):=fit_fw (fw_less h) (by omega)
theorem fit_one:fit 1:=fit_fw (fw_one (Nat.le_refl 1)) (by omega)
theorem qDen_ok (q:Rat) (h:qok q):PureF Tryz.prog 56 [rsv q] (zsv q.den):=by
 refine pure_enter Tryz.func56 rfl (by simp) (fun C hC=>?_)
 simp
 refine CodeJ.draw (.qs [0,1]<|.l 2 []<|.l 3 []<|.l 4 [1]<|.nil) (by kernel_rfl) (by kernel_rfl) (by simp) ?_
 simp
 refine callS (of_ok 1 (by omega) (by omega)) (by simp) ?_
 simp
 refine callS (add_ok _ 1 (qok_less h) fit_one) (by simp) ?_
 simp
theorem qSign_ok (q:Rat):PureF Tryz.prog 40 [rsv q] (.val (.int .i64 q.num.sign)):=by
 refine pure_enter Tryz.func40 rfl (by simp) (fun C hC=>?_)
 simp
 refine callS (sign_ok _) (by simp) ?_
 simp
theorem qIsWhole_ok (q:Rat):PureF Tryz.prog 54 [rsv q] (.val (.bool (decide (q.den=1)))):=by
 refine pure_enter Tryz.func54 rfl (by simp) (fun C hC=>?_)
 simp
 refine callS (sign_ok _) (by simp) ?_
 simp
 omega
theorem qNeg_ok (q:Rat):PureF Tryz.prog 52 [rsv q] (rsv (-q)):=by
 refine pure_enter Tryz.func52 rfl (by simp) (fun C hC=>?_)
 simp
 refine CodeJ.draw (.qs [0,1,3,4]<|.l 2 []<|.qs [5]<|.l 6 [1]<|.nil) (by kernel_rfl) (by kernel_rfl) (by simp) ?_
 simp
 refine callS (neg_ok _) (by simp) ?_
 simp
 simp [rsv,Sv.Sub,SubL,←den_pred]
theorem divInt_num {n d:Int} (h:d≠0):(Rat.divInt n d).num=(if d<0 then -n else n) / (Int.gcd n d:Int):=by
 rw [Rat.num_divInt,Int.gcd_comm]
 rcases Int.lt_trichotomy d 0 with h' | h' | h'
 ·rw [if_pos h',Int.sign_eq_neg_one_of_neg h'];simp
 ·exact absurd h' h
 ·rw [if_neg (by omega),Int.sign_eq_one_of_pos h'];simp
theorem divInt_den {n d:Int} (h:d≠0):((Rat.divInt n d).den:Int)=(if d<0 then -d else d) / (Int.gcd n d:Int):=by
 rw [Rat.den_divInt,if_neg h,Int.gcd_comm]
 have e:(if d<0 then -d else d)=(d.natAbs:Int):=by split<;>omega
 rw [e];simp
theorem divInt_pos {x y:Int} {q:Rat} (h:0<y) (hq:q=Rat.divInt x y):x / (Int.gcd x y:Int)=q.num∧y / (Int.gcd x y:Int)=q.den:=by
 rw [hq,divInt_num (by omega),divInt_den (by omega)]
 rw [if_neg (by omega),if_neg (by omega)];exact ⟨rfl,rfl⟩
theorem fit_gcd {x y:Int} (hy:fit y) (h:y≠0):fit ((Int.gcd x y:Nat):Int):=fit_le (by
 have:=Nat.le_of_dvd (by omega) (Nat.gcd_dvd_right x.natAbs y.natAbs)
 simpa [Int.gcd] using this) hy
theorem qOf_ok (n d:Int) (hn:fit n) (hd:fit d):PureF Tryz.prog 92 [zsv n,zsv d] (.tup [rsv (Rat.divInt n d),.val (.bool (decide (d≠0)))]):=by
 refine pure_enter Tryz.func92 rfl (by simp) (fun C hC=>?_)
 obtain ⟨q,hq⟩:∃q,q=Rat.divInt n d:=⟨_,rfl⟩
 rw [←hq]
 by_cases h0:d=0
 ·subst h0
  simp
  refine callS (sign_ok 0) (by simp) ?_
  simp [rsv,hq,Rat.divInt_zero,dig_zero]
 ·simp
  refine callS (sign_ok _) (by simp) ?_
  simp [h0]
  refine callS (sign_ok _) (by simp) ?_
  by_cases hneg:d<0
  case' pos =>
   simp [hneg]
   obtain ⟨x,hx⟩:∃x,x = -n:=⟨_,rfl⟩
   obtain ⟨y,hy⟩:∃y,y = -d:=⟨_,rfl⟩
   have n1:=neg_ok n
   have n2:=neg_ok d
   rw [←hx] at n1
   rw [←hy] at n2
   have hy0:0<y:=by omega
   have hxf:fit x:=by rw [hx];exact fit_neg.2 hn
   have hyf:fit y:=by rw [hy];exact fit_neg.2 hd
   obtain ⟨e1,e2⟩:=divInt_pos (x:=x) hy0 (hq.trans (by rw [hx,hy,Rat.neg_divInt_neg]))
   refine CodeJ.draw (.qs [0,2]<|.l 1 []<|.l 3 []<|.l 4 [0]<|.l 5 [1]<|.nil) (by kernel_rfl) (by kernel_rfl) (by simp) ?_
   simp
   refine callS n1 (by simp) ?_
   simp
   refine callS n2 (by simp) ?_
   simp
   clear hx hy n1 n2 hneg hq hn hd
  case' neg =>
   simp [hneg]
   have hy0:0<d:=by omega
   obtain ⟨e1,e2⟩:=divInt_pos hy0 hq
   obtain ⟨x,rfl⟩:∃x,x=n:=⟨_,rfl⟩
   obtain ⟨y,rfl⟩:∃y,y=d:=⟨_,rfl⟩
   have hxf:=hn
   have hyf:=hd
   clear hneg hq hn hd
  all_goals
   have hqd:fit (q.den:Int):=by rw [←e2];exact fit_le (Int.natAbs_ediv_le_natAbs _ _) hyf
   have hsub:=sub_ok q.den 1 hqd fit_one
   refine callS (gcd_ok x y hxf hyf) (by simp) ?_
   have hgf:=fit_gcd (x:=x) hyf (by omega)
   have hg0:(0:Int)<(Int.gcd x y:Nat):=by have:=Int.gcd_pos_of_ne_zero_right x (b:=y) (by omega);omega
   generalize ((Int.gcd x y:Nat):Int)=g at *
   simp
   refine CodeJ.draw (.qs [0]<|.l 1 []<|.l 2 []<|.qs [3]<|.nil) (by kernel_rfl) (by kernel_rfl) (by simp) ?_
   simp
   refine callS (of_ok 1 (by omega) (by omega)) (by simp) ?_
   simp
   refine callS (cmp_ok g 1 (Nat.le_trans hgf (by omega)) (Nat.le_trans fit_one (by omega))) (by simp) ?_
   by_cases hg1:g=1
   case' pos =>
    subst hg1
    simp
    simp at e1 e2
    subst e1
    subst e2
   case' neg =>
    simp [hg1]
    have hc:¬(if g<1 then (-1:Int) else if 1<g then 1 else 0)=0:=by rw [if_neg (by omega),if_pos (by omega)];omega
    have dm1:=divmod_ok x g hxf hgf
    have dm2:=divmod_ok y g hyf hgf
    rw [e1] at dm1
    rw [e2] at dm2
    simp [hc]
    refine callS dm1 (by simp) ?_
    simp
    refine callS dm2 (by simp) ?_
    simp
   all_goals
    refine CodeJ.draw (.qs [0,1]<|.l 2 []<|.l 3 []<|.qs [4]<|.l 5 [2]<|.qs [6]<|.nil) (by kernel_rfl) (by kernel_rfl) (by simp) ?_
    simp
    refine callS (of_ok 1 (by omega) (by omega)) (by simp) ?_
    simp
    refine callS hsub (by simp) ?_
    simp [rsv,Sv.Sub,SubL,←den_pred]
    try omega
theorem qOver_ok (n d:Int) (hn:fit n) (hd:fit d):PureF Tryz.prog 105 [zsv n,zsv d] (rsv (Rat.divInt n d)):=by
 refine pure_enter Tryz.func105 rfl (by simp) (fun C hC=>?_)
 simp
 refine callS (qOf_ok n d hn hd) (by simp) ?_
 simp
theorem rsv_int (x:Int):rsv (x:Rat)=.agg [.val (.bool (decide (x<0))),.ro ((dig 4294967296 x.natAbs).map u32),.val (.bool false),.ro []]:=by
 rfl
theorem Sub_int (M:Tab) (x:Int):Sub M (.agg [.val (.bool (decide (x<0))),.ro ((dig 4294967296 x.natAbs).map u32),.val (.bool false),.val (.slice none 0 0)]) (rsv (x:Rat)):=by
 rw [rsv_int];simp [Sv.Sub,SubL]
theorem qInt_ok (n:Int) (h1 : -9223372036854775808≤n) (h2:n≤9223372036854775807):PureF Tryz.prog 51 [.val (.int .i64 n)] (rsv (n:Rat)):=by
 refine pure_enter Tryz.func51 rfl (by simp) (fun C hC=>?_)
 simp
 refine callS (of_ok n h1 h2) (by simp) ?_
 simp
 exact Sub_int _ n
theorem isWhole_eq {q:Rat} (h:q.den=1):q=(q.num:Rat):=Rat.ext (by simp) (by simp [h])
theorem fit2 {a b:Int} (ha:fw 10000000000 a) (hb:fw 10000000000 b):fit (a*b):=fit_fw (fw_mul ha hb) (by omega)
theorem rat_add_eq (x y:Rat):x+y=Rat.divInt (x.num*y.den+y.num*x.den) (x.den*y.den):=by
 rw [←Rat.divInt_add_divInt _ _ (by have:=x.den_nz;omega) (by have:=y.den_nz;omega),Rat.num_divInt_den,Rat.num_divInt_den]
theorem rat_mul_eq (x y:Rat):x*y=Rat.divInt (x.num*y.num) (x.den*y.den):=by
 rw [←Rat.divInt_mul_divInt,Rat.num_divInt_den,Rat.num_divInt_den]
theorem rat_div_eq (x y:Rat):x / y=Rat.divInt (x.num*y.den) (x.den*y.num):=by
 rw [←Rat.divInt_mul_divInt,Rat.num_divInt_den,←Rat.inv_def,Rat.div_def]
theorem qAdd_ok (x y:Rat) (hx:qok x) (hy:qok y):PureF Tryz.prog 129 [rsv x,rsv y] (rsv (x+y)):=by
 refine pure_enter Tryz.func129 rfl (by simp) (fun C hC=>?_)
 simp
 refine callS (qIsWhole_ok x) (by simp) ?_
 by_cases h1:x.den=1
 case' pos =>
  simp [h1]
  refine callS (qIsWhole_ok y) (by simp) ?_
  by_cases h2:y.den=1
  case pos =>
   simp [h2]
   obtain ⟨s,hs⟩:∃s,s=x.num+y.num:=⟨_,rfl⟩
   have ha:=add_ok x.num y.num (qok_num hx) (qok_num hy)
   rw [←hs] at ha
   have e:x+y=(s:Rat):=by rw [isWhole_eq h1,isWhole_eq h2,hs];simp
   rw [e]
   refine callS ha (by simp) ?_
   simp
   exact Sub_int _ s
  case' neg=>simp [h2]
 case' neg=>simp [h1]
 all_goals
  refine CodeJ.drawZ (.d 4<|.d 5<|.qs [0,2]<|.p 1<|.p 3<|.b ( .l 6 [3]<|.l 7 [4]<|.nil )) (by kernel_rfl) (by kernel_rfl) (by simp) ?_
  simp
  refine callV (qDen_ok x hx) (by simp) ?_
  simp
  refine callV (qDen_ok y hy) (by simp) ?_
  simp
  refine CodeJ.draw (.qs [0,1,2,4,5,6,9,10]<|.l 3 []<|.l 7 []<|.l 8 []<|.l 11 []<|.l 12 []<|.l 13 [2]<|.nil) (by kernel_rfl) (by kernel_rfl) (by simp) ?_
  simp
  refine callS (mul_ok x.num y.den (qok_num hx) (qok_den hy)) (by simp) ?_
  simp
  refine callS (mul_ok y.num x.den (qok_num hy) (qok_den hx)) (by simp) ?_
  simp
  refine callS (add_ok (x.num*y.den) (y.num*x.den) (fit2 hx.1 hy.2) (fit2 hy.1 hx.2)) (by simp) ?_
  simp
  refine callS (mul_ok x.den y.den (qok_den hx) (qok_den hy)) (by simp) ?_
  simp
  refine callS (qOver_ok _ _ (fit_fw (fw_add (fw_mul hx.1 hy.2) (fw_mul hy.1 hx.2)) (by omega)) (fit2 hx.2 hy.2)) (by simp) ?_
  simp
  rw [←rat_add_eq]
theorem qMul_ok (x y:Rat) (hx:qok x) (hy:qok y):PureF Tryz.prog 53 [rsv x,rsv y] (rsv (x*y)):=by
 refine pure_enter Tryz.func53 rfl (by simp) (fun C hC=>?_)
 simp
 refine callS (qIsWhole_ok x) (by simp) ?_
 by_cases h1:x.den=1
 case' pos =>
  simp [h1]
  refine callS (qIsWhole_ok y) (by simp) ?_
  by_cases h2:y.den=1
  case pos =>
   simp [h2]
   obtain ⟨s,hs⟩:∃s,s=x.num*y.num:=⟨_,rfl⟩
   have ha:=mul_ok x.num y.num (qok_num hx) (qok_num hy)
   rw [←hs] at ha
   have e:x*y=(s:Rat):=by rw [isWhole_eq h1,isWhole_eq h2,hs];simp
   rw [e]
   refine callS ha (by simp) ?_
   simp
   exact Sub_int _ s
  case' neg=>simp [h2]
 case' neg=>simp [h1]
 all_goals
  refine CodeJ.draw (.qs [0,1,2,3,5,7]<|.l 4 []<|.l 6 []<|.l 8 []<|.l 9 []<|.l 10 []<|.l 11 [2]<|.nil) (by kernel_rfl) (by kernel_rfl) (by simp) ?_
  simp
  refine callS (mul_ok x.num y.num (qok_num hx) (qok_num hy)) (by simp) ?_
  simp
  refine callS (qDen_ok x hx) (by simp) ?_
  simp
  refine callS (qDen_ok y hy) (by simp) ?_
  simp
  refine callS (mul_ok x.den y.den (qok_den hx) (qok_den hy)) (by simp) ?_
  simp
  refine callS (qOver_ok _ _ (fit2 hx.1 hy.1) (fit2 hx.2 hy.2)) (by simp) ?_
  simp
  rw [←rat_mul_eq]
theorem qQuo_ok (x y:Rat) (hx:qok x) (hy:qok y):PureF Tryz.prog 41 [rsv x,rsv y] (.tup [rsv (x / y),.val (.bool (decide (y≠0)))]):=by
 refine pure_enter Tryz.func41 rfl (by simp) (fun C hC=>?_)
 simp
 refine CodeJ.draw (.qs [0,1,2,5,7,8]<|.l 3 []<|.l 4 []<|.l 6 []<|.l 9 []<|.l 10 []<|.qs [11,12]<|.l 13 [2]<|.qs [14]<|.nil) (by kernel_rfl) (by kernel_rfl) (by simp) ?_
 simp
 refine callS (qDen_ok y hy) (by simp) ?_
 simp
 refine callS (mul_ok x.num y.den (qok_num hx) (qok_den hy)) (by simp) ?_
 simp
 refine callS (qDen_ok x hx) (by simp) ?_
 simp
 refine callS (mul_ok x.den y.num (qok_den hx) (qok_num hy)) (by simp) ?_
 simp
 refine callS (qOf_ok _ _ (fit2 hx.1 hy.2) (fit2 hx.2 hy.1)) (by simp) ?_
 rw [←rat_div_eq]
 simp
 exact fun _=>x.den_nz
end Go.Proofs


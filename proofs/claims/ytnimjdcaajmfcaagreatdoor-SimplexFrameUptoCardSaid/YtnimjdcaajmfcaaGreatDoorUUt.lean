/- A text of the prover's own. -/
import Derived.Test.YtnimjdcaajmfcaaGreatDoorUQo
import Derived.Test.YtnimjdcaajmfcaaGreatDoorUVe
import Derived.Test.YtnimjdcaajmfcaaGreatDoorUEs
set_option maxRecDepth 10000
namespace Go.Tb
open Go Go.Sv Go.Pl Go.Proofs
def strv (s:ByteArray):SV:=.val (.string s)
@[simp] theorem strv_val (s:ByteArray):strv s=.val (.string s):=rfl
def tsv (l:List ByteArray):SV:=.ro (l.map strv)
@[simp] theorem tsv_val (l:List ByteArray):tsv l=.ro (l.map strv):=rfl
def qlv (l:List Rat):SV:=.ro (l.map qsv)
@[simp] theorem qlv_val (l:List Rat):qlv l=.ro (l.map qsv):=rfl
def rlv (l:List Rat):SV:=.ro (l.map rsv)
@[simp] theorem rlv_val (l:List Rat):rlv l=.ro (l.map rsv):=rfl
def gt {α:Type} [Inhabited α] (l:List α) (i:Nat):α:=l.getD i default
theorem lget_m {α:Type} [Inhabited α] (f:α→SV) {l:List α} {i:Nat} (h:i<l.length):lget (l.map f) i=f (gt l i):=by
 rw [lget_eq (by simpa using h)];simp [gt,h]
theorem lget_str {l:List ByteArray} {i:Nat} (h:i<l.length):lget (l.map strv) i=strv (gt l i):=lget_m _ h
theorem lget_q {l:List Rat} {i:Nat} (h:i<l.length):lget (l.map qsv) i=qsv (gt l i):=lget_m _ h
theorem lget_r {l:List Rat} {i:Nat} (h:i<l.length):lget (l.map rsv) i=rsv (gt l i):=lget_m _ h
theorem lget_qlv {l:List (List Rat)} {i:Nat} (h:i<l.length):lget (l.map qlv) i=qlv (gt l i):=lget_m _ h
theorem lget_rlv {l:List (List Rat)} {i:Nat} (h:i<l.length):lget (l.map rlv) i=rlv (gt l i):=lget_m _ h
theorem gt_mem {α:Type} [Inhabited α] {l:List α} {i:Nat} (h:i<l.length):gt l i∈l:=by
 simp only [gt,List.getD_eq_getElem?_getD,List.getElem?_eq_getElem h,Option.getD_some];exact List.getElem_mem h
theorem take_gt {α:Type} [Inhabited α] {l:List α} {i:Nat} (h:i<l.length):l.take (i+1)=l.take i++[gt l i]:=by
 rw [List.take_succ_eq_append_getElem h];simp [gt,h]
@[simp] theorem okE_qlv (l:List (List Rat)):okE 1 (l.map qlv)=True:=by cases l<;>simp [okE]
theorem sbL_app {k:Nat} {es:List SV}:∀{l r:List SV},sbL k es (l++r)=sbL k es l++sbL k es r
 | [],r=>rfl
 | x::l,r=>by simp [sbL_app]
def num (s:ByteArray):Rat:=(qrd 300 s).1
def nums (l:List ByteArray):List Rat:=l.map num
def tabs (t:List (List ByteArray)):List (List Rat):=t.map nums
@[simp] theorem nums_len (l:List ByteArray):(nums l).length=l.length:=by simp [nums]
@[simp] theorem tabs_len (l:List (List ByteArray)):(tabs l).length=l.length:=by simp [tabs]
structure SmN (l:List ByteArray):Prop where
 n:l.length≤1048576
 s:∀s∈l,s.size≤1048576
structure SmT (t:List (List ByteArray)):Prop where
 n:t.length≤1048576
 s:∀l∈t,SmN l
end Go.Tb
namespace Go.Proofs
open Go.Sv Go Go.Tb Go.Pl
theorem pnum_ok (s:ByteArray) (hs:s.size≤4611686018427387904) (hq:(qrd 300 s).2.1=0):PureF Tryz.prog 66 [.val (.string s)] (.tup [qsv (num s),fsv 0 (-1)]):=by
 have:=pQRead_ok s hs
 rwa [show outP (qrd 300 s)=.tup [qsv (num s),fsv 0 (-1)] by simp [outP,hq,num]] at this
end Go.Proofs
namespace Go.Proofs
open Go.Sv Go Go.Tb Go.Pl
theorem pNumber_ok (s:ByteArray) (hs:s.size≤4611686018427387904):PureF Tryz.prog 67 [.val (.string s)] (.tup [rsv (num s),.val (.bool (decide ((qrd 300 s).2.1=0)))]):=by
 refine pure_enter Tryz.func67 rfl (by simp) (fun C hC=>?_)
 simp
 refine callS (qRead_ok s hs) (by simp) ?_
 simp [outQ]
 refine CodeJ.draw (.qs [0,1,2]<|.l 3 [0]<|.qs [4]<|.nil) (by kernel_rfl) (by kernel_rfl) (by simp) ?_
 rw [show (qrd 300 s).1=num s from rfl]
 by_cases hq:(qrd 300 s).2.1=0
 ·simp [hq,errSV]
 ·simp [hq,errSV]
end Go.Proofs
namespace Go.Tb
open Go Go.Sv Go.Pl Go.Proofs
def wide {α:Type} (a:List (List α)):Nat:=(gt a 0).length
end Go.Tb
namespace Go.Proofs
open Go.Sv Go Go.Tb Go.Pl
theorem rWide_ok (a:List (List Rat)) (h:a.length≤1048576):PureF Tryz.prog 44 [.ro (a.map qlv)] (.val (.int .i64 (wide a:Nat))):=by
 refine pure_enter Tryz.func44 rfl (by simp) (fun C hC=>?_)
 simp
 by_cases h0:a.length=0
 ·have:a=[]:=List.length_eq_zero_iff.1 h0
  subst this
  simp [wide,gt]
  rfl
 ·have e:lget (a.map qlv) 0=qlv (gt a 0):=lget_qlv (by omega)
  simp [h0,e]
  exact ⟨fun he=>absurd (by rw [he];rfl) h0,fun _=>⟨by omega,rfl⟩⟩
end Go.Proofs
namespace Go.Tb
open Go Go.Sv Go.Pl Go.Proofs
def txts (l:List Rat):List ByteArray:=l.map qtxt
@[simp] theorem txts_len (l:List Rat):(txts l).length=l.length:=by simp [txts]
theorem txts_take {l:List Rat} {i:Nat} (h:i<l.length):(txts l).take (i+1)=(txts l).take i++[qtxt (gt l i)]:=by
 unfold txts;rw [←List.map_take,←List.map_take,take_gt h];simp
structure OKl (l:List Rat):Prop where
 n:l.length≤1048576
 q:∀q∈l,qok q
structure OKa (a:List (List Rat)):Prop where
 n:a.length≤1048576
 r:∀r∈a,OKl r
end Go.Tb
namespace Go.Proofs
open Go.Sv Go Go.Tb Go.Pl
theorem rTold_ok (l:List Rat) (h:OKl l):PureF Tryz.prog 69 [.ro (l.map qsv)] (.ro ((txts l).map strv)):=by
 have hl:=h.n
 refine pure_enter Tryz.func69 rfl (by simp) (fun C hC=>?_)
 simp
 refine CodeJ.nil 3 1 rfl ?_
 refine CodeJ.loopL (ι:=Nat × List ByteArray) (fun ⟨i,xs⟩=>⟨22,[(0,.ro (l.map qsv)),(3,.view 0 0 xs.length),(4,.val (.int .i64 i))],[some ⟨1,xs.map strv,false⟩]⟩)
  (fun ⟨i,xs⟩=>i≤l.length∧xs=(txts l).take i) (fun ⟨i,xs⟩=>l.length - i) (0,[]) ?_ ?_ ?_
 ·simp
 ·simp [leS,hC]
 ·rintro ⟨i,xs⟩ ⟨hi,hx⟩
  have hxl:xs.length=i:=by rw [hx];simp;omega
  by_cases hlt:i<l.length
  ·have hx':=txts_take hlt
   rw [←hx] at hx'
   have hq:=h.q _ (gt_mem hlt)
   simp (disch:=omega) [hlt,lget_q]
   refine callS (pText_ok (gt l i) hq) (by simp) ?_
   simp (disch:=omega) [w64]
   exact ⟨⟨by simp [hC],by omega⟩,i+1,xs++[qtxt (gt l i)],⟨by omega,hx'.symm⟩,by omega,Le.syn (by simp [leS,hC])⟩
  ·obtain rfl:i=l.length:=by omega
   rw [List.take_of_length_le (by simp)] at hx
   simp [hx,List.take_of_length_le]
theorem pTexts_ok (l:List Rat) (h:OKl l):PureF Tryz.prog 61 [.ro (l.map rsv)] (.ro ((txts l).map strv)):=by
 have hl:=h.n
 refine pure_enter Tryz.func61 rfl (by simp) (fun C hC=>?_)
 simp
 refine CodeJ.nil 3 1 rfl ?_
 refine CodeJ.loopL (ι:=Nat × List ByteArray) (fun ⟨i,xs⟩=>⟨19,[(3,.view 0 0 xs.length),(6,.ro (l.map rsv)),(7,.val (.int .i64 l.length)),(8,.val (.int .i64 i))],[some ⟨1,xs.map strv,false⟩]⟩)
  (fun ⟨i,xs⟩=>i≤l.length∧xs=(txts l).take i) (fun ⟨i,xs⟩=>l.length - i) (0,[]) ?_ ?_ ?_
 ·simp
 ·simp [leS,hC]
 ·rintro ⟨i,xs⟩ ⟨hi,hx⟩
  have hxl:xs.length=i:=by rw [hx];simp;omega
  by_cases hlt:i<l.length
  ·have hx':=txts_take hlt
   rw [←hx] at hx'
   have hq:=h.q _ (gt_mem hlt)
   simp (disch:=omega) [hlt,lget_r]
   refine callS (qText_ok (gt l i) hq) (by simp) ?_
   simp (disch:=omega) [w64]
   exact ⟨⟨by simp [hC],by omega⟩,i+1,xs++[qtxt (gt l i)],⟨by omega,hx'.symm⟩,by omega,Le.syn (by simp [leS,hC])⟩
  ·obtain rfl:i=l.length:=by omega
   rw [List.take_of_length_le (by simp)] at hx
   simp [hx,List.take_of_length_le]
end Go.Proofs
namespace Go.Tb
open Go Go.Sv Go.Pl Go.Proofs
structure Few (t:List (List ByteArray)):Prop where
 n:t.length≤6
 r:∀i,i<t.length→(gt t i).length≤6∧∀k,k<(gt t i).length→(gt (gt t i) k).size≤30
end Go.Tb
namespace Go.Proofs
open Go.Sv Go Go.Tb Go.Pl
end Go.Proofs
namespace Go.Sv
open Go
end Go.Sv
namespace Go.Ut
open Go Go.Sv Go.Pl Go.Proofs Go.Tb
@[simp] theorem Sub_same {M:Tab} {x:SV} (h:x.pure=true):Sv.Sub M x x=True:=eq_true (Sub_self M x h)
/-! numbers of the program and of the document -/
@[simp] theorem rc_len (q:Rat):(rsv q).cells.length=4:=rfl
@[simp] theorem rc_take' (q:Rat) (r:List SV) (n:Nat):List.take (n+4) ((rsv q).cells++r)=(rsv q).cells++List.take n r:=rfl
@[simp] theorem rc_drop (q:Rat) (r:List SV) (n:Nat):List.drop (n+4) ((rsv q).cells++r)=List.drop n r:=rfl
@[simp] theorem rc_pure (q:Rat):SV.pureL (rsv q).cells=true:=rfl
@[simp] theorem rc_uses (q:Rat) (k:Nat):SV.usesL k (rsv q).cells=false:=rfl
@[simp] theorem rc_lt (q:Rat) (k:Nat):SV.ltL k (rsv q).cells=true:=rfl
@[simp] theorem usesL_app {k:Nat} {a b:List SV}:SV.usesL k (a++b)=(SV.usesL k a||SV.usesL k b):=by
 induction a with
 | nil=>simp
 | cons x a ih=>simp [ih,Bool.or_assoc]
theorem sbV_rsv {k:Nat} {es:List SV} (q:Rat):sbV k es (rsv q)=rsv q:=sbV_pure _ _ _ rfl
theorem rsv0:SV.agg [.val (.bool false),.ro [],.val (.bool false),.ro []]=rsv 0:=by simp [rsv,dig_zero]
theorem gt_get {α:Type} [Inhabited α] {l:List α} {i:Nat} (h:i<l.length):l[i]=gt l i:=by
 unfold gt;rw [List.getD_eq_getElem?_getD,List.getElem?_eq_getElem h];rfl
theorem drop_gt {α:Type} [Inhabited α] {l:List α} {i:Nat} (h:i<l.length):l.drop i=gt l i::l.drop (i+1):=by
 rw [List.drop_eq_getElem_cons h,gt_get h]
theorem gt_map {α β:Type} [Inhabited α] [Inhabited β] (f:α→β) {l:List α} {i:Nat} (h:i<l.length):gt (l.map f) i=f (gt l i):=by
 simp [gt,h]
theorem gt_set {α:Type} [Inhabited α] {l:List α} {i j:Nat} {x:α} (h:j<l.length):gt (l.set i x) j=if i=j then x else gt l j:=by
 have h':j<(l.set i x).length:=by simpa using h
 rw [←gt_get h',List.getElem_set]
 split
 ·rfl
 ·exact gt_get h
theorem ext_gt' {α:Type} [Inhabited α] {a b:List α} (hl:a.length=b.length) (h:∀i,i<a.length→gt a i=gt b i):a=b:=by
 refine List.ext_getElem hl fun i h1 h2=>?_
 rw [gt_get h1,gt_get h2];exact h i h1
/-! whole numbers, truths -/
def iv (n:Int):SV:=.val (.int .i64 n)
@[simp] theorem iv_val (n:Int):iv n=.val (.int .i64 n):=rfl
def ilv (l:List Int):SV:=.ro (l.map iv)
@[simp] theorem ilv_val (l:List Int):ilv l=.ro (l.map iv):=rfl
def bov (b:Bool):SV:=.val (.bool b)
@[simp] theorem bov_val (b:Bool):bov b=.val (.bool b):=rfl
theorem lget_iv {l:List Int} {i:Nat} (h:i<l.length):lget (l.map iv) i=iv (gt l i):=lget_m _ h
/-! lists filled from the front -/
theorem nlL_rep {n:Nat} {x:SV}:nlL (List.replicate n x)=List.replicate n (nlV x):=by
 induction n with
 | zero=>rfl
 | succ n ih=>simp [List.replicate_succ,ih]
/-! how numbers compare -/
def cmpv (x y:Rat):Int:=if x<y then -1 else if y<x then 1 else 0
theorem cmpv_cases (x y:Rat):(x<y∧cmpv x y = -1)∨(y<x∧cmpv x y=1)∨(x=y∧cmpv x y=0):=by
 unfold cmpv
 by_cases h1:x<y
 ·exact .inl ⟨h1,by rw [if_pos h1]⟩
 ·by_cases h2:y<x
  ·exact .inr (.inl ⟨h2,by rw [if_neg h1,if_pos h2]⟩)
  ·exact .inr (.inr ⟨Rat.le_antisymm (Rat.not_lt.1 h2) (Rat.not_lt.1 h1),by rw [if_neg h1,if_neg h2]⟩)
@[simp] theorem cmpv_lt0 {x y:Rat}:cmpv x y<0↔x<y:=by rcases cmpv_cases x y with ⟨h,e⟩ | ⟨h,e⟩ | ⟨h,e⟩<;>rw [e]<;>constructor<;>grind
@[simp] theorem cmpv_gt0 {x y:Rat}:0<cmpv x y↔y<x:=by rcases cmpv_cases x y with ⟨h,e⟩ | ⟨h,e⟩ | ⟨h,e⟩<;>rw [e]<;>constructor<;>grind
@[simp] theorem cmpv_eq0 {x y:Rat}:cmpv x y=0↔x=y:=by rcases cmpv_cases x y with ⟨h,e⟩ | ⟨h,e⟩ | ⟨h,e⟩<;>rw [e]<;>constructor<;>grind
def sgv (q:Rat):Int:=q.num.sign
theorem num_neg {q:Rat}:q.num<0↔q<0:=by rw [←Int.not_le,←Rat.not_le,Rat.num_nonneg]
@[simp] theorem sgv_lt0 {q:Rat}:sgv q<0↔q<0:=by unfold sgv;rw [Int.sign_neg_iff,num_neg]
@[simp] theorem sgv_eq0 {q:Rat}:sgv q=0↔q=0:=by unfold sgv;rw [Int.sign_eq_zero_iff_zero,Rat.num_eq_zero]
def Wd (k:Nat) (w:List Rat):Prop:=∀i,i<w.length→qw k (gt w i)
theorem qw_zero (k:Nat) (h:1≤k):qw k 0:=by
 have:=qw_int (k:=k) (x:=0) (fw_zero k) h
 simpa using this
theorem qw_small {n:Int} (h : -4294967296<n) (h':n<4294967296):qw 1 (n:Rat):=qw_int (wid_le (by omega) (by omega)) (by omega)
/-! errors by number -/
def erV (c:Nat):SV:=if c=0 then .val .nilIface else .sen sent (gs (c - 1))
theorem erV_0:erV 0=.val .nilIface:=rfl
theorem erV_2:erV 2=.sen sent 4:=rfl
theorem erV_4:erV 4=.sen sent 0:=rfl
theorem erV_7:erV 7=.sen sent 7:=rfl
@[simp] theorem erV_pure (c:Nat):(erV c).pure=true:=by unfold erV;split<;>rfl
end Go.Ut
namespace Go.Proofs
open Go.Sv Go Go.Tb Go.Pl Go.Ut
theorem sgnQ (q:Rat):PureF Tryz.prog 40 [rsv q] (.val (.int .i64 (sgv q))):=qSign_ok q
theorem sgnP (q:Rat):PureF Tryz.prog 14 [qsv q] (.val (.int .i64 (sgv q))):=pSign_ok q
theorem zeroP:PureF Tryz.prog 46 [.val (.int .i64 0)] (qsv 0):=pInt_ok 0 (by omega) (by omega)
end Go.Proofs


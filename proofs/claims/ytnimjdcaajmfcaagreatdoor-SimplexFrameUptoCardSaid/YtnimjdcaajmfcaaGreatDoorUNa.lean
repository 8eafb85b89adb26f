/- A text of the prover's own. -/
import Derived.Test.YtnimjdcaajmfcaaGreatDoorUFs
set_option maxRecDepth 20000
namespace Go.Proofs
open Go.Sv Go Go.Pl
def nsv (x:Int):SV:=.agg [.val (.bool (decide (x<0))),.ro ((dig 10000 x.natAbs).map i64)]
@[simp] theorem nsv_csz (x:Int):(nsv x).csz=2:=rfl
@[simp] theorem nsv_isTup (x:Int):(nsv x).isTup=false:=rfl
@[simp] theorem nsv_isAgg (x:Int):(nsv x).isAgg=true:=rfl
@[simp] theorem nsv_pure (x:Int):(nsv x).pure=true:=rfl
@[simp] theorem nsv_lt (n:Nat) (x:Int):(nsv x).lt n=true:=rfl
@[simp] theorem nsv_ks (x:Int):(nsv x).ks=[]:=rfl
@[simp] theorem Sub_nsv (M:Tab) (x:Int) (y:SV):Sub M (nsv x) y=(y=nsv x):=by
 cases y with
 | agg l =>
  match l with
  | []=>simp [nsv,Sv.Sub,SubL]
  | [a]=>simp [nsv,Sv.Sub,SubL]
  | a::b::c::r=>simp [nsv,Sv.Sub,SubL]
  | [a,b]=>cases a<;>simp [nsv,Sv.Sub,SubL];intro _;exact eq_comm
 | _=>simp [nsv,Sv.Sub]
theorem dig4_pos_len (x:Int):0<(dig 10000 x.natAbs).length↔x≠0:=by
 rw [List.length_pos_iff,ne_eq,dig_eq_nil (by omega)];omega
theorem take_snoc {l:List Nat} {k:Nat} (h:k<l.length):l.take (k+1)=l.take k++[dg l k]:=by
 rw [List.take_add_one,List.getElem?_eq_getElem h];simp [dg,List.getD_eq_getElem?_getD,List.getElem?_eq_getElem h]
theorem rTrim_ok (xs:List Nat) (h:xs.length≤4398046511104):PureF Tryz.prog 180 [.ro (xs.map i64)] (.ro ((trimL xs).map i64)):=by
 refine pure_enter Tryz.func180 rfl (by simp) (fun C hC=>?_)
 simp
 refine CodeJ.loop (ι:=Nat) (fun n=>⟨21,[(0,.ro (xs.map i64)),(3,.val (.int .i64 n))],[]⟩) (fun n=>n≤xs.length∧trimL (xs.take n)=trimL xs) (fun n=>n) xs.length ?_ ?_ ?_
 ·simp
 ·simp [leS]
 ·rintro n ⟨hl,ht⟩
  cases n with
  | zero =>
   simp [trimL] at ht
   simp [←ht]
  | succ k =>
   have tk:=take_snoc (l:=xs) (k:=k) (by omega)
   by_cases hz:dg xs k=0
   ·rw [tk,hz,trimL_zero] at ht
    simp (disch:=omega) [w64,lget_i64,hz]
    refine ⟨by omega,k,⟨by omega,ht⟩,by omega,by simp [leS,hC]⟩
   ·have hz':¬(dg xs k:Int)=0:=by omega
    rw [tk,trimL_snoc _ hz,←tk] at ht
    simp (disch:=omega) [w64,lget_i64,hz',hz]
    refine ⟨by omega,by omega,?_⟩
    rw [←List.map_take,ht]
theorem rMade_ok (b:Bool) (xs:List Nat) (h:xs.length≤4398046511104) (hx:∀d∈xs,d<10000) :
  PureF Tryz.prog 145 [.val (.bool b),.ro (xs.map i64)] (nsv (if b=true then -(val 10000 xs:Int) else (val 10000 xs:Int))):=by
 refine pure_enter Tryz.func145 rfl (by simp) (fun C hC=>?_)
 simp
 refine callF (rTrim_ok xs h) (by simp) ?_
 rw [←dig_val (by omega) xs hx]
 generalize val 10000 xs=n
 cases b with
 | false=>
  simp [nsv]
 | true =>
  simp [nsv,List.length_pos_iff,dig_eq_nil]
  by_cases h:n=0<;>simp [h];omega
theorem rSign_ok (x:Int):PureF Tryz.prog 50 [nsv x] (.val (.int .i64 x.sign)):=by
 refine pure_enter Tryz.func50 rfl (by simp) (fun C hC=>?_)
 simp [nsv,dig_eq_nil]
 refine ⟨fun h=>by simp [h],fun _=>⟨fun h=>(Int.sign_eq_neg_one_of_neg h).symm,fun h=>(Int.sign_eq_one_of_pos (by omega)).symm⟩⟩
theorem rNeg_ok (x:Int):PureF Tryz.prog 100 [nsv x] (nsv (-x)):=by
 refine pure_enter Tryz.func100 rfl (by simp) (fun C hC=>?_)
 simp [nsv,dig4_pos_len]
 refine ⟨fun h=>?_,fun h=>by omega⟩
 by_cases h0:x=0
 ·simp [h0]
 ·have:0<x:=by omega
  simp [h0,this]
theorem rSize_ok (m n:Nat) (hm:wid 10000 m≤4398046511104) (hn:wid 10000 n≤4398046511104) :
  PureF Tryz.prog 160 [.ro ((dig 10000 m).map i64),.ro ((dig 10000 n).map i64)] (.val (.int .i64 (cmp3 m n))):=by
 refine pure_enter Tryz.func160 rfl (by simp) (fun C hC=>?_)
 have vm:=val_dig (B:=10000) (by omega) m
 have vn:=val_dig (B:=10000) (by omega) n
 have lm:=dig_lt (B:=10000) (by omega) m
 have ln:=dig_lt (B:=10000) (by omega) n
 simp only [wid] at hm hn
 simp
 refine ⟨fun hne=>⟨fun hlt=>?_,fun hge=>?_⟩,fun he=>?_⟩
 ·simp [cmp3,lt_of_wid (by omega) hlt]
 ·have:=lt_of_wid (B:=10000) (m:=n) (n:=m) (by omega) (by omega)
  simp [cmp3,this];omega
 ·refine CodeJ.loop (ι:=List Nat × List Nat × List Nat) (fun ⟨la,lb,r⟩=>⟨41,[(0,.ro ((la++r).map i64)),(1,.ro ((lb++r).map i64)),(5,.val (.int .i64 ((la.length:Int) - 1)))],[]⟩)
   (fun ⟨la,lb,r⟩=>dig 10000 m=la++r∧dig 10000 n=lb++r∧la.length=lb.length) (fun ⟨la,lb,r⟩=>la.length) (dig 10000 m,dig 10000 n,[]) ?_ ?_ ?_
  ·simp;omega
  ·simp (disch:=omega) [leS,w64]
  ·rintro ⟨la,lb,r⟩ ⟨h1,h2,h3⟩
   rcases List.eq_nil_or_concat la with rfl | ⟨la,x,rfl⟩
   ·have:lb=[]:=by cases lb<;>simp_all
    subst this
    simp
    have:m=n:=by rw [←vm,←vn,h1,h2]
    simp [cmp3,this]
   ·rcases List.eq_nil_or_concat lb with rfl | ⟨lb,y,rfl⟩
    ·simp at h3
    simp at h1 h2 h3
    simp [h3]
    have hl:lb.length<4398046511104:=by rw [h2] at hn;simp at hn;omega
    refine CodeJ.draw (.qs [0,1,2,3,4,5,6,7,8] .nil) (by kernel_rfl) (by kernel_rfl) (by simp) ?_
    have c1:x<y→m<n:=fun h=>by rw [←vm,←vn,h1,h2];exact cmp_top (fun d hd=>lm d (by rw [h1];simp [hd])) h3 h
    have c2:y<x→n<m:=fun h=>by rw [←vm,←vn,h1,h2];exact cmp_top (fun d hd=>ln d (by rw [h2];simp [hd])) h3.symm h
    simp (disch:=omega) [lget_at,w64]
    refine ⟨by omega,by omega,fun hlt=>?_,fun hge=>?_⟩
    ·simp [cmp3,c1 hlt]
    ·refine CodeJ.draw (.qs [0,1,2,3,4,5,6,7,8] .nil) (by kernel_rfl) (by kernel_rfl) (by simp) ?_
     simp (disch:=omega) [lget_at,w64]
     refine ⟨by omega,by omega,fun hlt=>?_,fun hge'=>?_⟩
     ·have:=c2 (by omega)
      simp [cmp3,this];omega
     ·refine ⟨la,lb,y::r,?_⟩
      have he:x=y:=by omega
      simp [h1,h2,h3,he,leS,hC]
theorem rlen {o r l:List Nat} (h:l=o++r):o.length≤l.length:=by rw [h];simp
theorem dig_n64 {m:Nat} (h:m≤9223372036854775808):(dig 10000 m).length≤5:=wid_le (by omega) (by omega)
theorem rSmall_ok (n:Int) (h1 : -9223372036854775807≤n) (h2:n≤9223372036854775807):PureF Tryz.prog 97 [.val (.int .i64 n)] (nsv n):=by
 refine pure_enter Tryz.func97 rfl (by simp) (fun C hC=>?_)
 have hl:=dig_n64 (m:=n.natAbs) (by omega)
 by_cases hn:n<0
 ·simp (disch:=omega) [hn,w64]
  refine CodeJ.nil 4 1 rfl ?_
  refine CodeJ.loop (ι:=Nat × List Nat) (fun ⟨m,o⟩=>⟨22,[(0,.val (.int .i64 m)),(2,.ptr 0 0 0),(3,.val (.bool true)),(4,.view 1 0 o.length)],
    [some ⟨2,[.agg [.val (.bool false),.val (.slice none 0 0)]],false⟩,some ⟨1,o.map i64,false⟩]⟩)
   (fun ⟨m,o⟩=>m≤9223372036854775807∧dig 10000 n.natAbs=o++dig 10000 m) (fun ⟨m,o⟩=>m) (n.natAbs,[]) ?_ ?_ ?_
  ·exact ⟨by omega,by simp⟩
  ·simp [leS,hC]
   omega
  ·rintro ⟨m,o⟩ ⟨g1,g2⟩
   have ho:=rlen g2
   by_cases hm:m=0
   ·subst hm
    simp [dig_zero] at g2
    simp [nsv,hn,g2,List.take_of_length_le]
   ·obtain ⟨d,hd⟩:∃d,d=m % 10000:=⟨_,rfl⟩
    have e1:(m:Int).tmod 10000=d:=by rw [Int.tmod_eq_emod_of_nonneg (by omega)];omega
    have e2:(m:Int).tdiv 10000=(m / 10000:Nat):=by rw [Int.tdiv_eq_ediv_of_nonneg (by omega)];omega
    have g3:dig 10000 n.natAbs=(o++[d])++dig 10000 (m / 10000):=by rw [g2,dig_pos (by omega) (by omega),hd];simp
    have hm':0<m:=by omega
    simp (disch:=omega) [hm',e1,e2,w64,hC]
    refine ⟨by omega,m / 10000,o++[d],⟨by omega,g3⟩,by omega,by simp [leS,hC]⟩
 ·simp (disch:=omega) [hn,w64]
  refine CodeJ.nil 4 1 rfl ?_
  refine CodeJ.loop (ι:=Nat × List Nat) (fun ⟨m,o⟩=>⟨22,[(0,.val (.int .i64 m)),(2,.ptr 0 0 0),(3,.val (.bool false)),(4,.view 1 0 o.length)],
    [some ⟨2,[.agg [.val (.bool false),.val (.slice none 0 0)]],false⟩,some ⟨1,o.map i64,false⟩]⟩)
   (fun ⟨m,o⟩=>m≤9223372036854775807∧dig 10000 n.natAbs=o++dig 10000 m) (fun ⟨m,o⟩=>m) (n.natAbs,[]) ?_ ?_ ?_
  ·exact ⟨by omega,by simp⟩
  ·simp [leS,hC]
   omega
  ·rintro ⟨m,o⟩ ⟨g1,g2⟩
   have ho:=rlen g2
   by_cases hm:m=0
   ·subst hm
    simp [dig_zero] at g2
    simp [nsv,hn,g2,List.take_of_length_le]
   ·obtain ⟨d,hd⟩:∃d,d=m % 10000:=⟨_,rfl⟩
    have e1:(m:Int).tmod 10000=d:=by rw [Int.tmod_eq_emod_of_nonneg (by omega)];omega
    have e2:(m:Int).tdiv 10000=(m / 10000:Nat):=by rw [Int.tdiv_eq_ediv_of_nonneg (by omega)];omega
    have g3:dig 10000 n.natAbs=(o++[d])++dig 10000 (m / 10000):=by rw [g2,dig_pos (by omega) (by omega),hd];simp
    have hm':0<m:=by omega
    simp (disch:=omega) [hm',e1,e2,w64,hC]
    refine ⟨by omega,m / 10000,o++[d],⟨by omega,g3⟩,by omega,by simp [leS,hC]⟩
end Go.Proofs
namespace Go.Proofs
open Go.Sv Go Go.Pl
def rTells (B n k:Nat) (x:SV):Prop:=∃l:List Nat,x=.ro (l.map i64)∧(∀d∈l,d<B)∧val B l=n∧l.length≤k
theorem tmodN {x:Int} (h:0≤x):x.tmod 10000=x % 10000:=Int.tmod_eq_emod_of_nonneg h
theorem tdivN {x:Int} (h:0≤x):x.tdiv 10000=x / 10000:=Int.tdiv_eq_ediv_of_nonneg h
theorem rMore_ok (a b:List Nat) (ha:∀d∈a,d<10000) (hb:∀d∈b,d<10000) (hla:a.length≤4398046511104) (hlb:b.length≤4398046511104) :
  PureC Tryz.prog 159 [.ro (a.map i64),.ro (b.map i64)] (rTells 10000 (val 10000 a+val 10000 b) (max a.length b.length+1)):=by
 refine pure_enter Tryz.func159 rfl (by simp) (fun C hC=>?_)
 obtain ⟨k,hk⟩:∃k,k=max a.length b.length:=⟨_,rfl⟩
 obtain ⟨s,hs⟩:∃s,s=val 10000 a+val 10000 b:=⟨_,rfl⟩
 rw [←hk,←hs]
 simp
 refine CodeJ.nil 5 1 rfl ?_
 refine CodeJ.loop (ι:=List Nat × Nat)
  (fun ⟨out,c⟩=>⟨52,[(0,.ro (a.map i64)),(1,.ro (b.map i64)),(5,.view 0 0 out.length),(6,.val (.int .i64 c)),(7,.val (.int .i64 out.length))],[some ⟨1,out.map i64,false⟩]⟩)
  (fun ⟨out,c⟩=>out.length+c≤k+1∧c≤1∧(∀d∈out,d<10000) ∧
   val 10000 out+10000^out.length*(c+(val 10000 (a.drop out.length)+val 10000 (b.drop out.length)))=s)
  (fun ⟨out,c⟩=>k+1 - out.length) ([],0) ?_ ?_ ?_
 ·simpa [val] using hs.symm
 ·simp [leS,hC]
 ·rintro ⟨out,c⟩ ⟨h1,h2,h3,h4⟩
  have bp:=dg_lt ha (by omega) out.length
  have bq:=dg_lt hb (by omega) out.length
  obtain ⟨x,hx⟩:∃x,x=c+dg a out.length+dg b out.length:=⟨_,rfl⟩
  have F1:∀d∈out++[x % 10000],d<10000:=lt_snoc h3 (by omega)
  have F2:val 10000 (out++[x % 10000])+10000^(out.length+1)*(x / 10000+(val 10000 (a.drop (out.length+1))+val 10000 (b.drop (out.length+1))))=s:=by
   rw [←h4,step_val,val_drop _ a out.length,val_drop _ b out.length,hx]
   congr 2
   omega
  by_cases h5:out.length<a.length
  ·by_cases h6:out.length<b.length
   ·simp (disch:=omega) [h5,h6,w64,hC,lget_i64,tmodN,tdivN]
    exact ⟨by omega,out++[x % 10000],x / 10000,⟨by simp;omega,by omega,F1,by simpa using F2⟩,by simp;omega,by subst hx;simp [leS,hC]⟩
   ·have:=dg_out (l:=b) (i:=out.length) (by omega)
    rw [this] at hx
    simp (disch:=omega) [h5,h6,w64,hC,lget_i64,tmodN,tdivN]
    exact ⟨by omega,out++[x % 10000],x / 10000,⟨by simp;omega,by omega,F1,by simpa using F2⟩,by simp;omega,by subst hx;simp [leS,hC]⟩
  ·have ga:=dg_out (l:=a) (i:=out.length) (by omega)
   by_cases h6:out.length<b.length
   ·rw [ga] at hx
    simp (disch:=omega) [h5,h6,w64,hC,lget_i64,tmodN,tdivN]
    exact ⟨by omega,out++[x % 10000],x / 10000,⟨by simp;omega,by omega,F1,by simpa using F2⟩,by simp;omega,by subst hx;simp [leS,hC]⟩
   ·have gb:=dg_out (l:=b) (i:=out.length) (by omega)
    rw [ga,gb] at hx
    by_cases hc:0<c
    ·have hc':c=1:=by omega
     subst hc'
     simp (disch:=omega) [h5,h6,w64,hC,tmodN,tdivN]
     exact ⟨by omega,out++[x % 10000],x / 10000,⟨by simp;omega,by omega,F1,by simpa using F2⟩,by simp;omega,by subst hx;simp [leS,hC]⟩
    ·have hc':c=0:=by omega
     subst hc'
     have e1:a.drop out.length=[]:=List.drop_eq_nil_of_le (by omega)
     have e2:b.drop out.length=[]:=List.drop_eq_nil_of_le (by omega)
     simp only [e1,e2,val] at h4
     simp (disch:=omega) [h5,h6,w64,hC]
     exact ⟨_,by simp [List.take_of_length_le],out,rfl,h3,by simpa using h4,by omega⟩
theorem rTimes_ok (a:List Nat) (x:Nat) (ha:∀d∈a,d<10000) (hx:x<10000) (hla:a.length≤2000000000000) :
  PureF Tryz.prog 192 [.ro (a.map i64),.val (.int .i64 x)] (.ro ((dig 10000 (val 10000 a*x)).map i64)):=by
 refine pure_enter Tryz.func192 rfl (by simp) (fun C hC=>?_)
 obtain ⟨s,hs⟩:∃s,s=val 10000 a*x:=⟨_,rfl⟩
 rw [←hs]
 simp
 refine CodeJ.nil 5 1 rfl ?_
 refine CodeJ.loop (ι:=List Nat × Nat)
  (fun ⟨out,c⟩=>⟨39,[(0,.ro (a.map i64)),(1,.val (.int .i64 x)),(5,.view 0 0 out.length),(6,.val (.int .i64 c)),(7,.val (.int .i64 out.length))],[some ⟨1,out.map i64,false⟩]⟩)
  (fun ⟨out,c⟩=>(out.length≤a.length∨out.length=a.length+1∧c=0)∧c<10000∧(∀d∈out,d<10000) ∧
   val 10000 out+10000^out.length*(c+x*val 10000 (a.drop out.length))=s)
  (fun ⟨out,c⟩=>a.length+1 - out.length) ([],0) ?_ ?_ ?_
 ·exact ⟨.inl (by simp),by omega,by simp,by simp [val,hs,Nat.mul_comm]⟩
 ·simp [leS,hC]
 ·rintro ⟨out,c⟩ ⟨h1,h2,h3,h4⟩
  have bp:=dg_lt ha (by omega) out.length
  obtain ⟨p,hp⟩:∃p,p=dg a out.length*x:=⟨_,rfl⟩
  have hp':p≤9999*9999:=by rw [hp];exact Nat.mul_le_mul (by omega) (by omega)
  have hpz:(dg a out.length:Int)*x=p:=by rw [hp,Int.natCast_mul]
  obtain ⟨y,hy⟩:∃y,y=c+p:=⟨_,rfl⟩
  have F1:∀d∈out++[y % 10000],d<10000:=lt_snoc h3 (by omega)
  have F2:val 10000 (out++[y % 10000])+10000^(out.length+1)*(y / 10000+x*val 10000 (a.drop (out.length+1)))=s:=by
   rw [←h4,step_val,val_drop _ a out.length,hy,hp]
   congr 2
   grind
  by_cases h5:out.length<a.length
  ·simp (disch:=omega) [h5,w64,hC,lget_i64,tmodN,tdivN,hpz]
   exact ⟨by omega,out++[y % 10000],y / 10000,⟨by simp;omega,by omega,F1,by simpa using F2⟩,by simp;omega,by subst hy;simp [leS,hC]⟩
  ·have ga:=dg_out (l:=a) (i:=out.length) (by omega)
   have hp0:p=0:=by rw [hp,ga];simp
   rw [hp0] at hy
   by_cases hc:0<c
   ·simp (disch:=omega) [h5,hc,w64,hC,tmodN,tdivN]
    exact ⟨by omega,out++[y % 10000],y / 10000,⟨by simp;omega,by omega,F1,by simpa using F2⟩,by simp;omega,by subst hy;simp [leS,hC]⟩
   ·have hc':c=0:=by omega
    subst hc'
    have e1:a.drop out.length=[]:=List.drop_eq_nil_of_le (by omega)
    simp only [e1,val] at h4
    simp (disch:=omega) [h5,w64,hC]
    refine callF (rTrim_ok out (by omega)) (by simp [List.take_of_length_le]) ?_
    have e:trimL out=dig 10000 s:=by rw [←dig_val (by omega) out h3];simp at h4;rw [h4]
    simp [e]
end Go.Proofs
namespace Go.Proofs
open Go.Sv Go Go.Pl
theorem rLess_ok (m n:Nat) (hmn:n≤m) (hm:wid 10000 m≤4398046511104):PureF Tryz.prog 161 [.ro ((dig 10000 m).map i64),.ro ((dig 10000 n).map i64)] (.ro ((dig 10000 (m - n)).map i64)):=by
 refine pure_enter Tryz.func161 rfl (by simp) (fun C hC=>?_)
 have B2:2≤10000:=by omega
 have hp:=dig_lt B2 m
 have hq:=dig_lt B2 n
 have hlq:(dig 10000 n).length≤(dig 10000 m).length:=wid_mono B2 hmn
 obtain ⟨T,hTd⟩:∃T,T=m - n:=⟨_,rfl⟩
 have hT:val 10000 (dig 10000 m)=T+val 10000 (dig 10000 n):=by rw [val_dig B2,val_dig B2];omega
 rw [←hTd]
 simp only [wid] at hm
 generalize dig 10000 m=p at *
 generalize dig 10000 n=q at *
 simp
 refine CodeJ.nil 5 1 rfl ?_
 refine CodeJ.loop (ι:=List Nat × Nat)
  (fun ⟨o,c⟩=>⟨41,[(0,.ro (p.map i64)),(1,.ro (q.map i64)),(5,.view 0 0 o.length),(6,.val (.int .i64 c)),(7,.val (.int .i64 o.length))],[some ⟨1,o.map i64,false⟩]⟩)
  (fun ⟨o,c⟩=>o.length≤p.length∧c≤1∧(∀d∈o,d<10000) ∧
   val 10000 o+10000^o.length*val 10000 (p.drop o.length)=T+10000^o.length*(c+val 10000 (q.drop o.length)))
  (fun ⟨o,c⟩=>p.length - o.length) ([],0) ?_ ?_ ?_
 ·exact ⟨by simp,by omega,by simp,by simpa [val] using hT⟩
 ·simp [leS,hC]
 ·rintro ⟨o,c⟩ ⟨h1,h2,h3,h4⟩
  have bp:=dg_lt hp (by omega) o.length
  have bq:=dg_lt hq (by omega) o.length
  by_cases hlt:o.length<p.length
  ·have key:∀u c',dg p o.length+10000*c'=u+dg q o.length+c→val 10000 (o++[u])+10000^(o.length+1)*val 10000 (p.drop (o.length+1))=T+10000^(o.length+1)*(c'+val 10000 (q.drop (o.length+1))):=by
    intro u c' e
    rw [val_drop _ p o.length,val_drop _ q o.length] at h4
    rw [val_app,Nat.pow_succ]
    simpa [val] using minus_step h4 e
   have fin:∀u c',dg p o.length+10000*c'=u+dg q o.length+c→u<10000→c'≤1 →
     (o++[u]).length≤p.length∧c'≤1∧(∀d∈o++[u],d<10000)∧val 10000 (o++[u])+10000^(o++[u]).length*val 10000 (p.drop (o++[u]).length)=T+10000^(o++[u]).length*(c'+val 10000 (q.drop (o++[u]).length)):=fun u c' e hu hc' =>
    ⟨by simp;omega,hc',lt_snoc h3 hu,by simpa using key u c' e⟩
   by_cases hlq':o.length<q.length
   ·by_cases hneg:dg p o.length<c+dg q o.length
    ·have hneg':(dg p o.length:Int) - c - dg q o.length<0:=by omega
     obtain ⟨u,hu⟩:∃u:Nat,u=dg p o.length+10000 - c - dg q o.length:=⟨_,rfl⟩
     have hu':(dg p o.length:Int) - c - dg q o.length+10000=u:=by omega
     simp (disch:=omega) [hlt,hlq',w64,hC,lget_i64,hneg',hu']
     exact ⟨by omega,o++[u],1,fin u 1 (by omega) (by omega) (by omega),by simp;omega,by simp [leS,hC]⟩
    ·have hneg':¬(dg p o.length:Int) - c - dg q o.length<0:=by omega
     obtain ⟨u,hu⟩:∃u:Nat,u=dg p o.length - c - dg q o.length:=⟨_,rfl⟩
     have hu':(dg p o.length:Int) - c - dg q o.length=u:=by omega
     simp (disch:=omega) [hlt,hlq',w64,hC,lget_i64,hneg',hu']
     exact ⟨by omega,by omega,o++[u],0,fin u 0 (by omega) (by omega) (by omega),by simp;omega,by simp [leS,hC]⟩
   ·have gq:=dg_out (l:=q) (i:=o.length) (by omega)
    by_cases hneg:dg p o.length<c
    ·have hneg':(dg p o.length:Int) - c<0:=by omega
     obtain ⟨u,hu⟩:∃u:Nat,u=dg p o.length+10000 - c:=⟨_,rfl⟩
     have hu':(dg p o.length:Int) - c+10000=u:=by omega
     simp (disch:=omega) [hlt,hlq',w64,hC,lget_i64,hneg',hu']
     exact ⟨by omega,o++[u],1,fin u 1 (by omega) (by omega) (by omega),by simp;omega,by simp [leS,hC]⟩
    ·have hneg':¬(dg p o.length:Int) - c<0:=by omega
     obtain ⟨u,hu⟩:∃u:Nat,u=dg p o.length - c:=⟨_,rfl⟩
     have hu':(dg p o.length:Int) - c=u:=by omega
     simp (disch:=omega) [hlt,hlq',w64,hC,lget_i64,hneg',hu']
     exact ⟨by omega,by omega,o++[u],0,fin u 0 (by omega) (by omega) (by omega),by simp;omega,by simp [leS,hC]⟩
  ·have hi:o.length=p.length:=by omega
   have e1:p.drop o.length=[]:=List.drop_eq_nil_of_le (by omega)
   have e2:q.drop o.length=[]:=List.drop_eq_nil_of_le (by omega)
   have h6:=val_lt o h3
   rw [e1,e2] at h4
   have h7:val 10000 o=T:=by
    rcases Nat.le_one_iff_eq_zero_or_eq_one.1 h2 with rfl | rfl
    ·simpa [val] using h4
    ·simp [val] at h4;omega
   simp (disch:=omega) [hlt,w64,hC]
   refine callF (rTrim_ok o (by omega)) (by simp [List.take_of_length_le]) ?_
   have e:trimL o=dig 10000 T:=by rw [←dig_val (by omega) o h3,h7]
   simp [e]
def rfit (x:Int):Prop:=wid 10000 x.natAbs≤1000000000000
theorem rfit_neg {x:Int}:rfit (-x)↔rfit x:=by simp [rfit]
theorem rAdd_ok (x y:Int) (hm:rfit x) (hn:rfit y):PureF Tryz.prog 111 [nsv x,nsv y] (nsv (x+y)):=by
 refine pure_enter Tryz.func111 rfl (by simp) (fun C hC=>?_)
 have B2:2≤10000:=by omega
 have vx:=val_dig B2 x.natAbs
 have vy:=val_dig B2 y.natAbs
 have lx:=dig_lt B2 x.natAbs
 have ly:=dig_lt B2 y.natAbs
 have hm':=hm
 have hn':=hn
 simp only [rfit,wid] at hm' hn'
 by_cases hs:(x<0↔y<0)
 ·simp [nsv,hs]
  refine callP (rMore_ok _ _ lx ly (by omega) (by omega)) (by simp) ?_
  rintro _ ⟨l,rfl,h1,h2,h3⟩
  simp
  have e:(if decide (y<0)=true then -(val 10000 l:Int) else (val 10000 l:Int))=x+y:=by
   rw [h2,vx,vy];split<;>simp_all<;>omega
  have hmd:=rMade_ok (decide (y<0)) l (by omega) h1
  rw [e] at hmd
  refine callF hmd (by simp) ?_
  simp [nsv]
 ·have hc:=rSize_ok _ _ (show wid 10000 x.natAbs≤4398046511104 by simp only [wid];omega) (show wid 10000 y.natAbs≤4398046511104 by simp only [wid];omega)
  have fin:∀(σ:Bool) (k:Nat),wid 10000 k≤4398046511104→(if σ=true then -(k:Int) else (k:Int))=x+y→PureF Tryz.prog 145 [.val (.bool σ),.ro ((dig 10000 k).map i64)] (nsv (x+y)):=fun σ k hk e=>by
   have:=rMade_ok σ (dig 10000 k) hk (dig_lt B2 k)
   rwa [val_dig B2,e] at this
  rcases Nat.lt_or_ge x.natAbs y.natAbs with h | h
  ·have e0:cmp3 x.natAbs y.natAbs = -1:=by simp [cmp3,h]
   rw [e0] at hc
   have hl:=rLess_ok y.natAbs x.natAbs (by omega) (by simp only [wid];omega)
   simp [nsv,hs]
   refine callF hc (by simp) ?_
   simp
   refine callF hl (by simp) ?_
   simp
   refine callF (fin (decide (y<0)) (y.natAbs - x.natAbs) (Nat.le_trans (wid_mono B2 (Nat.sub_le _ _)) (by simp only [wid];omega)) (by split<;>simp_all<;>omega)) (by simp) ?_
   simp [nsv]
  ·have e0:cmp3 x.natAbs y.natAbs=if y.natAbs<x.natAbs then 1 else 0:=by simp [cmp3];omega
   rw [e0] at hc
   have hl:=rLess_ok x.natAbs y.natAbs (by omega) (by simp only [wid];omega)
   simp [nsv,hs]
   refine callF hc (by simp) ?_
   have e1:(0:Int)≤(if y.natAbs<x.natAbs then (1:Int) else 0):=by split<;>omega
   simp [e1]
   refine callF hl (by simp) ?_
   simp
   refine callF (fin (decide (x<0)) (x.natAbs - y.natAbs) (Nat.le_trans (wid_mono B2 (Nat.sub_le _ _)) (by simp only [wid];omega)) (by split<;>simp_all<;>omega)) (by simp) ?_
   simp [nsv]
theorem rSub_ok (x y:Int) (hm:rfit x) (hn:rfit y):PureF Tryz.prog 179 [nsv x,nsv y] (nsv (x - y)):=by
 refine pure_enter Tryz.func179 rfl (by simp) (fun C hC=>?_)
 simp
 refine callF (rNeg_ok y) (by simp) ?_
 simp
 refine callF (rAdd_ok x (-y) hm (rfit_neg.2 hn)) (by simp) ?_
 simp [Int.sub_eq_add_neg]
end Go.Proofs
namespace Go.Proofs
open Go.Sv Go Go.Pl
theorem val_set {B:Nat} {l:List Nat} {j:Nat} (u:Nat) (h:j<l.length):val B (l.set j u)+B^j*dg l j=val B l+B^j*u:=by
 induction l generalizing j with
 | nil=>simp at h
 | cons a l ih =>
  cases j with
  | zero=>simp [val,dg];omega
  | succ j =>
   have:=ih (j:=j) (by simpa using h)
   simp only [List.set_cons_succ,val]
   have e:dg (a::l) (j+1)=dg l j:=by simp [dg]
   rw [e,Nat.pow_succ]
   grind
theorem dg_ge {l l':List Nat} {n k:Nat} (h:l.drop n=l'.drop n) (hk:n≤k):dg l k=dg l' k:=by
 have e:=congrArg (fun x=>x[k - n]?) h
 simp only [List.getElem?_drop,show n+(k - n)=k by omega] at e
 unfold dg;rw [List.getD_eq_getElem?_getD,List.getD_eq_getElem?_getD,e]
theorem rMul_ok (x y:Int) (hm:rfit x) (hn:rfit y) :
  PureF Tryz.prog 99 [nsv x,nsv y] (nsv (x*y)):=by
 refine pure_enter Tryz.func99 rfl (by simp) (fun C hC=>?_)
 have B2:2≤10000:=by omega
 have vx:=val_dig B2 x.natAbs
 have vy:=val_dig B2 y.natAbs
 have lx:=dig_lt B2 x.natAbs
 have ly:=dig_lt B2 y.natAbs
 have hxm:(if (decide (x<0) != decide (y<0))=true then -((x.natAbs*y.natAbs:Nat):Int) else ((x.natAbs*y.natAbs:Nat):Int))=x*y:=sgn_mul x y
 simp only [rfit,wid] at hm hn
 simp [nsv]
 generalize dig 10000 x.natAbs=a at *
 generalize dig 10000 y.natAbs=b at *
 simp (disch:=omega) [w64]
 refine ⟨by omega,?_⟩
 refine CodeJ.loop (ι:=List Nat × Nat)
  (fun ⟨o,i⟩=>⟨79,[(2,.ptr 0 0 0),(3,.ptr 1 0 0),(4,.ptr 2 0 0),(5,.view 3 0 (a.length+b.length+1)),(6,.val (.int .i64 i))],
   [some ⟨2,[.agg [.val (.bool (decide (x<0))),.ro (a.map i64)]],false⟩,some ⟨2,[.agg [.val (.bool (decide (y<0))),.ro (b.map i64)]],false⟩,some ⟨2,[.agg [.val (.bool false),.val (.slice none 0 0)]],false⟩,some ⟨1,o.map i64,false⟩]⟩)
  (fun ⟨o,i⟩=>o.length=a.length+b.length+1∧i≤a.length∧(∀d∈o,d<10000)∧(∀j,i+b.length≤j→dg o j=0)∧val 10000 o=val 10000 (a.take i)*val 10000 b)
  (fun ⟨o,i⟩=>a.length - i) (List.replicate (a.length+b.length+1) 0,0) ?_ ?_ ?_
 ·refine ⟨by simp,by omega,by simp,?_,?_⟩
  ·intro j _;unfold dg;rw [List.getD_eq_getElem?_getD,List.getElem?_replicate];split<;>rfl
  ·simp [val_rep];simp [val]
 ·simp [leS,hC]
  omega
 ·rintro ⟨o,i⟩ ⟨h1,h2,h3,hz,h4⟩
  by_cases hlt:i<a.length
  ·simp (disch:=omega) [hlt,w64,hC]
   have bx:=dg_lt lx (by omega) i
   refine CodeJ.loop (ι:=List Nat × Nat × Nat)
    (fun ⟨o',j,c⟩=>⟨79,[(2,.ptr 0 0 0),(3,.ptr 1 0 0),(4,.ptr 2 0 0),(5,.view 3 0 (a.length+b.length+1)),(6,.val (.int .i64 i)),(7,.val (.int .i64 c)),(8,.val (.int .i64 j))],
     [some ⟨2,[.agg [.val (.bool (decide (x<0))),.ro (a.map i64)]],false⟩,some ⟨2,[.agg [.val (.bool (decide (y<0))),.ro (b.map i64)]],false⟩,some ⟨2,[.agg [.val (.bool false),.val (.slice none 0 0)]],false⟩,some ⟨1,o'.map i64,false⟩]⟩)
    (fun ⟨o',j,c⟩=>o'.length=a.length+b.length+1∧(j≤b.length∨j=b.length+1∧c=0)∧c<10000∧(∀d∈o',d<10000)∧o'.drop (i+j)=o.drop (i+j) ∧
     val 10000 o'+10000^(i+j)*c=val 10000 o+10000^i*(dg a i*val 10000 (b.take j)))
    (fun ⟨o',j,c⟩=>b.length+1 - j) (o,0,0) ?_ ?_ ?_
   ·exact ⟨h1,by omega,by omega,h3,rfl,by simp [val]⟩
   ·simp [leS,hC]
   ·rintro ⟨o',j,c⟩ ⟨g1,g2,g3,g4,g5,g6⟩
    have hd:dg o' (i+j)=dg o (i+j):=dg_drop g5
    have bo:=dg_lt g4 (by omega) (i+j)
    have by_:=dg_lt ly (by omega) j
    obtain ⟨p,hp⟩:∃p,p=dg a i*dg b j:=⟨_,rfl⟩
    have hp':p≤9999*9999:=by rw [hp];exact Nat.mul_le_mul (by omega) (by omega)
    have hpz:(dg a i:Int)*dg b j=p:=by rw [hp,Int.natCast_mul]
    obtain ⟨t,ht⟩:∃t,t=dg o' (i+j)+c+p:=⟨_,rfl⟩
    have F:=lt_set (i+j) g4 (Nat.mod_lt t (show 0<10000 by omega))
    have E:=Nat.mod_add_div t 10000
    have K:val 10000 (o'.set (i+j) (t % 10000))+10000^(i+(j+1))*(t / 10000)=val 10000 o+10000^i*(dg a i*val 10000 (b.take (j+1))):=by
     have:=val_set (B:=10000) (t % 10000) (show i+j<o'.length by omega)
     rw [val_take']
     rw [←Nat.add_assoc,Nat.pow_succ]
     have e:(10000:Nat)^(i+j)=10000^i*10000^j:=Nat.pow_add ..
     rw [e] at this g6 ⊢
     grind
    have D:(o'.set (i+j) (t % 10000)).drop (i+(j+1))=o.drop (i+(j+1)):=by
     rw [←Nat.add_assoc,drop_set_succ];exact drop_drop_eq g5
    by_cases hlj:j<b.length
    ·simp (disch:=omega) [hlj,w64,hC,lget_i64]
     refine ⟨by omega,by omega,?_⟩
     refine CodeJ.draw (.qs [0,1,2,3,4,5,6,7,8,9,10,11,12,13]<|.nil) (by kernel_rfl) (by kernel_rfl) (by simp) ?_
     simp (disch:=omega) [hlj,w64,hC,lget_i64,hpz,tmodN,tdivN, -List.map_set]
     repeat refine And.intro (by omega) ?_
     refine ⟨o'.set (i+j) (t % 10000),j+1,t / 10000,⟨by simpa using g1,by omega,by omega,F,D,K⟩,by omega,?_⟩
     subst ht
     simp [leS,hC,lset_eq]
    ·have gb:=dg_out (l:=b) (i:=j) (by omega)
     have hp0:p=0:=by rw [hp,gb];simp
     rw [hp0] at ht
     by_cases hc:0<c
     ·have hjb:j=b.length:=by omega
      have hz':dg o' (i+j)=0:=by rw [hd];exact hz _ (by omega)
      rw [hz'] at ht
      have ht':t % 10000=c:=by omega
      have ht'':t / 10000=0:=by omega
      simp (disch:=omega) [hlj,hc,w64,hC,lget_i64,hz',tmodN,tdivN, -List.map_set]
      repeat refine And.intro (by omega) ?_
      refine ⟨o'.set (i+j) (t % 10000),j+1,t / 10000,⟨by simpa using g1,by omega,by omega,F,D,K⟩,by omega,?_⟩
      subst ht
      simp [leS,hC,lset_eq]
     ·have hc':c=0:=by omega
      subst hc'
      simp (disch:=omega) [hlj,w64,hC]
      refine ⟨o',i+1,⟨g1,by omega,g4,fun k hk=>?_,?_⟩,by omega,by simp [leS,hC]⟩
      ·rw [dg_ge g5 (by omega)];exact hz _ (by omega)
      ·have tb:b.take j=b:=List.take_of_length_le (by omega)
       rw [tb,h4] at g6
       rw [val_take']
       grind
  ·obtain rfl:i=a.length:=by omega
   simp (disch:=omega) [w64,hC]
   have e1:a.take a.length=a:=List.take_length
   rw [e1,vx,vy] at h4
   have hmd:=rMade_ok (decide (x<0) != decide (y<0)) o (by omega) h3
   rw [h4,hxm] at hmd
   refine callF hmd (by simp [List.take_of_length_le,h1,bne]) ?_
   simp [nsv]
end Go.Proofs
namespace Go.Proofs
open Go.Sv Go Go.Pl
theorem nilRo {P:Program} {C:Ctx} {c:Code} {st:St} {Q:Post} (t:Nat) (h:Sv.get st.fr t=some (.val (.slice none 0 0))) (h':CodeJ P C c ⟨st.n,(t,.ro [])::st.fr,st.M⟩ Q):CodeJ P C c st Q:=by
 rintro a w ⟨β,H,hF,hW⟩
 refine h' a w ⟨β,H,⟨hF.1,hF.2.1,fun t' x hg=>?_⟩,hW⟩
 simp only [Sv.get] at hg
 split at hg
 ·rename_i e
  subst e
  simp only [Option.some.injEq] at hg
  subst hg
  obtain ⟨v,h1,h2⟩:=hF.2.2 t _ h
  simp only [Den] at h2
  exact ⟨v,h1,by simp only [Den];exact .inl ⟨trivial,_,_,h2.1⟩⟩
 ·exact hF.2.2 t' x hg
theorem tdivG {x y:Int} (h:0≤x):x.tdiv y=x / y:=Int.tdiv_eq_ediv_of_nonneg h
theorem long_step {n x V:Nat} (hn:n≠0):(x+10000*V) / n=(x+10000*(V % n)) / n+10000*(V / n)∧(x+10000*V) % n=(x+10000*(V % n)) % n:=by
 have h:=Nat.div_add_mod V n
 have e:x+10000*V=x+10000*(V % n)+n*(10000*(V / n)):=by
  conv=>lhs;rw [←h]
  grind
 rw [e,Nat.add_mul_div_left _ _ (by omega),Nat.add_mul_mod_self_left]
 exact ⟨rfl,rfl⟩
theorem rShare_ok (m n:Nat) (hn:n≠0) (hm:wid 10000 m≤1000000000000) (hn':wid 10000 n≤1000000000000) :
  PureF Tryz.prog 178 [.ro ((dig 10000 m).map i64),.ro ((dig 10000 n).map i64)] (.tup [.ro ((dig 10000 (m / n)).map i64),.ro ((dig 10000 (m % n)).map i64)]):=by
 refine pure_enter Tryz.func178 rfl (by simp) (fun C hC=>?_)
 have B2:2≤10000:=by omega
 have vm:=val_dig B2 m
 have lm:=dig_lt B2 m
 have vn:=val_dig B2 n
 have ln:=dig_lt B2 n
 simp only [wid] at hm
 generalize dig 10000 m=a at *
 subst vm
 simp (disch:=omega) [w64]
 refine ⟨by omega,?_⟩
 refine nilRo 7 rfl ?_
 refine CodeJ.loop (ι:=Nat × List Nat)
  (fun ⟨i,o⟩=>⟨66,[(0,.ro (a.map i64)),(1,.ro ((dig 10000 n).map i64)),(6,.view 0 0 a.length),(7,.ro ((dig 10000 (val 10000 (a.drop i) % n)).map i64)),(8,.val (.int .i64 ((i:Int) - 1)))],[some ⟨1,o.map i64,false⟩]⟩)
  (fun ⟨i,o⟩=>i≤a.length∧o.length=a.length∧(∀d∈o,d<10000)∧val 10000 (o.drop i)=val 10000 (a.drop i) / n)
  (fun ⟨i,o⟩=>i) (a.length,List.replicate a.length 0) ?_ ?_ ?_
 ·refine ⟨by omega,by simp,by simp,?_⟩
  simp [val]
 ·simp [leS,hC,val,dig_zero]
 ·rintro ⟨i,o⟩ ⟨h1,h2,h3,h4⟩
  cases i with
  | zero =>
   simp (disch:=omega) [w64,hC]
   refine callF (rTrim_ok o (by omega)) (by simp [List.take_of_length_le,h2]) ?_
   have e:trimL o=dig 10000 (val 10000 a / n):=by rw [←dig_val (by omega) o h3];simp at h4;rw [h4]
   simp [e]
  | succ i =>
   obtain ⟨V,hV⟩:∃V,V=val 10000 (a.drop (i+1)):=⟨_,rfl⟩
   have bx:=dg_lt lm (by omega) i
   have hVi:val 10000 (a.drop i)=dg a i+10000*V:=by rw [val_drop,hV]
   obtain ⟨r,hr⟩:∃r,r=dg a i+10000*(V % n):=⟨_,rfl⟩
   obtain ⟨s1,s2⟩:=long_step (x:=dg a i) (V:=V) hn
   rw [←hr,←hVi] at s1 s2
   simp only [←hV] at h4 ⊢
   have hvn:V % n<n:=Nat.mod_lt _ (by omega)
   have hrn:r<10000*n:=by omega
   have wr:wid 10000 r≤1000000000002:=by
    have:=wid_mul (B:=10000) (by omega) 10000 n
    have e2:wid 10000 10000≤2:=wid_le (by omega) (by omega)
    have:=wid_mono (B:=10000) (by omega) (show r≤10000*n by omega)
    omega
   have lr:(dig 10000 (V % n)).length≤1000000000000:=Nat.le_trans (wid_mono (B:=10000) (by omega) (show V % n≤n by omega)) hn'
   have er:trimL (dg a i::dig 10000 (V % n))=dig 10000 r:=by
    rw [←dig_val (by omega) _ (by
     intro d hd
     rcases List.mem_cons.1 hd with rfl | hd
     ·exact bx
     ·exact dig_lt B2 _ d hd)]
    rw [val,val_dig B2,hr]
   have ht:=rTrim_ok (dg a i::dig 10000 (V % n)) (by simp;omega)
   rw [er] at ht
   simp (disch:=omega) [w64,hC,lget_i64]
   refine ⟨by omega,by omega,?_⟩
   refine callF ht (by simp [List.take_of_length_le,Nat.add_comm]) ?_
   simp
   refine CodeJ.loop (ι:=Nat × Nat)
    (fun ⟨l,h⟩=>⟨66,[(0,.ro (a.map i64)),(1,.ro ((dig 10000 n).map i64)),(6,.view 0 0 a.length),(7,.ro ((dig 10000 r).map i64)),(8,.val (.int .i64 i)),(9,.val (.int .i64 l)),(10,.val (.int .i64 h))],[some ⟨1,o.map i64,false⟩]⟩)
    (fun ⟨l,h⟩=>l≤r / n∧r / n≤h∧h≤9999) (fun ⟨l,h⟩=>h - l) (0,9999) ?_ ?_ ?_
   ·refine ⟨Nat.zero_le _,?_,by omega⟩
    have:=(Nat.div_lt_iff_lt_mul (Nat.pos_of_ne_zero hn)).2 hrn
    omega
   ·simp [leS,hC]
   ·rintro ⟨l,h⟩ ⟨g1,g2,g3⟩
    have tim:∀k:Nat,k<10000→PureF Tryz.prog 192 [.ro ((dig 10000 n).map i64),.val (.int .i64 k)] (.ro ((dig 10000 (n*k)).map i64)):=fun k hk=>by
     have:=rTimes_ok (dig 10000 n) k ln hk (Nat.le_trans hn' (by omega))
     rwa [vn] at this
    have wk:∀k:Nat,k<10000→wid 10000 (n*k)≤1000000000001:=fun k hk=>by
     have:=wid_mul (B:=10000) (by omega) n k
     have e2:wid 10000 k≤1:=wid_le (by omega) (by omega)
     omega
    by_cases hlh:l<h
    ·obtain ⟨k,hk⟩:∃k,k=(l+h+1) / 2:=⟨_,rfl⟩
     have hk':((l:Int)+h+1).tdiv 2=k:=by rw [tdivG (by omega)];omega
     simp (disch:=omega) [w64,hC,hlh,hk']
     refine callF (tim k (by omega)) (by simp) ?_
     simp
     refine callF (rSize_ok (n*k) r (Nat.le_trans (wk k (by omega)) (by omega)) (Nat.le_trans wr (by omega))) (by simp) ?_
     have kk:n*k≤r↔k≤r / n:=by rw [Nat.le_div_iff_mul_le (Nat.pos_of_ne_zero hn),Nat.mul_comm]
     by_cases hc:n*k≤r
     ·have e0:cmp3 (n*k) r≤0:=by unfold cmp3;split<;>(try split)<;>omega
      simp [e0]
      exact ⟨k,h,⟨kk.1 hc,g2,g3⟩,by omega,by simp [leS,hC]⟩
     ·have e0:¬cmp3 (n*k) r≤0:=by unfold cmp3;rw [if_neg (by omega),if_pos (by omega)];omega
      have e1:((k:Int) - 1)=((k - 1:Nat):Int):=by omega
      have nk:¬k≤r / n:=fun h=>hc (kk.2 h)
      simp (disch:=omega) [e0,w64]
      exact ⟨l,k - 1,⟨g1,by omega,by omega⟩,by omega,by simp [leS,hC,e1]⟩
    ·have hl:l=r / n:=by omega
     simp (disch:=omega) [w64,hC,hlh,lget_i64,lset_i64, -List.map_set]
     refine ⟨by omega,by omega,?_⟩
     have l9:l<10000:=by omega
     refine callF (tim l l9) (by simp) ?_
     simp
     have hll:n*l≤r:=by rw [hl];exact Nat.mul_div_le r n
     refine callF (rLess_ok r (n*l) hll (Nat.le_trans wr (by omega))) (by simp) ?_
     have e5:r - n*l=r % n:=by have:=Nat.div_add_mod r n;rw [hl];omega
     simp only [e5]
     simp (disch:=omega) [w64,hC]
     refine ⟨i,o.set i l,⟨by omega,by simpa using h2,lt_set i h3 l9,?_⟩,by omega,?_⟩
     ·rw [val_drop,drop_set_succ,h4,s1]
      have:dg (o.set i l) i=l:=by simp [dg,List.getD_eq_getElem?_getD,List.getElem?_set_self (show i<o.length by omega)]
      rw [this,hl]
     ·simp [leS,hC,s2]
end Go.Proofs
namespace Go.Proofs
open Go.Sv Go Go.Pl
theorem rfit_le {x y:Int} (h:y.natAbs≤x.natAbs) (hx:rfit x):rfit y:=Nat.le_trans (wid_mono (by omega) h) hx
theorem rfit_small {x:Int} (h:x.natAbs<10000^7):rfit x:=Nat.le_trans (wid_le (by omega) h) (by omega)
theorem rMade_dig (b:Bool) (n:Nat) (h:wid 10000 n≤1000000000000):PureF Tryz.prog 145 [.val (.bool b),.ro ((dig 10000 n).map i64)] (nsv (if b=true then -(n:Int) else (n:Int))):=by
 have:=rMade_ok b (dig 10000 n) (by simp only [wid] at h;omega) (dig_lt (by omega) n)
 rwa [val_dig (by omega)] at this
theorem rDivMod_ok (x y:Int) (hx:rfit x) (hy:rfit y) :
  PureF Tryz.prog 144 [nsv x,nsv y] (.tup [nsv (x / y),nsv (if y=0 then 0 else x % y),.val (.bool (decide (y≠0)))]):=by
 refine pure_enter Tryz.func144 rfl (by simp) (fun C hC=>?_)
 by_cases h0:y=0
 ·subst h0
  simp [nsv,dig_zero]
 ·have hy0:y.natAbs≠0:=by omega
  have hne:¬(dig 10000 y.natAbs)=[]:=fun h=>hy0 ((dig_eq_nil (by omega)).1 h)
  have hq1:x.natAbs / y.natAbs≤x.natAbs:=Nat.div_le_self _ _
  have hr1:x.natAbs % y.natAbs≤x.natAbs:=Nat.mod_le _ _
  have hr2:=Nat.mod_lt x.natAbs (show 0<y.natAbs by omega)
  have hdm:=Nat.div_add_mod x.natAbs y.natAbs
  have hl:=rShare_ok x.natAbs y.natAbs hy0 hx hy
  generalize x.natAbs / y.natAbs=Q at *
  generalize x.natAbs % y.natAbs=R at *
  have hm1:=rMade_dig (decide (x<0) != decide (y<0)) Q (Nat.le_trans (wid_mono (by omega) hq1) hx)
  have hm2:=rMade_dig (decide (x<0)) R (Nat.le_trans (wid_mono (by omega) hr1) hx)
  obtain ⟨q,hq⟩:∃q,q=(if (decide (x<0) != decide (y<0))=true then -(Q:Int) else (Q:Int)):=⟨_,rfl⟩
  obtain ⟨r,hr⟩:∃r,r=(if decide (x<0)=true then -(R:Int) else (R:Int)):=⟨_,rfl⟩
  rw [←hq] at hm1
  rw [←hr] at hm2
  have hxq:x=r+y*q:=by
   have hdm':(y.natAbs:Int)*Q+R=x.natAbs:=by rw [←Int.natCast_mul,←Int.natCast_add,hdm]
   by_cases h1:x<0<;>by_cases h2:y<0
   ·have e1:(x.natAbs:Int) = -x:=by omega
    have e2:(y.natAbs:Int) = -y:=by omega
    rw [e1,e2] at hdm';simp [h1,h2] at hq hr;subst hq hr;grind
   ·have e1:(x.natAbs:Int) = -x:=by omega
    have e2:(y.natAbs:Int)=y:=by omega
    rw [e1,e2] at hdm';simp [h1,h2] at hq hr;subst hq hr;grind
   ·have e1:(x.natAbs:Int)=x:=by omega
    have e2:(y.natAbs:Int) = -y:=by omega
    rw [e1,e2] at hdm';simp [h1,h2] at hq hr;subst hq hr;grind
   ·have e1:(x.natAbs:Int)=x:=by omega
    have e2:(y.natAbs:Int)=y:=by omega
    rw [e1,e2] at hdm';simp [h1,h2] at hq hr;subst hq hr;grind
  have hra:r.natAbs=R:=by rw [hr];split<;>omega
  have hqa:q.natAbs=Q:=by rw [hq];split<;>omega
  have fq:rfit q:=rfit_le (x:=x) (by omega) hx
  have fr:rfit r:=rfit_le (x:=x) (by omega) hx
  simp [nsv,hne,h0]
  refine callF hl (by simp) ?_
  simp
  refine callF hm1 (by simp [bne]) ?_
  simp
  refine callF hm2 (by simp) ?_
  by_cases hr0:r<0
  ·have ha:=rAdd_ok r (y.natAbs:Int) fr (by simpa [rfit] using hy)
   have hyn:¬(y.natAbs:Int)<0:=by omega
   simp [nsv,hr0,bne]
   refine callF ha (by simp [nsv,hr0]) ?_
   simp [nsv]
   by_cases hy1:y<0
   ·obtain ⟨u1,u2⟩:=eucl (x:=x) (y:=y) (q:=q+1) (r:=r+y.natAbs) h0 (by rw [hxq];grind) (by omega) (by omega)
    have hy2:¬(0:Int)≤y:=by omega
    simp [hy1,hy2]
    refine CodeJ.draw (.qs [0]<|.l 1 []<|.l 2 []<|.l 3 [4]<|.nil) (by kernel_rfl) (by kernel_rfl) (by simp) ?_
    simp
    refine callF (rSmall_ok 1 (by omega) (by omega)) (by simp) ?_
    simp [nsv]
    refine callF (rAdd_ok q 1 fq (rfit_small (by simp))) (by simp [nsv]) ?_
    simp [nsv]
    refine CodeJ.draw (.qs [0]<|.q 1 [2]<|.l 2 [2]<|.l 3 [3]<|.qs [4]<|.nil) (by kernel_rfl) (by kernel_rfl) (by simp) ?_
    simp [nsv,u1,u2,h0];try omega
   ·obtain ⟨u1,u2⟩:=eucl (x:=x) (y:=y) (q:=q - 1) (r:=r+y.natAbs) h0 (by rw [hxq];grind) (by omega) (by omega)
    have hy2:0≤y:=by omega
    simp [hy1,hy2]
    refine CodeJ.draw (.qs [0]<|.l 1 []<|.l 2 []<|.l 3 [4]<|.nil) (by kernel_rfl) (by kernel_rfl) (by simp) ?_
    simp
    refine callF (rSmall_ok 1 (by omega) (by omega)) (by simp) ?_
    simp [nsv]
    refine callF (rSub_ok q 1 fq (rfit_small (by simp))) (by simp [nsv]) ?_
    simp [nsv]
    refine CodeJ.draw (.qs [0]<|.q 1 [2]<|.l 2 [2]<|.l 3 [3]<|.qs [4]<|.nil) (by kernel_rfl) (by kernel_rfl) (by simp) ?_
    simp [nsv,u1,u2,h0];try omega
  ·obtain ⟨u1,u2⟩:=eucl (x:=x) (y:=y) (q:=q) (r:=r) h0 hxq (by omega) (by omega)
   simp [nsv,hr0,bne]
   refine CodeJ.draw (.qs [0]<|.q 1 [2]<|.l 2 [2]<|.l 3 [3]<|.qs [4]<|.nil) (by kernel_rfl) (by kernel_rfl) (by simp) ?_
   simp [nsv,u1,u2,h0];try omega
theorem rGcd_ok (x y:Int) (hx:rfit x) (hy:rfit y):PureF Tryz.prog 143 [nsv x,nsv y] (nsv (Int.gcd x y:Nat)):=by
 refine pure_enter Tryz.func143 rfl (by simp) (fun C hC=>?_)
 have e:Int.gcd x y=Nat.gcd x.natAbs y.natAbs:=rfl
 have hnn:¬((Int.gcd x y:Nat):Int)<0:=by omega
 simp [nsv]
 refine CodeJ.loop (ι:=Nat × Nat) (fun ⟨m,n⟩=>⟨26,[(4,.ptr 2 0 0),(5,.ro ((dig 10000 m).map i64)),(6,.ro ((dig 10000 n).map i64))],
   [none,none,some ⟨2,[.agg [.val (.bool false),.val (.slice none 0 0)]],false⟩]⟩)
  (fun ⟨m,n⟩=>wid 10000 m≤1000000000000∧wid 10000 n≤1000000000000∧Nat.gcd m n=Int.gcd x y) (fun ⟨m,n⟩=>n) (x.natAbs,y.natAbs) ?_ ?_ ?_
 ·exact ⟨hx,hy,e.symm⟩
 ·simp [leS,hC]
 ·rintro ⟨m,n⟩ ⟨h1,h2,h3⟩
  by_cases hn:n=0
  ·subst hn
   simp at h3
   simp [dig_zero,h3]
  ·have hpos:0<(dig 10000 n).length:=List.length_pos_iff.2 fun h=>hn ((dig_eq_nil (by omega)).1 h)
   simp [hpos]
   refine callF (rShare_ok m n hn h1 h2) (by simp) ?_
   simp
   have hlt:=Nat.mod_lt m (show 0<n by omega)
   refine ⟨n,m % n,⟨h2,Nat.le_trans (wid_mono (by omega) (by omega)) h2,by rw [Nat.gcd_comm n,←Nat.gcd_rec,Nat.gcd_comm,h3]⟩,hlt,by simp [leS,hC]⟩
end Go.Proofs
namespace Go.Proofs
open Go.Sv Go Go.Pl
def sb (L:List Nat):ByteArray:=strOf (L.map u8)
theorem sb_data (L:List Nat):(sb L).data.toList=L.map UInt8.ofNat:=by
 unfold sb strOf
 rw [strOfNums_data]
 simp [svInt]
theorem sb_app (L R:List Nat):sb L++sb R=sb (L++R):=by
 apply ByteArray.ext
 apply Array.toList_inj.1
 simp [sb_data]
@[simp] theorem sb_size (L:List Nat):(sb L).size=L.length:=by
 have:=congrArg List.length (sb_data L)
 simpa using this
theorem sb_get {L:List Nat} {i:Nat} (h:i<L.length) (hL:∀d∈L,d<256):(sget (sb L) i).toNat=dg L i:=by
 unfold sget
 rw [Array.getD_eq_getD_getElem?,←Array.getElem?_toList,sb_data]
 simp [h,dg,List.getD_eq_getElem?_getD]
 exact hL _ (List.getElem_mem h)
theorem sb_tail (x:Nat) (L:List Nat):(sb (x::L)).extract 1 (L.length+1)=sb L:=by
 apply ByteArray.ext
 apply Array.toList_inj.1
 simp [sb_data,ByteArray.data_extract]
 exact List.take_of_length_le (by simp)
def f4 (x:Nat):List Nat:=[x % 10,x / 10 % 10,x / 100 % 10,x / 1000]
def L4 (l:List Nat):List Nat:=l.flatMap f4
theorem L4_val (l:List Nat):val 10 (L4 l)=val 10000 l:=by
 induction l with
 | nil=>rfl
 | cons x l ih =>
  have e:L4 (x::l)=f4 x++L4 l:=rfl
  rw [e]
  simp only [f4,List.cons_append,List.nil_append,val,ih]
  omega
theorem L4_lt {l:List Nat} (h:∀d∈l,d<10000):∀d∈L4 l,d<10:=by
 intro d hd
 obtain ⟨x,hx,hd⟩:=List.mem_flatMap.1 hd
 have:=h x hx
 simp [f4] at hd
 omega
theorem L4_len (l:List Nat):(L4 l).length=4*l.length:=by
 induction l with
 | nil=>rfl
 | cons x l ih =>
  have e:L4 (x::l)=f4 x++L4 l:=rfl
  rw [e];simp [ih,f4];omega
theorem tmodG {x y:Int} (h:0≤x):x.tmod y=x % y:=Int.tmod_eq_emod_of_nonneg h
theorem rFour_ok (x:Nat) (hx:x<10000):PureF Tryz.prog 108 [.val (.int .i64 x)] (.val (.string (sb ((f4 x).reverse.map (48+·))))):=by
 refine pure_enter Tryz.func108 rfl (by simp) (fun C hC=>?_)
 obtain ⟨a,ha⟩:∃a,a=48+x / 1000:=⟨_,rfl⟩
 obtain ⟨b,hb⟩:∃b,b=48+x / 100 % 10:=⟨_,rfl⟩
 obtain ⟨c,hc⟩:∃c,c=48+x / 10 % 10:=⟨_,rfl⟩
 obtain ⟨d,hd⟩:∃d,d=48+x % 10:=⟨_,rfl⟩
 have e1:(48+(x:Int) / 1000) % 256=a:=by omega
 have e2:(48+(x:Int) / 100 % 10) % 256=b:=by omega
 have e3:(48+(x:Int) / 10 % 10) % 256=c:=by omega
 have e4:(48+(x:Int) % 10) % 256=d:=by omega
 have e5:(f4 x).reverse.map (48+·)=[a,b,c,d]:=by simp [f4,ha,hb,hc,hd]
 have e6:sb [a,b,c,d]=strOf [.val (.int .u8 a),.val (.int .u8 b),.val (.int .u8 c),.val (.int .u8 d)]:=rfl
 rw [e5,e6]
 simp (disch:=omega) [w64,tdivG,tmodG,u8w,e1,e2,e3,e4]
 simp [byteSV]
theorem L4_top {l:List Nat} {i:Nat} (h:i<l.length):L4 (l.drop i)=f4 (dg l i)++L4 (l.drop (i+1)):=by
 rw [List.drop_eq_getElem_cons h]
 have:dg l i=l[i]:=by simp [dg,List.getD_eq_getElem?_getD,h]
 rw [this];rfl
theorem strip_val {l:List Nat} {n:Nat} (h:trimL l=dig 10 n) (hn:n≠0):l≠[]:=by
 rintro rfl
 have:=(dig_eq_nil (by omega)).1 h.symm
 omega
theorem rText_ok (x:Int) (hx:rfit x):PureF Tryz.prog 58 [nsv x] (.val (.string (txt x))):=by
 refine pure_enter Tryz.func58 rfl (by simp) (fun C hC=>?_)
 by_cases h0:x=0
 ·subst h0
  simp [nsv,dig_zero]
  rfl
 ·have hn:x.natAbs≠0:=by omega
  have hne:¬(dig 10000 x.natAbs)=[]:=fun h=>hn ((dig_eq_nil (by omega)).1 h)
  have ha:=dig_lt (B:=10000) (by omega) x.natAbs
  have hv:=val_dig (B:=10000) (by omega) x.natAbs
  have hl:(dig 10000 x.natAbs).length≤1000000000000:=hx
  simp [nsv]
  generalize dig 10000 x.natAbs=a at *
  have hal:¬a.length=0:=fun h=>hne (List.length_eq_zero_iff.1 h)
  simp (disch:=omega) [hne,hal,w64]
  refine CodeJ.loop (ι:=Nat) (fun i=>⟨35,[(1,.ptr 0 0 0),(3,.val (.string (sb ((L4 (a.drop i)).reverse.map (48+·))))),(4,.val (.int .i64 ((i:Int) - 1)))],
    [some ⟨2,[.agg [.val (.bool (decide (x<0))),.ro (a.map i64)]],false⟩]⟩)
   (fun i=>i≤a.length) (fun i=>i) a.length ?_ ?_ ?_
  ·exact Nat.le_refl _
  ·simp [leS,hC]
   rfl
  ·intro i hi
   cases i with
   | zero =>
    have fin:txt x=sb ((if x<0 then [45] else [])++(dig 10 x.natAbs).reverse.map (48+·)):=by unfold txt txtL;rw [if_neg h0];rfl
    have tr:trimL (L4 a)=dig 10 x.natAbs:=by rw [←dig_val (by omega) _ (L4_lt ha),L4_val,hv]
    simp
    refine CodeJ.loop (ι:=List Nat) (fun l=>⟨35,[(1,.ptr 0 0 0),(3,.val (.string (sb (l.map (48+·)).reverse)))],
      [some ⟨2,[.agg [.val (.bool (decide (x<0))),.ro (a.map i64)]],false⟩]⟩)
     (fun l=>l.length≤4*a.length∧(∀d∈l,d<10)∧trimL l=dig 10 x.natAbs) (fun l=>l.length) (L4 a) ?_ ?_ ?_
    ·exact ⟨by rw [L4_len];omega,L4_lt ha,tr⟩
    ·simp [leS,hC]
    ·rintro l ⟨g1,g2,g3⟩
     rcases List.eq_nil_or_concat l with rfl | ⟨zs,z,rfl⟩
     ·exact absurd rfl (strip_val g3 hn)
     ·rw [List.concat_eq_append] at g1 g2 g3 ⊢
      have hz:z<10:=g2 z (by simp)
      have g5:∀d∈zs,d<10:=fun d hd=>g2 d (by simp [hd])
      have hz2:∀d∈(48+z)::(zs.map (48+·)).reverse,d<256:=by
       intro d hd
       rcases List.mem_cons.1 hd with rfl | hd
       ·omega
       ·obtain ⟨e,he,rfl⟩:=List.mem_map.1 (List.mem_reverse.1 hd)
        have:=g5 e he
        omega
      have g6:(sget (sb ((48+z)::(zs.map (48+·)).reverse)) 0).toNat=48+z:=by rw [sb_get (by simp) hz2];rfl
      simp at g1
      by_cases z0:z=0
      ·subst z0
       rw [trimL_zero] at g3
       have g7:=sb_tail 48 (zs.map (48+·)).reverse
       simp at g6 g7
       simp [g6,g7]
       exact ⟨by omega,zs,⟨by omega,g5,g3⟩,by omega,by simp [leS,hC]⟩
      ·have g8:¬((48:Int)+z=48):=by omega
       rw [trimL_snoc _ z0] at g3
       rw [←g3] at fin
       simp at fin
       simp [g6,z0,g8]
       have g9:({ data:=#[45] }:ByteArray).size=1:=rfl
       have g10:({ data:=#[45] }:ByteArray)=sb [45]:=rfl
       refine ⟨fun hneg=>⟨by omega,?_⟩,fun hpos=>?_⟩
       ·rw [fin,if_pos hneg,g10,sb_app]
       ·rw [fin,if_neg (by omega),List.nil_append]
   | succ i =>
    have bx:=dg_lt ha (by omega) i
    simp (disch:=omega) [w64,lget_i64]
    refine ⟨by omega,?_⟩
    refine callF (rFour_ok (dg a i) bx) (by simp) ?_
    have e8:=L4_top (l:=a) (i:=i) (by omega)
    simp (disch:=omega) [w64,sb_app,L4_len]
    exact ⟨by simp [f4];omega,i,by omega,by omega,by simp [leS,hC,e8]⟩
end Go.Proofs
namespace Go.Proofs
open Go.Sv Go Go.Pl
theorem rDigit_ok (c:Nat) (hc:c<256):PureF Tryz.prog 181 [.val (.int .u8 c)] (.val (.bool (decide (isDig c)))):=by
 refine pure_enter Tryz.func181 rfl (by simp) (fun C hC=>?_)
 rw [show decide (isDig c)=(decide ((48:Int)≤c)&&decide ((c:Int)≤57)) by rw [←Bool.decide_and];congr 1;simp [isDig];omega]
 by_cases h1:(48:Int)≤c<;>by_cases h2:(c:Int)≤57<;>simp [h1,h2]
def fsv (c:Nat) (a:Int):SV:=.agg [.val (.int .i64 c),.val (.int .i64 a)]
theorem nv_split (s:ByteArray) (a b:Nat):∀k,nv s a (b+k)=nv s a b*10^k+nv s (a+b) k
 | 0=>by simp [nv]
 | k+1=>by
  have ih:=nv_split s a b k
  rw [←Nat.add_assoc]
  simp only [nv,ih,Nat.pow_succ,Nat.add_assoc]
  grind
theorem rFigure_ok (t:ByteArray) (ht:t.size≤1000000000) (hd:∀i,i<t.size→digAt t i):PureF Tryz.prog 152 [.val (.string t)] (nsv (nv t 0 t.size:Nat)):=by
 refine pure_enter Tryz.func152 rfl (by simp) (fun C hC=>?_)
 simp
 refine CodeJ.nil 3 1 rfl ?_
 refine CodeJ.loop (ι:=Int × List Nat) (fun ⟨to,d⟩=>⟨36,[(0,.val (.string t)),(2,.ptr 0 0 0),(3,.view 1 0 d.length),(4,.val (.int .i64 to))],
   [some ⟨2,[.agg [.val (.bool false),.val (.slice none 0 0)]],false⟩,some ⟨1,d.map i64,false⟩]⟩)
  (fun ⟨to,d⟩ => -4<to∧to+4*d.length=t.size∧(∀x∈d,x<10000)∧val 10000 d+10000^d.length*nv t 0 to.toNat=nv t 0 t.size)
  (fun ⟨to,d⟩=>(to+4).toNat) ((t.size:Int),[]) ?_ ?_ ?_
 ·exact ⟨by omega,by simp,by simp,by simp [val]⟩
 ·simp [leS,hC]
 ·rintro ⟨to,d⟩ ⟨h1,h2,h3,h4⟩
  by_cases h0:0<to
  ·have tn:(to.toNat:Int)=to:=by omega
   obtain ⟨a,hA⟩:∃a,a=(to - 4).toNat:=⟨_,rfl⟩
   have hdl:d.length≤1000000000:=by omega
   simp (disch:=omega) [h0,w64]
   refine CodeJ.loop (ι:=Int × Nat) (fun ⟨i,x⟩=>⟨36,[(0,.val (.string t)),(2,.ptr 0 0 0),(3,.view 1 0 d.length),(4,.val (.int .i64 to)),(5,.val (.int .i64 x)),(6,.val (.int .i64 i))],
     [some ⟨2,[.agg [.val (.bool false),.val (.slice none 0 0)]],false⟩,some ⟨1,d.map i64,false⟩]⟩)
    (fun ⟨i,x⟩=>to - 4≤i∧i≤to∧x=nv t a (i.toNat - a)) (fun ⟨i,x⟩=>(to - i).toNat) (to - 4,0) ?_ ?_ ?_
   ·refine ⟨by omega,by omega,?_⟩
    rw [←hA,Nat.sub_self];rfl
   ·simp [leS,hC]
   ·rintro ⟨i,x⟩ ⟨g1,g2,g3⟩
    have xl:∀k,a+k≤t.size→nv t a k<10^k:=fun k hk=>nv_lt fun j j1 j2=>hd j (by omega)
    by_cases hlt:i<to
    ·by_cases hi0:0≤i
     ·obtain ⟨k,rfl⟩:∃k:Nat,i=k:=⟨i.toNat,by omega⟩
      have hk:k<t.size:=by omega
      have hdk:=(hd k hk).2
      unfold isDig byt at hdk
      have hx:x<1000:=by
       have:=xl (k - a) (by omega)
       have:(10:Nat)^(k - a)≤10^3:=Nat.pow_le_pow_right (by omega) (by omega)
       rw [g3];simp only [Int.toNat_natCast];omega
      obtain ⟨c,hc⟩:∃c,c=(sget t k).toNat - 48:=⟨_,rfl⟩
      have hc':IntKind.u8.wrap (((sget t k).toNat:Int) - 48)=c:=by rw [u8w];omega
      have st:10*x+c=nv t a (k+1 - a):=by
       have e:k+1 - a=(k - a)+1:=by omega
       have e2:a+(k - a)=k:=by omega
       rw [e]
       simp only [nv,e2]
       simp only [Int.toNat_natCast] at g3
       unfold byt
       rw [←g3,hc];omega
      simp (disch:=omega) [hlt,hi0,w64,hc',hk]
      exact ⟨k+1,10*x+c,⟨by omega,by omega,by rw [st];congr 1⟩,by omega,by simp [leS,hC]⟩
     ·have hi1:¬(0:Int)≤i:=hi0
      have a0:a=0:=by omega
      simp (disch:=omega) [hlt,hi0,w64]
      exact ⟨i+1,x,⟨by omega,by omega,by rw [g3,a0];congr 1;omega⟩,by omega,by simp [leS,hC]⟩
    ·have hit:i=to:=by omega
     subst hit
     have sp:=nv_split t 0 a (i.toNat - a)
     rw [show a+(i.toNat - a)=i.toNat by omega,Nat.zero_add,←g3] at sp
     have hx:x<10000:=by
      have:=xl (i.toNat - a) (by omega)
      have:(10:Nat)^(i.toNat - a)≤10^4:=Nat.pow_le_pow_right (by omega) (by omega)
      omega
     have sp2:nv t 0 i.toNat=x+10000*nv t 0 a:=by
      by_cases h44:4≤i
      ·rw [sp,show i.toNat - a=4 by omega];omega
      ·have a0:a=0:=by omega
       rw [sp,a0];simp [nv]
     simp (disch:=omega) [w64,hC]
     refine ⟨by omega,i - 4,d++[x],⟨by omega,by simp;omega,lt_snoc h3 hx,?_⟩,by omega,by simp [leS,hC]⟩
     rw [←hA,val_app,List.length_append,List.length_singleton,Nat.pow_succ,←h4,sp2]
     simp only [val]
     grind
  ·have e0:to.toNat=0:=by omega
   rw [e0] at h4
   have h5:val 10000 d=nv t 0 t.size:=by simpa [nv] using h4
   have hm:=rMade_ok false d (by omega) h3
   rw [h5] at hm
   simp [h0]
   refine callF hm (by simp [List.take_of_length_le]) ?_
   simp
end Go.Proofs
namespace Go.Proofs
open Go.Sv Go Go.Pl
end Go.Proofs


/- A text of the prover's own. -/
import Derived.Test.YtnimjdcaajmfcaaGreatDoorUKi
import Derived.Test.YtnimjdcaajmfcaaGreatDoorUKd
import Derived.Test.YtnimjdcaajmfcaaGreatDoorUMt
set_option maxRecDepth 10000
namespace Go.Li
open Go Go.Sv Go.Pl Go.Proofs Go.Tb Go.Ut
theorem valid_cases (p:Prob):validC p=0∨validC p=2∨validC p=7∨validC p=4:=by
 unfold validC;split
 ·exact .inr (.inl rfl)
 ·split
  ·exact .inr (.inr (.inl rfl))
  ·split
   ·exact .inr (.inr (.inr rfl))
   ·exact .inl rfl
theorem valid_le (p:Prob) (h:validC p≠0):0<validC p∧validC p≤10:=by
 rcases valid_cases p with e | e | e | e<;>omega
theorem valid_yes {p:Prob} (h:validC p=0):p.rows.length≤120∧p.cols.length≤120∧∀i,i<p.rows.length→badT p.cols.length (-1) (gt p.rows i).terms=false:=by
 unfold validC at h
 split at h
 ·cases h
 ·split at h
  ·cases h
  ·split at h
   ·cases h
   ·rename_i h1 h2 h3
    refine ⟨by omega,by omega,fun i hi=>?_⟩
    cases hb:badT p.cols.length (-1) (gt p.rows i).terms with
    | false=>rfl
    | true=>exact absurd (badR_at hi hb) h3
theorem few_of {s:SpecT} (h:SmS s):Few (probOf s) where
 nc:=by simp [probOf];exact h.nc
 nr:=by simp [probOf];exact h.nr
 nt:=fun i hi=>by
  have hi':i<s.rows.length:=by simpa [probOf] using hi
  unfold probOf
  rw [gt_map _ hi']
  have h1:=(h.rows i hi').cols
  have h2:=zipR_len (gt s.rows i)
  simp only [rowOf,List.length_map]
  omega
theorem qw_bo (s:ByteArray):qw 2200 (boOf s).at':=by
 unfold boOf;split
 ·exact qw_zero _ (by omega)
 ·exact qw_qrd _
theorem probW_of (s:SpecT):ProbW (probOf s) where
 sh:=qw_qrd _
 co:=fun j hj=>by
  have hj':j<s.cols.length:=by simpa [probOf] using hj
  unfold probOf
  rw [gt_map _ hj']
  exact ⟨qw_qrd _,qw_bo _,qw_bo _⟩
 ro:=fun i hi=>by
  have hi':i<s.rows.length:=by simpa [probOf] using hi
  unfold probOf
  rw [gt_map _ hi']
  exact ⟨qw_bo _,qw_bo _⟩
 te:=fun i hi k hk=>by
  have hi':i<s.rows.length:=by simpa [probOf] using hi
  unfold probOf at hk ⊢
  rw [gt_map _ hi'] at hk ⊢
  simp only [rowOf,List.length_map] at hk ⊢
  rw [gt_map _ hk]
  exact qw_qrd _
end Go.Li
namespace Go.Proofs
open Go.Sv Go Go.Tb Go.Pl Go.Ut Go.Li
/-! the second file of laws -/
theorem all_no {α:Type} [Inhabited α] {l:List α} {f:α→Bool} {i:Nat} (h:i<l.length) (hf:f (gt l i)=false):l.all f=false:=by
 rw [List.all_eq_false];exact ⟨_,gt_mem h,by simp [hf]⟩
theorem all_step {α:Type} [Inhabited α] {l:List α} {f:α→Bool} {i:Nat} (h:i<l.length) (ha:(l.take i).all f=true) (hf:f (gt l i)=true):(l.take (i+1)).all f=true:=by rw [all_take _ h,ha,hf];rfl
def shortB (l:List ByteArray):Bool:=decide (l.length≤40)&&l.all fun s=>decide (s.size≤24)
theorem shorts2_ok (l:List ByteArray) (hl:l.length≤1048576) (hs:∀i,i<l.length→(gt l i).size≤1048576):PureF Tryz.prog 27 [.ro (l.map strv)] (.val (.bool (shortB l))):=by
 refine pure_enter Tryz.func27 rfl (by simp) (fun C hC=>?_)
 simp
 refine ⟨fun c=>by simp [shortB];omega,fun c=>?_⟩
 refine CodeJ.loopL (ι:=Nat) (fun i=>⟨19,[(0,.ro (l.map strv)),(3,iv i)],[]⟩)
  (fun i=>i≤l.length∧(l.take i).all (fun s=>decide (s.size≤24))=true) (fun i=>l.length - i) 0 (by simp) ?_ ?_
 ·simp [leS,hC]
 ·rintro i ⟨hi,ha⟩
  by_cases hlt:i<l.length
  ·have:=hs i hlt
   simp (disch:=omega) [hlt,lget_str,w64]
   repeat (refine And.intro (by omega) ?_)
   refine ⟨fun q=>?_,fun q=>⟨i+1,⟨by omega,?_⟩,by omega,Le.syn (by simp (disch:=omega) [leS,hC])⟩⟩
   ·unfold shortB;rw [all_no hlt (by simp;omega)];simp
   ·simpa using all_step hlt ha (by simp;omega)
  ·obtain rfl:i=l.length:=by omega
   rw [List.take_length] at ha
   unfold shortB
   rw [ha];simp;omega
theorem coded2_ok {c:Nat} (hc:0<c) (hc':c≤10) (n:Int):PureE Tryz.prog 36 [erV c,iv n] (fun x=>x=.val (.bool (decide ((c:Int)=n)))):=by
 refine pureE_enter Tryz.func36 rfl (by simp) (fun C hC hX hE=>?_)
 refine CodeJ.go ?_
 have cs:=codeS_ok (j:=c - 1) (by omega)
 have e:erV c=.sen sent (gs (c - 1)):=by unfold erV;rw [if_neg (by omega)]
 rw [show c - 1+1=c by omega] at cs
 rw [e]
 simp
 refine callE cs hE hX (by simp) (fun x hx=>?_)
 subst hx
 simp
def s0:ByteArray:=⟨#[48]⟩
def s1:ByteArray:=⟨#[49]⟩
def s2:ByteArray:=⟨#[50]⟩
def s3:ByteArray:=⟨#[51]⟩
def s4:ByteArray:=⟨#[52]⟩
def s5:ByteArray:=⟨#[53]⟩
def s6:ByteArray:=⟨#[54]⟩
def sx:ByteArray:=⟨#[120]⟩
def sy:ByteArray:=⟨#[121]⟩
def sone:ByteArray:=⟨#[111,110,101]⟩
def firstS:SpecT:=⟨true,s0,[⟨sx,false,s0,s4,s3⟩,⟨sy,false,s0,s4,s5⟩],[⟨sone,e0,s6,[0,1],[s1,s2]⟩]⟩
theorem first_ok:PureF Tryz.prog 32 [] (specT firstS):=by
 refine pure_enterW Tryz.func32 rfl (by simp) (fun C hC=>?_)
 simp
 refine ⟨_,(Le.frz 3 rfl rfl).trans ((Le.frz 4 rfl rfl).trans ((Le.frz 2 rfl rfl).trans (Le.frz 5 rfl rfl))),?_⟩
 simp [frzS,tset,firstS,specT,colT,rowT,s0,s1,s2,s3,s4,s5,s6,sx,sy,sone,e0]
 rfl
def shC (c:ColT):Bool:=shortB [c.low,c.high,c.cost]
def shR (r:RowT):Bool:=shortB r.nums&&shortB [r.low,r.high]&&decide (r.cols.length=r.nums.length)
def fewB (s:SpecT):Bool:=decide (s.cols.length≤7)&&decide (s.rows.length≤7)&&decide (s.shift.size≤24)&&s.cols.all shC&&s.rows.all shR
theorem few2_ok (s:SpecT) (h:SmS s):PureF Tryz.prog 73 [specT s] (.val (.bool (fewB s))):=by
 have nc:=h.nc
 have nr:=h.nr
 have ns:=h.shift
 refine pure_enter Tryz.func73 rfl (by simp) (fun C hC=>?_)
 simp
 refine ⟨fun c1=>⟨fun c2=>⟨fun c3=>by simp [fewB];omega,fun c3=>?_⟩,fun c2=>by simp [fewB];omega⟩,fun c1=>by simp [fewB];omega⟩
 refine CodeJ.loopL (ι:=Nat) (fun i=>⟨84,[(1,.ptr 0 0 0),(3,iv i)],[some ⟨4,[specT s],false⟩]⟩)
  (fun i=>i≤s.cols.length∧(s.cols.take i).all shC=true) (fun i=>s.cols.length - i) 0 (by simp) ?_ ?_
 ·simp [leS,hC]
 ·rintro i ⟨hi,ha⟩
  by_cases hlt:i<s.cols.length
  ·have hc:=h.cols i hlt
   simp (disch:=omega) [hlt,lget_colT]
   repeat (refine And.intro (by omega) ?_)
   refine callF (shorts2_ok [(gt s.cols i).low,(gt s.cols i).high,(gt s.cols i).cost] (by simp) (fun k hk=>?_)) (by simp) ?_
   ·match k,hk with
    | 0,_=>exact hc.low
    | 1,_=>exact hc.high
    | 2,_=>exact hc.cost
   simp (disch:=omega) [w64]
   repeat (refine And.intro (by omega) ?_)
   rw [show shortB [(gt s.cols i).low,(gt s.cols i).high,(gt s.cols i).cost]=shC (gt s.cols i) from rfl]
   refine ⟨fun hb=>?_,fun hb=>⟨i+1,⟨by omega,by simpa using all_step hlt ha hb⟩,by omega,Le.syn (by simp (disch:=omega) [leS,hC])⟩⟩
   unfold fewB;rw [all_no hlt hb];simp
  ·obtain rfl:i=s.cols.length:=by omega
   rw [List.take_length] at ha
   simp
   refine CodeJ.loopL (ι:=Nat) (fun i=>⟨84,[(1,.ptr 0 0 0),(6,iv i)],[some ⟨4,[specT s],false⟩]⟩)
    (fun i=>i≤s.rows.length∧(s.rows.take i).all shR=true) (fun i=>s.rows.length - i) 0 (by simp) ?_ ?_
   ·simp [leS,hC]
   ·rintro i ⟨hi,hb⟩
    by_cases hlt:i<s.rows.length
    ·have hr:=h.rows i hlt
     have no:=fun (q:shR (gt s.rows i)=false)=>show fewB s=false by unfold fewB;rw [all_no hlt q];simp
     simp (disch:=omega) [hlt,lget_rowT]
     repeat (refine And.intro (by omega) ?_)
     refine callF (shorts2_ok (gt s.rows i).nums hr.nums.n (fun k hk=>hr.nums.s _ (gt_mem hk))) (by simp) ?_
     simp
     refine callF (shorts2_ok [(gt s.rows i).low,(gt s.rows i).high] (by simp) (fun k hk=>?_)) (by simp) ?_
     ·match k,hk with
      | 0,_=>exact hr.low
      | 1,_=>exact hr.high
     have:=hr.cols
     have:=hr.nums.n
     simp (disch:=omega) [w64]
     repeat (refine And.intro (by omega) ?_)
     refine ⟨fun q1=>⟨fun q2=>⟨fun q3=>no ?_,fun q3=>?_⟩,fun q2=>no ?_⟩,fun q1=>no ?_⟩
     ·unfold shR;simp;omega
     ·refine ⟨i+1,⟨by omega,?_⟩,by omega,Le.syn (by simp (disch:=omega) [leS,hC])⟩
      simpa using all_step hlt hb (by unfold shR;simp [q1,q2];omega)
     ·unfold shR;simp [q2]
     ·unfold shR;simp [q1]
    ·obtain rfl:i=s.rows.length:=by omega
     rw [List.take_length] at hb
     simp [fewB,ha,hb]
     omega
theorem bothNo_ok (s:SpecT) (h:SmS s) (hf:fewB s=false):PureF Tryz.prog 26 [specT s] (.tup [.val (.pointer none),.agg [.val (.bool false),.val (.bool false),.ro [],.val (.bool false),.ro [],.ro [],.ro []],.val (.bool false)]):=by
 have g:=few2_ok s h
 rw [hf] at g
 refine pure_enter Tryz.func26 rfl (by simp) (fun C hC=>?_)
 simp
 refine callS (g) (by simp) ?_
 simp
theorem both_ok (s:SpecT) (h:SmS s) (hf:fewB s=true):PureF Tryz.prog 26 [specT s] (.tup [.rop (probQ (probOf s)) 0,probX s,.val (.bool (okS s))]):=by
 have g:=few2_ok s h
 rw [hf] at g
 refine pure_enter Tryz.func26 rfl (by simp) (fun C hC=>?_)
 simp
 refine callS (g) (by simp) ?_
 simp
 refine callS (rFrom_ok s h) (by simp) ?_
 simp
 refine callS (pProblem_ok s h) (by simp) ?_
 simp
 refine CodeJ.draw (.qs [0,1,2,3]<|.l 4 [1]<|.qs [5]<|.nil) (by kernel_rfl) (by kernel_rfl) (by simp) ?_
 simp
end Go.Proofs
namespace Go.Li
open Go Go.Sv Go.Pl Go.Proofs Go.Tb Go.Ut
theorem n0:num s0=0:=by decide +kernel
theorem n1:num s1=1:=by decide +kernel
theorem n2:num s2=2:=by decide +kernel
theorem n3:num s3=3:=by decide +kernel
theorem n4:num s4=4:=by decide +kernel
theorem n5:num s5=5:=by decide +kernel
theorem n6:num s6=6:=by decide +kernel
def P1:Prob:=⟨true,0,[⟨sx,false,⟨true,0⟩,⟨true,4⟩,3⟩,⟨sy,false,⟨true,0⟩,⟨true,4⟩,5⟩],[⟨sone,[⟨0,1⟩,⟨1,2⟩],⟨false,0⟩,⟨true,6⟩⟩]⟩
theorem prob_first:probOf firstS=P1:=by
 have e:∀s:ByteArray,isNo s=false→boOf s=⟨true,num s⟩:=fun s h=>by unfold boOf;rw [h];rfl
 have e':boOf e0=⟨false,0⟩:=rfl
 simp [probOf,firstS,P1,colOf,rowOf,zipR,termOf,n0,n1,n2,n3,n4,n5,n6,e s0 (by decide),e s4 (by decide),e s6 (by decide),e']
theorem ok_first:okS firstS=true:=by decide +kernel
theorem few_first:fewB firstS=true:=by decide +kernel
theorem valid_first:validC P1=0:=by unfold validC;decide +kernel
theorem sm_first:SmS firstS where
 shift:=by decide
 nc:=by decide
 nr:=by decide
 cols:=fun i hi=>by
  match i,hi with
  | 0,_=>exact ⟨by decide,by decide,by decide,by decide⟩
  | 1,_=>exact ⟨by decide,by decide,by decide,by decide⟩
 rows:=fun i hi=>by
  match i,hi with
  | 0,_=>exact ⟨by decide,by decide,by decide,by decide,⟨by decide,fun x hx=>by
    have hx':x=s1∨x=s2:=by simpa [firstS,gt] using hx
    rcases hx' with e | e<;>rw [e]<;>decide⟩⟩
end Go.Li
namespace Go.Proofs
open Go.Sv Go Go.Tb Go.Pl Go.Ut Go.Li
end Go.Proofs


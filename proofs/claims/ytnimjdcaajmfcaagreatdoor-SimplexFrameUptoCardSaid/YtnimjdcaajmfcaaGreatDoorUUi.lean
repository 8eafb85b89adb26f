/- A text of the prover's own. -/
import Derived.Test.YtnimjdcaajmfcaaGreatDoorUUf
import Derived.Test.YtnimjdcaajmfcaaGreatDoorUUg
import Derived.Test.YtnimjdcaajmfcaaGreatDoorUKk
import Derived.Test.YtnimjdcaajmfcaaGreatDoorUKt
set_option maxRecDepth 20000
namespace Go.Proofs
open Go.Sv Go Go.Tb Go.Pl Go.Ut Go.Mx Go.Li Go.Dt Go.Sx
theorem sameRow2_ok (l:List Rat) (h:OKl l):PureF Tryz.prog 35 [.ro (l.map rsv),.ro (l.map qsv)] (.val (.bool true)):=by
 have g1:=pTexts_ok l h
 have g2:=rTold_ok l h
 have ln:(txts l).length≤1048576:=by have:=h.n;simp [txts];omega
 generalize txts l=t at *
 refine pure_enter Tryz.func35 rfl (by simp) (fun C hC=>?_)
 simp
 refine callS (g1) (by simp) ?_
 simp
 refine callS (g2) (by simp) ?_
 simp
 refine CodeJ.loopL (ι:=Nat) (fun i=>⟨32,[(5,.ro (t.map strv)),(6,.ro (t.map strv)),(7,iv i)],[]⟩) (fun i=>i≤t.length) (fun i=>t.length - i) 0 (by omega) ?_ ?_
 ·simp [leS,hC]
 ·rintro i hi
  by_cases hit:i<t.length
  ·have g:=lget_str (l:=t) (i:=i) hit
   simp (disch:=omega) [hit]
   repeat (refine And.intro (by omega) ?_)
   refine CodeJ.draw (.qs [0,1,2,3,4,5,6,7,8]<|.nil) (by kernel_rfl) (by kernel_rfl) (by simp) ?_
   simp (disch:=omega) [hit,g,w64]
   repeat (refine And.intro (by omega) ?_)
   exact ⟨i+1,by omega,by omega,Le.syn (by simp (disch:=omega) [leS,hC])⟩
  ·obtain rfl:i=t.length:=by omega
   simp (disch:=omega) []
   repeat (refine And.intro (by omega) ?_)
theorem isB_first:IsB (frC P1 2 1 3) (Kp P1 2 1) [2,1,3] where
 l:=rfl
 f k hk:=by
  replace hk:k<3:=hk
  match k,hk with
  | 0,_=>exact .inr (.inl ⟨rfl,rfl⟩)
  | 1,_=>exact .inl rfl
  | 2,_=>exact .inr (.inr (.inl ⟨rfl,rfl⟩))
 n:=by decide
 k z hz h0 k hk:=by
  replace hk:k<3:=hk
  have z0:z 0=0:=h0 0 (by decide) (by decide)
  have z2:z 2=0:=h0 2 (by decide) (by decide)
  have:=hz 0 (by decide)
  have e0:entT (gt P1.rows 0).terms 0=1:=by decide +kernel
  have e1:entT (gt P1.rows 0).terms 1=2:=by decide +kernel
  simp only [sumR,e0,e1] at this
  match k,hk with
  | 0,_=>exact z0
  | 1,_=>rw [show 2+0=2 by rfl] at this;grind
  | 2,_=>exact z2
theorem fewB_sz {s:SpecT} (h:fewB s=true):(probOf s).cols.length≤7∧(probOf s).rows.length≤7:=by
 unfold fewB at h
 simp only [Bool.and_eq_true,decide_eq_true_eq] at h
 simp [probOf];omega
theorem simplexFrame_ok (s:SpecT) (w:List Int) (h:SmS s) (hwl:w.length≤1048576) :
  PureE Tryz.prog 5 [specT s,.ro (w.map iv)] (fun x=>x=.val (.bool true)):=by
 have fw1:Few P1:=⟨by decide,by decide,fun i hi=>by
  match i,hi with
  | 0,_=>decide⟩
 have pw1:ProbW P1:=by rw [←prob_first];exact probW_of _
 have q1:=qFrameOf_ok P1 fw1 2 1 3 rfl rfl rfl (by omega) (by omega) pw1 valid_first [2,1,3] (by decide)
 have r1:=rFrameOf_ok P1 fw1 2 1 3 rfl rfl rfl (by omega) (by omega) pw1 [2,1,3] (by decide)
 have gF:=both_ok firstS sm_first few_first
 rw [probX_of ok_first,prob_first,ok_first] at gF
 refine pureE_enter Tryz.func5 rfl (by simp) (fun C hC hX hE=>?_)
 refine CodeJ.go ?_
 simp
 refine callS (first_ok) (by simp) ?_
 simp
 refine callS (gF) (by simp) ?_
 simp
 refine callP q1 (by simp) (fun y hy=>?_)
 rcases hy with ⟨_,B1,x1,c1,f1,rfl⟩ | ⟨no,_⟩
 rotate_left 1
 ·exact absurd isB_first no
 unfold frQ
 simp
 refine callP r1 (by simp) (fun y hy=>?_)
 rcases hy with ⟨_,B2,x2,c2,f2,w2,rfl⟩ | ⟨no,_⟩
 rotate_left 1
 ·exact absurd isB_first no
 obtain ⟨rfl,rfl,rfl⟩:=f1.uniq (by decide) f2
 unfold frP
 simp
 clear q1 r1 f1 f2 gF
 refine CodeJ.draw (.qs [0,1,2,3,4,5,6,7,8,9,10,11,12,13,14,15,16]<|.l 17 []<|.qs [18,19]<|.nil) (by kernel_rfl) (by kernel_rfl) (by simp) ?_
 simp
 refine callS (sameRow2_ok x1 w2.2.1) (by simp) ?_
 simp
 by_cases hf:fewB s=true
 rotate_left 1
 ·refine callS (bothNo_ok s h (by simpa using hf)) (by simp) ?_
  simp
 have gB:=both_ok s h hf
 by_cases ho:okS s=true
 rotate_left 1
 ·rw [show okS s=false by simpa using ho] at gB
  refine callS (gB) (by simp) ?_
  simp
 rw [ho,probX_of ho] at gB
 have fw:=few_of h
 have pw:=probW_of s
 obtain ⟨l1,l2⟩:=fewB_sz hf
 generalize probOf s=p at *
 refine callS (gB) (by simp) ?_
 simp
 refine fun c1=>?_
 have gv:=rValid_ok p fw
 have r:=rFrameOf_ok p fw p.cols.length p.rows.length (p.cols.length+p.rows.length) rfl rfl rfl (by omega) l2 pw w hwl
 by_cases hv:validC p=0
 ·have q:=qFrameOf_ok p fw p.cols.length p.rows.length (p.cols.length+p.rows.length) rfl rfl rfl (by omega) l2 pw hv w hwl
  rw [hv] at gv
  refine callP q (by simp) (fun y hy=>?_)
  rcases hy with ⟨yB,B1,x1,c1,f1,rfl⟩ | ⟨nB,rfl⟩
  ·unfold frQ
   simp
   refine callS (gv) (by simp) ?_
   simp
   refine callP r (by simp) (fun y hy=>?_)
   rcases hy with ⟨_,B2,x2,c2,f2,w2,rfl⟩ | ⟨no,_⟩
   rotate_left 1
   ·exact absurd yB no
   obtain ⟨rfl,rfl,rfl⟩:=f1.uniq yB.n f2
   have lb:(bL w (frC p p.cols.length p.rows.length (p.cols.length+p.rows.length)).N).length=B1.length:=by
    rw [bL_len,yB.n,f1.bl]
   have lB:B1.length≤7:=by rw [f1.bl];exact l2
   clear f1 f2 q r
   unfold frP
   generalize bL w (frC p p.cols.length p.rows.length (p.cols.length+p.rows.length)).N=b at *
   simp
   refine CodeJ.draw (.qs [0,1,2,3,4,5,6,7,8,9,10,11,12,13,14,15,16,17,18,19,20,21,22,23,24,25,26,27]<|.nil) (by kernel_rfl) (by kernel_rfl) (by simp) ?_
   simp
   refine CodeJ.loopL (ι:=Nat) (fun i=>⟨183,[(8,.rop (.agg [.ro (b.map natV),.ro (B1.map rlv),.ro (x1.map rsv),.ro (c1.map rsv)]) 0),(10,.ptr 4 0 0),(16,iv i)],[none,none,none,none,some ⟨4,[.agg [.ro (b.map natV),.ro (B1.map qlv),.ro (x1.map qsv),.ro (c1.map qsv)]],false⟩]⟩)
    (fun i=>i≤b.length) (fun i=>b.length - i) 0 (by omega) ?_ ?_
   ·simp [leS,hC]
   ·rintro i hi
    by_cases hib:i<b.length
    ·have g1:=lget_rlv (l:=B1) (i:=i) (by omega)
     have g2:=lget_qlv (l:=B1) (i:=i) (by omega)
     have g3:=lget_nat (l:=b) (i:=i) hib
     simp (disch:=omega) [hib]
     repeat (refine And.intro (by omega) ?_)
     refine CodeJ.draw (.qs [0,1,2,3,4,5,6,7,8,9,10,11]<|.l 12 []<|.qs [13]<|.nil) (by kernel_rfl) (by kernel_rfl) (by simp) ?_
     simp (disch:=omega) [g1,g2,lb]
     repeat (refine And.intro (by omega) ?_)
     refine callS (sameRow2_ok (gt B1 i) (w2.1 _ (gt_mem (by omega)))) (by simp) ?_
     simp
     refine CodeJ.draw (.qs [0,1,2,3,4,5,6,7,8,9,10,11,12,13,14,15,16]<|.nil) (by kernel_rfl) (by kernel_rfl) (by simp) ?_
     simp (disch:=omega) [hib,g3]
     repeat (refine And.intro (by omega) ?_)
     exact ⟨i+1,by omega,by omega,Le.syn (by simp (disch:=omega) [leS,hC,w64])⟩
    ·obtain rfl:i=b.length:=by omega
     simp (disch:=omega) []
     repeat (refine And.intro (by omega) ?_)
     refine CodeJ.draw (.qs [0,1,2,3,4,5]<|.l 6 []<|.qs [7]<|.nil) (by kernel_rfl) (by kernel_rfl) (by simp) ?_
     simp
     refine callS (sameRow2_ok x1 w2.2.1) (by simp) ?_
     simp
     refine CodeJ.draw (.qs [0,1,2,3,4,5]<|.l 6 []<|.qs [7]<|.nil) (by kernel_rfl) (by kernel_rfl) (by simp) ?_
     simp
     refine callS (sameRow2_ok c1 w2.2.2) (by simp) ?_
     simp
  ·simp [erV]
   refine callS (gv) (by simp) ?_
   simp
   refine callP r (by simp) (fun y hy=>?_)
   rcases hy with ⟨yB,_⟩ | ⟨_,l,rfl⟩
   ·exact absurd yB nB
   simp
   refine callE (coded2_ok (c:=9) (by omega) (by omega) 9) hE hX (by simp) (fun x hx=>?_)
   subst hx
   simp
 ·have hv':=valid_le p hv
  refine callS (qFrameE_ok p fw w hv hwl) (by simp) ?_
  simp
  refine callS (gv) (by simp) ?_
  simp
  refine callP r (by simp) (fun y hy=>?_)
  rcases hy with ⟨yB,B2,x2,c2,f2,w2,rfl⟩ | ⟨_,l,rfl⟩
  ·unfold frP
   simp [hv,hv'.1]
   refine callE (coded2_ok hv'.1 hv'.2 (validC p)) hE hX (by simp) (fun x hx=>?_)
   subst hx
   simp
  ·simp [hv,hv'.1]
   refine callE (coded2_ok hv'.1 hv'.2 (validC p)) hE hX (by simp) (fun x hx=>?_)
   subst hx
   simp
end Go.Proofs
namespace Go.Ut
open Go Go.Sv Go.Pl Go.Proofs Go.Tb
def intsF:Pt:=.sl (.int .i64)
theorem intsF_sv (x:intsF.T):intsF.sv x=.ro (List.map iv (show List Int from x)):=rfl
theorem intsF_len {x:intsF.T} (h:intsF.bk x≤1048576):(show List Int from x).length≤1048576:=sl_len (e:=.int .i64) (fun _=>Nat.le_refl 1) h
end Go.Ut


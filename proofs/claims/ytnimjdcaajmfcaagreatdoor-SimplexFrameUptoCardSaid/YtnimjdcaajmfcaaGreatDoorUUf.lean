/- A text of the prover's own. -/
import Derived.Test.YtnimjdcaajmfcaaGreatDoorUUb
set_option maxRecDepth 10000
namespace Go.Proofs
open Go.Sv Go Go.Tb Go.Pl Go.Ut Go.Mx Go.Li Go.Dt Go.Sx
theorem ltL_byM {n:Nat} (w:List Int) (N m:Nat) (R:List (List Rat)) (i:Nat):∀k,SV.ltL n (byM w N m R i k)=true
 | 0=>by
  have:List.replicate N (rsv 0)=(List.replicate N (0:Rat)).map rsv:=by simp
  simp only [byM];rw [this,ltL_map,List.all_eq_true];intro _ _;rfl
 | k+1=>ltL_setX rfl (ltL_byM w N m R i k)
theorem rlB (p:Prob) (n m N W:Nat) (hn:p.cols.length=n) (hm:p.rows.length=m) (hN:n+m=N) (h14:N≤14) (h7:m≤7) (w:List Int) (hl:w.length=N) (hcn:cnt w N=m) (R:List (List Rat)) (hRl:R.length=m) (hRr:∀i,i<m→(gt R i).length=N) (h1:1≤W) (hW:W≤200000000) (hR:∀i k,i<m→k<N→qw W (gt (gt R i) k)) (hw:ProbW p) (f:Nat→Rat) (hf:∀k,k<N→qw 2200 (f k)) {C:Ctx} (hC:C.fx=[0]) {Q:Post} (hQp:∀c st,¬Q (.panic c) st)
  (hQ:∀fr,Q .normal ⟨234,fr,rlM p w N m ((xS f w N m R m).map qsv) ((coL (cstP p n) w N m R m 0).map qsv) (((List.range m).map (byD w N m R)).map qlv)⟩) :
  CodeJ Tryz.prog C (dropC 6 rlBody) ⟨234,rlF w n m N R,rlM p w N 0 ((xS f w N m R 0).map qsv) ((coL (cstP p n) w N m R 0 0).map qsv) []⟩ Q:=by
 simp only [rlBody,Tryz.f89,Option.getD_some,dropC_succ,dropC_zero]
 have lo:=oL_len w N
 have lb:=bL_len w N
 have hcst:∀k,k<N→qw 2200 (cstP p n k):=fun k hk=>by
  unfold cstP;split
  ·exact (hw.co k (by omega)).1
  ·exact qw_zero (by omega)
 simp only [rlF,rlM,List.cons_append,List.nil_append]
 refine CodeJ.go ?_
 simp
 refine CodeJ.loopL (ι:=Nat) (fun i=>⟨234,rlF w n m N R++[(15,iv i)],rlM p w N i ((xS f w N m R i).map qsv) ((coL (cstP p n) w N m R i 0).map qsv) (((List.range i).map (byD w N m R)).map qlv)⟩)
  (fun i=>i≤m) (fun i=>m - i) 0 (by omega) ?_ ?_
 ·simp [leS,rlF,rlM,leM_self,leM]
 ·rintro i hi
  simp only [rlF,rlM,List.cons_append,List.nil_append]
  by_cases him:i<m
  ·have lX:∀i,(xS f w N m R i).length=N:=fun i=>by simp
   have nbB:nlL (((List.range i).map (byD w N m R)).map qlv)=((List.range i).map (byD w N m R)).map qlv:=nlL_map qlv (fun _=>rfl) _
   have nbX:nlL ((xS f w N m R i).map qsv)=(xS f w N m R i).map qsv:=nlL_map qsv (fun _=>rfl) _
   have nbC:nlL ((coL (cstP p n) w N m R i 0).map qsv)=(coL (cstP p n) w N m R i 0).map qsv:=nlL_map qsv (fun _=>rfl) _
   have nb:nlL ((bL w N).map natV)=(bL w N).map natV:=nlL_map natV (fun _=>rfl) _
   have zz:nlV (.agg [.val (.bool false),.val (.slice none 0 0),.val (.bool false),.val (.slice none 0 0)])=rsv 0:=by rw [←rsv0];rfl
   have eB:(List.range (i+1)).map (byD w N m R)=(List.range i).map (byD w N m R)++[byD w N m R i]:=by rw [List.range_succ,List.map_append];rfl
   have lB:((List.range i).map (byD w N m R)).length=i:=by simp
   have gX:∀k,k<N→m≤k→gt (xS f w N m R i) (gt (oL w N) k)=f (gt (oL w N) k):=fun k hk hmk=>xS_no hcn (oL_lt hk) (oL_no (by omega) hk) i (by omega)
   have nX:xS f w N m R (i+1)=(xS f w N m R i).set (gt (bL w N) i) (sD f w N m R i N):=rfl
   have lXi:=lX i
   generalize hB:(List.range i).map (byD w N m R)=B at *
   generalize hX:xS f w N m R i=X at *
   have bi:=(bL_one (w:=w) (N:=N) (k:=i) (by omega)).1
   have lbi:=lget_nat (l:=bL w N) (i:=i) (by omega)
   simp (disch:=omega) [him]
   repeat (refine And.intro (by omega) ?_)
   refine callS (zeroP) (by simp) ?_
   simp
   refine CodeJ.le (Le.nl _) ?_
   simp [tset,lset,nlS,nlM,nlL_rep,zz,nlV,nb,nbB,nbX,nbC]
   refine CodeJ.loopL (ι:=Nat) (fun k=>⟨234,rlF w n m N R++[(15,iv i),(16,.view 5 0 N),(17,.ptr 6 0 0),(18,iv k)],rlM p w N i (X.map qsv) ((coL (cstP p n) w N m R i k).map qsv) (B.map qlv)++[some ⟨4,byM w N m R i k,false⟩,some ⟨4,[qsv (sD f w N m R i k)],false⟩]⟩)
    (fun k=>k≤N) (fun k=>N - k) 0 (by omega) ?_ ?_
   ·simp [leS,rlF,rlM,leM_self,leM,byM,sD,sumR]
    exact ⟨rfl,.inr (by rw [←rsv0]),rfl⟩
   ·rintro k hk
    simp only [rlF,rlM,List.cons_append,List.nil_append]
    by_cases hkN:k<N
    ·have lbM:(byM w N m R i k).length=N:=by simp
     have lcL:(coL (cstP p n) w N m R i k).length=N:=by simp
     have ok:=oL_lt (w:=w) hkN
     have lok:=lget_nat (l:=oL w N) (i:=k) (by omega)
     have gB:lget (byM w N m R i k) (gt (oL w N) k)=rsv 0:=by
      rw [lget_eq (by omega)]
      have:=byM_at (w:=w) (N:=N) (m:=m) (R:=R) (i:=i) k hk k hkN
      rw [List.getElem?_eq_getElem (by omega),if_neg (by omega)] at this
      exact Option.some.inj this
     have g2:=fun v=>lget_self (X:=byM w N m R i k) (k:=gt (oL w N) k) (v:=v) (by omega)
     have tB:∀v:Rat,SV.ltL 7 ((byM w N m R i k).set (gt (oL w N) k) (qsv v))=true:=fun v=>ltL_setX rfl (ltL_byM w N m R i k)
     have sB:byM w N m R i (k+1)=(byM w N m R i k).set (gt (oL w N) k) (qsv (bD m R i k)):=rfl
     have sC:coL (cstP p n) w N m R i (k+1)=(coL (cstP p n) w N m R i k).set (gt (oL w N) k) (gt (coL (cstP p n) w N m R i k) (gt (oL w N) k)+bD m R i k*cstP p n (gt (bL w N) i)):=rfl
     have sS:sD f w N m R i (k+1)=sD f w N m R i k+bD m R i k*f (gt (oL w N) k):=rfl
     have skp:=coL_skip (f:=cstP p n) (w:=w) (N:=N) (m:=m) (R:=R) (i:=i) hkN
     have gC:=coL_at (f:=cstP p n) (R:=R) hcn (i:=i) k hk k hkN
     rw [if_neg (by omega)] at gC
     have wC:=coS_w (f:=cstP p n) (w:=w) h1 hcn hR hcst (i:=i) (by omega) ok
     rw [←gC] at wC
     have wS:=sD_w (f:=f) (w:=w) h1 hR hf him hk
     have wb:=bD_w (m:=m) (N:=N) h1 hR him hkN
     have wf:=hf _ ok
     have wc:=hcst _ bi
     have lC:=lget_q (l:=coL (cstP p n) w N m R i k) (i:=gt (oL w N) k) (by omega)
     have lx:=lget_q (l:=X) (i:=gt (oL w N) k) (by omega)
     have lR:=lget_qlv (l:=R) (i:=i) (by omega)
     have lRk:=lget_q (l:=gt R i) (i:=k) (by rw [hRr i him];exact hkN)
     have Ri:=hRr i him
     have bDe:bD m R i k=if k<m then 0 else -(gt (gt R i) k):=rfl
     generalize byM w N m R i k=Y at *
     generalize coL (cstP p n) w N m R i k=Co at *
     generalize sD f w N m R i k=x at *
     simp (disch:=omega) [hkN]
     repeat (refine And.intro (by omega) ?_)
     refine CodeJ.draw (.qs [0,1,2,3,4]<|.l 5 []<|.qs [6]<|.l 7 [5]<|.nil) (by kernel_rfl) (by kernel_rfl) (by simpa using hQp) ?_
     simp (disch:=omega) [hkN,lo,lok,ok,lbM,gB]
     repeat (refine And.intro (by omega) ?_)
     refine callS (zeroP) (by simp) ?_
     by_cases hkm:k<m
     ·rw [if_pos hkm] at bDe
      rw [bDe] at sB sS skp
      simp (disch:=omega) [hkN,lo,lok,ok,lbM,gB,lset_eq,hkm,w64, -List.map_set]
      repeat (refine And.intro (by omega) ?_)
      refine ⟨k+1,by omega,by omega,?_⟩
      rw [sB,sS,skp (by rw [Rat.zero_mul]),Rat.zero_mul,Rat.add_zero]
      exact Le.syn (by simp (disch:=omega) [leS,hC,w64,tB])
     ·rw [if_neg hkm] at bDe
      have gXk:=gX k hkN (by omega)
      rw [gXk] at lx
      have bDs : -(gt (gt R i) k)=bD m R i k:=bDe.symm
      simp (disch:=omega) [hkN,lo,lok,ok,lbM,gB,lset_eq,hkm,lR,hRl,lRk,Ri,him, -List.map_set]
      repeat (refine And.intro (by omega) ?_)
      refine callS (pNeg_ok (gt (gt R i) k)) (by simp) ?_
      rw [bDs]
      clear bDe bDs
      generalize bD m R i k=b at *
      simp
      refine CodeJ.draw (.qs [0,1,2,3,4,5,6]<|.l 7 [5]<|.nil) (by kernel_rfl) (by kernel_rfl) (by simpa using hQp) ?_
      simp (disch:=omega) [hkN,lo,lok,ok,lbM,g2,lset_eq, -List.map_set]
      repeat (refine And.intro (by omega) ?_)
      refine CodeJ.drawZ (.d 12<|.qs [0,1,2,3,4,5,6,7,8,9,10]<|.p 11<|.b ( .l 13 [8]<|.nil )) (by kernel_rfl) (by kernel_rfl) (by simpa using hQp) ?_
      simp (disch:=omega) [hkN,lo,lok,ok,lXi,lx, -List.map_set]
      repeat (refine And.intro (by omega) ?_)
      refine callV (pMul_ok b (f (gt (oL w N) k)) (qok_of wb (by omega)) (qok_of wf (by omega))) (by simp) ?_
      simp (disch:=omega) [-List.map_set]
      repeat (refine And.intro (by omega) ?_)
      have hz:k*(W+2200+1)≤14*(W+2200+1):=Nat.mul_le_mul_right _ (by omega)
      have hz2:i*(W+2200+1)≤7*(W+2200+1):=Nat.mul_le_mul_right _ (by omega)
      refine callS (pAdd_ok x (b*f (gt (oL w N) k)) (qok_of wS (by omega)) (qok_of (qw_mul wb wf (by omega)) (by omega))) (by simp) ?_
      simp (disch:=omega) [-List.map_set]
      repeat (refine And.intro (by omega) ?_)
      refine CodeJ.draw (.qs [0,1,2,3,4,5,6,7,8,9,10]<|.nil) (by kernel_rfl) (by kernel_rfl) (by simpa using hQp) ?_
      by_cases hbn:gt (bL w N) i<n
      ·have ec:cstP p n (gt (bL w N) i)=(gt p.cols (gt (bL w N) i)).cost:=if_pos hbn
       have lcP:=lget_colP (l:=p.cols) (i:=gt (bL w N) i) (by omega)
       rw [ec] at sC wc
       simp (disch:=omega) [lb,hcn,him,lbi,hn,hbn, -List.map_set]
       repeat (refine And.intro (by omega) ?_)
       refine CodeJ.drawZ (.d 14<|.qs [0,1,2,3,4,5,6,7,8,9,10,11,12]<|.p 13<|.b ( .l 15 [9]<|.nil )) (by kernel_rfl) (by kernel_rfl) (by simpa using hQp) ?_
       simp (disch:=omega) [lb,hcn,him,lbi,hn,hbn,lcP, -List.map_set]
       repeat (refine And.intro (by omega) ?_)
       refine callV (pMul_ok b (gt p.cols (gt (bL w N) i)).cost (qok_of wb (by omega)) (qok_of wc (by omega))) (by simp) ?_
       simp (disch:=omega) [-List.map_set]
       repeat (refine And.intro (by omega) ?_)
       refine CodeJ.draw (.qs [0,1,2,3,4,5,6,7,8,9,10,11,12,13,14,15,16,17,18]<|.l 19 []<|.qs [20]<|.l 21 [3]<|.nil) (by kernel_rfl) (by kernel_rfl) (by simpa using hQp) ?_
       simp (disch:=omega) [lo,lok,ok,hkN,lcL,lC, -List.map_set]
       repeat (refine And.intro (by omega) ?_)
       refine callS (pAdd_ok (gt Co (gt (oL w N) k)) (b*(gt p.cols (gt (bL w N) i)).cost) (qok_of wC (by omega)) (qok_of (qw_mul wb wc (by omega)) (by omega))) (by simp) ?_
       simp (disch:=omega) [lo,lok,ok,hkN,lcL,lC,lset_qs,w64, -List.map_set]
       repeat (refine And.intro (by omega) ?_)
       refine ⟨k+1,by omega,by omega,?_⟩
       rw [sB,sS,sC]
       exact Le.syn (by simp (disch:=omega) [leS,hC,w64,tB, -List.map_set])
      ·have ec:cstP p n (gt (bL w N) i)=0:=if_neg hbn
       rw [ec] at skp
       simp (disch:=omega) [lb,hcn,him,lbi,hn,hbn,w64, -List.map_set]
       repeat (refine And.intro (by omega) ?_)
       refine ⟨k+1,by omega,by omega,?_⟩
       rw [sB,sS,skp (by rw [Rat.mul_zero])]
       exact Le.syn (by simp (disch:=omega) [leS,hC,w64,tB])
    ·obtain rfl:k=N:=by omega
     have lD:=byD_len w k m R i
     have us:SV.usesL 4 ((byD w k m R i).map qsv)=false:=by rw [usesL_map,List.any_eq_false];intro _ _;simp
     rw [byM_end,coL_end hcn]
     simp (disch:=omega) [us]
     repeat (refine And.intro (by omega) ?_)
     refine ⟨⟨by simp [hC],by omega,by omega⟩,?_⟩
     have sq:sbL 5 ((byD w k m R i).map qsv) (X.map qsv)=X.map qsv:=sbL_pure _ _ _ (by simp)
     have sq2:sbL 5 ((byD w k m R i).map qsv) ((coL (cstP p n) w k m R (i+1) 0).map qsv)=(coL (cstP p n) w k m R (i+1) 0).map qsv:=sbL_pure _ _ _ (by simp)
     have sq3:sbL 5 ((byD w k m R i).map qsv) (B.map qlv)=B.map qlv:=sbL_pure _ _ _ (by simp)
     have sq4:sbL 5 ((byD w k m R i).map qsv) ((byD w k m R i).map qsv)=(byD w k m R i).map qsv:=sbL_pure _ _ _ (by simp)
     have tk:((byD w k m R i).map qsv).take k=(byD w k m R i).map qsv:=List.take_of_length_le (by simp [lD])
     refine CodeJ.frz 5 rfl (by simp) ?_
     simp [frzS,tset,sq,sq2,sq3,sq4,sbL_app,tk,lD]
     refine CodeJ.draw (.qs [0,1,2,3,4,5,6,7,8,9,10,11,12]<|.l 13 [2]<|.nil) (by kernel_rfl) (by kernel_rfl) (by simpa using hQp) ?_
     have lxb:=lget_q (l:=X) (i:=gt (bL w k) i) (by omega)
     simp (disch:=omega) [lb,hcn,him,lbi,bi,lXi,lxb,lset_qs,w64, -List.map_set]
     repeat (refine And.intro (by omega) ?_)
     refine ⟨i+1,by omega,by omega,?_⟩
     rw [nX,←List.map_map,eB,List.map_append]
     exact Le.syn (by simp (disch:=omega) [leS,hC,w64, -List.map_set])
  ·obtain rfl:i=m:=by omega
   have hQ:=hQ
   simp only [rlM] at hQ
   simp (disch:=omega) []
   repeat (refine And.intro (by omega) ?_)
   simp at hQ
   exact hQ _
end Go.Proofs
namespace Go.Proofs
open Go.Sv Go Go.Tb Go.Pl Go.Ut Go.Mx Go.Li Go.Dt Go.Sx
theorem rFill_ok (p:Prob) (n m N W:Nat) (hn:p.cols.length=n) (hm:p.rows.length=m) (hN:n+m=N) (h14:N≤14) (h7:m≤7) (w:List Int) (hl:w.length=N) (hcn:cnt w N=m) (hfit:∀k,k<N→Sx.fit (frC p n m N) w k) (R:List (List Rat)) (hRl:R.length=m) (hRr:∀i,i<m→(gt R i).length=N) (h1:1≤W) (hW:W≤200000000) (hR:∀i k,i<m→k<N→qw W (gt (gt R i) k)) (hw:ProbW p) :
  EffC Tryz.prog 89 [.ptr 0 0 0,probP p,.ro (w.map iv),.ro ((oL w N).map natV),.ro (R.map qlv)] [some ⟨4,[.agg [.ro ((bL w N).map natV),.val (.slice none 0 0),.val (.slice none 0 0),.val (.slice none 0 0)]],false⟩] []
   (fun T y=>T=[some ⟨4,[frP (bL w N) ((List.range m).map (byD w N m R)) (xS (xw (frC p n m N) w) w N m R m) (coL (cstP p n) w N m R m 0)],false⟩]∧y=.tup []):=by
 refine eff_enterC Tryz.func89 rfl (by simp) (fun C hC=>?_)
 have hC:C.fx=[0]:=by simpa using hC
 have hf:∀k,k<N→qw 2200 (xw (frC p n m N) w k):=fun k hk=>xw_wd (fr_bw hn hm hN hw) w hk
 refine CodeJ.wk ?_
 show CodeJ _ _ rlBody _ _
 refine rlA p n m N hn hm hN h14 w hl hfit R hC (fun c st h=>by obtain ⟨_,_,h⟩:=h;exact h) ?_
 refine rlB p n m N W hn hm hN h14 h7 w hl hcn R hRl hRr h1 hW hR hw (xw (frC p n m N) w) hf hC (fun c st h=>by obtain ⟨_,_,h⟩:=h;exact h) (fun fr=>?_)
 have lX:(xS (xw (frC p n m N) w) w N m R m).length=N:=by simp
 have lC:(coL (cstP p n) w N m R m 0).length=N:=by simp
 have lB:((List.range m).map (byD w N m R)).length=m:=by simp
 generalize xS (xw (frC p n m N) w) w N m R m=X at *
 generalize coL (cstP p n) w N m R m 0=Co at *
 generalize (List.range m).map (byD w N m R)=B at *
 have t1:(B.map qlv).take m=B.map qlv:=List.take_of_length_le (by simp [lB])
 have t2:(X.map qsv).take N=X.map qsv:=List.take_of_length_le (by simp [lX])
 have t3:(Co.map qsv).take N=Co.map qsv:=List.take_of_length_le (by simp [lC])
 have sq:∀k es (X:List Rat),sbL k es (X.map qsv)=X.map qsv:=fun k es X=>sbL_pure _ _ _ (by simp)
 have sq3:∀k es,sbL k es (B.map qlv)=B.map qlv:=fun k es=>sbL_pure _ _ _ (by simp)
 have p0:Le C ⟨234,fr,rlM p w N m (X.map qsv) (Co.map qsv) (B.map qlv)⟩ ⟨234,[],rlM p w N m (X.map qsv) (Co.map qsv) (B.map qlv)⟩:=Le.syn ⟨rfl,by simp [leF],leM_self _,.inl rfl⟩
 have p1:=Le.frz (C:=C) (st:=⟨234,[],rlM p w N m (X.map qsv) (Co.map qsv) (B.map qlv)⟩) 4 rfl (by simp)
 have p2:=Le.frz (C:=C) (st:=⟨234,[],[some ⟨4,[.agg [.ro ((bL w N).map natV),.ro (B.map qlv),.view 2 0 N,.view 3 0 N]],false⟩,some ⟨7,[probP p],false⟩,some ⟨4,X.map qsv,false⟩,some ⟨4,Co.map qsv,false⟩,some ⟨1,B.map qlv,true⟩]⟩) 3 rfl (by simp)
 have p3:=Le.frz (C:=C) (st:=⟨234,[],[some ⟨4,[.agg [.ro ((bL w N).map natV),.ro (B.map qlv),.view 2 0 N,.ro (Co.map qsv)]],false⟩,some ⟨7,[probP p],false⟩,some ⟨4,X.map qsv,false⟩,some ⟨4,Co.map qsv,true⟩,some ⟨1,B.map qlv,true⟩]⟩) 2 rfl (by simp)
 simp [frzS,tset,tget,rlM,sq,sq3,t1,t2,t3,lB,lX,lC] at p1 p2 p3
 refine ⟨_,p0.trans (p1.trans (p2.trans p3)),?_⟩
 exact ⟨trivial,rfl,_,_,⟨rfl,rfl⟩,rfl,⟨.inr rfl,trivial⟩,by simp,.inr ⟨by simp,by simp [ltM,frP]⟩⟩
end Go.Proofs
set_option maxRecDepth 10000
namespace Go.Sx
open Go Go.Sv Go.Pl Go.Proofs Go.Tb Go.Ut Go.Mx Go.Li Go.Dt
def oK (w:List Int) (N k:Nat):List Nat:=bL w N++(List.range k).filter fun q=>!decide (gt w q=1)
theorem oK_zero (w:List Int) (N:Nat):oK w N 0=bL w N:=by simp [oK]
theorem oK_end (w:List Int) (N:Nat):oK w N N=oL w N:=rfl
theorem oK_succ (w:List Int) (N k:Nat):oK w N (k+1)=oK w N k++if gt w k=1 then [] else [k]:=by
 unfold oK
 rw [List.range_succ,List.filter_append,List.append_assoc]
 congr 1
 by_cases h:gt w k=1<;>simp [h]
theorem cnt_no (w:List Int):∀k,((List.range k).filter fun q=>!decide (gt w q=1)).length+cnt w k=k
 | 0=>rfl
 | k+1=>by
  rw [List.range_succ,List.filter_append,List.length_append]
  have:=cnt_no w k
  simp only [cnt]
  by_cases h:gt w k=1
  ·simp [h];omega
  ·simp [h];omega
theorem oK_len (w:List Int) (N k:Nat):(oK w N k).length=cnt w N+k - cnt w k:=by
 have:=cnt_no w k
 unfold oK
 rw [List.length_append,bL_len];omega
def rwR (p:Prob) (n N:Nat) (ord:List Nat) (i:Nat):List Rat:=(List.range N).map fun k=>cellR p n i (gt ord k)
theorem tabR_eq (p:Prob) (n m N:Nat) (ord:List Nat):tabR p n m N ord=(List.range m).map (rwR p n N ord):=rfl
theorem redAt_nil (k:Nat):redAt [] k=([],[]):=by
 have:=redAt_full (a:=[]) (c:=0) (by simp [redAt]) k
 rw [Nat.zero_add] at this;exact this
end Go.Sx
namespace Go.Proofs
open Go.Sv Go Go.Tb Go.Pl Go.Ut Go.Mx Go.Li Go.Dt Go.Sx
theorem rRedN_ok (a:List (List Rat)) (n N:Nat) (h:Tw n N 2200 a) (hn:n≤7) (hN:N≤40):PureF Tryz.prog 88 [.ro (a.map qlv)] (.tup [.ro ((redAt a N).1.map qlv),.ro ((redAt a N).2.map natV)]):=by
 match a,h with
 | [],h =>
  have:=rReduced_ok [] 0 0 ⟨rfl,fun i hi=>by omega,fun i j hi=>by omega⟩ (by omega) (by omega) rfl
  rw [redAt_nil] at this ⊢
  exact this
 | x::a,h =>
  refine rReduced_ok (x::a) n N h hn hN ?_
  have:=h.r 0 (by have:=h.l;simp at this;omega)
  rw [←this];rfl
def rfR (p:Prob) (w:List Int) (N:Nat):Tab:=[some ⟨7,[probP p],false⟩,some ⟨4,[.agg [.val (.slice none 0 0),.val (.slice none 0 0),.val (.slice none 0 0),.val (.slice none 0 0)]],false⟩,some ⟨4,[.agg [.ro ((bL w N).map natV),.val (.slice none 0 0),.val (.slice none 0 0),.val (.slice none 0 0)]],false⟩]
theorem rfB (p:Prob) (n m N:Nat) (hm:p.rows.length=m) (hN:n+m=N) (h14:N≤14) (w:List Int) (hl:w.length=N) (hcn:cnt w N=m) {C:Ctx} (hC:C.fx=[]) {Q:Post} (hQp:∀c st,¬Q (.panic c) st)
  (hQ:CodeJ Tryz.prog C (dropC 10 rfBody) ⟨162,rfF w n m++[(9,.ro ((oL w N).map natV))],rfR p w N⟩ Q) :
  CodeJ Tryz.prog C (dropC 8 rfBody) ⟨162,rfF w n m++[(9,.val (.slice none 0 0))],rfM p w N⟩ Q:=by
 have wr:IntKind.i64.wrap ((n:Int)+m)=(N:Int):=by simp (disch:=omega) [w64];omega
 have lb:=bL_len w N
 refine CodeJ.nil 9 1 rfl ?_
 refine CodeJ.cutAt 2 (fun st=>st=⟨162,rfF w n m++[(9,.view 4 0 N)],rfM p w N++[some ⟨1,(oL w N).map natV,false⟩]⟩) ?_ ?_
 rotate_left 1
 ·rintro st rfl
  have tk:((bL w N).map natV).take (cnt w N)=(bL w N).map natV:=List.take_of_length_le (by simp [lb])
  have tk2:((oL w N).map natV).take N=(oL w N).map natV:=List.take_of_length_le (by simp [oL_len])
  have sq:∀k es (X:List Nat),sbL k es (X.map natV)=X.map natV:=fun k es X=>sbL_pure _ _ _ (by simp)
  have lo:=oL_len w N
  have p1:=Le.frz (C:=C) (st:=⟨162,rfF w n m++[(9,.view 4 0 N)],rfM p w N++[some ⟨1,(oL w N).map natV,false⟩]⟩) 4 rfl (by simp)
  have p2:=Le.frz (C:=C) (st:=⟨162,rfF w n m++[(9,.ro ((oL w N).map natV))],rfM p w N++[some ⟨1,(oL w N).map natV,true⟩]⟩) 3 rfl (by simp)
  have p3:Le C ⟨162,rfF w n m++[(9,.ro ((oL w N).map natV))],rfR p w N++[some ⟨1,(bL w N).map natV,true⟩,some ⟨1,(oL w N).map natV,true⟩]⟩ ⟨162,rfF w n m++[(9,.ro ((oL w N).map natV))],rfR p w N⟩:=Le.syn (by simp [leS,leF,Go.Sv.get,rfF,rfR,leM,hC,ltM,ltF])
  simp [frzS,tset,tget,rfM,rfF,rfR,sq,tk,tk2,lb,lo] at p1 p2 p3
  simp only [rfBody,Tryz.f34,Option.getD_some,dropC_succ,dropC_zero] at hQ ⊢
  simp [rfM,rfF,rfR] at hQ ⊢
  exact CodeJ.le (p1.trans (p2.trans p3)) hQ
 clear hQ
 simp only [rfBody,Tryz.f34,Option.getD_some,dropC_succ,dropC_zero,takeC_succ,takeC_zero]
 simp only [rfF,rfM,List.cons_append,List.nil_append,List.length_cons,List.length_nil]
 have tk:((bL w N).map natV).take (cnt w N)=(bL w N).map natV:=List.take_of_length_le (by simp [lb])
 simp (disch:=omega) [tk,lb]
 repeat (refine And.intro (by omega) ?_)
 have ck:=cnt_le w N
 refine ⟨⟨by simp [hC],by omega⟩,?_⟩
 refine CodeJ.loopL (ι:=Nat) (fun k=>⟨162,rfF w n m++[(9,.view 4 0 (cnt w N+k - cnt w k)),(13,iv k)],rfM p w N++[some ⟨1,(oK w N k).map natV,false⟩]⟩)
  (fun k=>k≤N) (fun k=>N - k) 0 (by omega) ?_ ?_
 ·simp [leS,rfF,rfM,leM_self,oK_zero,Sx.cnt]
 ·rintro k hk
  simp only [rfF,rfM,List.cons_append,List.nil_append]
  have lk:=oK_len w N k
  have cw:=cnt_le w k
  by_cases hkN:k<N
  ·have lw:=lget_iv (l:=w) (i:=k) (by omega)
   have cs:cnt w (k+1)=cnt w k+if gt w k=1 then 1 else 0:=rfl
   have os:=oK_succ w N k
   by_cases e1:gt w k=1
   ·rw [if_pos e1] at cs os
    rw [e1] at lw
    rw [List.append_nil] at os
    simp (disch:=omega) [hkN,wr,lw,hl,w64]
    repeat (refine And.intro (by omega) ?_)
    refine ⟨k+1,by omega,by omega,?_⟩
    rw [os,cs,show cnt w N+(k+1) - (cnt w k+1)=cnt w N+k - cnt w k by omega]
    exact Le.syn (by simp (disch:=omega) [leS,hC,w64])
   ·rw [if_neg e1] at cs os
    simp (disch:=omega) [hkN,wr,lw,hl,e1,lk,w64]
    repeat (refine And.intro (by omega) ?_)
    refine ⟨⟨by simp [hC],by omega⟩,k+1,by omega,by omega,?_⟩
    rw [os,cs,show cnt w N+(k+1) - (cnt w k+0)=cnt w N+k - cnt w k+1 by omega,List.map_append]
    exact Le.syn (by simp (disch:=omega) [leS,hC,w64,natV])
  ·obtain rfl:k=N:=by omega
   simp (disch:=omega) [wr]
   repeat (refine And.intro (by omega) ?_)
   rw [oK_end]
   exact ⟨rfl,by simp [leF,Go.Sv.get],leM_self _,.inl rfl⟩
theorem rfC (p:Prob) (fw:Few p) (n m N:Nat) (hn:p.cols.length=n) (hm:p.rows.length=m) (hN:n+m=N) (h14:N≤14) (w:List Int) (hl:w.length=N) {C:Ctx} (hC:C.fx=[]) {Q:Post} (hQp:∀c st,¬Q (.panic c) st)
  (hQ:CodeJ Tryz.prog C (dropC 12 rfBody) ⟨162,rfF w n m++[(9,.ro ((oL w N).map natV)),(14,.ro ((tabR p n m N (oL w N)).map qlv))],rfR p w N⟩ Q) :
  CodeJ Tryz.prog C (dropC 10 rfBody) ⟨162,rfF w n m++[(9,.ro ((oL w N).map natV))],rfR p w N⟩ Q:=by
 have wr:IntKind.i64.wrap ((n:Int)+m)=(N:Int):=by simp (disch:=omega) [w64];omega
 have lo:=oL_len w N
 have lt:=tabR_len p n m N (oL w N)
 refine CodeJ.cutAt 2 (fun st=>st=⟨162,rfF w n m++[(9,.ro ((oL w N).map natV)),(14,.view 3 0 m)],rfR p w N++[some ⟨1,(tabR p n m N (oL w N)).map qlv,false⟩]⟩) ?_ ?_
 rotate_left 1
 ·rintro st rfl
  have tk:((tabR p n m N (oL w N)).map qlv).take m=(tabR p n m N (oL w N)).map qlv:=List.take_of_length_le (by simp [lt])
  have p1:=Le.frz (C:=C) (st:=⟨162,rfF w n m++[(9,.ro ((oL w N).map natV)),(14,.view 3 0 m)],rfR p w N++[some ⟨1,(tabR p n m N (oL w N)).map qlv,false⟩]⟩) 3 rfl (by simp)
  have sq:∀k es,sbL k es ((tabR p n m N (oL w N)).map qlv)=(tabR p n m N (oL w N)).map qlv:=fun k es=>sbL_pure _ _ _ (by simp)
  have p3:Le C ⟨162,rfF w n m++[(9,.ro ((oL w N).map natV)),(14,.ro ((tabR p n m N (oL w N)).map qlv))],rfR p w N++[some ⟨1,(tabR p n m N (oL w N)).map qlv,true⟩]⟩ ⟨162,rfF w n m++[(9,.ro ((oL w N).map natV)),(14,.ro ((tabR p n m N (oL w N)).map qlv))],rfR p w N⟩:=Le.syn (by simp [leS,leF,Go.Sv.get,rfF,rfR,leM,hC,ltM,ltF])
  simp [frzS,tset,tget,rfF,rfR,sq,tk,lt] at p1 p3
  simp only [rfBody,Tryz.f34,Option.getD_some,dropC_succ,dropC_zero] at hQ ⊢
  simp [rfF,rfR] at hQ ⊢
  exact CodeJ.le (p1.trans p3) hQ
 clear hQ
 simp only [rfBody,Tryz.f34,Option.getD_some,dropC_succ,dropC_zero,takeC_succ,takeC_zero]
 simp only [rfF,rfR,List.cons_append,List.nil_append]
 simp (disch:=omega) []
 repeat (refine And.intro (by omega) ?_)
 refine CodeJ.nil 14 1 rfl ?_
 simp
 refine CodeJ.loopL (ι:=Nat) (fun i=>⟨162,rfF w n m++[(9,.ro ((oL w N).map natV)),(14,.view 3 0 i),(15,iv i)],rfR p w N++[some ⟨1,((tabR p n m N (oL w N)).take i).map qlv,false⟩]⟩)
  (fun i=>i≤m) (fun i=>m - i) 0 (by omega) ?_ ?_
 ·simp [leS,rfF,rfR,leM_self]
 ·rintro i hi
  simp only [rfF,rfR,List.cons_append,List.nil_append]
  by_cases him:i<m
  ·have tki:=Mx.take1 qlv (l:=tabR p n m N (oL w N)) (i:=i) (by omega)
   have gi:gt (tabR p n m N (oL w N)) i=rwR p n N (oL w N) i:=by rw [tabR_eq,gt_range _ him]
   have lr:(rwR p n N (oL w N) i).length=N:=by simp [rwR]
   have gr:∀k,k<N→gt (rwR p n N (oL w N) i) k=cellR p n i (gt (oL w N) k):=fun k hk=>by unfold rwR;rw [gt_range _ hk]
   rw [gi] at tki
   generalize tabR p n m N (oL w N)=T at *
   generalize rwR p n N (oL w N) i=r at *
   simp (disch:=omega) [him]
   repeat (refine And.intro (by omega) ?_)
   refine CodeJ.nil 16 4 rfl ?_
   simp
   refine CodeJ.loopL (ι:=Nat) (fun k=>⟨162,rfF w n m++[(9,.ro ((oL w N).map natV)),(14,.view 3 0 i),(15,iv i),(16,.view 4 0 k),(17,iv k)],rfR p w N++[some ⟨1,(T.take i).map qlv,false⟩,some ⟨4,(r.take k).map qsv,false⟩]⟩)
    (fun k=>k≤N) (fun k=>N - k) 0 (by omega) ?_ ?_
   ·simp [leS,rfF,rfR,leM_self]
   ·rintro k hk
    simp only [rfF,rfR,List.cons_append,List.nil_append]
    by_cases hkN:k<N
    ·have ok:=oL_lt (w:=w) hkN
     have lok:=lget_nat (l:=oL w N) (i:=k) (by omega)
     have tkk:=Mx.take1 qsv (l:=r) (i:=k) (by omega)
     rw [gr k hkN] at tkk
     simp (disch:=omega) [hkN,wr]
     repeat (refine And.intro (by omega) ?_)
     refine CodeJ.draw (.qs [0,1,2,3,4,5,6]<|.l 7 []<|.l 8 []<|.l 9 [1000000]<|.qs [10]<|.nil) (by kernel_rfl) (by kernel_rfl) (by simpa using hQp) ?_
     simp (disch:=omega) [hkN,lo,lok]
     repeat (refine And.intro (by omega) ?_)
     refine callS (rCell_ok p fw n m i (gt (oL w N) k) hn hm him (by omega) (by omega)) (by simp) ?_
     have us:SV.usesL 4 ((T.map qlv).take i)=false:=by rw [←List.map_take,usesL_map,List.any_eq_false];intro _ _;simp
     simp (disch:=omega) [lr,us,hkN,w64]
     repeat (refine And.intro (by omega) ?_)
     refine ⟨⟨by simp [hC],by omega⟩,k+1,by omega,by omega,?_⟩
     rw [tkk]
     exact Le.syn (by simp (disch:=omega) [leS,hC,w64])
    ·obtain rfl:k=N:=by omega
     have tr:(r.map qsv).take k=r.map qsv:=List.take_of_length_le (by simp [lr])
     have sq:sbL 4 (r.map qsv) ((T.map qlv).take i)=(T.map qlv).take i:=by rw [←List.map_take];exact sbL_pure _ _ _ (by simp)
     have sq2:sbL 4 (r.map qsv) (r.map qsv)=r.map qsv:=sbL_pure _ _ _ (by simp)
     have lt4:SV.ltL 4 (T.map qlv)=true:=by rw [ltL_map,List.all_eq_true];intro _ _;rfl
     have lt5:SV.ltL 4 ((T.map qlv).take i)=true:=by rw [←List.map_take,ltL_map,List.all_eq_true];intro _ _;rfl
     simp (disch:=omega) [wr,tr,w64]
     repeat (refine And.intro (by omega) ?_)
     refine ⟨⟨by simp [hC],by omega⟩,i+1,by omega,by omega,?_⟩
     refine (Le.frz 4 rfl (by simp)).trans ?_
     simp [frzS,tset,sbL_app,sq,sq2,tr,lr]
     rw [tki]
     exact Le.syn (by simp (disch:=omega) [leS,hC,w64,lt5])
  ·obtain rfl:i=m:=by omega
   have e1:((tabR p n i N (oL w N)).map qlv).take i=(tabR p n i N (oL w N)).map qlv:=List.take_of_length_le (by simp [lt])
   simp (disch:=omega) [e1]
   repeat (refine And.intro (by omega) ?_)
   exact ⟨rfl,by simp [leF,Go.Sv.get],leM_self _,.inl rfl⟩
end Go.Proofs
set_option maxRecDepth 10000
namespace Go.Proofs
open Go.Sv Go Go.Tb Go.Pl Go.Ut Go.Mx Go.Li Go.Dt Go.Sx
theorem tabR_tw {p:Prob} {n m N:Nat} (hm:p.rows.length=m) (hw:ProbW p) (ord:List Nat):Tw m N 2200 (tabR p n m N ord) where
 l:=tabR_len ..
 r i hi:=(tabR_sh p n m N ord).r i hi
 q i k hi hk:=by
  rw [gt_tabR hi hk]
  unfold cellR
  split
  ·exact qw_entT (by omega) fun q hq=>hw.te i (by omega) q hq
  ·split
   ·exact qw_mono (qw_neg (qw_small (n:=1) (by omega) (by omega))) (by omega)
   ·exact qw_zero (by omega)
theorem rfNo2 {c:Tc} {K:(Nat→Rat)→Prop} {cst:Nat→Rat} {w:List Int} {l:List Nat} {M:Tab} (hno:¬IsB c K w) :
  fin M (.tup [.agg [.ro (l.map natV),.val (.slice none 0 0),.val (.slice none 0 0),.val (.slice none 0 0)],.val (.bool false)]) (FrP c K cst w) :=
 ⟨.tup [.agg [.ro (l.map natV),.ro [],.ro [],.ro []],.val (.bool false)],by simp,.inr ⟨hno,l,rfl⟩⟩
theorem rfD (p:Prob) (n m N:Nat) (hn:p.cols.length=n) (hm:p.rows.length=m) (hN:n+m=N) (h14:N≤14) (h7:m≤7) (hw:ProbW p) (w:List Int) (hl:w.length=N) (hfit:∀k,k<N→Sx.fit (frC p n m N) w k) (hcn:cnt w N=m) {C:Ctx} (hC:C.fx=[]) :
  CodeJ Tryz.prog C (dropC 12 rfBody) ⟨162,rfF w n m++[(9,.ro ((oL w N).map natV)),(14,.ro ((tabR p n m N (oL w N)).map qlv))],rfR p w N⟩ (retQ Tryz.prog [.cell 4 91,.tmp 5] (FrP (frC p n m N) (Kp p n m) (cstP p n) w)):=by
 have tw:=tabR_tw (n:=n) (N:=N) hm hw (oL w N)
 have ro:=rRedN_ok _ m N tw h7 (by omega)
 have re:=red_end (tabR_sh p n m N (oL w N)) (show m≤N by omega)
 have rw':=(redAt_ok tw N (Nat.le_refl _))
 have no:∀b,b<m→RedN N (tabR p n m N (oL w N)) (redAt (tabR p n m N (oL w N)) N).2 b→¬IsB (frC p n m N) (Kp p n m) w:=fun b hb h=>redN_no (c:=frC p n m N) hN hcn hb h
 have yes:∀s,RedY m N (tabR p n m N (oL w N)) s m→IsB (frC p n m N) (Kp p n m) w∧IsF (frC p n m N) (Kp p n m) w (cstP p n) ((List.range m).map (byD w N m s.1)) (xS (xw (frC p n m N) w) w N m s.1 m) (coL (cstP p n) w N m s.1 m 0):=fun s h=>⟨redY_isB (c:=frC p n m N) hN hl hfit hcn h,isF_doc (c:=frC p n m N) hN hcn h (cstP p n)⟩
 generalize redAt (tabR p n m N (oL w N)) N=s at *
 obtain ⟨R,f⟩:=s
 simp only at rw' ro re no
 simp only [rfBody,Tryz.f34,Option.getD_some,dropC_succ,dropC_zero]
 refine CodeJ.go ?_
 simp only [rfF,rfR,List.cons_append,List.nil_append]
 simp
 refine callS (ro) (by simp) ?_
 simp
 refine CodeJ.loopL (ι:=Nat) (fun i=>⟨162,rfF w n m++[(9,.ro ((oL w N).map natV)),(18,.ro (R.map qlv)),(19,.ro (f.map natV)),(20,iv i)],rfR p w N⟩)
  (fun i=>i≤m∧∀q,q<i→q<f.length∧gt f q=q) (fun i=>m - i) 0 ⟨by omega,fun q hq=>by omega⟩ ?_ ?_
 ·simp [leS,rfF,rfR,leM_self]
 ·rintro i ⟨hi,hq⟩
  simp only [rfF,rfR,List.cons_append,List.nil_append]
  by_cases him:i<m
  ·have bad:¬(i<f.length∧gt f i=i)→¬IsB (frC p n m N) (Kp p n m) w:=fun h=>by
    rcases re with g | ⟨b,hb,g⟩
    ·have e:f=List.range m:=g.f
     exfalso;apply h
     rw [e];exact ⟨by simpa using him,by simp [gt,him]⟩
    ·exact no b hb g
   by_cases h1:i<f.length
   ·have lf:=lget_nat (l:=f) (i:=i) h1
    have h1n:¬f.length≤i:=by omega
    by_cases h2:gt f i=i
    ·rw [h2] at lf
     simp (disch:=omega) [him,h1,h1n,lf,w64]
     repeat (refine And.intro (by omega) ?_)
     refine ⟨i+1,⟨by omega,fun q hqi=>?_⟩,by omega,Le.syn (by simp (disch:=omega) [leS,hC,w64])⟩
     by_cases e:q=i
     ·rw [e];exact ⟨h1,h2⟩
     ·exact hq q (by omega)
    ·have h2':¬((gt f i:Nat):Int)=(i:Int):=by omega
     simp (disch:=omega) [him,h1,h1n,lf,h2']
     repeat (refine And.intro (by omega) ?_)
     exact rfNo2 (bad fun h=>h2 h.2)
   ·have h1':f.length≤i:=by omega
    simp (disch:=omega) [him,h1,h1']
    repeat (refine And.intro (by omega) ?_)
    exact rfNo2 (bad fun h=>h1 h.1)
  ·obtain rfl:i=m:=by omega
   rcases re with g | ⟨b,hb,g⟩
   ·have sh:=g.sh
    have e:f=List.range i:=g.f
    have el:f.length=i:=by rw [e];simp
    rw [el] at rw'
    have p7:2200*5^i≤171875000:=pow7_le (Nat.le_refl _) h7
    obtain ⟨y1,y2⟩:=yes _ g
    have fw:=frW_doc (f:=xw (frC p n i N) w) (g:=cstP p n) (w:=w) (W:=171875000) (R:=R) (by omega) (by omega) h14 h7 hcn (fun a k ha hk=>qw_mono (rw'.1.q a k ha hk) p7) (fun k hk=>xw_wd (fr_bw hn hm hN hw) w hk) (fun k hk=>by
     unfold cstP;split
     ·exact (hw.co k (by omega)).1
     ·exact qw_zero (by omega))
    have fo:=rFill_ok p n i N 171875000 hn hm hN h14 h7 w hl hcn hfit R sh.l sh.r (by omega) (by omega) (fun a k ha hk=>qw_mono (rw'.1.q a k ha hk) p7) hw
    generalize (List.range i).map (byD w N i R)=B at *
    generalize xS (xw (frC p n i N) w) w N i R i=X at *
    generalize coL (cstP p n) w N i R i 0=Co at *
    unfold frP at fo
    simp (disch:=omega) []
    repeat (refine And.intro (by omega) ?_)
    refine callT (fo) [2] (by simp) (by simp) (by simp) (by simp) (by simp) ?_
    rintro T y ⟨rfl,rfl⟩
    simp
    repeat (refine And.intro (by omega) ?_)
    exact ⟨.tup [frP (bL w N) B X Co,.val (.bool true)],by unfold frP;exact Sub_self _ _ (by simp),.inl ⟨y1,B,X,Co,y2,fw,rfl⟩⟩
   ·exfalso
    have:=hq b hb
    rcases g.miss with q | q
    ·omega
    ·exact q this.2
theorem rFrameOf_ok (p:Prob) (fw:Few p) (n m N:Nat) (hn:p.cols.length=n) (hm:p.rows.length=m) (hN:n+m=N) (h14:N≤14) (h7:m≤7) (hw:ProbW p) (w:List Int) (hwl:w.length≤1048576) :
  PureC Tryz.prog 34 [probP p,.ro (w.map iv)] (FrP (frC p n m N) (Kp p n m) (cstP p n) w):=by
 refine pure_enterJ Tryz.func34 rfl (by simp) (fun C hC=>?_)
 show CodeJ _ _ rfBody _ _
 refine rfA p n m N hn hm hN h14 w hwl hC (fun hl hfit hcn=>?_)
 refine rfB p n m N hm hN h14 w hl hcn hC (fun c st h=>h) ?_
 refine rfC p fw n m N hn hm hN h14 w hl hC (fun c st h=>h) ?_
 exact rfD p n m N hn hm hN h14 h7 hw w hl hfit hcn hC
end Go.Proofs


/- A text of the prover's own. -/
import Derived.Test.YtnimjdcaajmfcaaGreatDoorUSj
namespace Go.Proofs
open Go.Sv Go Go.Tb Go.Pl Go.Ut Go.Sx
def regsC:Code→List (Array Oper)
 | .region _ o _=>[o]
 | .seq x y=>regsC x++regsC y
 | .block _ c=>regsC c
 | .loop c=>regsC c
 | .cond _ x y=>regsC x++regsC y
 | _=>[]
noncomputable def fbops:Array Oper:=(regsC freshBody).getD 7 #[]
def fbp0:Pl:=.nil
def fbl0:Array Bool:=#[true,true,true,true,true,true,true,true,true,true,true,true,true,true,true,true,true,true,true,true,true,true,true,true]
theorem fbo0:planOK fbops fbl0 fbp0=true:=by
 unfold fbp0
 kernel_rfl
def fbp1:Pl:=.q 21 [] (.q 22 [] (.l 23 [0,1000000] fbp0))
def fbl1:Array Bool:=#[true,true,true,true,true,true,true,true,true,true,true,true,true,true,true,true,true,true,true,true,true,false,false,false]
theorem fbo1:planOK fbops fbl1 fbp1=true:=by
 unfold fbp1
 refine planOK_q (by kernel_rfl) ?_
 refine planOK_q (by kernel_rfl) ?_
 refine planOK_l (by kernel_rfl) ?_
 exact planOK_at fbo0 (by kernel_rfl)
def fbp2:Pl:=.q 18 [] (.q 19 [] (.l 20 [0,1000000] fbp1))
def fbl2:Array Bool:=#[true,true,true,true,true,true,true,true,true,true,true,true,true,true,true,true,true,true,false,false,false,false,false,false]
theorem fbo2:planOK fbops fbl2 fbp2=true:=by
 unfold fbp2
 refine planOK_q (by kernel_rfl) ?_
 refine planOK_q (by kernel_rfl) ?_
 refine planOK_l (by kernel_rfl) ?_
 exact planOK_at fbo1 (by kernel_rfl)
def fbp3:Pl:=.l 17 [1000000] fbp2
def fbl3:Array Bool:=#[true,true,true,true,true,true,true,true,true,true,true,true,true,true,true,true,true,false,false,false,false,false,false,false]
theorem fbo3:planOK fbops fbl3 fbp3=true:=by
 unfold fbp3
 refine planOK_l (by kernel_rfl) ?_
 exact planOK_at fbo2 (by kernel_rfl)
def fbp4:Pl:=.l 16 [] fbp3
def fbl4:Array Bool:=#[true,true,true,true,true,true,true,true,true,true,true,true,true,true,true,true,false,false,false,false,false,false,false,false]
theorem fbo4:planOK fbops fbl4 fbp4=true:=by
 unfold fbp4
 refine planOK_l (by kernel_rfl) ?_
 exact planOK_at fbo3 (by kernel_rfl)
def fbp5:Pl:=.l 15 [] fbp4
def fbl5:Array Bool:=#[true,true,true,true,true,true,true,true,true,true,true,true,true,true,true,false,false,false,false,false,false,false,false,false]
theorem fbo5:planOK fbops fbl5 fbp5=true:=by
 unfold fbp5
 refine planOK_l (by kernel_rfl) ?_
 exact planOK_at fbo4 (by kernel_rfl)
def fbp6:Pl:=.l 13 [] fbp3
def fbl6:Array Bool:=#[true,true,true,true,true,true,true,true,true,true,true,true,true,false,true,true,true,false,false,false,false,false,false,false]
theorem fbo6:planOK fbops fbl6 fbp6=true:=by
 unfold fbp6
 refine planOK_l (by kernel_rfl) ?_
 exact planOK_at fbo3 (by kernel_rfl)
def fbp7:Pl:=.alt 13 [] fbp4 (.alt 16 [] fbp6 (.stop))
def fbl7:Array Bool:=#[true,true,true,true,true,true,true,true,true,true,true,true,true,false,true,true,false,false,false,false,false,false,false,false]
theorem fbo7:planOK fbops fbl7 fbp7=true:=by
 unfold fbp7
 refine planOK_alt (by kernel_rfl) ?_
 refine altOK_c (planOK_at fbo4 (by kernel_rfl)) ?_
 refine altOK_c (planOK_at fbo6 (by kernel_rfl)) ?_
 rfl
def fbp8:Pl:=.alt 13 [] fbp5 (.alt 15 [] fbp7 (.stop))
def fbl8:Array Bool:=#[true,true,true,true,true,true,true,true,true,true,true,true,true,false,true,false,false,false,false,false,false,false,false,false]
theorem fbo8:planOK fbops fbl8 fbp8=true:=by
 unfold fbp8
 refine planOK_alt (by kernel_rfl) ?_
 refine altOK_c (planOK_at fbo5 (by kernel_rfl)) ?_
 refine altOK_c (planOK_at fbo7 (by kernel_rfl)) ?_
 rfl
def fbp9:Pl:=.l 9 [1000000] fbp3
def fbl9:Array Bool:=#[true,true,true,true,true,true,true,true,true,false,true,true,true,true,true,true,true,false,false,false,false,false,false,false]
theorem fbo9:planOK fbops fbl9 fbp9=true:=by
 unfold fbp9
 refine planOK_l (by kernel_rfl) ?_
 exact planOK_at fbo3 (by kernel_rfl)
def fbp10:Pl:=.alt 9 [1000000] fbp4 (.alt 16 [] fbp9 (.stop))
def fbl10:Array Bool:=#[true,true,true,true,true,true,true,true,true,false,true,true,true,true,true,true,false,false,false,false,false,false,false,false]
theorem fbo10:planOK fbops fbl10 fbp10=true:=by
 unfold fbp10
 refine planOK_alt (by kernel_rfl) ?_
 refine altOK_c (planOK_at fbo4 (by kernel_rfl)) ?_
 refine altOK_c (planOK_at fbo9 (by kernel_rfl)) ?_
 rfl
def fbp11:Pl:=.alt 9 [1000000] fbp5 (.alt 15 [] fbp10 (.stop))
def fbl11:Array Bool:=#[true,true,true,true,true,true,true,true,true,false,true,true,true,true,true,false,false,false,false,false,false,false,false,false]
theorem fbo11:planOK fbops fbl11 fbp11=true:=by
 unfold fbp11
 refine planOK_alt (by kernel_rfl) ?_
 refine altOK_c (planOK_at fbo5 (by kernel_rfl)) ?_
 refine altOK_c (planOK_at fbo10 (by kernel_rfl)) ?_
 rfl
def fbp12:Pl:=.alt 9 [1000000] fbp6 (.alt 13 [] fbp9 (.stop))
def fbl12:Array Bool:=#[true,true,true,true,true,true,true,true,true,false,true,true,true,false,true,true,true,false,false,false,false,false,false,false]
theorem fbo12:planOK fbops fbl12 fbp12=true:=by
 unfold fbp12
 refine planOK_alt (by kernel_rfl) ?_
 refine altOK_c (planOK_at fbo6 (by kernel_rfl)) ?_
 refine altOK_c (planOK_at fbo9 (by kernel_rfl)) ?_
 rfl
def fbp13:Pl:=.alt 9 [1000000] fbp7 (.alt 13 [] fbp10 (.alt 16 [] fbp12 (.stop)))
def fbl13:Array Bool:=#[true,true,true,true,true,true,true,true,true,false,true,true,true,false,true,true,false,false,false,false,false,false,false,false]
theorem fbo13:planOK fbops fbl13 fbp13=true:=by
 unfold fbp13
 refine planOK_alt (by kernel_rfl) ?_
 refine altOK_c (planOK_at fbo7 (by kernel_rfl)) ?_
 refine altOK_c (planOK_at fbo10 (by kernel_rfl)) ?_
 refine altOK_c (planOK_at fbo12 (by kernel_rfl)) ?_
 rfl
def fbp14:Pl:=.alt 9 [1000000] fbp8 (.alt 13 [] fbp11 (.alt 15 [] fbp13 (.stop)))
def fbl14:Array Bool:=#[true,true,true,true,true,true,true,true,true,false,true,true,true,false,true,false,false,false,false,false,false,false,false,false]
theorem fbo14:planOK fbops fbl14 fbp14=true:=by
 unfold fbp14
 refine planOK_alt (by kernel_rfl) ?_
 refine altOK_c (planOK_at fbo8 (by kernel_rfl)) ?_
 refine altOK_c (planOK_at fbo11 (by kernel_rfl)) ?_
 refine altOK_c (planOK_at fbo13 (by kernel_rfl)) ?_
 rfl
def fbp15:Pl:=.l 8 [] fbp9
def fbl15:Array Bool:=#[true,true,true,true,true,true,true,true,false,false,true,true,true,true,true,true,true,false,false,false,false,false,false,false]
theorem fbo15:planOK fbops fbl15 fbp15=true:=by
 unfold fbp15
 refine planOK_l (by kernel_rfl) ?_
 exact planOK_at fbo9 (by kernel_rfl)
def fbp16:Pl:=.alt 8 [] fbp10 (.alt 16 [] fbp15 (.stop))
def fbl16:Array Bool:=#[true,true,true,true,true,true,true,true,false,false,true,true,true,true,true,true,false,false,false,false,false,false,false,false]
theorem fbo16:planOK fbops fbl16 fbp16=true:=by
 unfold fbp16
 refine planOK_alt (by kernel_rfl) ?_
 refine altOK_c (planOK_at fbo10 (by kernel_rfl)) ?_
 refine altOK_c (planOK_at fbo15 (by kernel_rfl)) ?_
 rfl
def fbp17:Pl:=.alt 8 [] fbp11 (.alt 15 [] fbp16 (.stop))
def fbl17:Array Bool:=#[true,true,true,true,true,true,true,true,false,false,true,true,true,true,true,false,false,false,false,false,false,false,false,false]
theorem fbo17:planOK fbops fbl17 fbp17=true:=by
 unfold fbp17
 refine planOK_alt (by kernel_rfl) ?_
 refine altOK_c (planOK_at fbo11 (by kernel_rfl)) ?_
 refine altOK_c (planOK_at fbo16 (by kernel_rfl)) ?_
 rfl
def fbp18:Pl:=.alt 8 [] fbp12 (.alt 13 [] fbp15 (.stop))
def fbl18:Array Bool:=#[true,true,true,true,true,true,true,true,false,false,true,true,true,false,true,true,true,false,false,false,false,false,false,false]
theorem fbo18:planOK fbops fbl18 fbp18=true:=by
 unfold fbp18
 refine planOK_alt (by kernel_rfl) ?_
 refine altOK_c (planOK_at fbo12 (by kernel_rfl)) ?_
 refine altOK_c (planOK_at fbo15 (by kernel_rfl)) ?_
 rfl
def fbp19:Pl:=.alt 8 [] fbp13 (.alt 13 [] fbp16 (.alt 16 [] fbp18 (.stop)))
def fbl19:Array Bool:=#[true,true,true,true,true,true,true,true,false,false,true,true,true,false,true,true,false,false,false,false,false,false,false,false]
theorem fbo19:planOK fbops fbl19 fbp19=true:=by
 unfold fbp19
 refine planOK_alt (by kernel_rfl) ?_
 refine altOK_c (planOK_at fbo13 (by kernel_rfl)) ?_
 refine altOK_c (planOK_at fbo16 (by kernel_rfl)) ?_
 refine altOK_c (planOK_at fbo18 (by kernel_rfl)) ?_
 rfl
def fbp20:Pl:=.q 0 [] (.q 1 [] (.q 2 [] (.q 3 [] (.q 4 [] (.q 5 [] (.q 6 [] (.q 7 [] (.q 10 [] (.q 11 [] (.q 12 [] (.q 14 [] (.alt 8 [] fbp14 (.alt 13 [] fbp17 (.alt 15 [] fbp19 (.stop)))))))))))))))
def fbl20:Array Bool:=#[false,false,false,false,false,false,false,false,false,false,false,false,false,false,false,false,false,false,false,false,false,false,false,false]
theorem fbo20:planOK fbops fbl20 fbp20=true:=by
 unfold fbp20
 refine planOK_q (by kernel_rfl) ?_
 refine planOK_q (by kernel_rfl) ?_
 refine planOK_q (by kernel_rfl) ?_
 refine planOK_q (by kernel_rfl) ?_
 refine planOK_q (by kernel_rfl) ?_
 refine planOK_q (by kernel_rfl) ?_
 refine planOK_q (by kernel_rfl) ?_
 refine planOK_q (by kernel_rfl) ?_
 refine planOK_q (by kernel_rfl) ?_
 refine planOK_q (by kernel_rfl) ?_
 refine planOK_q (by kernel_rfl) ?_
 refine planOK_q (by kernel_rfl) ?_
 refine planOK_alt (by kernel_rfl) ?_
 refine altOK_c (planOK_at fbo14 (by kernel_rfl)) ?_
 refine altOK_c (planOK_at fbo17 (by kernel_rfl)) ?_
 refine altOK_c (planOK_at fbo19 (by kernel_rfl)) ?_
 rfl
theorem fb_plan:(Region.noSelect fbops&&(planOK fbops (Array.replicate fbops.size false) fbp20&&decide (fbp20.len≤fbops.size)))=true:=by
 rw [Bool.and_eq_true,Bool.and_eq_true]
 exact ⟨by kernel_rfl,planOK_at fbo20 (by kernel_rfl),by kernel_rfl⟩
end Go.Proofs
set_option maxRecDepth 10000
set_option maxHeartbeats 4000000
namespace Go.Sx
open Go Go.Sv Go.Pl Go.Proofs Go.Tb Go.Ut Go.Mx Go.Li Go.Dt
def ups {α:Type} (N j:Nat) (f:Nat→α) (d:α):List α:=(List.range N).map fun k=>if k<j then f k else d
@[simp] theorem ups_len {α:Type} (N j:Nat) (f:Nat→α) (d:α):(ups N j f d).length=N:=by simp [ups]
theorem gt_ups {α:Type} [Inhabited α] {N j k:Nat} {f:Nat→α} {d:α} (h:k<N):gt (ups N j f d) k=if k<j then f k else d:=by unfold ups;rw [gt_range _ h]
theorem ups_zero {α:Type} (N:Nat) (f:Nat→α) (d:α):ups N 0 f d=List.replicate N d:=by simp [ups,List.map_const']
theorem ups_set {α:Type} [Inhabited α] {N j:Nat} {f:Nat→α} {d:α}:(ups N j f d).set j (f j)=ups N (j+1) f d:=ext_gt' (by simp) fun k hk=>by
 have hk:k<N:=by simpa using hk
 rw [gt_set (by simpa using hk),gt_ups hk,gt_ups hk]
 by_cases e:j=k
 ·subst e;rw [if_pos rfl,if_pos (by omega)]
 ·rw [if_neg e]
  by_cases q:k<j
  ·rw [if_pos q,if_pos (by omega)]
  ·rw [if_neg q,if_neg (by omega)]
def fS (p:Prob) (n m N kl kb:Nat):SV:=.agg [.rop (probQ p) 0,iv n,iv m,.view 5 0 kl,.view 6 0 kl,.view 4 0 N,.view 1 0 N,.view 2 0 N,.view 7 0 kb,.view 3 0 N,.view 8 0 kb]
def rw9 (N i:Nat):SV:=.view (i+9) 0 N
def byF (N kb:Nat):List SV:=(List.range kb).map (rw9 N)
def fHx (p:Prob) (n m N kl kb:Nat) (wh:List Int) (x:List SV) (row:List Int) (cost:List Rat) (low high:List Bo) (basic:List Nat):Tab :=
 [some ⟨11,[fS p n m N kl kb],false⟩,some ⟨1,wh.map iv,false⟩,some ⟨4,x,false⟩,some ⟨1,row.map iv,false⟩,some ⟨4,cost.map rsv,false⟩,some ⟨5,low.map boQ,false⟩,some ⟨5,high.map boQ,false⟩,some ⟨1,basic.map natV,false⟩,some ⟨1,byF N kb,false⟩]
abbrev fH (p:Prob) (n m N kl kb:Nat) (wh:List Int) (x:List Rat) (row:List Int) (cost:List Rat) (low high:List Bo) (basic:List Nat):Tab:=fHx p n m N kl kb wh (x.map rsv) row cost low high basic
def nr:SV:=.agg [.val (.bool false),.val (.slice none 0 0),.val (.bool false),.val (.slice none 0 0)]
def rsW (p:Prob) (k:Nat):Int:=if (gt p.cols k).low.has=true then 2 else if (gt p.cols k).high.has=true then 3 else 0
def rsX (p:Prob) (k:Nat):Rat:=if (gt p.cols k).low.has=true then (gt p.cols k).low.at' else if (gt p.cols k).high.has=true then (gt p.cols k).high.at' else 0
def fcC (p:Prob) (k:Nat):Rat:=if p.max=true then -(gt p.cols k).cost else (gt p.cols k).cost
def lowC (p:Prob):List Bo:=p.cols.map (·.low)
def highC (p:Prob):List Bo:=p.cols.map (·.high)
def fB (p:Prob) (n m N j:Nat):Tab:=fH p n m N j 0 (ups N j (rsW p) 0) (ups N j (rsX p) 0) (ups N j (fun _ => -1) 0) (ups N j (fcC p) 0) ((lowC p).take j) ((highC p).take j) []
theorem nlL_zr (N:Nat):nlL (zr N)=(List.replicate N (0:Rat)).map rsv:=by
 unfold zr
 rw [nlL_rep,List.map_replicate,show nlV (.agg [.val (.bool false),.val (.slice none 0 0),.val (.bool false),.val (.slice none 0 0)])=rsv 0 by rw [←rsv0];rfl]
theorem fA_le (p:Prob) (n m N:Nat) {C:Ctx}:Le C ⟨217,[(0,.rop (probQ p) 0),(3,.ptr 0 0 0),(4,iv N)],fAT p n m N⟩ ⟨217,[(0,.rop (probQ p) 0),(3,.ptr 0 0 0),(4,iv N)],fB p n m N 0⟩:=by
 refine (Le.nilCell 0 3 5 rfl rfl rfl rfl (by simp)).trans ?_
 refine (Le.nilCell 0 4 5 rfl rfl rfl rfl (by simp [lset])).trans ?_
 refine (Le.nilCell 0 8 1 rfl rfl rfl rfl (by simp [lset])).trans ?_
 refine (Le.nilCell 0 10 1 rfl rfl rfl rfl (by simp [lset])).trans ?_
 refine (Le.nl _).trans ?_
 refine Le.syn ⟨rfl,by simp [nlS,leF,Go.Sv.get],?_,.inl ?_⟩
 ·simp [nlS,fAT,fA,fB,fH,fHx,fS,tset,lset,leM,nlL_zr,ups_zero,byF,zi,nlL_rep]
 ·simp [nlS,nlM,fAT,fB,fH,fHx,tset]
end Go.Sx
namespace Go.Proofs
open Go.Sv Go Go.Tb Go.Pl Go.Ut Go.Mx Go.Li Go.Dt Go.Sx
theorem okW_ld {ks:List Nat} {st:St} {t:TypeId} {x:Operand}:okW ks st (.load t x)=True:=rfl
theorem okA_ld {ks:List Nat} {r:Pl} {t:TypeId} {x:Operand}:okA ks r (.load t x)=True:=rfl
theorem boQ_v (b:Bo):SV.agg (List.take 4 (boQ b).cells.tail)=rsv b.at':=rfl
theorem restJ (p:Prob) (n m N j kl kb:Nat) (wh:List Int) (x:List Rat) (row:List Int) (cost:List Rat) (low high:List Bo) (basic:List Nat) (J:Tab) {k:Tab→List Nat→SV→Prop} {C:Ctx} (hC:C.fx=[]) (hwl:wh.length=N) (hxl:x.length=N) (hj:j<N) (hjk:j<kl) (hll:low.length=kl) (hhl:high.length=kl) (hl:gt low j=(gt p.cols j).low) (hh:gt high j=(gt p.cols j).high)
  (hk:k (fH p n m N kl kb (wh.set j (rsW p j)) (x.set j (rsX p j)) row cost low high basic++J) [] (.tup []))
  (hz:(gt p.cols j).low.has=false→(gt p.cols j).high.has=false→k (fHx p n m N kl kb (wh.set j 0) (lset (x.map rsv) j nr) row cost low high basic++J) [] (.tup [])) :
  CallJ Tryz.prog C 119 [.ptr 0 0 0,.val (.int .i64 (j:Int))] (fH p n m N kl kb wh x row cost low high basic++J) none k:=by
 have gw:lget (wh.map iv) j=iv (gt wh j):=lget_iv (by omega)
 have gx:lget (x.map rsv) j=rsv (gt x j):=lget_m _ (by omega)
 have gl:lget (low.map boQ) j=boQ (gt p.cols j).low:=by rw [lget_m _ (by omega),hl]
 have gh:lget (high.map boQ) j=boQ (gt p.cols j).high:=by rw [lget_m _ (by omega),hh]
 have sx:∀v:Rat,lset (x.map rsv) j (rsv v)=(x.set j v).map rsv:=fun v=>lset_rat
 refine call_here Tryz.func119 rfl (by simp) [] (by simp) (by simp) (fun C' hC'=>?_)
 simp only [fH,fHx,fS]
 simp (disch:=omega) [gw,gx,gl,gh,lset_iv,hwl,hxl,hll,hhl]
 repeat (refine And.intro (by omega) ?_)
 refine ⟨fun e1=>?_,fun e1=>⟨by omega,fun e2=>?_,fun e2=>?_⟩⟩
 ·refine CodeJ.draw (.qs [0,1,2,3,4,5,6,7,8,9,10,11,12,13,14,15,16,17,18]<|.l 19 [1]<|.qs [20]<|.l 21 [2] .nil) (by kernel_rfl) (by kernel_rfl) (by simp) ?_
  simp (disch:=omega) [gw,gx,gl,gh,lset_iv,sx,hwl,hxl,hll,hhl]
  repeat (refine And.intro (by omega) ?_)
  have er:rsW p j=2:=by unfold rsW;rw [if_pos e1]
  have ex:rsX p j=(gt p.cols j).low.at':=by unfold rsX;rw [if_pos e1]
  rw [er,ex] at hk
  simpa [fH,fHx,fS,boQ_v,sx,List.map_set] using hk
 ·refine CodeJ.draw (.qs [0,1,2,3,4,5,6,7,8,9,10,11,12,13,14,15,16,17,18]<|.l 19 [1]<|.qs [20]<|.l 21 [2] .nil) (by kernel_rfl) (by kernel_rfl) (by simp) ?_
  simp (disch:=omega) [gw,gx,gl,gh,lset_iv,sx,hwl,hxl,hll,hhl]
  repeat (refine And.intro (by omega) ?_)
  have er:rsW p j=3:=by unfold rsW;rw [if_neg (by simp [e1]),if_pos e2]
  have ex:rsX p j=(gt p.cols j).high.at':=by unfold rsX;rw [if_neg (by simp [e1]),if_pos e2]
  rw [er,ex] at hk
  simpa [fH,fHx,fS,boQ_v,sx,List.map_set] using hk
 ·refine CodeJ.draw (.qs [0,1,2,3,4,5,6,7,8,9,10,11]<|.l 12 [1]<|.qs [13]<|.l 14 [2] .nil) (by kernel_rfl) (by kernel_rfl) (by simp) ?_
  simp (disch:=omega) [gw,gx,gl,gh,lset_iv,sx,hwl,hxl,hll,hhl]
  repeat (refine And.intro (by omega) ?_)
  simpa [fH,fHx,fS,boQ_v,sx,List.map_set,nr] using hz e1 e2
theorem callM {P:Program} {C:Ctx} {f:FuncId} {a:List SV} {M M':Tab} {W:Option (List Nat)} {k:Tab→List Nat→SV→Prop} (e:M=M') (h:CallJ P C f a M' W k):CallJ P C f a M W k:=by rw [e];exact h
theorem gt_snoc {L:List Bo} {b:Bo} {j:Nat} (h:L.length=j):gt (L++[b]) j=b:=by subst h;simp [gt]
theorem nr_nl:nlV nr=rsv 0:=by rw [←rsv0];rfl
theorem nlL_app:∀(l r:List SV),nlL (l++r)=nlL l++nlL r
 | [],r=>rfl
 | x::l,r=>by simp only [List.cons_append,nlL];rw [nlL_app l r]
theorem byF_z (N:Nat):byF N 0=[]:=rfl
theorem freshB (p:Prob) (n m N:Nat) (hn:p.cols.length=n) (hN:n+m=N) (h14:N≤14) {C:Ctx} (hC:C.fx=[]) {Q:Post} (hQp:∀c st,¬Q (.panic c) st) (hQ:CodeJ Tryz.prog C (dropC 5 freshBody) ⟨217,[(0,.rop (probQ p) 0),(3,.ptr 0 0 0),(4,iv N)],fB p n m N n⟩ Q) :
  CodeJ Tryz.prog C (dropC 4 freshBody) ⟨217,[(0,.rop (probQ p) 0),(3,.ptr 0 0 0),(4,iv N)],fAT p n m N⟩ Q:=by
 refine CodeJ.le (fA_le p n m N) ?_
 refine CodeJ.cutAt 1 (fun st=>st=⟨217,[(0,.rop (probQ p) 0),(3,.ptr 0 0 0),(4,iv N)],fB p n m N n⟩) ?_ ?_
 rotate_left 1
 ·rintro st rfl
  simp only [freshBody,Tryz.f77,Option.getD_some,dropC_succ,dropC_zero] at hQ ⊢
  exact hQ
 simp only [freshBody,Tryz.f77,Option.getD_some,dropC_succ,dropC_zero,takeC_succ,takeC_zero]
 simp only [fB,fH,fHx,fS]
 simp (disch:=omega) [probQ,hn]
 repeat (refine And.intro (by omega) ?_)
 refine CodeJ.loopL (ι:=Nat) (fun j=>⟨217,[(0,.rop (probQ p) 0),(3,.ptr 0 0 0),(4,iv N),(57,.ro (p.cols.map colQ)),(58,iv n),(59,iv j)],fB p n m N j⟩)
  (fun j=>j≤n) (fun j=>n - j) 0 (by simp) ?_ ?_
 ·exact ⟨rfl,by simp [leF,Go.Sv.get,probQ],leM_self _,.inl rfl⟩
 ·rintro j hj
  simp only [fB,fH,fHx,fS]
  by_cases hjn:j<n
  ·have lc:lget (p.cols.map colQ) j=colQ (gt p.cols j):=lget_m _ (by omega)
   have tl:(lowC p).take (j+1)=(lowC p).take j++[(gt p.cols j).low]:=by rw [take_gt (by simp [lowC];omega)];simp [lowC,gt_map _ (show j<p.cols.length by omega)]
   have th:(highC p).take (j+1)=(highC p).take j++[(gt p.cols j).high]:=by rw [take_gt (by simp [highC];omega)];simp [highC,gt_map _ (show j<p.cols.length by omega)]
   have ll:((lowC p).take j).length=j:=by simp [lowC];omega
   have lh:((highC p).take j).length=j:=by simp [highC];omega
   generalize hL:(lowC p).take j=L at *
   generalize hH:(highC p).take j=Hh at *
   simp (disch:=omega) [hjn,hn,lc]
   repeat (refine And.intro (by omega) ?_)
   refine CodeJ.drawTo fbp20 ⟨217,[(0,.rop (probQ p) 0),(3,.ptr 0 0 0),(4,iv N),(5,iv j),(6,.ptr 9 0 0),(57,.ro (p.cols.map colQ)),(58,iv n),(59,iv j)],fH p n m N (j+1) 0 (ups N j (rsW p) 0) (ups N j (rsX p) 0) (ups N j (fun _ => -1) 0) (ups N j (fcC p) 0) (L++[(gt p.cols j).low]) (Hh++[(gt p.cols j).high]) []++[some ⟨16,[colQ (gt p.cols j)],false⟩]⟩ (by kernel_rfl) fb_plan ?_ ?_
   ·simp only [fbp20,fbp19,fbp18,fbp17,fbp16,fbp15,fbp14,fbp13,fbp12,fbp11,fbp10,fbp9,fbp8,fbp7,fbp6,fbp5,fbp4,fbp3,fbp2,fbp1,fbp0]
    have w3:(j+1)*72≤70368744177664:=by omega
    simp [ll,lh,hC,byF_z,okW_ld,okA_ld,leS,leF,Go.Sv.get,fH,fHx,fS,w3,leM_self]
   ·simp only [fH,fHx,fS,byF_z]
    have tlm:List.take (j+1) ((lowC p).map boQ)=L.map boQ++[boQ (gt p.cols j).low]:=by rw [←List.map_take,tl];simp
    have thm:List.take (j+1) ((highC p).map boQ)=Hh.map boQ++[boQ (gt p.cols j).high]:=by rw [←List.map_take,th];simp
    clear hQ tl th
    have bn:∀b:Bo,nlV (boQ b)=boQ b:=fun _=>rfl
    have gc:∀(l:List Rat),l.length=N→lget (l.map rsv) j=rsv (gt l j):=fun l h=>lget_m _ (by omega)
    have gr:=lget_iv (l:=ups N j (fun _=>(-1:Int)) 0) (i:=j) (by simp;omega)
    have g1:=gc (ups N j (fcC p) 0) (by simp)
    have g2:∀v,lget (((ups N j (fcC p) 0).set j v).map rsv) j=rsv (gt ((ups N j (fcC p) 0).set j v) j):=fun v=>gc _ (by simp)
    simp (disch:=omega) []
    repeat (refine And.intro (by omega) ?_)
    refine CodeJ.draw (.qs [0,1,2,3,4,5,6,7]<|.l 8 [4] .nil) (by kernel_rfl) (by kernel_rfl) (by simpa using hQp) ?_
    simp (disch:=omega) [g1,gr,lset_rat,lset_iv, -List.map_set]
    repeat (refine And.intro (by omega) ?_)
    refine ⟨fun e1=>?_,fun e1=>?_⟩
    ·have fc:(ups N j (fcC p) 0).set j (-(gt p.cols j).cost)=ups N (j+1) (fcC p) 0:=by
      rw [←ups_set (f:=fcC p)];simp [fcC,e1]
     refine CodeJ.draw (.qs [0,1,2,3,4,5,6]<|.l 7 []<|.qs [8]<|.l 9 [4] .nil) (by kernel_rfl) (by kernel_rfl) (by simpa using hQp) ?_
     simp (disch:=omega) [g1,g2,gr,lset_rat,lset_iv, -List.map_set]
     repeat (refine And.intro (by omega) ?_)
     refine callS (qNeg_ok (gt p.cols j).cost) (by simp) ?_
     simp (disch:=omega) [g1,g2,gr,lset_rat,lset_iv, -List.map_set,List.set_set,fc]
     repeat (refine And.intro (by omega) ?_)
     refine callM (M':=fH p n m N (j+1) 0 (ups N j (rsW p) 0) (ups N j (rsX p) 0) ((ups N j (fun _ => -1) 0).set j (-1)) (ups N (j+1) (fcC p) 0) (L++[(gt p.cols j).low]) (Hh++[(gt p.cols j).high]) []++[some ⟨16,[colQ (gt p.cols j)],false⟩]) (by simp [fHx,fS,byF_z]) ?_
     refine restJ p n m N j (j+1) 0 _ _ _ _ _ _ _ _ hC (by simp) (by simp) (by omega) (by omega) (by simp [ll]) (by simp [lh]) ?_ ?_ ?_ ?_
     ·exact gt_snoc ll
     ·exact gt_snoc lh
     ·rw [ups_set,ups_set,ups_set]
      simp only [fH,fHx,fS,byF_z]
      simp (disch:=omega) [-List.map_set]
      repeat (refine And.intro (by omega) ?_)
      refine ⟨j+1,by omega,by omega,?_⟩
      rw [tlm,thm]
      exact Le.syn (by simp (disch:=omega) [leS,hC,w64,leF,Go.Sv.get])
     ·intro z1 z2
      have rw0:rsW p j=0:=by simp [rsW,z1,z2]
      have rx0:rsX p j=0:=by simp [rsX,z1,z2]
      have x1:=ups_set (f:=rsW p) (N:=N) (j:=j) (d:=0)
      have x2:=ups_set (f:=rsX p) (N:=N) (j:=j) (d:=0)
      have x3:=ups_set (f:=fun _=>(-1:Int)) (N:=N) (j:=j) (d:=0)
      rw [rw0] at x1
      rw [rx0] at x2
      rw [x1,x3]
      simp only [fH,fHx,fS,byF_z]
      simp (disch:=omega) []
      repeat (refine And.intro (by omega) ?_)
      refine ⟨j+1,by omega,by omega,?_⟩
      rw [tlm,thm]
      refine (Le.nl _).trans ?_
      simp only [nlS,nlM_some,nlM_nil,nlL_lset,nlL_map iv (fun _=>rfl),nlL_map rsv (fun _=>rfl),nlL_app,nlL_map boQ (fun _=>rfl),nr_nl,lset_rat,x2]
      exact Le.syn (by simp (disch:=omega) [leS,hC,w64,leF,Go.Sv.get,bn])
    ·have fc:(ups N j (fcC p) 0).set j (gt p.cols j).cost=ups N (j+1) (fcC p) 0:=by
      rw [←ups_set (f:=fcC p)];simp [fcC,e1]
     rw [fc]
     refine ⟨by omega,?_⟩
     refine callM (M':=fH p n m N (j+1) 0 (ups N j (rsW p) 0) (ups N j (rsX p) 0) ((ups N j (fun _ => -1) 0).set j (-1)) (ups N (j+1) (fcC p) 0) (L++[(gt p.cols j).low]) (Hh++[(gt p.cols j).high]) []++[some ⟨16,[colQ (gt p.cols j)],false⟩]) (by simp [fHx,fS,byF_z]) ?_
     refine restJ p n m N j (j+1) 0 _ _ _ _ _ _ _ _ hC (by simp) (by simp) (by omega) (by omega) (by simp [ll]) (by simp [lh]) ?_ ?_ ?_ ?_
     ·exact gt_snoc ll
     ·exact gt_snoc lh
     ·rw [ups_set,ups_set,ups_set]
      simp only [fH,fHx,fS,byF_z]
      simp (disch:=omega) [-List.map_set]
      repeat (refine And.intro (by omega) ?_)
      refine ⟨j+1,by omega,by omega,?_⟩
      rw [tlm,thm]
      exact Le.syn (by simp (disch:=omega) [leS,hC,w64,leF,Go.Sv.get])
     ·intro z1 z2
      have rw0:rsW p j=0:=by simp [rsW,z1,z2]
      have rx0:rsX p j=0:=by simp [rsX,z1,z2]
      have x1:=ups_set (f:=rsW p) (N:=N) (j:=j) (d:=0)
      have x2:=ups_set (f:=rsX p) (N:=N) (j:=j) (d:=0)
      have x3:=ups_set (f:=fun _=>(-1:Int)) (N:=N) (j:=j) (d:=0)
      rw [rw0] at x1
      rw [rx0] at x2
      rw [x1,x3]
      simp only [fH,fHx,fS,byF_z]
      simp (disch:=omega) []
      repeat (refine And.intro (by omega) ?_)
      refine ⟨j+1,by omega,by omega,?_⟩
      rw [tlm,thm]
      refine (Le.nl _).trans ?_
      simp only [nlS,nlM_some,nlM_nil,nlL_lset,nlL_map iv (fun _=>rfl),nlL_map rsv (fun _=>rfl),nlL_app,nlL_map boQ (fun _=>rfl),nr_nl,lset_rat,x2]
      exact Le.syn (by simp (disch:=omega) [leS,hC,w64,leF,Go.Sv.get,bn])
  ·obtain rfl:j=n:=by omega
   simp (disch:=omega) []
   repeat (refine And.intro (by omega) ?_)
   exact ⟨rfl,by simp [leF,Go.Sv.get,probQ],by simp only [probQ];exact leM_self _,.inl rfl⟩
end Go.Proofs
namespace Go.Proofs
open Go.Sv Go Go.Tb Go.Pl Go.Ut Go.Sx
noncomputable def fdops:Array Oper:=(regsC freshBody).getD 17 #[]
def fdp0:Pl:=.nil
def fdl0:Array Bool:=#[true,true,true,true,true,true,true,true,true,true,true,true,true,true,true,true,true,true,true,true,true,true,true,true]
theorem fdo0:planOK fdops fdl0 fdp0=true:=by
 unfold fdp0
 kernel_rfl
def fdp1:Pl:=.q 21 [] (.q 22 [] (.l 23 [0,1000000] fdp0))
def fdl1:Array Bool:=#[true,true,true,true,true,true,true,true,true,true,true,true,true,true,true,true,true,true,true,true,true,false,false,false]
theorem fdo1:planOK fdops fdl1 fdp1=true:=by
 unfold fdp1
 refine planOK_q (by kernel_rfl) ?_
 refine planOK_q (by kernel_rfl) ?_
 refine planOK_l (by kernel_rfl) ?_
 exact planOK_at fdo0 (by kernel_rfl)
def fdp2:Pl:=.q 18 [] (.q 19 [] (.l 20 [0,1000000] fdp1))
def fdl2:Array Bool:=#[true,true,true,true,true,true,true,true,true,true,true,true,true,true,true,true,true,true,false,false,false,false,false,false]
theorem fdo2:planOK fdops fdl2 fdp2=true:=by
 unfold fdp2
 refine planOK_q (by kernel_rfl) ?_
 refine planOK_q (by kernel_rfl) ?_
 refine planOK_l (by kernel_rfl) ?_
 exact planOK_at fdo1 (by kernel_rfl)
def fdp3:Pl:=.l 17 [1000000] fdp2
def fdl3:Array Bool:=#[true,true,true,true,true,true,true,true,true,true,true,true,true,true,true,true,true,false,false,false,false,false,false,false]
theorem fdo3:planOK fdops fdl3 fdp3=true:=by
 unfold fdp3
 refine planOK_l (by kernel_rfl) ?_
 exact planOK_at fdo2 (by kernel_rfl)
def fdp4:Pl:=.l 16 [] fdp3
def fdl4:Array Bool:=#[true,true,true,true,true,true,true,true,true,true,true,true,true,true,true,true,false,false,false,false,false,false,false,false]
theorem fdo4:planOK fdops fdl4 fdp4=true:=by
 unfold fdp4
 refine planOK_l (by kernel_rfl) ?_
 exact planOK_at fdo3 (by kernel_rfl)
def fdp5:Pl:=.l 15 [] fdp4
def fdl5:Array Bool:=#[true,true,true,true,true,true,true,true,true,true,true,true,true,true,true,false,false,false,false,false,false,false,false,false]
theorem fdo5:planOK fdops fdl5 fdp5=true:=by
 unfold fdp5
 refine planOK_l (by kernel_rfl) ?_
 exact planOK_at fdo4 (by kernel_rfl)
def fdp6:Pl:=.l 13 [] fdp3
def fdl6:Array Bool:=#[true,true,true,true,true,true,true,true,true,true,true,true,true,false,true,true,true,false,false,false,false,false,false,false]
theorem fdo6:planOK fdops fdl6 fdp6=true:=by
 unfold fdp6
 refine planOK_l (by kernel_rfl) ?_
 exact planOK_at fdo3 (by kernel_rfl)
def fdp7:Pl:=.alt 13 [] fdp4 (.alt 16 [] fdp6 (.stop))
def fdl7:Array Bool:=#[true,true,true,true,true,true,true,true,true,true,true,true,true,false,true,true,false,false,false,false,false,false,false,false]
theorem fdo7:planOK fdops fdl7 fdp7=true:=by
 unfold fdp7
 refine planOK_alt (by kernel_rfl) ?_
 refine altOK_c (planOK_at fdo4 (by kernel_rfl)) ?_
 refine altOK_c (planOK_at fdo6 (by kernel_rfl)) ?_
 rfl
def fdp8:Pl:=.alt 13 [] fdp5 (.alt 15 [] fdp7 (.stop))
def fdl8:Array Bool:=#[true,true,true,true,true,true,true,true,true,true,true,true,true,false,true,false,false,false,false,false,false,false,false,false]
theorem fdo8:planOK fdops fdl8 fdp8=true:=by
 unfold fdp8
 refine planOK_alt (by kernel_rfl) ?_
 refine altOK_c (planOK_at fdo5 (by kernel_rfl)) ?_
 refine altOK_c (planOK_at fdo7 (by kernel_rfl)) ?_
 rfl
def fdp9:Pl:=.l 9 [1000000] fdp3
def fdl9:Array Bool:=#[true,true,true,true,true,true,true,true,true,false,true,true,true,true,true,true,true,false,false,false,false,false,false,false]
theorem fdo9:planOK fdops fdl9 fdp9=true:=by
 unfold fdp9
 refine planOK_l (by kernel_rfl) ?_
 exact planOK_at fdo3 (by kernel_rfl)
def fdp10:Pl:=.alt 9 [1000000] fdp4 (.alt 16 [] fdp9 (.stop))
def fdl10:Array Bool:=#[true,true,true,true,true,true,true,true,true,false,true,true,true,true,true,true,false,false,false,false,false,false,false,false]
theorem fdo10:planOK fdops fdl10 fdp10=true:=by
 unfold fdp10
 refine planOK_alt (by kernel_rfl) ?_
 refine altOK_c (planOK_at fdo4 (by kernel_rfl)) ?_
 refine altOK_c (planOK_at fdo9 (by kernel_rfl)) ?_
 rfl
def fdp11:Pl:=.alt 9 [1000000] fdp5 (.alt 15 [] fdp10 (.stop))
def fdl11:Array Bool:=#[true,true,true,true,true,true,true,true,true,false,true,true,true,true,true,false,false,false,false,false,false,false,false,false]
theorem fdo11:planOK fdops fdl11 fdp11=true:=by
 unfold fdp11
 refine planOK_alt (by kernel_rfl) ?_
 refine altOK_c (planOK_at fdo5 (by kernel_rfl)) ?_
 refine altOK_c (planOK_at fdo10 (by kernel_rfl)) ?_
 rfl
def fdp12:Pl:=.alt 9 [1000000] fdp6 (.alt 13 [] fdp9 (.stop))
def fdl12:Array Bool:=#[true,true,true,true,true,true,true,true,true,false,true,true,true,false,true,true,true,false,false,false,false,false,false,false]
theorem fdo12:planOK fdops fdl12 fdp12=true:=by
 unfold fdp12
 refine planOK_alt (by kernel_rfl) ?_
 refine altOK_c (planOK_at fdo6 (by kernel_rfl)) ?_
 refine altOK_c (planOK_at fdo9 (by kernel_rfl)) ?_
 rfl
def fdp13:Pl:=.alt 9 [1000000] fdp7 (.alt 13 [] fdp10 (.alt 16 [] fdp12 (.stop)))
def fdl13:Array Bool:=#[true,true,true,true,true,true,true,true,true,false,true,true,true,false,true,true,false,false,false,false,false,false,false,false]
theorem fdo13:planOK fdops fdl13 fdp13=true:=by
 unfold fdp13
 refine planOK_alt (by kernel_rfl) ?_
 refine altOK_c (planOK_at fdo7 (by kernel_rfl)) ?_
 refine altOK_c (planOK_at fdo10 (by kernel_rfl)) ?_
 refine altOK_c (planOK_at fdo12 (by kernel_rfl)) ?_
 rfl
def fdp14:Pl:=.alt 9 [1000000] fdp8 (.alt 13 [] fdp11 (.alt 15 [] fdp13 (.stop)))
def fdl14:Array Bool:=#[true,true,true,true,true,true,true,true,true,false,true,true,true,false,true,false,false,false,false,false,false,false,false,false]
theorem fdo14:planOK fdops fdl14 fdp14=true:=by
 unfold fdp14
 refine planOK_alt (by kernel_rfl) ?_
 refine altOK_c (planOK_at fdo8 (by kernel_rfl)) ?_
 refine altOK_c (planOK_at fdo11 (by kernel_rfl)) ?_
 refine altOK_c (planOK_at fdo13 (by kernel_rfl)) ?_
 rfl
def fdp15:Pl:=.l 8 [] fdp9
def fdl15:Array Bool:=#[true,true,true,true,true,true,true,true,false,false,true,true,true,true,true,true,true,false,false,false,false,false,false,false]
theorem fdo15:planOK fdops fdl15 fdp15=true:=by
 unfold fdp15
 refine planOK_l (by kernel_rfl) ?_
 exact planOK_at fdo9 (by kernel_rfl)
def fdp16:Pl:=.alt 8 [] fdp10 (.alt 16 [] fdp15 (.stop))
def fdl16:Array Bool:=#[true,true,true,true,true,true,true,true,false,false,true,true,true,true,true,true,false,false,false,false,false,false,false,false]
theorem fdo16:planOK fdops fdl16 fdp16=true:=by
 unfold fdp16
 refine planOK_alt (by kernel_rfl) ?_
 refine altOK_c (planOK_at fdo10 (by kernel_rfl)) ?_
 refine altOK_c (planOK_at fdo15 (by kernel_rfl)) ?_
 rfl
def fdp17:Pl:=.alt 8 [] fdp11 (.alt 15 [] fdp16 (.stop))
def fdl17:Array Bool:=#[true,true,true,true,true,true,true,true,false,false,true,true,true,true,true,false,false,false,false,false,false,false,false,false]
theorem fdo17:planOK fdops fdl17 fdp17=true:=by
 unfold fdp17
 refine planOK_alt (by kernel_rfl) ?_
 refine altOK_c (planOK_at fdo11 (by kernel_rfl)) ?_
 refine altOK_c (planOK_at fdo16 (by kernel_rfl)) ?_
 rfl
def fdp18:Pl:=.alt 8 [] fdp12 (.alt 13 [] fdp15 (.stop))
def fdl18:Array Bool:=#[true,true,true,true,true,true,true,true,false,false,true,true,true,false,true,true,true,false,false,false,false,false,false,false]
theorem fdo18:planOK fdops fdl18 fdp18=true:=by
 unfold fdp18
 refine planOK_alt (by kernel_rfl) ?_
 refine altOK_c (planOK_at fdo12 (by kernel_rfl)) ?_
 refine altOK_c (planOK_at fdo15 (by kernel_rfl)) ?_
 rfl
def fdp19:Pl:=.alt 8 [] fdp13 (.alt 13 [] fdp16 (.alt 16 [] fdp18 (.stop)))
def fdl19:Array Bool:=#[true,true,true,true,true,true,true,true,false,false,true,true,true,false,true,true,false,false,false,false,false,false,false,false]
theorem fdo19:planOK fdops fdl19 fdp19=true:=by
 unfold fdp19
 refine planOK_alt (by kernel_rfl) ?_
 refine altOK_c (planOK_at fdo13 (by kernel_rfl)) ?_
 refine altOK_c (planOK_at fdo16 (by kernel_rfl)) ?_
 refine altOK_c (planOK_at fdo18 (by kernel_rfl)) ?_
 rfl
def fdp20:Pl:=.q 0 [] (.q 1 [] (.q 2 [] (.q 3 [] (.q 4 [] (.q 5 [] (.q 6 [] (.q 7 [] (.q 10 [] (.q 11 [] (.q 12 [] (.q 14 [] (.alt 8 [] fdp14 (.alt 13 [] fdp17 (.alt 15 [] fdp19 (.stop)))))))))))))))
def fdl20:Array Bool:=#[false,false,false,false,false,false,false,false,false,false,false,false,false,false,false,false,false,false,false,false,false,false,false,false]
theorem fdo20:planOK fdops fdl20 fdp20=true:=by
 unfold fdp20
 refine planOK_q (by kernel_rfl) ?_
 refine planOK_q (by kernel_rfl) ?_
 refine planOK_q (by kernel_rfl) ?_
 refine planOK_q (by kernel_rfl) ?_
 refine planOK_q (by kernel_rfl) ?_
 refine planOK_q (by kernel_rfl) ?_
 refine planOK_q (by kernel_rfl) ?_
 refine planOK_q (by kernel_rfl) ?_
 refine planOK_q (by kernel_rfl) ?_
 refine planOK_q (by kernel_rfl) ?_
 refine planOK_q (by kernel_rfl) ?_
 refine planOK_q (by kernel_rfl) ?_
 refine planOK_alt (by kernel_rfl) ?_
 refine altOK_c (planOK_at fdo14 (by kernel_rfl)) ?_
 refine altOK_c (planOK_at fdo17 (by kernel_rfl)) ?_
 refine altOK_c (planOK_at fdo19 (by kernel_rfl)) ?_
 rfl
theorem fd_plan:(Region.noSelect fdops&&(planOK fdops (Array.replicate fdops.size false) fdp20&&decide (fdp20.len≤fdops.size)))=true:=by
 rw [Bool.and_eq_true,Bool.and_eq_true]
 exact ⟨by kernel_rfl,planOK_at fdo20 (by kernel_rfl),by kernel_rfl⟩
end Go.Proofs


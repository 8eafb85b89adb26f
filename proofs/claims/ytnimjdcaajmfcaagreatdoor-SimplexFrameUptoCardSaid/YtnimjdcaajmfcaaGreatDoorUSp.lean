/- A text of the prover's own. -/
import Derived.Test.YtnimjdcaajmfcaaGreatDoorUSn
set_option maxRecDepth 10000
set_option maxHeartbeats 4000000
namespace Go.Sx
open Go Go.Sv Go.Pl Go.Proofs Go.Tb Go.Ut Go.Mx Go.Li Go.Dt
def rowL (l:List Rat):List Term→List Rat
 | []=>l
 | t::ts=>rowL (l.set t.col.toNat t.num) ts
@[simp] theorem rowL_len:∀(ts:List Term) (l:List Rat),(rowL l ts).length=l.length
 | [],_=>rfl
 | t::ts,l=>by unfold rowL;rw [rowL_len ts];simp
theorem rowL_snoc:∀(ts:List Term) (l:List Rat) (t:Term),rowL l (ts++[t])=(rowL l ts).set t.col.toNat t.num
 | [],_,_=>rfl
 | _::ts,l,t=>by simp only [List.cons_append,rowL];exact rowL_snoc ts _ t
def rowZ (p:Prob) (N i:Nat):List Rat:=rowL (List.replicate N 0) (gt p.rows i).terms
def rowsZ (p:Prob) (N i:Nat):List (List Rat):=(List.range i).map (rowZ p N)
@[simp] theorem rowsZ_len (p:Prob) (N i:Nat):(rowsZ p N i).length=i:=by simp [rowsZ]
theorem rowsZ_succ (p:Prob) (N i:Nat):rowsZ p N (i+1)=rowsZ p N i++[rowZ p N i]:=by simp [rowsZ,List.range_succ]
theorem rwT_snoc (R:List (List Rat)) (l:List Rat) (tl:Tab):rwT R++some ⟨4,l.map rsv,false⟩::tl=rwT (R++[l])++tl:=by simp [rwT]
theorem byF_succ (N i:Nat):byF N (i+1)=byF N i++[.view (i+9) 0 N]:=by simp [byF,List.range_succ,rw9]
@[simp] theorem byF_len (N i:Nat):(byF N i).length=i:=by simp [byF]
def wF (p:Prob) (n k:Nat):Int:=if k<n then rsW p k else 1
def rF (n k:Nat):Int:=if k<n then -1 else (k:Int) - n
def lowR (p:Prob) (i:Nat):List Bo:=lowC p++(p.rows.take i).map (·.low)
def highR (p:Prob) (i:Nat):List Bo:=highC p++(p.rows.take i).map (·.high)
def basR (n i:Nat):List Nat:=(List.range i).map (n+·)
theorem ups_same {α:Type} [Inhabited α] {N j:Nat} {f g:Nat→α} {d:α} (h:∀k,k<j→f k=g k):ups N j f d=ups N j g d:=ext_gt' (by simp) fun k hk=>by
 have hk:k<N:=by simpa using hk
 rw [gt_ups hk,gt_ups hk]
 by_cases q:k<j
 ·rw [if_pos q,if_pos q,h k q]
 ·rw [if_neg q,if_neg q]
def fR (p:Prob) (n m N i:Nat) (tl:Tab):Tab:=fH p n m N (n+i) i (ups N (n+i) (wF p n) 0) (ups N n (rsX p) 0) (ups N (n+i) (rF n) 0) (ups N n (fcC p) 0) (lowR p i) (highR p i) (basR n i)++(rwT (rowsZ p N i)++tl)
theorem fB_fR (p:Prob) (n m N:Nat) (hn:p.cols.length=n):fB p n m N n=fR p n m N 0 []:=by
 unfold fB fR
 have e1:(lowC p).take n=lowR p 0:=by unfold lowR;rw [List.take_of_length_le (by simp [lowC,hn])];simp
 have e2:(highC p).take n=highR p 0:=by unfold highR;rw [List.take_of_length_le (by simp [highC,hn])];simp
 rw [e1,e2,ups_same (f:=wF p n) (g:=rsW p) (fun k h=>by unfold wF;rw [if_pos (by omega)]),ups_same (f:=rF n) (g:=fun _ => -1) (fun k h=>by unfold rF;rw [if_pos (by omega)])]
 simp [basR,rowsZ,rwT]
theorem ltL_byF {N m k:Nat} (h:m+9≤k):SV.ltL k (byF N m)=true:=by
 unfold byF
 rw [ltL_map,List.all_eq_true]
 intro i hi
 have hi:i<m:=by simpa using hi
 simp [rw9];omega
theorem usesL_byF {N m k:Nat} (h:k<9):SV.usesL k (byF N m)=false:=by
 unfold byF
 induction List.range m with
 | nil=>rfl
 | cons a l ih=>simp only [List.map_cons,SV.usesL,ih,rw9];simp;omega
theorem le_fT {C:Ctx} {N0 n m N kl kb:Nat} {p:Prob} {wh:List Int} {x:List Rat} {row:List Int} {cost:List Rat} {low high:List Bo} {basic:List Nat} {R:List (List Rat)} {fr fr':List (Nat × SV)} {tl tl':Tab} (hC:C.fx=[]) (h:R.length=kb) (hf:leF fr fr') (ht:leM tl tl') (h2:ltF (kb+9+tl'.length) fr') (h3:ltM (kb+9+tl'.length) tl') :
  Le C ⟨N0,fr,fH p n m N kl kb wh x row cost low high basic++(rwT R++tl)⟩ ⟨N0,fr',fH p n m N kl kb wh x row cost low high basic++(rwT R++tl')⟩:=by
 have ln:(fH p n m N kl kb wh x row cost low high basic++(rwT R++tl')).length=kb+9+tl'.length:=by simp [fHx,h];omega
 refine Le.syn ⟨rfl,hf,?_,.inr ⟨?_,?_,?_⟩⟩
 ·exact leM_ap _ (leM_ap _ ht)
 ·rw [ln];exact h2
 ·rw [ln]
  refine ltM_ap ?_ (ltM_ap (ltM_rwT _ _) h3)
  have:=ltL_byF (N:=N) (m:=kb) (k:=kb+9+tl'.length) (by omega)
  simp [fHx,fS,ltM,this]
  omega
 ·rw [hC];simp
theorem leM_iff (A:Tab) {B B':Tab}:leM (A++B) (A++B')↔leM B B':=by
 induction A with
 | nil=>exact Iff.rfl
 | cons x A ih=>simp only [List.cons_append,leM,ih];simp
theorem ltM_iff (k:Nat) (R:List (List Rat)) (B:Tab):ltM k (rwT R++B)↔ltM k B:=by
 unfold rwT
 induction R with
 | nil=>exact Iff.rfl
 | cons x R ih =>
  simp only [List.map_cons,List.cons_append,ltM,ih,and_iff_right_iff_imp]
  intro _
  rw [ltL_map,List.all_eq_true]
  intro y _
  rfl
theorem tgD {n:Nat} {R:List (List Rat)} {tl:Tab} (h:R.length=n):tget (rwT R++tl) (n+3)=tget tl 3:=tget_ap2 (i:=3) (by simpa using h)
end Go.Sx
namespace Go.Proofs
open Go.Sv Go Go.Tb Go.Pl Go.Ut Go.Mx Go.Li Go.Dt Go.Sx
theorem get_ren {σ:Nat→Nat} {t:Nat} {v:SV}:∀{fr:List (Nat × SV)},Go.Sv.get fr t=some v→Go.Sv.get (fr.map fun z=>(z.1,ren σ z.2)) t=some (ren σ v)
 | [],h=>by simp [Go.Sv.get] at h
 | (s,y)::r,h=>by
  simp only [Go.Sv.get] at h
  simp only [List.map_cons,Go.Sv.get]
  by_cases e:s=t
  ·rw [if_pos e] at h ⊢;simp only [Option.some.injEq] at h;rw [h]
  ·rw [if_neg e] at h ⊢;exact get_ren h
theorem Le.drop1 {C:Ctx} (hC:C.fx=[]) {n:Nat} {A:Tab} {x y:Option Ent} {fr fr':List (Nat × SV)} (hA:ltM A.length A) (hy:ltM A.length [y]) (hf:leF fr (fr'.map fun z=>(z.1,ren (fun k=>if k<A.length then k else k+1) z.2))) :
  Le C ⟨n,fr,A++[x,y]⟩ ⟨n,fr',A++[y]⟩:=by
 refine Le.perm hC (fun k=>if k<A.length then k else k+1) rfl ?_ ?_ ?_ ?_
 ·intro k k' _ _ h
  split at h<;>split at h<;>omega
 ·intro k hk
  simp only [List.length_append,List.length_cons,List.length_nil] at hk ⊢
  rw [if_neg (by omega)];omega
 ·intro k e he
  have id:∀i,i<A.length→(fun k=>if k<A.length then k else k+1) i=i:=fun i hi=>by simp [hi]
  by_cases hk:k<A.length
  ·rw [if_pos hk]
   rw [List.getElem?_append_left hk] at he ⊢
   rw [he]
   have:=ltM_get hA _ _ he
   cases e
   rw [renE_eq,renL_id id _ this]
  ·have hk':k=A.length:=by
    have:=(List.getElem?_eq_some_iff.1 he).1
    simp at this;omega
   subst hk'
   rw [if_neg (by omega)]
   simp at he
   subst he
   have:=hy
   simp only [ltM] at this
   cases e
   rw [renE_eq,renL_id id _ this.1]
   simp
 ·intro t v hg
  exact leF_get hf t _ (get_ren hg)
theorem nlM_fH {p:Prob} {n m N kl kb:Nat} {wh:List Int} {x:List Rat} {row:List Int} {cost:List Rat} {low high:List Bo} {basic:List Nat}:nlM (fH p n m N kl kb wh x row cost low high basic)=fH p n m N kl kb wh x row cost low high basic:=by
 unfold fH fHx fS byF
 simp only [nlM_some,nlM_nil,nlL,nlV_agg]
 rw [nlL_map iv (fun _=>rfl),nlL_map rsv (fun _=>rfl),nlL_map natV (fun _=>rfl),nlL_map iv (fun _=>rfl),nlL_map (rw9 N) (fun _=>rfl),nlL_map rsv (fun _=>rfl),nlL_map boQ (fun _=>rfl),nlL_map boQ (fun _=>rfl)]
 simp
theorem le_drop {C:Ctx} {N0 n m N kl i:Nat} {p:Prob} {wh:List Int} {x:List Rat} {row:List Int} {cost:List Rat} {low high:List Bo} {basic:List Nat} {R:List (List Rat)} {fr fr':List (Nat × SV)} {y:Ent} {l:List SV} {z:List Rat} (hC:C.fx=[]) (h:R.length=i) (hz:nlL l=z.map rsv) (hf:leF (nlF fr) (fr'.map fun z=>(z.1,ren (fun k=>if k<i+9 then k else k+1) z.2))) :
  Le C ⟨N0,fr,fH p n m N kl i wh x row cost low high basic++(rwT R++[some y,some ⟨4,l,false⟩])⟩ ⟨N0,fr',fH p n m N kl i wh x row cost low high basic++(rwT R++[some ⟨4,z.map rsv,false⟩])⟩:=by
 have hA:(fH p n m N kl i wh x row cost low high basic++rwT R).length=i+9:=by simp [fHx,h]
 refine (Le.nl _).trans ?_
 unfold nlS
 rw [nlM_app,nlM_app,nlM_rwT,nlM_fH,←List.append_assoc,←List.append_assoc]
 obtain ⟨ys,ye,yf⟩:=y
 simp only [nlM_some,nlM_nil,hz]
 refine Le.drop1 hC ?_ ?_ (by rw [hA];exact hf)
 ·rw [hA]
  have lr:=ltM_rwT (i+9) R
  refine ltM_ap ?_ lr
  have:=ltL_byF (N:=N) (m:=i) (k:=i+9) (by omega)
  simp [fHx,fS,ltM,this]
 ·have:=ltM_rwT (fH p n m N kl i wh x row cost low high basic++rwT R).length [z]
  simp [ltM,SV.ltL]
theorem freshC (p:Prob) (n m N:Nat) (hn:p.cols.length=n) (hm:p.rows.length=m) (hN:n+m=N) (h14:N≤14) (ht:∀i,i<m→∀t∈(gt p.rows i).terms,∃k:Nat,t.col=k∧k<N) (htl:∀i,i<m→(gt p.rows i).terms.length≤1000000) {C:Ctx} (hC:C.fx=[]) {Q:Post} (hQp:∀c st,¬Q (.panic c) st) (hQ:CodeJ Tryz.prog C (dropC 6 freshBody) ⟨217,[(0,.rop (probQ p) 0),(3,.ptr 0 0 0),(4,iv N)],fR p n m N m []⟩ Q) :
  CodeJ Tryz.prog C (dropC 5 freshBody) ⟨217,[(0,.rop (probQ p) 0),(3,.ptr 0 0 0),(4,iv N)],fR p n m N 0 []⟩ Q:=by
 refine CodeJ.cutAt 1 (fun st=>st=⟨217,[(0,.rop (probQ p) 0),(3,.ptr 0 0 0),(4,iv N)],fR p n m N m []⟩) ?_ ?_
 rotate_left 1
 ·rintro st rfl
  simp only [freshBody,Tryz.f77,Option.getD_some,dropC_succ,dropC_zero] at hQ ⊢
  exact hQ
 simp only [freshBody,Tryz.f77,Option.getD_some,dropC_succ,dropC_zero,takeC_succ,takeC_zero]
 simp (disch:=omega) [probQ,hm]
 repeat (refine And.intro (by omega) ?_)
 refine CodeJ.loopL (ι:=Nat) (fun i=>⟨217,[(0,.rop (probQ p) 0),(3,.ptr 0 0 0),(4,iv N),(120,.ro (p.rows.map rowQ)),(121,iv m),(122,iv i)],fR p n m N i []⟩)
  (fun i=>i≤m) (fun i=>m - i) 0 (by simp) ?_ ?_
 ·exact ⟨rfl,by simp [leF,Go.Sv.get,probQ],leM_self _,.inl rfl⟩
 ·rintro i hi
  by_cases him:i<m
  ·have lc:lget (p.rows.map rowQ) i=rowQ (gt p.rows i):=lget_m _ (by omega)
   have hR:=rowsZ_len p N i
   have ll:(lowR p i).length=n+i:=by simp [lowR,lowC,hn];omega
   have lh:(highR p i).length=n+i:=by simp [highR,highC,hn];omega
   have tl:lowR p (i+1)=lowR p i++[(gt p.rows i).low]:=by unfold lowR;rw [take_gt (by omega)];simp
   have th:highR p (i+1)=highR p i++[(gt p.rows i).high]:=by unfold highR;rw [take_gt (by omega)];simp
   have lb:(basR n i).length=i:=by simp [basR]
   unfold fR
   clear hQ
   generalize hL:lowR p i=L at *
   generalize hH:highR p i=Hh at *
   generalize hRR:rowsZ p N i=R at *
   simp only [fH,fHx,fS]
   have us5:SV.usesL 5 (byF N i)=false:=usesL_byF (by omega)
   have us6:SV.usesL 6 (byF N i)=false:=usesL_byF (by omega)
   simp (disch:=omega) [him,hm,lc,hR,tgA hR,tsA hR]
   repeat (refine And.intro (by omega) ?_)
   refine CodeJ.drawTo fdp20 ⟨217,[(0,.rop (probQ p) 0),(3,.ptr 0 0 0),(4,iv N),(7,iv i),(8,.ptr (i+9) 0 0),(120,.ro (p.rows.map rowQ)),(121,iv m),(122,iv i)],fH p n m N (n+i+1) i (ups N (n+i) (wF p n) 0) (ups N n (rsX p) 0) (ups N (n+i) (rF n) 0) (ups N n (fcC p) 0) (L++[(gt p.rows i).low]) (Hh++[(gt p.rows i).high]) (basR n i)++(rwT R++[some ⟨12,[rowQ (gt p.rows i)],false⟩])⟩ (by kernel_rfl) fd_plan ?_ ?_
   ·simp only [fdp20,fdp19,fdp18,fdp17,fdp16,fdp15,fdp14,fdp13,fdp12,fdp11,fdp10,fdp9,fdp8,fdp7,fdp6,fdp5,fdp4,fdp3,fdp2,fdp1,fdp0]
    have w3:(n+i+1)*72≤70368744177664:=by omega
    simp [ll,lh,hC,okW_ld,okA_ld,leS,leF,Go.Sv.get,fHx,fS,w3,leM_self,hR,tgA hR,tgB hR,tgC hR,tsA hR,tsB hR,us5,us6,nouse_app2,nouse_rwT,fgtM_app,fgtM_rwT]
    have lt:=ltL_byF (N:=N) (m:=i) (k:=i+1+1+1+1+1+1+1+1+1+1) (by omega)
    simp [leM_iff,ltM_iff,lt,leM,ltM]
   ·have l2:(L++[(gt p.rows i).low]).length=n+i+1:=by simp [ll]
    have h2:(Hh++[(gt p.rows i).high]).length=n+i+1:=by simp [lh]
    generalize hL2:L++[(gt p.rows i).low]=L2 at *
    generalize hH2:Hh++[(gt p.rows i).high]=H2 at *
    simp only [fHx,fH,fS]
    simp (disch:=omega) [tgA hR,tgB hR,tsA hR,tsB hR,hR]
    repeat (refine And.intro (by omega) ?_)
    generalize hts:(gt p.rows i).terms=ts at *
    have zz:nlL (List.replicate N (.agg [.val (.bool false),.val (.slice none 0 0),.val (.bool false),.val (.slice none 0 0)]))=(List.replicate N (0:Rat)).map rsv:=nlL_zr N
    refine CodeJ.le (le_drop (n:=n) (m:=m) (N:=N) (kl:=n+i+1) (i:=i) (p:=p) (wh:=ups N (n+i) (wF p n) 0) (x:=ups N n (rsX p) 0) (row:=ups N (n+i) (rF n) 0) (cost:=ups N n (fcC p) 0) (low:=L2) (high:=H2) (basic:=basR n i) (R:=R)
     (fr':=[(0,.rop (probQ p) 0),(3,.ptr 0 0 0),(4,iv N),(7,iv i),(9,.view (i+9) 0 N),(120,.ro (p.rows.map rowQ)),(121,iv m),(122,iv i),(152,.ro (ts.map termQ)),(153,iv ts.length),(154,iv (0:Nat))]) (y:=⟨12,[rowQ (gt p.rows i)],false⟩) hC hR zz ?_) ?_
    ·simp (disch:=omega) [leF,Go.Sv.get]
    have e0:rowL (List.replicate N 0) (ts.take 0)=List.replicate N 0:=rfl
    rw [←e0]
    refine CodeJ.loopL (ι:=Nat) (fun k=>⟨217,[(0,.rop (probQ p) 0),(3,.ptr 0 0 0),(4,iv N),(7,iv i),(9,.view (i+9) 0 N),(120,.ro (p.rows.map rowQ)),(121,iv m),(122,iv i),(152,.ro (ts.map termQ)),(153,iv ts.length),(154,iv k)],fH p n m N (n+i+1) i (ups N (n+i) (wF p n) 0) (ups N n (rsX p) 0) (ups N (n+i) (rF n) 0) (ups N n (fcC p) 0) L2 H2 (basR n i)++(rwT R++[some ⟨4,(rowL (List.replicate N 0) (ts.take k)).map rsv,false⟩])⟩)
     (fun k=>k≤ts.length) (fun k=>ts.length - k) 0 (by simp) ?_ ?_
    ·exact ⟨rfl,by simp [leF,Go.Sv.get],leM_self _,.inl rfl⟩
    ·rintro k hk
     have htl:=htl i him
     rw [hts] at htl
     have lN:(rowL (List.replicate N 0) (ts.take k)).length=N:=by simp
     by_cases hkt:k<ts.length
     ·obtain ⟨c,hc,hcN⟩:=ht i him (gt ts k) (by rw [hts];exact gt_mem hkt)
      have lt:=lget_termQ hkt
      have sn:rowL (List.replicate N 0) (ts.take (k+1))=(rowL (List.replicate N 0) (ts.take k)).set c (gt ts k).num:=by rw [take_gt hkt,rowL_snoc,hc];rfl
      have gr:=lget_r (l:=rowL (List.replicate N 0) (ts.take k)) (i:=c) (by omega)
      generalize hK:rowL (List.replicate N 0) (ts.take k)=K at *
      simp only [fHx,fH,fS]
      simp (disch:=omega) [hkt,tgA hR,tgB hR,tsA hR,tsB hR,hR,lt,hc,gr,lset_rat,lN, -List.map_set]
      repeat (refine And.intro (by omega) ?_)
      refine ⟨k+1,by omega,by omega,?_⟩
      rw [sn]
      exact le_fT (p:=p) (n:=n) (m:=m) (N:=N) (kl:=n+i+1) (kb:=i) (wh:=ups N (n+i) (wF p n) 0) (x:=ups N n (rsX p) 0) (row:=ups N (n+i) (rF n) 0) (cost:=ups N n (fcC p) 0) (low:=L2) (high:=H2) (basic:=basR n i) (R:=R) hC hR (by simp (disch:=omega) [leF,Go.Sv.get,w64]) (by simp [leM]) (by simp [ltF]) (by simp [ltM, -List.map_set])
     ·obtain rfl:k=ts.length:=by omega
      rw [List.take_length] at *
      simp only [fHx,fH,fS]
      have us8:SV.usesL 8 (byF N i)=false:=usesL_byF (by omega)
      simp (disch:=omega) [tgA hR,tgB hR,tsA hR,tsB hR,hR,us8,nouse_app2,nouse_rwT,fgtM_app,fgtM_rwT]
      repeat (refine And.intro (by omega) ?_)
      refine ⟨⟨by simp [hC],by omega⟩,?_⟩
      refine CodeJ.draw (.qs [0,1,2,3,4,5,6,7,8,9,10]<|.l 11 []<|.l 12 [1000000]<|.qs [13,14]<|.l 15 [0,1000000] .nil) (by kernel_rfl) (by kernel_rfl) (by simpa using hQp) ?_
      have us7:SV.usesL 7 (byF N i)=false:=usesL_byF (by omega)
      have wr:IntKind.i64.wrap ((n:Int)+i)=((n+i:Nat):Int):=by simp (disch:=omega) [w64]
      simp (disch:=omega) [tgA hR,tgB hR,tgC hR,tsA hR,tsB hR,hR,us7,us8,nouse_app2,nouse_rwT,fgtM_app,fgtM_rwT,lb,wr]
      repeat (refine And.intro (by omega) ?_)
      refine ⟨⟨by simp [hC],by omega⟩,?_⟩
      have e8:byF N i++[.view (i+9) 0 N]=byF N (i+1):=(byF_succ N i).symm
      have e7:List.map natV (basR n i)++[SV.val (.int .i64 ((n:Int)+i))]=(basR n (i+1)).map natV:=by simp [basR,List.range_succ,natV]
      rw [e7,e8,rwT_snoc]
      have hK:rowL (List.replicate N 0) ts=rowZ p N i:=by unfold rowZ;rw [hts]
      have hR1:R++[rowL (List.replicate N 0) ts]=rowsZ p N (i+1):=by rw [hK,←hRR,rowsZ_succ]
      have hRl:(rowsZ p N (i+1)).length=i+1:=rowsZ_len p N (i+1)
      rw [hR1]
      generalize hR2:rowsZ p N (i+1)=R1 at *
      refine CodeJ.le (le_fT (p:=p) (n:=n) (m:=m) (N:=N) (kl:=n+i+1) (kb:=i+1) (wh:=ups N (n+i) (wF p n) 0) (x:=ups N n (rsX p) 0) (row:=ups N (n+i) (rF n) 0) (cost:=ups N n (fcC p) 0) (low:=L2) (high:=H2) (basic:=basR n (i+1)) (R:=R1) (tl':=[])
       (fr':=[(0,.rop (probQ p) 0),(3,.ptr 0 0 0),(4,iv N),(7,iv i),(120,.ro (p.rows.map rowQ)),(121,iv m),(122,iv i)]) hC hRl (by simp (disch:=omega) [leF,Go.Sv.get,w64]) (by simp [leM]) (by simp [ltF]) (by simp [ltM])) ?_
      have g1:=lget_iv (l:=ups N (n+i) (wF p n) 0) (i:=n+i) (by simp;omega)
      have g3:=lget_iv (l:=ups N (n+i) (rF n) 0) (i:=n+i) (by simp;omega)
      simp only [fHx,fH,fS]
      refine CodeJ.draw (.qs [0,1,2,3,4,5,6,7,8,9,10,11,12,13,14,15,16,17,18,19,20,21]<|.l 22 [3]<|.qs [23]<|.l 24 [1] .nil) (by kernel_rfl) (by kernel_rfl) (by simpa using hQp) ?_
      have wr2:((n:Int)+i).toNat=n+i:=by omega
      simp (disch:=omega) [g1,g3,wr,wr2,lset_iv, -List.map_set]
      repeat (refine And.intro (by omega) ?_)
      refine ⟨i+1,by omega,by omega,?_⟩
      have w1:(ups N (n+i) (wF p n) 0).set (n+i) 1=ups N (n+(i+1)) (wF p n) 0:=by
       rw [←Nat.add_assoc,←ups_set (f:=wF p n),show wF p n (n+i)=1 by unfold wF;rw [if_neg (by omega)]]
      have w2:(ups N (n+i) (rF n) 0).set (n+i) (i:Int)=ups N (n+(i+1)) (rF n) 0:=by
       rw [←Nat.add_assoc,←ups_set (f:=rF n),show rF n (n+i)=(i:Int) by unfold rF;rw [if_neg (by omega)];omega]
      rw [w1,w2,hR2,tl,th]
      exact Le.syn ⟨rfl,by simp (disch:=omega) [leF,Go.Sv.get,w64],leM_self _,.inl rfl⟩
  ·obtain rfl:i=m:=by omega
   simp (disch:=omega) []
   repeat (refine And.intro (by omega) ?_)
   exact ⟨rfl,by simp [leF,Go.Sv.get,probQ],by simp only [probQ];exact leM_self _,.inl rfl⟩
end Go.Proofs
namespace Go.Sx
open Go Go.Sv Go.Pl Go.Proofs Go.Tb Go.Ut Go.Mx Go.Li Go.Dt
def frC (p:Prob) (n m N:Nat):Tc:=⟨p,n,m,N,lowR p m,highR p m,ups N n (fcC p) 0⟩
def frB (p:Prob) (n m N:Nat):Tb:=⟨ups N N (wF p n) 0,ups N n (rsX p) 0,basR n m,ups N N (rF n) 0,rowsZ p N m⟩
def sgF (k:Nat):Nat:=if k≤2 then k else if k=3 then 7 else if k=4 then 3 else if k=5 then 8 else k+3
theorem sbL_byF {N m k:Nat} {es:List SV} (h:k<9):sbL k es (byF N m)=byF N m:=by
 unfold byF
 induction List.range m with
 | nil=>rfl
 | cons a l ih=>simp only [List.map_cons,sbL,ih,rw9,sbV];rw [if_neg (by omega)]
theorem sbM_rwT {k:Nat} {es:List SV} (R:List (List Rat)):sbM k es (rwT R)=rwT R:=by
 unfold rwT
 induction R with
 | nil=>rfl
 | cons x R ih=>simp only [List.map_cons,sbM_some,ih];rw [sbL_pure _ _ _ (by simp)]
end Go.Sx
namespace Go.Proofs
open Go.Sv Go Go.Tb Go.Pl Go.Ut Go.Mx Go.Li Go.Dt Go.Sx
theorem frzS_some {k:Nat} {st:St} {e:Ent} (h:tget st.M k=some e):frzS k st=⟨st.n,sbF k e.es st.fr,sbM k e.es (tset st.M k (some ⟨e.sz,e.es,true⟩))⟩:=by unfold frzS;rw [h]
def fz4 (p:Prob) (n m N:Nat):Tab:=[some ⟨11,[.agg [.rop (probQ p) 0,iv n,iv m,.view 5 0 N,.view 6 0 N,.ro ((ups N n (fcC p) 0).map rsv),.view 1 0 N,.view 2 0 N,.view 7 0 m,.view 3 0 N,.view 8 0 m]],false⟩,some ⟨1,(ups N N (wF p n) 0).map iv,false⟩,some ⟨4,(ups N n (rsX p) 0).map rsv,false⟩,some ⟨1,(ups N N (rF n) 0).map iv,false⟩,some ⟨4,(ups N n (fcC p) 0).map rsv,true⟩,some ⟨5,(lowR p m).map boQ,false⟩,some ⟨5,(highR p m).map boQ,false⟩,some ⟨1,(basR n m).map natV,false⟩,some ⟨1,byF N m,false⟩]++rwT (rowsZ p N m)
def fz5 (p:Prob) (n m N:Nat):Tab:=[some ⟨11,[.agg [.rop (probQ p) 0,iv n,iv m,.ro ((lowR p m).map boQ),.view 6 0 N,.ro ((ups N n (fcC p) 0).map rsv),.view 1 0 N,.view 2 0 N,.view 7 0 m,.view 3 0 N,.view 8 0 m]],false⟩,some ⟨1,(ups N N (wF p n) 0).map iv,false⟩,some ⟨4,(ups N n (rsX p) 0).map rsv,false⟩,some ⟨1,(ups N N (rF n) 0).map iv,false⟩,some ⟨4,(ups N n (fcC p) 0).map rsv,true⟩,some ⟨5,(lowR p m).map boQ,true⟩,some ⟨5,(highR p m).map boQ,false⟩,some ⟨1,(basR n m).map natV,false⟩,some ⟨1,byF N m,false⟩]++rwT (rowsZ p N m)
def fz6 (p:Prob) (n m N:Nat):Tab:=[some ⟨11,[.agg [.rop (probQ p) 0,iv n,iv m,.ro ((lowR p m).map boQ),.ro ((highR p m).map boQ),.ro ((ups N n (fcC p) 0).map rsv),.view 1 0 N,.view 2 0 N,.view 7 0 m,.view 3 0 N,.view 8 0 m]],false⟩,some ⟨1,(ups N N (wF p n) 0).map iv,false⟩,some ⟨4,(ups N n (rsX p) 0).map rsv,false⟩,some ⟨1,(ups N N (rF n) 0).map iv,false⟩,some ⟨4,(ups N n (fcC p) 0).map rsv,true⟩,some ⟨5,(lowR p m).map boQ,true⟩,some ⟨5,(highR p m).map boQ,true⟩,some ⟨1,(basR n m).map natV,false⟩,some ⟨1,byF N m,false⟩]++rwT (rowsZ p N m)
theorem le_fz4 (p:Prob) (n m N:Nat) (hn:p.cols.length=n) (hm:p.rows.length=m) (hN:n+m=N) {C:Ctx} :
  Le C ⟨217,[(0,.rop (probQ p) 0),(3,.ptr 0 0 0),(4,iv N)],fR p n m N m []⟩ ⟨217,[(3,.ptr 0 0 0)],fz4 p n m N⟩:=by
 refine (Le.frz 4 (e:=⟨4,(ups N n (fcC p) 0).map rsv,false⟩) rfl (by simp)).trans ?_
 rw [frzS_some (e:=⟨4,(ups N n (fcC p) 0).map rsv,false⟩) rfl]
 have tk:List.take N ((ups N n (fcC p) 0).map rsv)=(ups N n (fcC p) 0).map rsv:=List.take_of_length_le (by simp)
 have b4:sbL 4 ((ups N n (fcC p) 0).map rsv) (byF N m)=byF N m:=sbL_byF (by omega)
 refine Le.syn ⟨rfl,?_,?_,.inl ?_⟩
 ·simp [sbF,leF,Go.Sv.get]
 ·simp [fR,fz4,fHx,fS,sbM_app,sbM_rwT,b4,tk,hN,leM_self]
 ·simp [fR,fz4,fHx,fS,sbM_app,sbM_rwT,b4,tk,hN]
theorem le_fz5 (p:Prob) (n m N:Nat) (hn:p.cols.length=n) (hm:p.rows.length=m) (hN:n+m=N) {C:Ctx} :
  Le C ⟨217,[(3,.ptr 0 0 0)],fz4 p n m N⟩ ⟨217,[(3,.ptr 0 0 0)],fz5 p n m N⟩:=by
 refine (Le.frz 5 (e:=⟨5,(lowR p m).map boQ,false⟩) rfl (by simp)).trans ?_
 rw [frzS_some (e:=⟨5,(lowR p m).map boQ,false⟩) rfl]
 have hll:N≤(lowR p m).length:=by rw [show (lowR p m).length=n+m by simp [lowR,lowC,hn,hm]];omega
 have tk:List.take N ((lowR p m).map boQ)=(lowR p m).map boQ:=List.take_of_length_le (by rw [List.length_map,show (lowR p m).length=n+m by simp [lowR,lowC,hn,hm]];omega)
 have b4:sbL 5 ((lowR p m).map boQ) (byF N m)=byF N m:=sbL_byF (by omega)
 refine Le.syn ⟨rfl,?_,?_,.inl ?_⟩
 ·simp [sbF,leF,Go.Sv.get]
 ·simp [fz4,fz5,hll,sbM_app,sbM_rwT,b4,tk,leM_self]
 ·simp [fz4,fz5,hll,sbM_app,sbM_rwT,b4,tk]
theorem le_fz6 (p:Prob) (n m N:Nat) (hn:p.cols.length=n) (hm:p.rows.length=m) (hN:n+m=N) {C:Ctx} :
  Le C ⟨217,[(3,.ptr 0 0 0)],fz5 p n m N⟩ ⟨217,[(3,.ptr 0 0 0)],fz6 p n m N⟩:=by
 refine (Le.frz 6 (e:=⟨5,(highR p m).map boQ,false⟩) rfl (by simp)).trans ?_
 rw [frzS_some (e:=⟨5,(highR p m).map boQ,false⟩) rfl]
 have hll:N≤(highR p m).length:=by rw [show (highR p m).length=n+m by simp [highR,highC,hn,hm]];omega
 have tk:List.take N ((highR p m).map boQ)=(highR p m).map boQ:=List.take_of_length_le (by rw [List.length_map,show (highR p m).length=n+m by simp [highR,highC,hn,hm]];omega)
 have b4:sbL 6 ((highR p m).map boQ) (byF N m)=byF N m:=sbL_byF (by omega)
 refine Le.syn ⟨rfl,?_,?_,.inl ?_⟩
 ·simp [sbF,leF,Go.Sv.get]
 ·simp [fz5,fz6,hll,sbM_app,sbM_rwT,b4,tk,leM_self]
 ·simp [fz5,fz6,hll,sbM_app,sbM_rwT,b4,tk]
theorem ren_rw6 (N m:Nat):renL sgF (byV N m)=byF N m:=by
 unfold byV byF
 induction List.range m with
 | nil=>simp
 | cons a l ih=>simp only [List.map_cons,renL_cons,ih,rw6,rw9,ren_view];congr 2
theorem sgF_inj {a b:Nat} (h:sgF a=sgF b):a=b:=by
 unfold sgF at h
 repeat' split at h
 all_goals omega
theorem le_fzT (p:Prob) (n m N:Nat) {C:Ctx} (hC:C.fx=[]):Le C ⟨217,[(3,.ptr 0 0 0)],fz6 p n m N⟩ ⟨217,[(3,.ptr 0 0 0)],tT (frC p n m N) (frB p n m N) []⟩:=by
 have hl6:(fz6 p n m N).length=m+9:=by simp [fz6]
 have hlT:(tT (frC p n m N) (frB p n m N) []).length=m+6:=by rw [tT_len (by simp [frB,frC])];rfl
 refine Le.perm hC sgF rfl (fun a b _ _ e=>sgF_inj e) (fun k hk=>?_) (fun k e hk=>?_) (fun t x hg=>?_)
 ·show (fz6 p n m N).length≤_
  replace hk:(tT (frC p n m N) (frB p n m N) []).length≤k:=hk
  rw [hlT] at hk;rw [hl6]
  unfold sgF
  repeat' split
  all_goals omega
 ·replace hk:(tT (frC p n m N) (frB p n m N) [])[k]?=some (some e):=hk
  show (fz6 p n m N)[sgF k]?=_
  match k,hk with
  | 0,hk=>simp only [tT,tH,List.cons_append,List.getElem?_cons_zero,Option.some.injEq] at hk;subst hk;simp [fz6,sgF,renE,tS,frC]
  | 1,hk=>simp only [tT,tH,List.cons_append,List.getElem?_cons_succ,List.getElem?_cons_zero,Option.some.injEq] at hk;subst hk;simp [fz6,sgF,renE,frB]
  | 2,hk=>simp only [tT,tH,List.cons_append,List.getElem?_cons_succ,List.getElem?_cons_zero,Option.some.injEq] at hk;subst hk;simp [fz6,sgF,renE,frB,renL_r]
  | 3,hk=>simp only [tT,tH,List.cons_append,List.getElem?_cons_succ,List.getElem?_cons_zero,Option.some.injEq] at hk;subst hk;simp [fz6,sgF,renE,frB]
  | 4,hk=>simp only [tT,tH,List.cons_append,List.getElem?_cons_succ,List.getElem?_cons_zero,Option.some.injEq] at hk;subst hk;simp [fz6,sgF,renE,frB]
  | 5,hk=>simp only [tT,tH,List.cons_append,List.getElem?_cons_succ,List.getElem?_cons_zero,Option.some.injEq] at hk;subst hk;simp [fz6,sgF,renE,frC,ren_rw6]
  | k+6,hk =>
   simp only [tT,tH,List.cons_append,List.nil_append,List.getElem?_cons_succ,List.append_nil,frB] at hk
   rw [show sgF (k+6)=k+9 by unfold sgF;rw [if_neg (by omega),if_neg (by omega),if_neg (by omega),if_neg (by omega)]]
   simp only [fz6,List.cons_append,List.nil_append,List.getElem?_cons_succ]
   rw [hk]
   unfold rwT at hk
   rw [List.getElem?_map] at hk
   match h:(rowsZ p N m)[k]?,hk with
   | some r,hk=>simp at hk;rw [←hk];simp [renE,renL_r]
 ·simp only [Go.Sv.get] at hg ⊢
  split at hg
  ·rename_i e;rw [if_pos e];cases hg;simp [sgF]
  ·simp at hg
end Go.Proofs


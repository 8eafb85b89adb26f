/- A text of the prover's own. -/
import Derived.Test.YtnimjdcaajmfcaaGreatDoorUSu
import Derived.Test.YtnimjdcaajmfcaaGreatDoorUSh
import Derived.Test.YtnimjdcaajmfcaaGreatDoorUKi
namespace Go.Sx
open Go Go.Sv Go.Pl Go.Proofs Go.Tb Go.Ut Go.Mx Go.Li Go.Dt
def frQ (b:List Nat) (By:List (List Rat)) (x co:List Rat):SV:=.agg [.ro (b.map natV),.ro (By.map rlv),.ro (x.map rsv),.ro (co.map rsv)]
def piF (s:Tb) (w:List Int) (j:Nat):List Nat:=(bL w j).map fun q=>(gt s.row q).toNat
def byW (s:Tb) (w:List Int) (N j:Nat):List SV:=(piF s w j).map (rw6 N)
def tlF (c:Tc) (s:Tb) (w:List Int) (mx:Bool) (j:Nat):Tab:=[some ⟨4,[.agg [.view (c.m+7) 0 (cnt w j),.view (c.m+8) 0 (cnt w j),.view 2 0 c.N,.view (c.m+9) 0 j]],false⟩,some ⟨1,(bL w j).map natV,false⟩,some ⟨1,byW s w c.N j,false⟩,some ⟨4,((coP c s w mx).map rsv).take j,false⟩]
theorem tget_tT {c:Tc} {s:Tb} {tl:Tab} (h:s.R.length=c.m) (i:Nat):tget (tT c s tl) (c.m+6+i)=tget tl i:=by
 unfold tT
 rw [show c.m+6+i=6+(c.m+i) by omega,tget_ap2 (A:=tH c s) (by simp [tH]),tget_ap2 (by simpa using h)]
theorem tset_tT {c:Tc} {s:Tb} {tl:Tab} (h:s.R.length=c.m) (i:Nat) (y:Option Ent):tset (tT c s tl) (c.m+6+i) y=tT c s (tset tl i y):=by
 unfold tT
 rw [show c.m+6+i=6+(c.m+i) by omega,tset_ap2 (A:=tH c s) (by simp [tH]),tset_ap2 (by simpa using h)]
theorem tT_app (c:Tc) (s:Tb) (A B:Tab):tT c s A++B=tT c s (A++B):=by simp [tT]
theorem le_tlF {C:Ctx} {c:Tc} {s:Tb} {w:List Int} {mx:Bool} {n:Nat} {fr:List (Nat × SV)} (h:s.R.length=c.m) :
  Le C ⟨n,fr,tT c s [some ⟨4,[.agg [.val (.slice none 0 0),.val (.slice none 0 0),.view 2 0 c.N,.val (.slice none 0 0)]],false⟩]⟩ ⟨n,fr,tT c s (tlF c s w mx 0)⟩:=by
 have l0:∀tl:Tab,(tT c s tl).length=c.m+6+tl.length:=fun tl=>tT_len h
 have g:=fun (tl:Tab) (i:Nat)=>tget_tT (c:=c) (tl:=tl) h i
 have gs:=fun (tl:Tab) (i:Nat) (y:Option Ent)=>tset_tT (c:=c) (tl:=tl) h i y
 refine (Le.nilCell (c.m+6+0) 0 1 (by show tget (tT c s _) _=_;rw [g];rfl) rfl rfl rfl (by simp)).trans ?_
 simp only [l0]
 rw [gs,tT_app]
 refine (Le.nilCell (c.m+6+0) 1 1 (by show tget (tT c s _) _=_;rw [g];rfl) rfl rfl rfl (by simp [lset])).trans ?_
 simp only [l0]
 rw [gs,tT_app]
 refine (Le.nilCell (c.m+6+0) 3 4 (by show tget (tT c s _) _=_;rw [g];rfl) rfl rfl rfl (by simp [lset])).trans ?_
 simp only [l0]
 rw [gs,tT_app]
 have e:cnt w 0=0:=rfl
 have e2:bL w 0=[]:=rfl
 simp [tset,lset,tlF,e,e2,byW,piF]
 exact Le.refl _ _
end Go.Sx
namespace Go.Sx
open Go Go.Sv Go.Pl Go.Proofs Go.Tb Go.Ut Go.Mx Go.Li Go.Dt
def sgE (m k:Nat):Nat:=if k=0 then m+8 else if k≤m then k+5 else if k=m+1 then 2 else if k=m+2 then m+6 else if k=m+3 then m+7 else if k=m+4 then m+9 else k+5
def sgG (m k:Nat):Nat:=if k=0 then 0 else k+m
theorem sgE_inj {m a b:Nat} (ha:a<m+5) (hb:b<m+5) (h:sgE m a=sgE m b):a=b:=by
 unfold sgE at h
 repeat' split at h
 all_goals omega
theorem sgG_inj {m a b:Nat} (h:sgG m a=sgG m b):a=b:=by
 unfold sgG at h
 repeat' split at h
 all_goals omega
theorem get_app2 {α:Type} {A B:List α} {n i:Nat} (h:A.length=n):(A++B)[n+i]?=B[i]?:=by
 rw [List.getElem?_append_right (by omega)];congr 1;omega
theorem le_end {C:Ctx} (hC:C.fx=[]) {c:Tc} {s:Tb} {w:List Int} {mx:Bool} {n:Nat} (h:s.R.length=c.m) (hr:∀i,i<c.m→(gt s.R i).length=c.N) (hx:s.x.length=c.N) (hcn:cnt w c.N=c.m) (hro:∀r,r<c.m→gt (piF s w c.N) r<c.m) :
  ∃M',Le C ⟨n,[(4,.ptr (c.m+6) 0 0),(5,.val .nilIface)],tT c s (tlF c s w mx c.N)⟩ ⟨n,[(4,.rop (frQ (bL w c.N) (byP s w c.N) s.x (coP c s w mx)) 0),(5,.val .nilIface)],M'⟩:=by
 have lpi:(piF s w c.N).length=c.m:=by simp [piF,bL_len,hcn]
 have lco:(coP c s w mx).length=c.N:=by simp [coP]
 have tco:((coP c s w mx).map rsv).take c.N=(coP c s w mx).map rsv:=List.take_of_length_le (by simp;omega)
 have lT:(tT c s (tlF c s w mx c.N)).length=c.m+6+4:=by rw [tT_len h];rfl
 -- another order
 have p1:Le C ⟨n,[(4,.ptr (c.m+6) 0 0),(5,.val .nilIface)],tT c s (tlF c s w mx c.N)⟩ ⟨n,[(4,.ptr (c.m+2) 0 0),(5,.val .nilIface)],some ⟨1,outV c.N (piF s w c.N),false⟩::(rwT s.R++[some ⟨4,s.x.map rsv,false⟩,some ⟨4,[.agg [.view (c.m+3) 0 c.m,.view 0 0 c.m,.view (c.m+1) 0 c.N,.view (c.m+4) 0 c.N]],false⟩,some ⟨1,(bL w c.N).map natV,false⟩,some ⟨4,(coP c s w mx).map rsv,false⟩])⟩:=by
  have l2:(some ⟨1,outV c.N (piF s w c.N),false⟩::(rwT s.R++[some ⟨4,s.x.map rsv,false⟩,some ⟨4,[.agg [.view (c.m+3) 0 c.m,.view 0 0 c.m,.view (c.m+1) 0 c.N,.view (c.m+4) 0 c.N]],false⟩,some ⟨1,(bL w c.N).map natV,false⟩,some ⟨4,(coP c s w mx).map rsv,false⟩]):Tab).length=c.m+5:=by simp [h]
  have g:∀i:Nat,((tH c s++rwT s.R)++tlF c s w mx c.N)[c.m+6+i]?=(tlF c s w mx c.N)[i]?:=fun i=>get_app2 (by simp [tH,h])
  have gT:∀k:Nat,(tT c s (tlF c s w mx c.N))[k]?=((tH c s++rwT s.R)++tlF c s w mx c.N)[k]?:=fun k=>by unfold tT;rw [List.append_assoc]
  have sh:sgE c.m (c.m+3)=c.m+7∧sgE c.m 0=c.m+8∧sgE c.m (c.m+1)=2∧sgE c.m (c.m+4)=c.m+9∧sgE c.m (c.m+2)=c.m+6:=by
   unfold sgE
   refine ⟨?_,rfl,?_,?_,?_⟩<;>(repeat' split)<;>omega
  refine Le.perm hC (sgE c.m) rfl (fun a b ha hb e=>sgE_inj (by rw [←l2];exact ha) (by rw [←l2];exact hb) e) (fun k hk=>?_) (fun k e hk=>?_) (fun t x hg=>?_)
  ·show (tT c s (tlF c s w mx c.N)).length≤_
   replace hk:c.m+5≤k:=by rw [←l2];exact hk
   rw [lT];unfold sgE
   repeat' split
   all_goals omega
  ·show (tT c s (tlF c s w mx c.N))[sgE c.m k]?=_
   replace hk:(some ⟨1,outV c.N (piF s w c.N),false⟩::(rwT s.R++[some ⟨4,s.x.map rsv,false⟩,some ⟨4,[.agg [.view (c.m+3) 0 c.m,.view 0 0 c.m,.view (c.m+1) 0 c.N,.view (c.m+4) 0 c.N]],false⟩,some ⟨1,(bL w c.N).map natV,false⟩,some ⟨4,(coP c s w mx).map rsv,false⟩]):Tab)[k]?=some (some e):=hk
   match k,hk with
   | 0,hk =>
    rw [sh.2.1,gT,show c.m+8=c.m+6+2 by omega,g]
    simp only [List.getElem?_cons_zero,Option.some.injEq] at hk;subst hk
    simp only [tlF,List.getElem?_cons_succ,List.getElem?_cons_zero,renE]
    have:∀l:List Nat,(∀i∈l,i<c.m)→renL (sgE c.m) (outV c.N l)=l.map (rw6 c.N):=fun l=>by
     induction l with
     | nil=>intro _;simp [outV]
     | cons a l ih =>
      intro hl
      have ha:=hl a (by simp)
      have e:sgE c.m (a+1)=a+6:=by unfold sgE;rw [if_neg (by omega),if_pos (by omega)]
      have:=ih (fun i hi=>hl i (by simp [hi]))
      simp only [outV] at this
      simp only [outV,List.map_cons,renL_cons,vw,rw6,ren_view,e,this]
    rw [this _ (fun i hi=>by
     obtain ⟨r,hr,rfl⟩:=List.getElem_of_mem hi
     have:=hro r (by omega)
     rwa [gt_eq hr] at this)]
    rfl
   | k+1,hk =>
    simp only [List.getElem?_cons_succ] at hk
    by_cases hkm:k<c.m
    ·rw [List.getElem?_append_left (by simp [h,hkm])] at hk
     have e1:sgE c.m (k+1)=6+k:=by unfold sgE;rw [if_neg (by omega),if_pos (by omega)];omega
     rw [e1,gT,List.append_assoc,get_app2 (A:=tH c s) (by simp [tH]),List.getElem?_append_left (by simp [h,hkm]),hk]
     unfold rwT at hk
     rw [List.getElem?_map] at hk
     match hh:s.R[k]?,hk with
     | some r,hk=>simp at hk;rw [←hk];simp [renE]
    ·obtain ⟨d,rfl⟩:∃d,k=c.m+d:=⟨k - c.m,by omega⟩
     rw [get_app2 (by simp [h])] at hk
     match d,hk with
     | 0,hk =>
      rw [show c.m+0+1=c.m+1 by omega,sh.2.2.1]
      simp only [List.getElem?_cons_zero,Option.some.injEq] at hk;subst hk
      simp [tT,tH,renE]
     | 1,hk =>
      rw [show c.m+1+1=c.m+2 by omega,sh.2.2.2.2,gT,show c.m+6=c.m+6+0 by omega,g]
      simp only [List.getElem?_cons_zero,List.getElem?_cons_succ,Option.some.injEq] at hk;subst hk
      simp [tlF,renE,sh,hcn]
     | 2,hk =>
      rw [show c.m+2+1=c.m+3 by omega,sh.1,gT,show c.m+7=c.m+6+1 by omega,g]
      simp only [List.getElem?_cons_zero,List.getElem?_cons_succ,Option.some.injEq] at hk;subst hk
      simp [tlF,renE]
     | 3,hk =>
      rw [show c.m+3+1=c.m+4 by omega,sh.2.2.2.1,gT,show c.m+9=c.m+6+3 by omega,g]
      simp only [List.getElem?_cons_zero,List.getElem?_cons_succ,Option.some.injEq] at hk;subst hk
      simp [tlF,renE,tco]
     | d+4,hk=>simp at hk
  ·simp only [Go.Sv.get] at hg ⊢
   split at hg
   ·rename_i e;rw [if_pos e];cases hg;simp [sh]
   ·rename_i e
    split at hg
    ·rename_i e2;rw [if_neg e,if_pos e2];cases hg;simp
    ·simp at hg
 have p2:=frz_rowsT (C:=C) (N:=n) (w:=c.N) (n:=c.m) (R:=s.R) (π:=piF s w c.N) (fr:=[(4,.ptr (c.m+2) 0 0),(5,.val .nilIface)]) (tl:=[some ⟨4,s.x.map rsv,false⟩,some ⟨4,[.agg [.view (c.m+3) 0 c.m,.view 0 0 c.m,.view (c.m+1) 0 c.N,.view (c.m+4) 0 c.N]],false⟩,some ⟨1,(bL w c.N).map natV,false⟩,some ⟨4,(coP c s w mx).map rsv,false⟩]) h (fun e he=>by
   obtain ⟨r,hr',rfl⟩:=List.getElem_of_mem he
   have:=hro r (by omega)
   rw [gt_eq hr'] at this
   exact hr _ this) (fun j es hj=>by simp;omega) (by simp [leF,Go.Sv.get]) (fun j es hj=>by
   have e1:sbL (j+1) es (s.x.map rsv)=s.x.map rsv:=sbL_pure _ _ _ (by simp)
   have e2:sbL (j+1) es ((bL w c.N).map natV)=(bL w c.N).map natV:=sbL_pure _ _ _ (by simp)
   have e3:sbL (j+1) es ((coP c s w mx).map rsv)=(coP c s w mx).map rsv:=sbL_pure _ _ _ (by simp)
   simp only [sbM_some,sbM_nil,e1,e2,e3]
   simp
   omega) c.m (Nat.le_refl _)
 have eO:outF c.N s.R c.m (piF s w c.N)=(byP s w c.N).map rlv:=by
  unfold outF byP piF
  rw [List.map_map,List.map_map]
  refine List.map_congr_left fun q hq=>?_
  obtain ⟨r,hr',rfl⟩:=List.getElem_of_mem hq
  have hr2:r<c.m:=by rw [bL_len] at hr';omega
  have:=hro r hr2
  unfold piF at this
  rw [gt_map _ hr',gt_eq hr'] at this
  simp only [Function.comp]
  rw [if_pos this];rfl
 rw [eO] at p2
 -- without the rows
 have p3:Le C ⟨n,[(4,.ptr (c.m+2) 0 0),(5,.val .nilIface)],some ⟨1,(byP s w c.N).map rlv,false⟩::(rwN s.R c.m++[some ⟨4,s.x.map rsv,false⟩,some ⟨4,[.agg [.view (c.m+3) 0 c.m,.view 0 0 c.m,.view (c.m+1) 0 c.N,.view (c.m+4) 0 c.N]],false⟩,some ⟨1,(bL w c.N).map natV,false⟩,some ⟨4,(coP c s w mx).map rsv,false⟩])⟩
   ⟨n,[(4,.ptr 2 0 0),(5,.val .nilIface)],[some ⟨1,(byP s w c.N).map rlv,false⟩,some ⟨4,s.x.map rsv,false⟩,some ⟨4,[.agg [.view 3 0 c.m,.view 0 0 c.m,.view 1 0 c.N,.view 4 0 c.N]],false⟩,some ⟨1,(bL w c.N).map natV,false⟩,some ⟨4,(coP c s w mx).map rsv,false⟩]⟩:=by
  have g:∀(B:Tab) (i:Nat),(rwN s.R c.m++B)[c.m+i]?=B[i]?:=fun B i=>get_app2 (by simp [h])
  refine Le.perm hC (sgG c.m) rfl (fun a b _ _ e=>sgG_inj e) (fun k hk=>?_) (fun k e hk=>?_) (fun t x hg=>?_)
  ·simp only [List.length_cons,List.length_append,rwN_len,List.length_nil] at hk ⊢
   unfold sgG;rw [if_neg (by omega)];omega
  ·match k,hk with
   | 0,hk =>
    simp only [List.getElem?_cons_zero,Option.some.injEq] at hk;subst hk
    have:renL (sgG c.m) ((byP s w c.N).map rlv)=(byP s w c.N).map rlv:=renL_pure _ _ (by simp)
    simp [sgG,renE]
   | d+1,hk =>
    have e1:sgG c.m (d+1)=(c.m+d)+1:=by unfold sgG;rw [if_neg (by omega)];omega
    rw [e1]
    simp only [List.getElem?_cons_succ] at hk ⊢
    rw [g]
    match d,hk with
    | 0,hk=>simp only [List.getElem?_cons_zero,Option.some.injEq] at hk;subst hk;simp [renE]
    | 1,hk =>
     simp only [List.getElem?_cons_zero,List.getElem?_cons_succ,Option.some.injEq] at hk;subst hk
     simp [renE,sgG]
     omega
    | 2,hk =>
     simp only [List.getElem?_cons_zero,List.getElem?_cons_succ,Option.some.injEq] at hk;subst hk
     have:renL (sgG c.m) ((bL w c.N).map natV)=(bL w c.N).map natV:=renL_pure _ _ (by simp)
     simp [renE]
    | 3,hk=>simp only [List.getElem?_cons_zero,List.getElem?_cons_succ,Option.some.injEq] at hk;subst hk;simp [renE]
    | d+4,hk=>simp at hk
  ·simp only [Go.Sv.get] at hg ⊢
   split at hg
   ·rename_i e;rw [if_pos e];cases hg;simp [sgG];omega
   ·rename_i e
    split at hg
    ·rename_i e2;rw [if_neg e,if_pos e2];cases hg;simp
    ·simp at hg
 have tb:((byP s w c.N).map rlv).take c.m=(byP s w c.N).map rlv:=List.take_of_length_le (by simp [byP,bL_len,hcn])
 have tx:(s.x.map rsv).take c.N=s.x.map rsv:=List.take_of_length_le (by simp [hx])
 have tB:((bL w c.N).map natV).take c.m=(bL w c.N).map natV:=List.take_of_length_le (by simp [bL_len,hcn])
 have tc:((coP c s w mx).map rsv).take c.N=(coP c s w mx).map rsv:=List.take_of_length_le (by simp [lco])
 have lB:(byP s w c.N).length=c.m:=by simp [byP,bL_len,hcn]
 have lb:=bL_len w c.N
 have sq1:∀k es,sbL k es ((byP s w c.N).map rlv)=(byP s w c.N).map rlv:=fun k es=>sbL_pure _ _ _ (by simp)
 have sq2:∀k es (l:List Rat),sbL k es (l.map rsv)=l.map rsv:=fun k es l=>sbL_pure _ _ _ (by simp)
 have sq3:∀k es,sbL k es ((bL w c.N).map natV)=(bL w c.N).map natV:=fun k es=>sbL_pure _ _ _ (by simp)
 have p4:=(Le.frz (C:=C) (st:=⟨n,[(4,.ptr 2 0 0),(5,.val .nilIface)],[some ⟨1,(byP s w c.N).map rlv,false⟩,some ⟨4,s.x.map rsv,false⟩,some ⟨4,[.agg [.view 3 0 c.m,.view 0 0 c.m,.view 1 0 c.N,.view 4 0 c.N]],false⟩,some ⟨1,(bL w c.N).map natV,false⟩,some ⟨4,(coP c s w mx).map rsv,false⟩]⟩) 0 rfl (by simp))
 have p5:=(Le.frz (C:=C) (st:=⟨n,[(4,.ptr 2 0 0),(5,.val .nilIface)],[some ⟨1,(byP s w c.N).map rlv,true⟩,some ⟨4,s.x.map rsv,false⟩,some ⟨4,[.agg [.view 3 0 c.m,.ro ((byP s w c.N).map rlv),.view 1 0 c.N,.view 4 0 c.N]],false⟩,some ⟨1,(bL w c.N).map natV,false⟩,some ⟨4,(coP c s w mx).map rsv,false⟩]⟩) 1 rfl (by simp))
 have p6:=(Le.frz (C:=C) (st:=⟨n,[(4,.ptr 2 0 0),(5,.val .nilIface)],[some ⟨1,(byP s w c.N).map rlv,true⟩,some ⟨4,s.x.map rsv,true⟩,some ⟨4,[.agg [.view 3 0 c.m,.ro ((byP s w c.N).map rlv),.ro (s.x.map rsv),.view 4 0 c.N]],false⟩,some ⟨1,(bL w c.N).map natV,false⟩,some ⟨4,(coP c s w mx).map rsv,false⟩]⟩) 3 rfl (by simp))
 have p7:=(Le.frz (C:=C) (st:=⟨n,[(4,.ptr 2 0 0),(5,.val .nilIface)],[some ⟨1,(byP s w c.N).map rlv,true⟩,some ⟨4,s.x.map rsv,true⟩,some ⟨4,[.agg [.ro ((bL w c.N).map natV),.ro ((byP s w c.N).map rlv),.ro (s.x.map rsv),.view 4 0 c.N]],false⟩,some ⟨1,(bL w c.N).map natV,true⟩,some ⟨4,(coP c s w mx).map rsv,false⟩]⟩) 4 rfl (by simp))
 have p8:=(Le.frz (C:=C) (st:=⟨n,[(4,.ptr 2 0 0),(5,.val .nilIface)],[some ⟨1,(byP s w c.N).map rlv,true⟩,some ⟨4,s.x.map rsv,true⟩,some ⟨4,[.agg [.ro ((bL w c.N).map natV),.ro ((byP s w c.N).map rlv),.ro (s.x.map rsv),.ro ((coP c s w mx).map rsv)]],false⟩,some ⟨1,(bL w c.N).map natV,true⟩,some ⟨4,(coP c s w mx).map rsv,true⟩]⟩) 2 rfl (by simp))
 simp [frzS,tset,tget,tb,tx,tB,tc,lB,lb,lco,hx,hcn] at p4 p5 p6 p7 p8
 exact ⟨_,p1.trans (p2.trans (p3.trans (p4.trans (p5.trans (p6.trans (p7.trans p8))))))⟩
end Go.Sx
set_option maxRecDepth 10000
namespace Go.Sx
open Go Go.Sv Go.Pl Go.Proofs Go.Tb Go.Ut Go.Mx Go.Li Go.Dt
theorem tgE {n:Nat} {R:List (List Rat)} {tl:Tab} (h:R.length=n):tget (rwT R++tl) (n+4)=tget tl 4:=tget_ap2 (i:=4) (by simpa using h)
theorem tgG {n:Nat} {R:List (List Rat)} {tl:Tab} (h:R.length=n):tget (rwT R++tl) (n+5)=tget tl 5:=tget_ap2 (i:=5) (by simpa using h)
theorem tsE {n:Nat} {R:List (List Rat)} {tl:Tab} {y:Option Ent} (h:R.length=n):tset (rwT R++tl) (n+4) y=rwT R++tset tl 4 y:=tset_ap2 (i:=4) (by simpa using h)
theorem tsD {n:Nat} {R:List (List Rat)} {tl:Tab} {y:Option Ent} (h:R.length=n):tset (rwT R++tl) (n+3) y=rwT R++tset tl 3 y:=tset_ap2 (i:=3) (by simpa using h)
theorem usesL_byV {N m k:Nat} (h:m+6≤k):SV.usesL k (byV N m)=false:=by
 unfold byV
 rw [usesL_map,List.any_eq_false]
 intro i hi
 have hi:i<m:=by simpa using hi
 simp [rw6];omega
theorem usesL_byW {s:Tb} {w:List Int} {N j m k:Nat} (hq:∀q,q∈bL w j→(gt s.row q).toNat<m) (h:m+6≤k):SV.usesL k (byW s w N j)=false:=by
 unfold byW piF
 rw [List.map_map,usesL_map,List.any_eq_false]
 intro q hq'
 have:=hq q hq'
 simp [rw6];omega
theorem ltL_byW {s:Tb} {w:List Int} {N j m k:Nat} (hq:∀q,q∈bL w j→(gt s.row q).toNat<m) (h:m+6≤k):SV.ltL k (byW s w N j)=true:=by
 unfold byW piF
 rw [List.map_map,ltL_map,List.all_eq_true]
 intro q hq'
 have:=hq q hq'
 simp [rw6];omega
theorem tgH {n:Nat} {R:List (List Rat)} {tl:Tab} (h:R.length=n):tget (rwT R++tl) (n+6)=tget tl 6:=tget_ap2 (i:=6) (by simpa using h)
theorem tgI {n:Nat} {R:List (List Rat)} {tl:Tab} (h:R.length=n):tget (rwT R++tl) (n+7)=tget tl 7:=tget_ap2 (i:=7) (by simpa using h)
theorem nlL_ap:∀(a b:List SV),nlL (a++b)=nlL a++nlL b
 | [],_=>rfl
 | x::a,b=>by simp only [List.cons_append,nlL];rw [nlL_ap a b]
theorem badT_len {n:Nat}:∀{ts:List Term} {c:Int},badT n c ts=false → -1≤c→(ts.length:Int)≤n - 1 - c∨ts=[]
 | [],_,_,_=>.inr rfl
 | t::ts,c,h,hc=>by
  simp only [badT,Bool.or_eq_false_iff,decide_eq_false_iff_not] at h
  left
  rcases badT_len h.2 (by omega) with q | q
  ·simp only [List.length_cons];omega
  ·rw [q];simp only [List.length_cons,List.length_nil];omega
theorem valid_bad {p:Prob} (h:validC p=0) {i:Nat} (hi:i<p.rows.length):badT p.cols.length (-1) (gt p.rows i).terms=false:=by
 cases hb:badT p.cols.length (-1) (gt p.rows i).terms with
 | false=>rfl
 | true =>
  have:=badR_at hi hb
  unfold validC at h
  rw [this] at h
  split at h
  ·omega
  ·split at h
   ·omega
   ·simp at h
theorem renM_id {n:Nat}:∀{T:Tab},whole n T→(T.map fun e=>e.map (renE fun i=>0+i))=T
 | [],_=>rfl
 | none::_,h=>h.elim
 | some e::T,h=>by
  simp only [List.map_cons,Option.map_some,renM_id h.2]
  have:=renL_id (σ:=fun i=>0+i) (n:=n) (fun i _=>by simp) e.es h.1
  unfold renE
  rw [this]
theorem callFresh {P:Program} {C:Ctx} {f:FuncId} {args:List SV} {c:Tc} {s:Tb} {W:Option (List Nat)} {K:Tab→List Nat→SV→Prop} (h:EffC P f args [] [] (fun T y=>T=tT c s []∧y=.ptr 0 0 0)) (hR:s.R.length=c.m)
  (ha:SV.pureL args=true) (hK:K (tT c s []) [] (.ptr 0 0 0)):CallJ P C f args [] W K:=by
 refine callT h [] List.nodup_nil trivial (renL_pure _ _ ha).symm (fun k hk=>by cases hk) (fun ks _=>⟨rfl,fun k hk=>by cases hk⟩) ?_
 rintro T1 y ⟨rfl,rfl⟩
 have e:setA (Go.Sv.sg [] ([]:Tab).length) (fgts (([]:List Nat).map (Go.Sv.sg [] ([]:Tab).length)) []) [] (tT c s [])=tT c s []:=by
  show ([]:Tab)++(tT c s []).map (fun e=>e.map (renE (Go.Sv.sg [] 0)))=_
  rw [List.nil_append]
  exact renM_id (whole_tT s rfl)
 rw [e]
 exact hK
end Go.Sx
namespace Go.Proofs
open Go.Sv Go Go.Tb Go.Pl Go.Ut Go.Mx Go.Li Go.Dt Go.Sx
def FrQv (c:Tc) (K:(Nat→Rat)→Prop) (cst:Nat→Rat) (w:List Int) (y:SV):Prop :=
 (IsB c K w∧∃By x co,IsF c K w cst By x co∧y=.tup [.rop (frQ (bL w c.N) By x co) 0,.val .nilIface])∨(¬IsB c K w∧y=.tup [.val (.pointer none),erV 9])
theorem qFrameE_ok (p:Prob) (fw:Few p) (w:List Int) (hv:validC p≠0) (hwl:w.length≤1048576):PureF Tryz.prog 33 [.rop (probQ p) 0,.ro (w.map iv)] (.tup [.val (.pointer none),erV (validC p)]):=by
 have qv:=qValid_ok p fw
 refine pure_enter Tryz.func33 rfl (by simp) (fun C hC=>?_)
 simp
 refine callS (qv) (by simp) ?_
 have e:∃s k,erV (validC p)=.sen s k:=by unfold erV;rw [if_neg hv];exact ⟨_,_,rfl⟩
 obtain ⟨s,k,e⟩:=e
 rw [e]
 simp
theorem qFrameOf_ok (p:Prob) (fw:Few p) (n m N:Nat) (hn:p.cols.length=n) (hm:p.rows.length=m) (hN:n+m=N) (h14:N≤14) (h7:m≤7) (hw:ProbW p) (hv:validC p=0) (w:List Int) (hwl:w.length≤1048576) :
  PureC Tryz.prog 33 [.rop (probQ p) 0,.ro (w.map iv)] (FrQv (frC p n m N) (Kp p n m) (cstP p n) w):=by
 have qv:=qValid_ok p fw
 rw [hv] at qv
 have hb:∀i,i<m→badT n (-1) (gt p.rows i).terms=false:=fun i hi=>by rw [←hn];exact valid_bad hv (by omega)
 have htl:∀i,i<m→(gt p.rows i).terms.length≤1000000:=fun i hi=>by
  rcases badT_len (hb i hi) (by omega) with q | q
  ·omega
  ·rw [q];simp
 have qf:=qFresh_ok p n m N hn hm hN h14 h7 hw htl hb
 have qs:=qSet_ok (frC p n m N) (Kp p n m) (frE p n m N) (fr_len hn hm hN h14 h7) (fr_bw hn hm hN hw) hN w (fr_set hN hm hw hb w) hwl
 have hcl:=fr_len hn hm hN h14 h7
 have hco:∀k,k<N→gt (frC p n m N).cost k=if p.max=true then -cstP p n k else cstP p n k:=fun k hk=>fr_cost hk
 have hcw:Wd 2200 (frC p n m N).cost:=fun k hk=>by
  have hk:k<N:=by rw [hcl.co] at hk;exact hk
  rw [hco k hk]
  have:qw 2200 (cstP p n k):=by
   unfold cstP;split
   ·exact (hw.co k (by omega)).1
   ·exact qw_zero (by omega)
  split
  ·exact qw_neg this
  ·exact this
 have hcp:(frC p n m N).p=p:=rfl
 have hcm:(frC p n m N).m=m:=rfl
 have hcN:(frC p n m N).N=N:=rfl
 have hRf:(frE p n m N).R.length=m:=by simp [frE,frB]
 refine pure_enterW Tryz.func33 rfl (by simp) (fun C hC=>?_)
 simp
 refine callS (qv) (by simp) ?_
 simp [erV]
 generalize frC p n m N=c at *
 generalize frE p n m N=s0 at *
 refine callFresh qf (by rw [hRf,hcm]) (by simp) ?_
 simp
 rw [show tT c s0 []=tH c s0++rwT s0.R by simp [tT]]
 refine callTb (s:=s0) qs (by rw [hRf,hcm]) (by simp) (by simp) ?_
 rintro T1 y ⟨s,b,rfl,rfl,hR,hno,hyes⟩
 refine ⟨s,rfl,hR,by simp,?_⟩
 simp only [tH,tS,List.cons_append,List.nil_append]
 cases b with
 | false =>
  simp
  refine CodeJ.draw (.qs [0,1,2]<|.nil) (by kernel_rfl) (by kernel_rfl) (by simp) ?_
  simp
  refine ⟨_,Le.refl _ _,?_⟩
  simp
  exact ⟨.tup [.val (.pointer none),erV 9],by simp [erV];rfl,.inr ⟨hno rfl,rfl⟩⟩
 | true =>
  obtain ⟨hB,hS,hwh,hxn,hxb⟩:=hyes rfl
  have hcn:=hB.n
  simp
  refine CodeJ.le (le_tlF (w:=w) (mx:=p.max) hR) ?_
  refine CodeJ.loopL (ι:=Nat) (fun j=>⟨99,[(0,.rop (probQ p) 0),(7,.ptr 0 0 0),(8,.ptr (c.m+6) 0 0),(33,iv c.N),(34,iv j)],tT c s (tlF c s w p.max j)⟩)
   (fun j=>j≤c.N) (fun j=>c.N - j) 0 (by omega) ?_ ?_
  ·have lx:=hS.t.x
   exact ⟨rfl,by simp [leF,Go.Sv.get,probQ,hR],leM_self _,.inl rfl⟩
  ·rintro j hj
   by_cases hjN:j<c.N
   ·have lw:lget (s.wh.map iv) j=iv (gt w j):=by rw [lget_iv (by rw [hS.t.w];exact hjN),hwh]
    simp only [tT,tH,tS,tlF,List.cons_append,List.nil_append]
    have lwl:s.wh.length=c.N:=hS.t.w
    have h14:c.N≤14:=hcl.N14
    have tco:=Mx.take1 rsv (l:=coP c s w p.max) (i:=j) (by simp [coP];exact hjN)
    have gco:gt (coP c s w p.max) j=if gt w j=1 then 0 else if p.max=true then -(redC c s j c.m) else redC c s j c.m:=by unfold coP;rw [gt_range _ hjN]
    have lco:(coP c s w p.max).length=c.N:=by simp [coP]
    rw [gco] at tco
    have cs:cnt w (j+1)=cnt w j+if gt w j=1 then 1 else 0:=rfl
    have bs:=bL_succ w j
    have lbj:=bL_len w j
    have us1:∀k,c.m+6≤k→SV.usesL k (byV c.N c.m)=false:=fun k hk=>usesL_byV hk
    have bqm:∀j,j≤c.N→∀q,q∈bL w j→(gt s.row q).toNat<c.m:=fun j hj q hq=>by
     obtain ⟨h1,h2⟩:=List.mem_filter.1 hq
     obtain ⟨i,hi,_,e⟩:=row_at hS (show q<c.N by have:=List.mem_range.1 h1;omega) (by simpa using h2)
     omega
    have us2:∀k,c.m+6≤k→SV.usesL k (byW s w c.N j)=false:=fun k hk=>usesL_byW (fun q hq=>by
     obtain ⟨h1,h2⟩:=List.mem_filter.1 hq
     obtain ⟨i,hi,_,e⟩:=row_at hS (show q<c.N by have:=List.mem_range.1 h1;omega) (by simpa using h2)
     omega) hk
    generalize hco:coP c s w p.max=co at *
    by_cases e1:gt w j=1
    ·rw [if_pos e1] at cs bs tco
     rw [e1] at lw
     obtain ⟨i,hi,e2,e3⟩:=row_at hS hjN e1
     have lri:=lget_iv (l:=s.row) (i:=j) (by rw [hS.t.r];exact hjN)
     rw [e3] at lri
     have lby:=lget_byV (N:=c.N) hi
     have lrl:=hS.t.r
     have bw:byW s w c.N (j+1)=byW s w c.N j++[.view (i+6) 0 c.N]:=by
      unfold byW piF;rw [bs];simp [rw6,e3]
     have lbw:(byW s w c.N j).length=cnt w j:=by simp [byW,piF,lbj]
     have ckj:=cnt_le w j
     have hi2:¬i=c.m+2:=by omega
     have us5:∀k,c.m+6≤k→SV.usesL k (byW s w c.N j++[.view (i+6) 0 c.N])=false:=fun k hk=>by rw [Go.Ut.usesL_app,us2 k hk];simp;omega
     simp (disch:=omega) [hjN,hR,tgA hR,tgB hR,tgE hR,tgG hR,tsE hR,tsA hR,tsB hR,lw,lwl,us1,us2,nouse_app2,nouse_rwT,fgtM_app,fgtM_rwT,lbj]
     repeat (refine And.intro (by omega) ?_)
     refine ⟨⟨by simp [hC],by omega⟩,?_⟩
     have us4:∀k,SV.usesL k ((bL w j).map natV++[.val (.int .i64 (j:Int))])=false:=fun k=>by
      rw [usesL_app];simp
     have us3:∀k,SV.usesL k ((co.map rsv).take j)=false:=fun k=>by rw [←List.map_take];exact usesL_r _ _
     refine CodeJ.draw (.qs [0,1,2,3,4,5,6,7,8,9,10,11,12,13,14,15,16,17]<|.l 18 []<|.l 19 [1000000]<|.qs [20,21]<|.l 22 [1000000,c.m+6]<|.nil) (by kernel_rfl) (by kernel_rfl) (by simp) ?_
     simp (disch:=omega) [hR,tgA hR,tgC hR,tsA hR,tsC hR,us1,us2,nouse_app2,nouse_rwT,fgtM_app,fgtM_rwT,us3,us4,lri,lby,lrl,hjN,hi,lbw,hi2,tgH hR]
     repeat (refine And.intro (by omega) ?_)
     refine ⟨⟨by simp [hC],by omega⟩,?_⟩
     have us6:SV.usesL (c.m+9) [.view (i+6) 0 c.N]=false:=by simp;omega
     have hi3:¬i=c.m+3:=by omega
     refine CodeJ.draw (.qs [0,1,2,3,4,5]<|.l 6 []<|.l 7 [1000000]<|.qs [8,9]<|.l 10 [1000000,c.m+6]<|.nil) (by kernel_rfl) (by kernel_rfl) (by simp) ?_
     simp (disch:=omega) [hR,tgA hR,tgD hR,tgE hR,tsA hR,tsD hR,us1,nouse_app2,nouse_rwT,fgtM_app,fgtM_rwT,us3,us4,lco,hi3,tgI hR,us5,us6,w64]
     repeat (refine And.intro (by omega) ?_)
     refine ⟨⟨by simp [hC],by omega⟩,j+1,by omega,by omega,?_⟩
     subst hco
     refine (Le.nl _).trans ?_
     show Le C ⟨99,_,nlM (tT c s [_,_,_,_,_,_,_,_])⟩ ⟨99,_,tT c s (tlF c s w p.max (j+1))⟩
     rw [nlM_tT]
     refine le_tT (tl':=tlF c s w p.max (j+1)) (fr':=[(0,.rop (probQ p) 0),(7,.ptr 0 0 0),(8,.ptr (c.m+6) 0 0),(33,iv c.N),(34,iv ((j+1:Nat):Int))]) s hR (by simp [hC]) (by simp (disch:=omega) [leF,Go.Sv.get]) ?_ (by simp [ltF,tlF]) ?_
     ·unfold tlF
      have n1:nlL ((bL w j).map natV++[SV.val (.int .i64 (j:Int))])=(bL w (j+1)).map natV:=by
       rw [bs,List.map_append,nlL_ap,nlL_map natV (fun _=>rfl)];rfl
      have n2:nlL (byW s w c.N j++[.view (i+6) 0 c.N])=byW s w c.N (j+1):=by
       rw [bw];unfold byW;rw [nlL_ap,nlL_map (rw6 c.N) (fun _=>rfl)];rfl
      have n3:nlL (((coP c s w p.max).map rsv).take j++[.agg [.val (.bool false),.val (.slice none 0 0),.val (.bool false),.val (.slice none 0 0)]])=((coP c s w p.max).map rsv).take (j+1):=by
       rw [tco,nlL_ap,←List.map_take,nlL_r,show nlL [.agg [.val (.bool false),.val (.slice none 0 0),.val (.bool false),.val (.slice none 0 0)]]=[rsv 0] by rw [←rsv0];rfl]
      rw [cs]
      simp [nlM,n1,n2,n3,leM]
     ·unfold tlF
      have l1:SV.ltL (c.m+10) (byW s w c.N (j+1))=true:=ltL_byW (bqm (j+1) (by omega)) (by omega)
      have l2:SV.ltL (c.m+10) (((coP c s w p.max).map rsv).take (j+1))=true:=by rw [←List.map_take,ltL_map,List.all_eq_true];intro _ _;rfl
      simp [ltM,l1,l2]
      repeat' constructor
      all_goals omega
    ·rw [if_neg e1] at cs bs tco
     rw [List.append_nil] at bs
     rw [Nat.add_zero] at cs
     have bw:byW s w c.N (j+1)=byW s w c.N j:=by unfold byW piF;rw [bs]
     have qr:=qReducedC_ok c s hcl hS.t (W:=171875000) (V:=2200) (setI_wd hS hcn hcl.m7) hcw (by omega) (by omega) hjN
     simp (disch:=omega) [hjN,hR,tgE hR,tsE hR,lw,lwl,e1]
     repeat (refine And.intro (by omega) ?_)
     refine callTt (tl:=[_,_,_,_,_]) qr hR (by simp) (by simp) ?_
     rintro T1 y ⟨rfl,rfl⟩
     refine ⟨s,rfl,hR,by simp,?_⟩
     simp only [tT,tH,tS,List.cons_append,List.nil_append]
     have us3:∀k,SV.usesL k ((co.map rsv).take j)=false:=fun k=>by rw [←List.map_take];exact usesL_r _ _
     have nx:∀j',j'=j+1→j'≤c.N∧c.N - j'<c.N - j:=fun j' e=>by omega
     have lpm:lget (probQ p).cells 0=.val (.bool p.max):=rfl
     by_cases hmx:p.max=true
     ·rw [if_pos hmx] at tco
      simp (disch:=omega) [tgE hR,tsE hR,lpm,hmx]
      repeat (refine And.intro (by omega) ?_)
      refine callS (qNeg_ok (redC c s j c.m)) (by simp) ?_
      simp (disch:=omega) [tgE hR,tsE hR]
      repeat (refine And.intro (by omega) ?_)
      refine CodeJ.draw (.qs [0,1,2,3,4,5]<|.l 6 []<|.l 7 [1000000]<|.qs [8,9]<|.l 10 [1000000,c.m+6]<|.nil) (by kernel_rfl) (by kernel_rfl) (by simp) ?_
      simp (disch:=omega) [hR,tgA hR,tgD hR,tgE hR,tgG hR,tsA hR,tsD hR,us1,us2,nouse_app2,nouse_rwT,fgtM_app,fgtM_rwT,us3,lco,w64]
      repeat (refine And.intro (by omega) ?_)
      refine ⟨⟨by simp [hC],by omega⟩,j+1,by omega,by omega,?_⟩
      subst hco
      show Le C ⟨99,_,tT c s [_,_,_,_,_,_]⟩ ⟨99,_,tT c s (tlF c s w p.max (j+1))⟩
      refine le_tT (tl':=tlF c s w p.max (j+1)) (fr':=[(0,.rop (probQ p) 0),(7,.ptr 0 0 0),(8,.ptr (c.m+6) 0 0),(33,iv c.N),(34,iv ((j+1:Nat):Int))]) s hR (by simp [hC]) (by simp (disch:=omega) [leF,Go.Sv.get]) ?_ (by simp [ltF,tlF]) ?_
      ·unfold tlF
       rw [cs,bs,bw,tco]
       simp [leM]
      ·unfold tlF
       have l1:SV.ltL (c.m+10) (byW s w c.N (j+1))=true:=ltL_byW (bqm (j+1) (by omega)) (by omega)
       have l2:SV.ltL (c.m+10) (((coP c s w p.max).map rsv).take (j+1))=true:=by rw [←List.map_take,ltL_map,List.all_eq_true];intro _ _;rfl
       simp [ltM,l1,l2]
       repeat' constructor
       all_goals omega
     ·rw [if_neg hmx] at tco
      simp (disch:=omega) [tgE hR,tsE hR,lpm,hmx]
      repeat (refine And.intro (by omega) ?_)
      refine CodeJ.draw (.qs [0,1,2,3,4,5]<|.l 6 []<|.l 7 [1000000]<|.qs [8,9]<|.l 10 [1000000,c.m+6]<|.nil) (by kernel_rfl) (by kernel_rfl) (by simp) ?_
      simp (disch:=omega) [hR,tgA hR,tgD hR,tgE hR,tgG hR,tsA hR,tsD hR,us1,us2,nouse_app2,nouse_rwT,fgtM_app,fgtM_rwT,us3,lco,w64]
      repeat (refine And.intro (by omega) ?_)
      refine ⟨⟨by simp [hC],by omega⟩,j+1,by omega,by omega,?_⟩
      subst hco
      show Le C ⟨99,_,tT c s [_,_,_,_,_,_]⟩ ⟨99,_,tT c s (tlF c s w p.max (j+1))⟩
      refine le_tT (tl':=tlF c s w p.max (j+1)) (fr':=[(0,.rop (probQ p) 0),(7,.ptr 0 0 0),(8,.ptr (c.m+6) 0 0),(33,iv c.N),(34,iv ((j+1:Nat):Int))]) s hR (by simp [hC]) (by simp (disch:=omega) [leF,Go.Sv.get]) ?_ (by simp [ltF,tlF]) ?_
      ·unfold tlF
       rw [cs,bs,bw,tco]
       simp [leM]
      ·unfold tlF
       have l1:SV.ltL (c.m+10) (byW s w c.N (j+1))=true:=ltL_byW (bqm (j+1) (by omega)) (by omega)
       have l2:SV.ltL (c.m+10) (((coP c s w p.max).map rsv).take (j+1))=true:=by rw [←List.map_take,ltL_map,List.all_eq_true];intro _ _;rfl
       simp [ltM,l1,l2]
       repeat' constructor
       all_goals omega
   ·obtain rfl:j=c.N:=by omega
    have fin:=isF_prog hS hcn p.max (cstP p n) (fun k hk=>hco k (by omega)) hxn hxb
    obtain ⟨M',hM⟩:=le_end (C:=C) hC (c:=c) (s:=s) (w:=w) (mx:=p.max) (n:=99) hR (fun i hi=>hS.t.Rr i hi) hS.t.x hcn (fun r hr=>by
     have hb:=bL_one (w:=w) (N:=c.N) (k:=r) (by omega)
     obtain ⟨i,hi,_,e⟩:=row_at hS hb.1 hb.2
     unfold piF
     rw [gt_map _ (by rw [bL_len];omega),e];simpa using hi)
    simp only [tT,tH,tS,tlF,List.cons_append,List.nil_append] at hM ⊢
    simp (disch:=omega) []
    repeat (refine And.intro (by omega) ?_)
    refine ⟨_,Le.trans ?_ hM,?_⟩
    ·exact Le.syn ⟨rfl,by simp [leF,Go.Sv.get],leM_self _,.inl rfl⟩
    simp
    exact ⟨_,Sub_self _ _ (by simp [frQ]),.inl ⟨hB,_,_,_,fin,rfl⟩⟩
end Go.Proofs


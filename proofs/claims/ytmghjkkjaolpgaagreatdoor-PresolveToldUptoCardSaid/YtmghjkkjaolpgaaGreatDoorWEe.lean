/- A text of the prover's own. -/
import Derived.Test.YtmghjkkjaolpgaaGreatDoorWIw
import Derived.Test.YtmghjkkjaolpgaaGreatDoorWIz
import Derived.Test.YtmghjkkjaolpgaaGreatDoorWEc
open List renaming mem_append→alH,take_of_length_le→amv,take→anI
namespace Go.Ps
open Go Go.Sv Go.Pl Go.Proofs Go.Tb Go.Ut Go.Li
theorem Cv:(ix true (cq P1)).1=false:=by decide +kernel
theorem Jg:(ix true (cq P1)).2.no=false:=by decide +kernel
theorem Ey:(cE (ix true (cq P1)).2.gc 2).length=2:=by decide +kernel
theorem ED{z:Wk}(h:Bz true (cq P1) z):z.no=false∧(cE z.gc 2).length=2:=by
 cases h with
 | no h=>cases h
 | last=>exact⟨Jg,Ey⟩
 | step _ h1=>rw[Cv]at h1;cases h1
theorem yI(g:List Bool):∀{j k:Nat},k∈cE g j→k<j
 | 0,k,h=>by simp[cE]at h
 | j+1,k,h=>by
  unfold cE at h;split at h
  ·have:=yI g h;omega
  ·rcases alH.1 h with h | h
   ·have:=yI g h;omega
   ·have:k=j:=by simpa using h
    omega
theorem E5{w:Wk}{j:Nat}{c:dL}(h:c∈fV w j):∃k,k<j∧c=gt w.ae k:=by
 unfold fV at h;obtain⟨k,hk,rfl⟩:=List.mem_map.1 h;exact⟨k,yI _ hk,rfl⟩
theorem sj{w:Wk}:∀{i:Nat} {r:Row},r∈fL w i→∃k,k<i∧r=iW w (gt w.rows k)
 | 0,r,h=>by simp[fL]at h
 | i+1,r,h=>by
  unfold fL at h;split at h
  ·obtain⟨k,hk,e⟩:=sj h;exact⟨k,by omega,e⟩
  ·rcases alH.1 h with h | h
   ·obtain⟨k,hk,e⟩:=sj h;exact⟨k,by omega,e⟩
   ·exact⟨i,by omega,by simpa using h⟩
theorem Ez{n m:Nat}{z:Wk}{mx:Bool}(G:bh n m 2400 z)(h7:n≤7)(h7':m≤7):Ua (kD mx z):=by
 obtain⟨g1,g2⟩:=dr G;have T:qB 2400 (ay z.gc) (ay z.gr)≤629145600:=iL (by omega) (by omega) (by omega);have TA:qA 2400 (ay z.gc)≤39321597:=mh (by omega) (by omega);have nc:=G.S.nc;have nr:=G.S.nr;refine⟨?_,?_,dN G.W.sh (by omega),fun j hj=>?_,fun i hi=>?_⟩
 ·have:=rK z z.rows.length;show(fL z z.rows.length).length≤120;omega
 ·have:=rB z.gc z.ae.length;show(fV z z.ae.length).length≤120;rw[si];omega
 ·have hj':j<(fV z z.ae.length).length:=hj;obtain⟨k,hk,e⟩:=E5 (jz hj');obtain⟨a,b,c⟩:=G.W.co k hk;show bQ (gt (fV z z.ae.length) j).cost∧bQ (gt (fV z z.ae.length) j).low.at'∧bQ (gt (fV z z.ae.length) j).high.at';rw[e];exact⟨dN c (by omega),dN a (by omega),dN b (by omega)⟩
 ·have hi':i<(fL z z.rows.length).length:=hi;obtain⟨k,hk,e⟩:=sj (jz hi');obtain⟨a,b⟩:=G.W.ro k hk;have ht:=G.W.te k hk;have hl:=ic (G.S.te k (by omega));show FW (gt (fL z z.rows.length) i);rw[e];refine⟨by simp[iW];omega,fun q hq=>?_,dN a (by omega),dN b (by omega)⟩;have hq':q<(gt z.rows k).ab.length:=by simpa[iW]using hq
  unfold iW;rw[jq _ hq'];exact dN (ht q hq') (by omega)
end Go.Ps
set_option maxRecDepth 10000
namespace Go.Proofs
open Go.Sv Go Go.Tb Go.Pl Go.Ut Go.Li Go.Ps
theorem sR(p:aV)(h:Ua p):aF Tryz.prog 12 [dd p] (cI (bg p)):=by
 have v1:=h.nr;have v2:=h.nc;have lc:(bg p).ae.length=p.ae.length:=by simp[bg]
 have lr:(bg p).rows.length=p.rows.length:=by simp[bg]
 have n1:(bg p).max=p.max:=rfl;have n2:(bg p).shift=jY p.shift:=rfl;refine gk Tryz.func12 rfl (by simp) (fun C hC=>?_);simp;refine akK (l8 p.shift h.sh) ?_;simp;refine aa.le (Le.bB 2 2 5 rfl rfl rfl rfl (by simp)) ?_;simp[aK];refine aa.le (Le.bB 2 3 5 rfl rfl rfl rfl (by simp)) ?_;refine aa.bG (ι:=Nat) (fun j=>⟨71,[(1,.ptr 0 0 0),(2,.ptr 1 0 0),(3,.ptr 2 0 0),(4,iv j)],[some ⟨7,[dd p],false⟩,some ⟨4,[.agg [.val (.bool false),.val (.string .empty),.val (.slice none 0 0),.val (.slice none 0 0)]],false⟩,
   some ⟨4,[.agg [bZ p.max,dt (jY p.shift),.view 3 0 j,.view 4 0 0]],false⟩,some ⟨5,((bg p).ae.take j).map fY,false⟩,some ⟨5,[],false⟩]⟩)
  (fun j=>j≤p.ae.length) (fun j=>p.ae.length - j) 0 (by simp) ?_ ?_
 ·simp[aw,hC,aK];done
 ·rintro j hj;by_cases az:j<p.ae.length
  ·have wc:=h.co j az;have g1:=Ar az;have lcp:=dq az;simp(disch:=omega)[az,lcp];repeat refine akI ?_
   refine akK (mV (gt p.ae j).low wc.2.1) ?_;simp;refine akK (mV (gt p.ae j).high wc.2.2) ?_;simp;refine akK (l8 (gt p.ae j).cost wc.1) ?_;simp(disch:=omega)[aN];repeat refine akI ?_
   have em:SV.agg [SV.val (.string (gt p.ae j).name),SV.val (.bool (gt p.ae j).whole),SV.val (.string (Bx (gt p.ae j).low)),SV.val (.string (Bx (gt p.ae j).high)),SV.val (.string (jY (gt p.ae j).cost))]=fY (D3 (gt p.ae j)):=rfl;exact⟨⟨by simp[hC],by omega⟩,j+1,by omega,by omega,Le.bA (by simp(disch:=omega)[aw,hC,aN,m5 fY (show j<(bg p).ae.length by omega),g1,em])⟩
  ·obtain rfl:j=p.ae.length:=by omega
   simp;refine aa.bG (ι:=Nat) (fun i=>⟨71,[(1,.ptr 0 0 0),(2,.ptr 1 0 0),(3,.ptr 2 0 0),(7,iv i)],[some ⟨7,[dd p],false⟩,some ⟨4,[.agg [.val (.bool false),.val (.string .empty),.val (.slice none 0 0),.val (.slice none 0 0)]],false⟩,
     some ⟨4,[.agg [bZ p.max,dt (jY p.shift),.view 3 0 p.ae.length,.view 4 0 i]],false⟩,some ⟨5,(bg p).ae.map fY,false⟩,some ⟨5,((bg p).rows.take i).map fv,false⟩]⟩)
    (fun i=>i≤p.rows.length) (fun i=>p.rows.length - i) 0 (by simp) ?_ ?_
   ·simp[aw,hC,amv,lc];done
   ·rintro i hi;by_cases az:i<p.rows.length
    ·have g1:=v5 az;have lrp:=eU az;simp(disch:=omega)[az,lrp];repeat refine akI ?_
     refine akK (zD (gt p.rows i) (h.ro i az)) ?_;simp(disch:=omega)[aN];repeat refine akI ?_
     exact⟨⟨by simp[hC],by omega⟩,i+1,by omega,by omega,Le.bA (by simp(disch:=omega)[aw,hC,aN,m5 fv (show i<(bg p).rows.length by omega),g1])⟩
    ·obtain rfl:i=p.rows.length:=by omega
     simp;refine⟨_,(Le.je 4 rfl (by simp)).trans (Le.je 3 rfl (by simp)),?_⟩;have t1:((bg p).rows.map fv).take p.rows.length=(bg p).rows.map fv:=amv (by simp[lr]);have t2:((bg p).ae.map fY).take p.ae.length=(bg p).ae.map fY:=amv (by simp[lc]);simp[dH,aK,lc,lr,t1,t2];have e:SV.agg [SV.val (.bool p.max),SV.val (.string (jY p.shift)),.ro ((bg p).ae.map fY),.ro ((bg p).rows.map fv)]=cI (bg p):=rfl;rw[e];exact cW _ _ rfl
structure StO(s:nY):Prop where
 n:s.ab.length≤120
 at':bQ s.at'
 t:∀k,k<s.ab.length→bQ (gt s.ab k).num
theorem zV(s:nY)(h:StO s):aF Tryz.prog 14 [fZ s,jo s] (bZ true):=by
 have hn:=h.n;obtain⟨K,eK⟩:∃K:Int,(if s.ab.length=0 then 1 else 2)=K:=⟨_,rfl⟩;refine fg Tryz.func14 rfl (by simp) (fun C hC=>?_);refine aa.wk ?_;refine aa.cutAt 3 (fun st=>st=⟨77,[(2,.ptr 0 0 0),(3,.ptr 1 0 0),(5,iv K)],[some ⟨7,[fZ s],false⟩,some ⟨7,[jo s],false⟩]⟩) ?_ ?_
 ·simp only[ar,aq];by_cases hl:s.ab.length=0
  ·rw[if_pos hl]at eK;subst eK;simp(disch:=omega)[hl];repeat refine akI ?_
   simp[aw,hC];done
  ·rw[if_neg hl]at eK;subst eK;simp(disch:=omega)[show 0<s.ab.length by omega];repeat refine akI ?_
   simp[aw,hC];done
 rintro st rfl;simp only[ao,al];have eK':(if s.ab=[] then(1:Int) else 2)=K:=by rw[←eK];simp
 have ea:SV.agg (anI 4 (jo s).cells.tail)=bL s.at':=rfl;refine aa.cutAt 1 (fun st=>st=⟨77,[(2,.ptr 0 0 0),(3,.ptr 1 0 0)],[some ⟨7,[fZ s],false⟩,some ⟨7,[jo s],false⟩]⟩) ?_ ?_
 ·simp only[ar,aq];refine aa.akJ (.qs [0,1,2,3,4,5,6,7,8,9,10,11,12,13,15,16]<|.l 14 []<|.l 17 []<|.qs [18,19,20,21,22,23,24,25,26,27,28]<|.nil) ?_;simp[eK',ea];refine akK (lL s.at' h.at') ?_;simp;refine akK (l8 s.at' h.at') ?_;simp;simp[aw,hC];done
 rintro st rfl;simp only[ao,al];refine aa.go ?_;simp;refine aa.bG (ι:=Nat) (fun k=>⟨77,[(2,.ptr 0 0 0),(3,.ptr 1 0 0),(6,iv k)],[some ⟨7,[fZ s],false⟩,some ⟨7,[jo s],false⟩]⟩)
  (fun k=>k≤s.ab.length) (fun k=>s.ab.length - k) 0 (by omega) ?_ ?_
 ·simp[aw,hC];done
 rintro k hk;by_cases az:k<s.ab.length
 ·have lq:=dZ az;have lc:aB (s.ab.map fun t=>SV.val (.int .i64 t.aI)) k=.val (.int .i64 (gt s.ab k).aI):=dM (fun t:Term=>SV.val (.int .i64 t.aI)) az;have ln:aB (s.ab.map fun t=>bL t.num) k=bL (gt s.ab k).num:=dM (fun t:Term=>bL t.num) az;simp(disch:=omega)[az,lq,lc,ln];repeat refine akI ?_
  refine akK (lL (gt s.ab k).num (h.t k az)) ?_;simp;refine aa.akJ (.qs [0,1,2,3,4,5,6,7,8,9,10,11,12,13,14,15,16,17,18]<|.l 19 []<|.qs [20,21]<|.nil) ?_;simp(disch:=omega)[az,lq,lc,ln];repeat refine akI ?_
  refine akK (l8 (gt s.ab k).num (h.t k az)) ?_;simp(disch:=omega)[];repeat refine akI ?_
  exact⟨k+1,by omega,by omega,Le.bA (by simp(disch:=omega)[aw,hC,aN])⟩
 ·obtain rfl:k=s.ab.length:=by omega
  simp;refine⟨_,Le.refl _ _,?_⟩;simp;done
end Go.Proofs
set_option maxRecDepth 20000
set_option maxHeartbeats 2000000
namespace Go.Ps
open Go Go.Sv Go.Pl Go.Proofs Go.Tb Go.Ut Go.Li
def pD(w:Wk):Prop:=∀s∈w.steps,s.ab.length≤1
theorem pD.put{w:Wk}(h:pD w)(j:Nat)(a:Rat){ts:List Term}(ht:ts.length≤1):pD (jX w j a ts):=fun s hs=>by
 rcases alH.1 (show s∈w.steps++[⟨j,a,ts⟩] from hs)with hs | hs
 ·exact h s hs
 ·have:s=⟨j,a,ts⟩:=by simpa using hs
  subst this;exact ht
theorem jI{d:Wk→Nat→Bool × Wk}{g:Wk→List Bool}(hd:∀w i,pD w→pD (d w i).2):∀m i w,pD w→pD (bX d g m i w).2
 | 0,_,_,h=>h
 | m+1,i,w,h=>by
  unfold bX;split
  ·exact jI hd m (i+1) w h
  ·split
   ·exact hd w i h
   ·exact jI hd m (i+1) _ (hd w i h)
theorem KV(w:Wk)(i:Nat)(h:pD w):pD (jU w i).2:=by
 unfold jU;split
 ·exact h
 ·exact h
theorem J1(w:Wk)(i:Nat)(h:pD w):pD (j3 w i).2:=by
 rw[GB];split
 ·exact h
 ·exact h
theorem Ku(w:Wk)(i:Nat)(h:pD w):pD (su w i).2:=by
 rw[FZ];split
 ·split
  ·exact h
  ·exact h.put i _ (by simp)
 ·exact h
theorem KW(mx:Bool)(w:Wk)(j:Nat)(h:pD w):pD (fT mx w j).2:=by
 unfold fT;split
 ·exact h
 ·have h1:∀c,pD (bN w j c):=fun c=>h;simp only[];generalize (if(gt w.ae j).whole=true then cA (gt w.ae j) (gt w.ae j).low (gt w.ae j).high else gt w.ae j)=c;split
  ·exact h
  ·split
   ·exact(h1 c).put j _ (by simp)
   ·exact h
theorem GS(w:Wk)(i:Nat)(h:pD w):pD (gj w i).2:=by
 rw[CZ];split
 ·exact h
 ·split
  ·exact h
  ·split
   ·exact h
   ·exact h
theorem Kg(w:Wk)(i:Nat)(h:pD w):pD (iB w i).2:=by
 unfold iB;simp only[];split
 ·exact pD.put (w:=dw (bN w _ _) i) h _ _ (by simp)
 ·exact h
theorem FJ{a:Bool × Wk}{f:Wk→Bool × Wk}(h:pD a.2)(hf:∀w,pD w→pD (f w).2):pD (xA a f).2:=by
 unfold xA;split
 ·exact h
 ·exact hf _ h
theorem Js(mx:Bool)(w:Wk)(h:pD w)(k:Nat):pD (ij mx w k).2:=by
 unfold ij;split
 ·exact FJ (jI (fun w i h=>h) _ _ _ h) fun w h=>jI (fun w i h=>h) _ _ _ h
 ·exact jI KV _ _ _ h
 ·exact jI J1 _ _ _ h
 ·exact jI Ku _ _ _ h
 ·exact jI (KW mx) _ _ _ h
 ·exact jI GS _ _ _ h
 ·exact jI Kg _ _ _ h
theorem yb(mx:Bool)(w:Wk)(h:pD w):∀k,pD (iM mx w k).2
 | 0=>h
 | k+1=>FJ (yb mx w h k) fun w h=>Js mx w h (k+1)
theorem Mv{mx:Bool}{w z:Wk}(hr:Bz mx w z):pD w→pD z:=by
 induction hr with
 | no _=>exact id
 | last _ _=>exact fun h=>yb mx _ h 7
 | step _ _ _ ih=>exact fun h=>ih (yb mx _ h 7)
theorem Ol{n m:Nat}{z:Wk}(G:bh n m 2400 z)(h7:n≤7)(h7':m≤7)(hs:pD z){k:Nat}(hk:k<z.steps.length):StO (gt z.steps k):=by
 obtain⟨g1,g2⟩:=dr G;have T:qB 2400 (ay z.gc) (ay z.gr)≤629145600:=iL (by omega) (by omega) (by omega);have TA:qA 2400 (ay z.gc)≤39321597:=mh (by omega) (by omega);have h1:=hs _ (jz hk);obtain⟨a,b⟩:=G.W.st k hk;exact⟨by omega,dN a (by omega),fun t ht=>dN (b t ht) (by omega)⟩
theorem LY(t:ByteArray):nB (kn t):=fun h=>by
 unfold kn at h ⊢;split
 ·rfl
 ·rename_i q;rw[if_neg q]at h;cases h
theorem Lk(s:cR):∀i,i<(cV s).rows.length→nB (gt (cV s).rows i).low∧nB (gt (cV s).rows i).high:=fun i hi=>by
 have hi':i<s.rows.length:=by simpa[cV]using hi
 unfold cV;rw[jq _ hi'];exact⟨LY _,LY _⟩
theorem GL:∀i,i<P1.rows.length→nB (gt P1.rows i).low∧nB (gt P1.rows i).high:=by rw[←mz];exact Lk _
theorem v9(mx:Bool)(w:Wk):SV.agg (anI 7 (lu mx w).cells.tail)=dd (kD mx w):=rfl
@[simp] theorem aa4(mx:Bool)(w:Wk):aB (lu mx w).cells 0=.val (.bool false):=rfl
@[simp] theorem ZR(mx:Bool)(w:Wk):aB (lu mx w).cells 8=.ro (uh w.gc w.ae.length):=rfl
@[simp] theorem W5(mx:Bool)(w:Wk):aB (lu mx w).cells 9=.ro (w.steps.map jo):=rfl
theorem Gk{g:List Bool}{j k:Nat}(h:k<(cE g j).length):∃x:Nat,aB (uh g j) k=iv x:=⟨_,dM (fun k:Nat=>iv k) h⟩
theorem CL{p:aV}(h:Ua p):(bg p).ae.length≤1048576∧(bg p).rows.length≤1048576∧∀i,i<(bg p).rows.length→(gt (bg p).rows i).ae.length≤1048576∧(gt (bg p).rows i).eY.length≤1048576:=by
 have h1:=h.nc;have h2:=h.nr;refine⟨by simp[bg];omega,by simp[bg];omega,fun i hi=>?_⟩;have hi':i<p.rows.length:=by simpa[bg]using hi
 have h3:=(h.ro i hi').n;rw[v5 hi'];simp[fA];omega
end Go.Ps
namespace Go.Proofs
open Go.Sv Go Go.Tb Go.Pl Go.Ut Go.Li Go.Ps
theorem tK(s:cR)(h:Ja s):vQ Tryz.prog 3 [cI s] (fun x=>x=.val (.bool true)):=by
 have gF:=C6 kI AJ Fe;rw[mz,Iq]at gF;have FB:I6 P1:=by rw[←mz];exact GA AJ
 have pw1:Ac P1:=by rw[←mz];exact Bp _
 have G1:=vZ P1 pw1 (jx sW).2.2 GL;have gS1:=sZ P1 FB sW G1 (by decide) (by decide);refine ot Tryz.func3 rfl (by simp) (fun C hC hX hE=>?_);refine aa.go ?_;simp;refine akK (F8) ?_;simp;refine akK (gF) ?_;simp;refine sS gS1 (by simp) (fun y hy=>?_);obtain⟨z1,hz1, -,rfl⟩:=hy;obtain⟨n1,k1⟩:=ED hz1;have eR:yZ P1.ae.length P1.max z1=.agg [bZ false,.bK (cJ (kD P1.max z1)) 0,.ro ((cE z1.gc 2).map fun j:Nat=>iv j),.ro (z1.steps.map fZ),iv 2]:=by unfold yZ;rw[if_neg (by simp[n1])];rfl
 rw[eR];clear eR gS1;simp[k1];by_cases hf:qE s=true
 rotate_left 1
 ·refine ai (E9 s h (by simpa using hf)) (by simp) ?_;simp
 have gB:=C6 s h hf;by_cases ho:I1 s=true
 rotate_left 1
 ·rw[show I1 s=false by simpa using ho]at gB;refine akK (gB) ?_;simp
 rw[ho,HJ ho]at gB;have fw:=GA h;have pw:=Bp s;have nb:=Lk s;obtain⟨l1,l2⟩:=Iw hf;generalize cV s=p at *;refine akK (gB) ?_;simp;have gv:=Fp p fw;by_cases hv:cB p=0
 rotate_left 1
 ·have hv':=Gi p hv;refine akK (yd p fw hv) ?_;simp;refine akK (gv) ?_;simp[hv,hv'.1];refine GH (EL hv'.1 hv'.2 (cB p)) hE hX (by simp) (fun x hx=>?_);subst hx;simp;done
 have G0:=vZ p pw (jx hv).2.2 nb;rw[hv]at gv;refine sS (sZ p fw hv G0 l1 l2) (by simp) (fun y hy=>?_);obtain⟨z,hz,Gz,rfl⟩:=hy;simp;refine akK (gv) ?_;simp;have sp:=Mj pw hv;obtain⟨u1,u2,u3⟩:=CL sp;refine akK (xZ p sp) ?_;simp;refine aa.akJ (.qs [0,1]<|.l 2 []<|.l 3 []<|.qs [4]<|.nil) ?_;simp;refine akK (sR p sp) ?_;simp;refine akK (td (bg p) u1 u2 u3) ?_;simp;refine sS (yF p fw G0 l1 l2) (by simp) (fun y hy=>?_);obtain⟨z2,hz2,rfl⟩:=hy;obtain rfl:=hz.det hz2;have st:=Mv hz (fun s hs=>by simp[cq]at hs);by_cases hn:z.no=true
 ·have e1:Co p.max z=.agg [bZ true,bZ false,bZ false,.ro [],bZ false,.ro [],.ro [],.ro [],.ro [],.ro []]:=by unfold Co;rw[if_pos hn]
  have e2:yZ p.ae.length p.max z=.agg [bZ true,.val (.pointer none),.ro [],.ro [],iv p.ae.length]:=by unfold yZ;rw[if_pos hn]
  rw[e1,e2];simp;done
 have hn':z.no=false:=by simpa using hn
 have nc:=Gz.S.nc;have e1:Co p.max z=lu p.max z:=by unfold Co;rw[if_neg hn]
 have e2:yZ p.ae.length p.max z=.agg [bZ false,.bK (cJ (kD p.max z)) 0,.ro (uh z.gc z.ae.length),.ro (z.steps.map fZ),iv p.ae.length]:=by unfold yZ;rw[if_neg hn,nc];rfl
 rw[e1,e2];clear e1 e2;have kl:=rB z.gc z.ae.length;obtain⟨g1,g2⟩:=dr Gz;have sl:=Gz.S.st;have so:=Ez (mx:=p.max) Gz l1 l2;obtain⟨t1,t2,t3⟩:=CL so;have I5:=fun k hk=>Ol (k:=k) Gz l1 l2 st hk;simp;refine aa.akJ (.qs [0,1,2,3,4,5,6,7,8,9,10,11,12,13,14,15,16,17,18,19]<|.nil) ?_;simp;refine aa.bG (ι:=Nat) (fun k=>⟨203,[(6,.bK (.agg [bZ false,.bK (cJ (kD p.max z)) 0,.ro (uh z.gc z.ae.length),.ro (z.steps.map fZ),iv p.ae.length]) 0),(13,bZ true),(14,.ptr 4 0 0),(15,iv k)],[some ⟨4,[cI s],false⟩,some ⟨7,[lQ kI],false⟩,some ⟨7,[dd p],false⟩,some ⟨4,[cI (bg p)],false⟩,some ⟨10,[lu p.max z],false⟩]⟩)
  (fun k=>k≤(cE z.gc z.ae.length).length) (fun k=>(cE z.gc z.ae.length).length - k) 0 (by omega) ?_ ?_
 ·simp[aw,hC];done
 rintro k hk;by_cases az:k<(cE z.gc z.ae.length).length
 ·obtain⟨x,hx⟩:=Gk az;simp(disch:=omega)[az];repeat refine akI ?_
  refine aa.akJ (.qs [0,1,2,3,4,5,6,7,8,9,10,11,12]<|.nil) ?_;simp(disch:=omega)[az,hx];repeat refine akI ?_
  exact⟨k+1,by omega,by omega,Le.bA (by simp(disch:=omega)[aw,hC,aN])⟩
 obtain rfl:k=(cE z.gc z.ae.length).length:=by omega
 simp;refine aa.bG (ι:=Nat) (fun k=>⟨203,[(6,.bK (.agg [bZ false,.bK (cJ (kD p.max z)) 0,.ro (uh z.gc z.ae.length),.ro (z.steps.map fZ),iv p.ae.length]) 0),(13,bZ true),(14,.ptr 4 0 0),(16,iv k)],[some ⟨4,[cI s],false⟩,some ⟨7,[lQ kI],false⟩,some ⟨7,[dd p],false⟩,some ⟨4,[cI (bg p)],false⟩,some ⟨10,[lu p.max z],false⟩]⟩)
  (fun k=>k≤z.steps.length) (fun k=>z.steps.length - k) 0 (by omega) ?_ ?_
 ·simp[aw,hC];done
 rintro k hk;by_cases az:k<z.steps.length
 ·have lq:=EB az;have lp:=Ep az;simp(disch:=omega)[az];repeat refine akI ?_
  refine aa.akJ (.qs [0,1,2,3,4,5,6,7,8,9,10,11]<|.l 12 []<|.qs [13]<|.nil) ?_;simp(disch:=omega)[az,lq,lp];repeat refine akI ?_
  refine akK (zV (gt z.steps k) (I5 k az)) ?_;simp(disch:=omega)[];repeat refine akI ?_
  exact⟨k+1,by omega,by omega,Le.bA (by simp(disch:=omega)[aw,hC,aN])⟩
 obtain rfl:k=z.steps.length:=by omega
 simp;refine aa.akJ (.qs [0,1,2,3,4,5,7,8]<|.l 6 []<|.l 9 []<|.l 10 []<|.qs [11,12]<|.nil) ?_;simp[v9];refine akK (xZ (kD p.max z) so) ?_;simp[v9];refine akK (sR (kD p.max z) so) ?_;simp;refine akK (td (bg (kD p.max z)) t1 t2 t3) ?_;simp;done
end Go.Proofs


/- A text of the prover's own. -/
import Derived.Test.YtnimjdcaajmfcaaGreatDoorBKo
open List renaming range->ati,cons_append->as8,nil_append->at3,map_set->aue,replicate->asr,map_replicate->avW,map_map->avm
open Go.Proofs.Tryz renaming prog->awW,f123->axy
open Option renaming getD_some->ate
set_option maxRecDepth 10000
namespace Go.Sx
open Go Go.Sv Go.Pl Go.Proofs Go.Tb Go.Ut Go.Mx Go.Li Go.Dt
def ko(c:Tc)(z:j0)(Y:List Rat):aD:=[some ⟨1,[.ptr 0 0 0],false⟩,some ⟨8,[mn z],false⟩,some ⟨4,Y.map aU,false⟩,some ⟨1,[.view (c.m+8) 0 c.m],false⟩]
def BU(Y:List Rat)(n k:Nat)(v:Rat):List Rat:=if n<=k then Y.set (k - n) v else Y
theorem CU(Y:List Rat)(n d:Nat)(v:Rat):BU Y n (n+d) v=Y.set d v:=by unfold BU;rw[if_pos (by omega),Nat.add_sub_cancel_left]
theorem BA{Y:List Rat}{n k:Nat}{v:Rat}(h:k<n):BU Y n k v=Y:=if_neg (by omega)
@[simp] theorem XT(Y:List Rat)(n k:Nat)(v:Rat):(BU Y n k v).length=Y.length:=by unfold BU;split<;>simp
theorem uI(c:Tc)(s:Tb){A B:aD}(h:fI A B):fI (tT c s A) (tT c s B):=kY (tH c s) (kY _ h)
theorem Lt{c:Tc}{s:Tb}{A:aD}(h:s.R.length=c.m)(hA:ee (c.m+6+A.length) A):ee (tT c s A).length (tT c s A):=by rw[jo h];refine mB ?_ (mB (nO _ _) hA);have:=qL (N:=c.N) (m:=c.m) (k:=c.m+6+A.length) (by omega);simp[tH,tS,ee,this];omega
def db(k:Int):SV:=.agg [iv k,.val (.slice none 0 0),.val (.slice none 0 0),.val (.slice none 0 0),.val (.bool false),.val (.slice none 0 0),.val (.bool false),.val (.slice none 0 0)]
theorem AT{c:Tc}(s:Tb)(z:j0)(Y:List Rat):whole (c.m+10) (tT c s (ko c z Y)):=by have:=qL (N:=c.N) (m:=c.m) (k:=c.m+10) (by omega);refine mL (tH c s) _ ?_ (mL _ _ (AM _ _) (by simp[ko,whole]));simp[tH,tS,whole,this]
def DR(c:Tc)(s:Tb)(i k:Nat):List Rat:=dH c.m (k - c.n) (λq => -(gt (gt s.R i) (c.n+q))) 0
@[simp] theorem It(c:Tc)(s:Tb)(i k:Nat):(DR c s i k).length=c.m:=by simp[DR]
theorem Nr(c:Tc)(s:Tb)(i k:Nat):BU (DR c s i k) c.n k (-(gt (gt s.R i) k))=DR c s i (k+1):=by
 by_cases h:c.n<=k
 ·obtain⟨d,rfl⟩:∃d,k=c.n+d:=⟨k - c.n,by omega⟩;rw[CU];unfold DR;rw[Nat.add_sub_cancel_left,show c.n+d+1 - c.n=d+1 by omega];exact ek (f:=λq => -(gt (gt s.R i) (c.n+q)))
 ·rw[BA (by omega)];unfold DR;rw[show k - c.n=0 by omega,show k+1 - c.n=0 by omega]
def Fx(c:Tc)(s:Tb)(i q:Nat):Rat:=if gt s.basic i=c.n+q then 1 else -(gt (gt s.R i) (c.n+q))
theorem PZ(c:Tc)(s:Tb)(i:Nat)(hN:c.n+c.m=c.N):BU (DR c s i c.N) c.n (gt s.basic i) 1=(ati c.m).map (Fx c s i):=by
 refine cO (by simp) λk hk=>?_;have hk:k<c.m:=by simpa using hk
 rw[bF _ hk];unfold Fx;by_cases h:c.n<=gt s.basic i
 ·obtain⟨d,hd⟩:∃d,gt s.basic i=c.n+d:=⟨gt s.basic i - c.n,by omega⟩;rw[hd,CU,bG (by simpa using hk)];by_cases e:d=k
  ·rw[if_pos e,if_pos (by omega)]
  ·rw[if_neg e,if_neg (by omega),DR,jk hk,if_pos (by omega)]
 ·rw[BA (by omega),DR,jk hk,if_pos (by omega),if_neg (by omega)]
def zZ(c:Tc)(s:Tb)(i:Nat)(ac:Bool)(q:Nat):Rat:=if ac=true then Fx c s i q else -(Fx c s i q)
def Ko(c:Tc)(s:Tb)(i k q:Nat):Rat:=if q<k then -(Fx c s i q) else Fx c s i q
end Go.Sx
namespace Go.Proofs
open Go.Sv Go Go.Tb Go.Pl Go.Ut Go.Mx Go.Li Go.Dt Go.Sx
theorem TN(c:Tc)(s:Tb)(hR:s.R.length=c.m)(hN:c.n+c.m=c.N)(h7:c.m<=7)(ad:c.N<=14){k:Nat}(hk:k<c.N)(v:Rat)(z:j0)(Y:List Rat)(hY:Y.length=c.m) :
  kv awW 172 [iv k,aU v,.ptr (c.m+6) 0 0,.ptr (c.m+9) 0 0] (tT c s (ko c z Y)) [] (λT y=>T=tT c s (ko c z (BU Y c.n k v))∧y=.bP []):=by
 refine gu Tryz.func172 rfl (by simp) (λC hC=>?_);simp only[tT,tH,tS,ko,as8,at3];simp(disch:=omega)[hR,cE hR];repeat refine asi ?_
 refine⟨λhn=>?_,λhn=>?_⟩
 ·obtain⟨d,rfl⟩:∃d,k=c.n+d:=⟨k - c.n,by omega⟩;have sub:(((c.n+d:Nat):Int) - (c.n:Int))=(d:Int):=by omega
  have lY:=bS (l:=Y) (i:=d) (by omega);have hd:d<c.m:=by omega
  refine aa.asj (.qs [0,1,2,3,4,5,6,7,8]<|.l 9 [c.m+8]<|.nil) ?_;simp(disch:=omega)[hR,cE hR,ep hR,eo hR,hY,aK,hd,lY,cg, -aue];repeat refine asi ?_
  rw[CU];refine⟨_,_,⟨rfl,rfl⟩,rfl,?_,by simp[hR],.inr ⟨by simp,?_⟩⟩
  ·exact uI c s (A:=ko c z (Y.set d v)++[some ⟨4,[aU v],false⟩]) (B:=ko c z (Y.set d v)) (xh _ _)
  ·exact Lt (s:=s) (A:=ko c z (Y.set d v)) hR (by simp[ko,ee,SV.lt, -aue])
 ·rw[BA hn];refine⟨_,_,⟨rfl,rfl⟩,rfl,?_,by simp[hR],.inr ⟨by simp,?_⟩⟩
  ·exact uI c s (A:=ko c z Y++[some ⟨4,[aU v],false⟩]) (B:=ko c z Y) (xh _ _)
  ·exact Lt (s:=s) (A:=ko c z Y) hR (by simp[ko,ee,SV.lt])
theorem HO{C:Ctx}{c:Tc}{s:Tb}{tl:aD}(hR:s.R.length=c.m)(hN:c.n+c.m=c.N)(h7:c.m<=7)(ad:c.N<=14){k:Nat}(hk:k<c.N){v:Rat}{z:j0}{Y:List Rat}(hY:Y.length=c.m){W:Option (List Nat)}{K:aD->List Nat->SV->Prop}
  (hW:∀ks,W=some ks->∀k,k<17->k∈ks) (hK:K (tT c s (ko c z (BU Y c.n k v)++tl)) [] (.bP [])) :
  dN awW C 172 [iv k,aU v,.ptr (c.m+6) 0 0,.ptr (c.m+9) 0 0] (tT c s (ko c z Y++tl)) W K:=by
 have e:∀Y,tT c s (ko c z Y++tl)=tT c s (ko c z Y)++tl:=λY=>by simp[tT]
 have hl:∀Y,(tT c s (ko c z Y)).length=c.m+10:=λY=>by rw[jo hR];rfl
 rw[e];refine H5 (TN c s hR hN h7 ad hk v z Y hY) (by rw[hl];exact AT s z Y) (by rw[hl];simp) (λks q k hk=>hW ks q k (by rw[hl]at hk;omega)) ?_;rintro T1 y ⟨rfl,rfl⟩;rw[e]at hK;exact⟨by rw[hl];exact AT s z _,by rw[hl,hl],by rw[hl];simp,hK⟩
noncomputable def cY:Code:=axy.body.getD .skip
def lu(m:Nat):SV:=.jw 172 [] [.ptr (m+6) 0 0,.ptr (m+9) 0 0]
def oX(m i:Nat)(ac:Bool):List (Nat × SV):=[(0,.ptr 0 0 0),(1,iv i),(2,cX ac),(3,.ptr (m+6) 0 0),(6,.ptr (m+7) 0 0),(7,.ptr (m+9) 0 0),(8,lu m)]
def ju:j0:=⟨0,[],[],[],0⟩
theorem Zk{c:Tc}{s:Tb}(hR:s.R.length=c.m)(h7:c.m<=7){i:Nat}(ac:Bool){C:Ctx}(fx:∀k∈C.fx,k<c.m+6){Q:bf}(af:∀c st,¬Q (.panic c) st)
  (hn:aa awW C (bs 3 cY) ⟨65,oX c.m i ac,tT c s (ko c ju (asr c.m 0))⟩ Q) :
  aa awW C cY ⟨65,[(0,.ptr 0 0 0),(1,iv i),(2,cX ac)],tT c s []⟩ Q:=by
 refine aa.cutAt 3 (λst=>st=⟨65,oX c.m i ac,tT c s [some ⟨1,[.ptr 0 0 0],false⟩,some ⟨8,[db 0],false⟩,some ⟨4,asr c.m (.agg [.val (.bool false),.val (.slice none 0 0),.val (.bool false),.val (.slice none 0 0)]),false⟩,some ⟨1,[.view (c.m+8) 0 c.m],false⟩]⟩) ?_ ?_
 rotate_left 1
 ·rintro st rfl;refine aa.le ?_ hn;have z0:iq (.agg [.val (.bool false),.val (.slice none 0 0),.val (.bool false),.val (.slice none 0 0)])=aU 0:=by rw[<-tI];rfl
  have e3:∀l r,iq (.jw 172 l r)=.jw 172 l r:=λ_ _=>rfl;have e4:iq (db 0)=mn ju:=by have:mn ju=.agg (iv 0::.ro []::.ro []::.ro []::(aU 0).cells):=rfl;rw[this,<-tI];rfl
  refine rW s hR fx (by simp[bU,Go.Sv.get,oX,lu,zI,e3]) ?_ (by simp[gz,oX,lu,ko,SV.lt]) (by simp[ko,ee,SV.lt, -avW]);simp[ko,sW,z0,e4]
 simp only[cY,axy,ate,aN,aM];simp only[tT,tH,tS,as8,at3];simp(disch:=omega)[hR,cE hR,ep hR,eo hR];repeat refine asi ?_
 exact⟨rfl,by simp[bU,Go.Sv.get,oX,lu],aq _,.inl rfl⟩
theorem lQ{c:Tc}{s:Tb}(t:ui c s)(hc:oR c)(hN:c.n+c.m=c.N){i:Nat}(hi:i<c.m)(ac:Bool){C:Ctx}(fx:∀k∈C.fx,k<c.m+6){Q:bf}(af:∀c st,¬Q (.panic c) st)
  (hn:aa awW C (bs 4 cY) ⟨65,oX c.m i ac,tT c s (ko c ju (DR c s i c.N))⟩ Q) :
  aa awW C (bs 3 cY) ⟨65,oX c.m i ac,tT c s (ko c ju (asr c.m 0))⟩ Q:=by
 have h7:=hc.m7;have ad:=hc.sq;have hR:=t.R;have al:=gj (N:=c.N) (m:=c.m) (i:=i) hi;have tg:=λtl:aD=>e9 (C:=s.R) (tl:=tl) (e:=i) (by omega);have Ri:=t.Rr i hi;refine aa.cutAt 1 (λst=>st=⟨65,oX c.m i ac,tT c s (ko c ju (DR c s i c.N))⟩) ?_ ?_
 rotate_left 1
 ·rintro st rfl;simp only[cY,axy,ate,ai,ah]at hn ⊢;exact hn
 clear hn;simp only[cY,axy,ate,ai,ah,aN,aM];simp only[tT,tH,tS,ko,oX,lu,as8,at3];simp(disch:=omega)[cE hR,hi,al,-avW];repeat refine asi ?_
 refine aa.bM (ι:=Nat) (λk=>⟨65,oX c.m i ac++[(24,.view (i+6) 0 c.N),(25,iv c.N),(26,iv k)],tT c s (ko c ju (DR c s i k))⟩)
  (λk=>k<=c.N) (λk=>c.N - k) 0 (by simp) ?_ ?_
 ·have e:asr c.m (0:Rat)=DR c s i 0:=by unfold DR;rw[show 0 - c.n=0 by omega,ya]
  rw[e];exact⟨rfl,by simp[bU,Go.Sv.get,oX,lu],aq _,.inl rfl⟩
 ·rintro k hk;by_cases ak:k<c.N
  ·have lj:=bS (l:=gt s.R i) (i:=k) (by omega);have nx:=Nr c s i k;have nl:=It c s i k;generalize DR c s i k=Y at *;simp only[tT,tH,tS,ko,oX,lu,as8,at3];simp(disch:=omega)[hR,ep hR,eo hR,ak,tg,Ri,lj];repeat refine asi ?_
   refine asl (iZ (gt (gt s.R i) k)) ?_;simp(disch:=omega)[];repeat refine asi ?_
   refine HO (c:=c) (s:=s) (tl:=[_]) (k:=k) (v := -(gt (gt s.R i) k)) (z:=ju) (Y:=Y) hR hN h7 ad ak nl (by simp) ?_;rw[nx];simp;refine⟨k+1,by omega,by omega,?_⟩;exact eP s hR fx (by simp(disch:=omega)[bU,Go.Sv.get,aK]) (by simp[ko,fI]) (by simp[gz,SV.lt];omega) (by simp[ee,SV.lt])
  ·obtain rfl:k=c.N:=by omega
   simp only[tT,tH,tS,ko,oX,lu,as8,at3];simp(disch:=omega)[];repeat refine asi ?_
   exact⟨rfl,by simp[bU,Go.Sv.get],aq _,.inl rfl⟩
theorem acR{c:Tc}{s:Tb}(t:ui c s)(hc:oR c)(hN:c.n+c.m=c.N){i:Nat}(hi:i<c.m)(ac:Bool){C:Ctx}{Q:bf}(af:∀c st,¬Q (.panic c) st)
  (hn:aa awW C (bs 5 cY) ⟨65,oX c.m i ac,tT c s (ko c ju ((ati c.m).map (Fx c s i)))⟩ Q) :
  aa awW C (bs 4 cY) ⟨65,oX c.m i ac,tT c s (ko c ju (DR c s i c.N))⟩ Q:=by
 have h7:=hc.m7;have ad:=hc.sq;have hR:=t.R;have hb:=t.b;have bb:=t.bb i hi;have lb:=iF (l:=s.basic) (i:=i) (by omega);have all:=PZ c s i hN;have nl:=It c s i c.N;refine aa.cutAt 1 (λst=>st=⟨65,oX c.m i ac,tT c s (ko c ju ((ati c.m).map (Fx c s i)))⟩) ?_ ?_
 rotate_left 1
 ·rintro st rfl;simp only[cY,axy,ate,ai,ah]at hn ⊢;exact hn
 clear hn;rw[<-all];generalize DR c s i c.N=Y at *;simp only[cY,axy,ate,ai,ah,aN,aM];simp only[tT,tH,tS,ko,oX,lu,as8,at3];refine aa.draw (.qs [0,1,2,3,4,5,6,7]<|.l 8 []<|.l 9 [1000000,0,1,2,3,4,5,6,7,8,9,10,11,12,13,14,15,16]<|.nil) (by kernel_rfl) (by kernel_rfl) (by simp[af]) ?_;simp(disch:=omega)[cE hR,hi,hb,lb];repeat refine asi ?_
 have one:=CC 1 (by omega) (by omega);rw[show((1:Int):Rat)=1 from rfl]at one;refine asl (one) ?_;simp(disch:=omega)[];repeat refine asi ?_
 refine HO (c:=c) (s:=s) (tl:=[]) (k:=gt s.basic i) (v:=1) (z:=ju) (Y:=Y) hR hN h7 ad bb nl (by intro ks e k hk;cases e;simp;omega) ?_;simp;exact⟨rfl,by simp[bU,Go.Sv.get],uI c s (aq _),.inl (by simp[tT,tH,ko])⟩
theorem XK{c:Tc}{s:Tb}(t:ui c s)(hc:oR c){i:Nat}(ac:Bool){C:Ctx}(fx:∀k∈C.fx,k<c.m+6){Q:bf}(af:∀c st,¬Q (.panic c) st)
  (hn:aa awW C (bs 6 cY) ⟨65,oX c.m i ac,tT c s (ko c ju ((ati c.m).map (zZ c s i ac)))⟩ Q) :
  aa awW C (bs 5 cY) ⟨65,oX c.m i ac,tT c s (ko c ju ((ati c.m).map (Fx c s i)))⟩ Q:=by
 have h7:=hc.m7;have ad:=hc.sq;have hR:=t.R;refine aa.cutAt 1 (λst=>st=⟨65,oX c.m i ac,tT c s (ko c ju ((ati c.m).map (zZ c s i ac)))⟩) ?_ ?_
 rotate_left 1
 ·rintro st rfl;simp only[cY,axy,ate,ai,ah]at hn ⊢;exact hn
 clear hn;simp only[cY,axy,ate,ai,ah,aN,aM];cases ac with
 | true =>
  have e:zZ c s i true=Fx c s i:=funext λq=>if_pos rfl;rw[e];simp only[tT,tH,tS,ko,oX,lu,as8,at3];simp(disch:=omega)[];repeat refine asi ?_
  exact⟨rfl,by simp[bU,Go.Sv.get],aq _,.inl rfl⟩
 | false =>
  simp only[tT,tH,tS,ko,oX,lu,as8,at3];simp(disch:=omega)[ep hR,-avm];refine aa.bM (ι:=Nat) (λk=>⟨65,oX c.m i false++[(50,iv c.m),(51,iv k)],tT c s (ko c ju ((ati c.m).map (Ko c s i k)))⟩)
   (λk=>k<=c.m) (λk=>c.m - k) 0 (by simp) ?_ ?_
  ·have e:Fx c s i=Ko c s i 0:=funext λq=>by unfold Ko;rw[if_neg (by omega)]
   rw[e];exact⟨rfl,by simp[bU,Go.Sv.get,oX,lu],aq _,.inl rfl⟩
  ·rintro k hk;by_cases ag:k<c.m
   ·have nx:((ati c.m).map (Ko c s i k)).set k (-(Fx c s i k))=(ati c.m).map (Ko c s i (k+1)):=cO (by simp) λq hq=>by
     have hq:q<c.m:=by simpa using hq
     rw[bG (by simpa using hq),bF _ hq,bF _ hq];unfold Ko;by_cases e:k=q
     ·subst e;rw[if_pos rfl,if_pos (by omega)]
     ·rw[if_neg e];by_cases g:q<k
      ·rw[if_pos g,if_pos (by omega)]
      ·rw[if_neg g,if_neg (by omega)]
    have gk:gt ((ati c.m).map (Ko c s i k)) k=Fx c s i k:=by rw[bF _ ag];unfold Ko;rw[if_neg (by omega)]
    have yl:((ati c.m).map (Ko c s i k)).length=c.m:=by simp
    generalize (ati c.m).map (Ko c s i k)=Y at *;have lY:=bS (l:=Y) (i:=k) (by omega);rw[gk]at lY;simp only[tT,tH,tS,ko,oX,lu,as8,at3];simp(disch:=omega)[ag, -avm];repeat refine asi ?_
    refine aa.draw (.qs [0,1,2,3,4,5]<|.l 6 []<|.qs [7]<|.l 8 [c.m+8]<|.nil) (by kernel_rfl) (by kernel_rfl) (by simp[af]) ?_;simp(disch:=omega)[ep hR,ag,yl,lY, -avm];repeat refine asi ?_
    refine asl (iZ (Fx c s i k)) ?_;simp(disch:=omega)[ep hR,eo hR,ag,yl,lY,cg,aK, -aue, -avm];repeat refine asi ?_
    rw[nx];refine⟨k+1,by omega,by omega,?_⟩;exact Le.fm ⟨rfl,by simp(disch:=omega)[bU,Go.Sv.get],uI c s (aq _),.inl (by simp[])⟩
   ·obtain rfl:k=c.m:=by omega
    have e:(ati c.m).map (Ko c s i c.m)=(ati c.m).map (zZ c s i false):=List.map_congr_left λq hq=>by
     have hq:q<c.m:=by simpa using hq
     unfold Ko zZ;rw[if_pos hq,if_neg (by simp)]
    rw[e];simp only[tT,tH,tS,ko,oX,lu,as8,at3];simp(disch:=omega)[-avm];exact⟨rfl,by simp[bU,Go.Sv.get],aq _,.inl rfl⟩
theorem ZU{c:Tc}{s:Tb}(t:ui c s)(hc:oR c){i:Nat}(ac:Bool){ys:List Rat}(hy:ys.length=c.m){C:Ctx}(fx:∀k∈C.fx,k<c.m+6) :
  aa awW C (bs 6 cY) ⟨65,oX c.m i ac,tT c s (ko c ju ys)⟩ (gK awW [.cell 6 80] [] (rn (tT c s []) [] (λT v=>T=tT c s []∧v=mn ⟨2,[],ys,[],0⟩))):=by
 have h7:=hc.m7;have hR:=t.R;have h1:=Ce (C:=C) (c:=c) (s:=s) (N0:=65) (fr:=oX c.m i ac) (tl:=ko c ju ys) hR 2 (e:=⟨4,ys.map aU,false⟩) rfl (by simp);refine aa.le h1 ?_;have n1:¬c.m+7=c.m+6+2:=by omega
 have n2:c.m+8=c.m+6+2:=by omega
 have tk:List.take c.m (ys.map aU)=ys.map aU:=List.take_of_length_le (by simp[hy]);refine aa.cutAt 1 (λst=>st=⟨65,[(6,.ptr (c.m+7) 0 0)],tT c s [some ⟨1,[.ptr 0 0 0],false⟩,some ⟨8,[.agg [iv 2,.val (.slice none 0 0),.ro (ys.map aU),.val (.slice none 0 0),.val (.bool false),.val (.slice none 0 0),.val (.bool false),.val (.slice none 0 0)]],false⟩]⟩) ?_ ?_
 ·simp only[cY,axy,ate,ai,ah,aN,aM];simp only[aX,tT,tH,tS,ko,oX,lu,as8,at3];simp[tk,n2,show c.m<=ys.length by omega,ep hR,eo hR];exact r9 s hR fx (by simp[bU,Go.Sv.get]) (by simp[fI]) (by simp[gz,SV.lt]) (by simp[ee,SV.lt])
 ·rintro st rfl;refine aa.le (st':=⟨65,[(6,.ptr (c.m+7) 0 0)],tT c s [some ⟨1,[.ptr 0 0 0],false⟩,some ⟨8,[mn ⟨2,[],ys,[],0⟩],false⟩]⟩) ?_ ?_
  ·have e4:iq (.agg [iv 2,.val (.slice none 0 0),.ro (ys.map aU),.val (.slice none 0 0),.val (.bool false),.val (.slice none 0 0),.val (.bool false),.val (.slice none 0 0)])=mn ⟨2,[],ys,[],0⟩:=by
    have:mn ⟨2,[],ys,[],0⟩=.agg (iv 2::.ro []::.ro (ys.map aU)::.ro []::(aU 0).cells):=rfl;rw[this,<-tI];rfl
   refine rW s hR fx (by simp[bU,zI]) ?_ (by simp[gz,SV.lt]) (by simp[ee,SV.lt]);simp only[jd,mc,lW,e4];simp[fI]
  simp only[cY,axy,ate,ai,ah];simp only[tT,tH,tS,as8,at3];refine aa.go ?_;simp[hR,ep hR];refine⟨_,_,⟨rfl,rfl⟩,rfl,?_,by simp[hR],.inr ⟨by simp,?_⟩⟩
  ·simpa[tT,tH,tS]using pF c s [some ⟨1,[.ptr 0 0 0],false⟩,some ⟨8,[mn ⟨2,[],ys,[],0⟩],false⟩]
  ·have:=pM (c:=c) (s:=s) hR;simpa[tT,tH,tS]using this
theorem J0(c:Tc)(s:Tb)(t:ui c s)(hc:oR c)(hN:c.n+c.m=c.N){i:Nat}(hi:i<c.m)(ac:Bool) :
  kv awW 123 [.ptr 0 0 0,iv i,cX ac] (tT c s []) [] (λT v=>T=tT c s []∧v=mn ⟨2,[],(ati c.m).map (zZ c s i ac),[],0⟩):=by
 refine iQ Tryz.func123 rfl (by simp) (λC hC=>?_);have fx:=oJ t.R hC;show aa _ _ cY _ (gK awW [.cell 6 80] [] _);exact Zk t.R hc.m7 ac fx (by simp) (lQ t hc hN hi ac fx (by simp) (acR t hc hN hi ac (by simp) (XK t hc ac fx (by simp) (ZU t hc ac (by simp) fx))))
end Go.Proofs
set_option maxRecDepth 10000
namespace Go.Sx
open Go Go.Sv Go.Pl Go.Proofs Go.Tb Go.Ut Go.Mx Go.Li Go.Dt
def nz(P:Nat->Bool):Nat->Nat
 | 0=>0
 | k+1=>nz P k+if P k=true then 1 else 0
theorem ME(P:Nat->Bool):∀k,nz P k+nz (λi=>!P i) k=k
 | 0=>rfl
 | k+1=>by
  have:=ME P k;simp only[nz];by_cases e:P k=true
  ·have e2:(!P k)=false:=by rw[e];rfl
   rw[if_pos e,if_neg (by rw[e2];simp)];omega
  ·have e2:(!P k)=true:=by simpa using e
   rw[if_neg e,if_pos e2];omega
theorem Fw{f:Nat->Rat}{P:Nat->Bool}{V:Nat}:∀k,(∀i,i<k->P i=true->Proofs.qw V (f i))->(∀i,i<k->P i=false->f i=0)->Proofs.qw (1+nz P k*(V+1)) (aH f k)
 | 0,_,_=>⟨jK _,k7 (by omega)⟩
 | k+1,h,h0=>by
  have ih:=Fw k (λi hi=>h i (by omega)) λi hi=>h0 i (by omega);simp only[aH,nz];cases e:P k with
  | false =>
   rw[h0 k (by omega) e,Rat.add_zero];simpa using ih
  | true =>
   refine ay (kg ih (h k (by omega) e)) ?_;simp only[if_true];rw[Nat.add_mul];omega
theorem FB(P:Nat->Bool):∀k,((nz P k:Nat):Rat)=aH (λi=>if P i=true then 1 else 0) k
 | 0=>rfl
 | k+1=>by
  simp only[nz,aH];rw[<-FB P k];cases P k
  ·simp[Rat.add_zero]
  ·simp
theorem uH:∀k,aH (λ_=>(1:Rat)) k=((k:Nat):Rat)
 | 0=>rfl
 | k+1=>by simp only[aH];rw[uH k];simp
theorem Mp{c:Tc}{K:(Nat->Rat)->Prop}{s:Tb}(h:fo c K s):nz (λk=>!decide (gt s.wh k=1)) c.N+c.m=c.N:=by
 classical
 have e:=vq h.d (λ_=>(1:Rat));have e1:((nz (λk=>decide (gt s.wh k=1)) c.N:Nat):Rat)=((c.m:Nat):Rat):=by
  rw[FB,<-uH c.m,<-e];refine aQ _ λk hk=>?_;have:=h.w k hk;by_cases q:gt s.wh k=1
  ·rw[if_pos (by simpa using q),if_pos (this.1 q)]
  ·rw[if_neg (by simpa using q),if_neg λg=>q (this.2 g)]
 have e2:nz (λk=>decide (gt s.wh k=1)) c.N=c.m:=Rat.natCast_inj.1 e1;have:=ME (λk=>decide (gt s.wh k=1)) c.N;omega
theorem Kv{c:Tc}{K:(Nat->Rat)->Prop}{s:Tb}(hw:zG c)(hW:HW c K)(h:fo c K s)(hn:c.n+c.m=c.N)(h7:c.n<=7){k:Nat}(hk:k<c.N):qw 1203140408 (gt s.x k):=by
 by_cases e:gt s.wh k=1
 ·obtain⟨r,hr,rfl⟩:=(h.w k hk).1 e;rw[h.xb r hr];have hz:=Mp h;refine ay (Fw (P:=λk=>!decide (gt s.wh k=1)) (V:=171875000+2200) c.N (λq hq ae=>?_) λq hq ae=>?_) (?_:1+_*(171875000+2200+1)<=_)
  ·have ae:gt s.wh q≠1:=by simpa using ae
   rw[h.xn q hq ae];exact cx (hW _ _ h.d h.t.Rr r hr q (by rw[h.t.Rr r hr];exact hq)) (H4 hw _ hq) (by omega)
  ·have ae:gt s.wh q=1:=by simpa using ae
   obtain⟨i,hi,rfl⟩:=(h.w q hq).1 ae;rw[h.d.z0 r i hr hi,Rat.zero_mul]
  ·omega
 ·rw[h.xn k hk e];exact ay (H4 hw _ hk) (by omega)
theorem tB{p:aB}(hw:cT p){x:List Rat}{V:Nat}(hx:Wd V x)(hl:p.ab.length<=x.length)(hV:2200+V<=10000000000):∀j,j<=p.ab.length->qw (2200+(2200+V+1)*j) (dX p x j)
 | 0,_=>hw.sh
 | j+1,hj=>ay (kg (tB hw hx hl hV j (by omega)) (cx (hw.co j (by omega)).1 (hx j (by omega)) (by omega))) (by rw[Nat.mul_add];omega)
end Go.Sx
namespace Go.Proofs
open Go.Sv Go Go.Tb Go.Pl Go.Ut Go.Mx Go.Li Go.Dt Go.Sx
theorem GR(p:aB)(h:As p)(hw:cT p)(hv:bh p=0)(x:List Rat){V:Nat}(hx:Wd V x)(hl:x.length=p.ab.length)(h7:p.ab.length<=7)(hV:2200+(2200+V+1)*7<=10000000000):aG awW 125 [.dc (bN p) 0,.ro (x.map aU)] (.bP [aU (dX p x p.ab.length),.val .nilIface]):=by
 have nc:=h.nc;have g:=Au p h;rw[hv,Nh]at g;refine aj Tryz.func125 rfl (by simp) (λC hC=>?_);simp;refine asl (g) ?_;simp[hl];refine aa.bM (ι:=Nat) (λj=>⟨51,[(0,.dc (bN p) 0),(1,.ro (x.map aU)),(4,.ptr 0 0 0),(7,.ptr 1 0 0),(33,.ro (p.ab.map ji)),(34,iv p.ab.length),(35,iv j)],[some ⟨4,[.agg [.val (.bool false),.val (.slice none 0 0),.val (.bool false),.val (.slice none 0 0)]],false⟩,some ⟨4,[aU (dX p x j)],false⟩]⟩)
  (λj=>j<=p.ab.length) (λj=>p.ab.length - j) 0 (by simp) ?_ ?_
 ·simp[aR,hC,dX]
 ·rintro j hj;by_cases aP:j<p.ab.length
  ·have w1:=tB hw hx (by omega) (by omega) j (by omega);have w2:=hx j (by omega);have w3:=(hw.co j aP).1;have w4:2200+(2200+V+1)*j<=10000000000:=by
    have:=Nat.mul_le_mul_left (2200+V+1) (show j<=7 by omega);omega
   simp(disch:=omega)[aP,uP];repeat refine asi ?_
   refine aa.asj (.qs [0,1,2,3,4,5,6]<|.l 7 []<|.l 8 []<|.l 9 [1]<|.nil) ?_;simp(disch:=omega)[bS];repeat refine asi ?_
   refine asl (nV _ _ (ao w3 (by omega)) (ao w2 (by omega))) ?_;simp;refine asl (nW _ _ (ao w1 w4) (ao (cx w3 w2 (by omega)) (by omega))) ?_;simp(disch:=omega)[aK];repeat refine asi ?_
   exact⟨j+1,by omega,by omega,Le.fm (by simp(disch:=omega)[aR,hC,dX])⟩
  ·obtain rfl:j=p.ab.length:=by omega
   simp
end Go.Proofs


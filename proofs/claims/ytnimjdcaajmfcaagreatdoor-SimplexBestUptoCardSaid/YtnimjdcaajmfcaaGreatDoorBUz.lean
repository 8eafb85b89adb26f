/- A text of the prover's own. -/
import Derived.Test.YtnimjdcaajmfcaaGreatDoorBUx
open Go.Proofs.Tryz renaming prog->awW,f173->axu
open Option renaming getD_some->ate
open List renaming cons_append->as8,nil_append->at3,length_set->avs,map_set->aue
set_option maxRecDepth 10000
set_option maxHeartbeats 1000000
namespace Go.Proofs
open Go.Sv Go Go.Tb Go.Pl Go.Ut Go.Mx Go.Li Go.Dt Go.Sx
structure StG where
 i:Nat
 sm:Bool
 b:Rat
 lv:Int
 wv:Int
theorem acx{c:Tc}{K:(Nat->Rat)->Prop}{s:Tb}(hc:oR c)(hw:zG c)(hW:HW c K)(h:fo c K s){j:Nat}(hj:j<c.N)(up:Bool){C:Ctx}(fx:∀k∈C.fx,k<c.m+6){Q:bf}(aF:∀c st,¬Q (.panic c) st)
  (hn:∀sm b lv wv,Iq c s j up c.m sm b lv wv->qw 2578158016 b->aa awW C (bs 8 cG) ⟨206,iL c.m j up,tT c s (bu b sm lv wv)⟩ Q)
  {aH:Bool} {b0:Rat} {aI aJ:Int} (h0:Iq c s j up 0 aH b0 aI aJ) (q0:qw 2578158016 b0):aa awW C (bs 7 cG) ⟨206,iL c.m j up,tT c s (bu b0 aH aI aJ)⟩ Q:=by
 have h7:=hc.m7;have aB:=hc.sq;have hR:=h.t.R;have ad:=h.t.x;have hb:=h.t.b;have aw:=hc.lo;have ax:=hc.hi;refine aa.cutAt 1 (StI c s j up c.m (iL c.m j up)) ?_ ?_
 rotate_left 1
 ·rintro st ⟨sm,b,lv,wv,h1,h2,rfl⟩;have:=hn _ _ _ _ h1 h2;simp only[cG,axu,ate,ai,ah]at this ⊢;exact this
 clear hn;simp only[cG,axu,ate,ai,ah,aN,aM];simp only[tT,tH,tS,iL,dJ,bu,as8,at3];simp(disch:=omega)[];repeat refine asi ?_
 refine aa.bM (ι:=StG) (λg=>⟨206,iL c.m j up++[(62,.view 5 0 c.m),(63,iv c.m),(64,iv g.i)],tT c s (bu g.b g.sm g.lv g.wv)⟩)
  (λg=>g.i<=c.m∧Iq c s j up g.i g.sm g.b g.lv g.wv∧qw 2578158016 g.b) (λg=>c.m - g.i) ⟨0,aH,b0,aI,aJ⟩ ⟨by simp,h0,q0⟩ ?_ ?_
 ·exact⟨rfl,by simp[bU,Go.Sv.get,iL,dJ],aq _,.inl rfl⟩
 ·clear h0 q0;rintro⟨i,sm,b,lv,wv⟩ ⟨hi,ac,qb⟩;simp only at hi ac qb;by_cases am:i<c.m
  ·have aR:=gj (N:=c.N) (m:=c.m) (i:=i) am;have tg:=λtl:aD=>e9 (C:=s.R) (tl:=tl) (e:=i) (by omega);have Ri:=h.t.Rr i am;have af:=h.t.bb i am;have aO:=iF (l:=s.basic) (i:=i) (by omega);have aG:=bS (l:=s.x) (i:=gt s.basic i) (by omega);have az:aL (c.low.map dh) (gt s.basic i)=dh (gt c.low (gt s.basic i)):=cy _ (by omega);have aA:aL (c.high.map dh) (gt s.basic i)=dh (gt c.high (gt s.basic i)):=cy _ (by omega);have qx:=kn hc hw hW h af;have ql:=hw.lo _ af;have qh:=hw.hi _ af;have qR:=hW _ _ h.d h.t.Rr i am j (by omega);have lj:=bS (l:=gt s.R i) (i:=j) (by omega);simp only[tT,tH,tS,iL,dJ,bu,as8,at3];cases up with
   | true =>
    have eg:gD s j true i=gt (gt s.R i) j:=by simp[gD]
    have qg:qw 171875000 (gD s j true i):=by rw[eg];exact qR
    rw[<-eg]at lj;simp(disch:=omega)[am,aR,tg,lj,Ri,hj,hR,ep hR,eo hR,hb,aO];repeat refine asi ?_
    by_cases sp:0<gD s j true i
    ·refine ae (kB sp) (by simp) ?_;by_cases hh:(gt c.high (gt s.basic i)).has=true
     ·have ic:mV c s j true i:=.inl ⟨sp,hh⟩;have eD:dQ c s j true i=((gt c.high (gt s.basic i)).at' - gt s.x (gt s.basic i)) / gD s j true i:=if_pos sp;have eW:wQ s j true i=3:=if_pos sp;have q1:qw 2406283016 ((gt c.high (gt s.basic i)).at' - gt s.x (gt s.basic i)):=ay (nL qh qx) (by omega);have q2:qw 2578158016 (dQ c s j true i):=by rw[eD];exact ay (kX q1 qg (by omega)) (by omega)
      simp(disch:=omega)[af,ax,aA,hh];repeat refine asi ?_
      refine aa.jZ (.d 21<|.qs [0,1,2,3,4,5,6,7,8,9,10,11,12,13,14,16]<|.p 15<|.p 17<|.qs [18,19,20]<|.b ( .l 22 [c.m+11]<|.qs [23]<|.nil )) (by kernel_rfl) (by kernel_rfl) (by simp[aF]) ?_;simp(disch:=omega)[af,ax,aA,ad,aG,hR,ep hR];repeat refine asi ?_
      refine fG (ot (gt c.high (gt s.basic i)).at' (gt s.x (gt s.basic i)) (ao qh (by omega)) (ao qx (by omega))) (by simp) ?_;simp;refine fG (oC ((gt c.high (gt s.basic i)).at' - gt s.x (gt s.basic i)) (gD s j true i) (ao q1 (by omega)) (ao qg (by omega))) (by simp) ?_;rw[<-eD];simp(disch:=omega)[ep hR,eo hR];repeat refine asi ?_
      refine qe (c:=c) (s:=s) (tl:=[_,_]) (b:=b) (sm:=sm) (lv:=lv) (wv:=wv) (y:=dQ c s j true i) (who:=((gt s.basic i:Nat):Int)) (at':=3) hR (ao q2 (by omega)) (ao qb (by omega)) λb' an ap ar hk=>?_;simp[];rcases hk with⟨hk,rfl,rfl,rfl,rfl⟩ | ⟨hk,rfl,rfl,rfl,rfl⟩
      ·refine⟨⟨i+1,true,dQ c s j true i,((gt s.basic i:Nat):Int),3⟩,⟨by simp;omega,by have:=ac.take ic hk;rw[eW]at this;exact this,ay q2 (by omega)⟩,by simp;omega,?_⟩;exact eP s hR fx (by simp(disch:=omega)[bU,Go.Sv.get,aK]) (by simp[bu,fI]) (by simp[gz,SV.lt]) (by simp[ee])
      ·refine⟨⟨i+1,an,b',ap,ar⟩,⟨by simp;omega,ac.no ic hk,qb⟩,by simp;omega,?_⟩;exact eP s hR fx (by simp(disch:=omega)[bU,Go.Sv.get,aK]) (by simp[bu,fI]) (by simp[gz,SV.lt]) (by simp[ee])
     ·have au:(gt c.high (gt s.basic i)).has=false:=by simpa using hh
      have nc:¬mV c s j true i:=λq=>by
       rcases q with⟨_,q⟩ | ⟨q,_⟩
       ·exact hh q
       ·grind
      simp(disch:=omega)[af,ax,aA,au,ep hR];repeat refine asi ?_
      refine asl (kB sp) ?_;simp(disch:=omega)[aK];repeat refine asi ?_
      refine⟨⟨i+1,sm,b,lv,wv⟩,⟨by simp;omega,ac.skip nc,qb⟩,by simp;omega,?_⟩;exact eP s hR fx (by simp(disch:=omega)[bU,Go.Sv.get]) (by simp[fI]) (by simp[gz,SV.lt]) (by simp[ee])
    ·by_cases sn:gD s j true i<0
     ·refine ae (kI sn) (by simp) ?_;simp(disch:=omega)[ep hR];repeat refine asi ?_
      refine asl (kI sn) ?_;by_cases hh:(gt c.low (gt s.basic i)).has=true
      ·have ic:mV c s j true i:=.inr ⟨sn,hh⟩;have eD:dQ c s j true i=((gt c.low (gt s.basic i)).at' - gt s.x (gt s.basic i)) / gD s j true i:=if_neg sp;have eW:wQ s j true i=2:=if_neg sp;have q1:qw 2406283016 ((gt c.low (gt s.basic i)).at' - gt s.x (gt s.basic i)):=ay (nL ql qx) (by omega);have q2:qw 2578158016 (dQ c s j true i):=by rw[eD];exact ay (kX q1 qg (by omega)) (by omega)
       simp(disch:=omega)[af,aw,az,hh];repeat refine asi ?_
       refine aa.jZ (.d 21<|.qs [0,1,2,3,4,5,6,7,8,9,10,11,12,13,14,16]<|.p 15<|.p 17<|.qs [18,19,20]<|.b ( .l 22 [c.m+11]<|.qs [23]<|.nil )) (by kernel_rfl) (by kernel_rfl) (by simp[aF]) ?_;simp(disch:=omega)[af,aw,az,ad,aG,hR,ep hR];repeat refine asi ?_
       refine fG (ot (gt c.low (gt s.basic i)).at' (gt s.x (gt s.basic i)) (ao ql (by omega)) (ao qx (by omega))) (by simp) ?_;simp;refine fG (oC ((gt c.low (gt s.basic i)).at' - gt s.x (gt s.basic i)) (gD s j true i) (ao q1 (by omega)) (ao qg (by omega))) (by simp) ?_;rw[<-eD];simp(disch:=omega)[ep hR,eo hR];repeat refine asi ?_
       refine qe (c:=c) (s:=s) (tl:=[_,_]) (b:=b) (sm:=sm) (lv:=lv) (wv:=wv) (y:=dQ c s j true i) (who:=((gt s.basic i:Nat):Int)) (at':=2) hR (ao q2 (by omega)) (ao qb (by omega)) λb' an ap ar hk=>?_;simp[];rcases hk with⟨hk,rfl,rfl,rfl,rfl⟩ | ⟨hk,rfl,rfl,rfl,rfl⟩
       ·refine⟨⟨i+1,true,dQ c s j true i,((gt s.basic i:Nat):Int),2⟩,⟨by simp;omega,by have:=ac.take ic hk;rw[eW]at this;exact this,ay q2 (by omega)⟩,by simp;omega,?_⟩;exact eP s hR fx (by simp(disch:=omega)[bU,Go.Sv.get,aK]) (by simp[bu,fI]) (by simp[gz,SV.lt]) (by simp[ee])
       ·refine⟨⟨i+1,an,b',ap,ar⟩,⟨by simp;omega,ac.no ic hk,qb⟩,by simp;omega,?_⟩;exact eP s hR fx (by simp(disch:=omega)[bU,Go.Sv.get,aK]) (by simp[bu,fI]) (by simp[gz,SV.lt]) (by simp[ee])
      ·have au:(gt c.low (gt s.basic i)).has=false:=by simpa using hh
       have nc:¬mV c s j true i:=λq=>by
        rcases q with⟨q,_⟩ | ⟨_,q⟩
        ·grind
        ·exact hh q
       simp(disch:=omega)[af,aw,az,au,aK];repeat refine asi ?_
       refine⟨⟨i+1,sm,b,lv,wv⟩,⟨by simp;omega,ac.skip nc,qb⟩,by simp;omega,?_⟩;exact eP s hR fx (by simp(disch:=omega)[bU,Go.Sv.get]) (by simp[fI]) (by simp[gz,SV.lt]) (by simp[ee])
     ·have z:gD s j true i=0:=by grind
      have nc:¬mV c s j true i:=λq=>by rcases q with q | q<;>grind
      refine asl (oH z) ?_;simp(disch:=omega)[ep hR];repeat refine asi ?_
      refine asl (oH z) ?_;simp(disch:=omega)[aK];repeat refine asi ?_
      refine⟨⟨i+1,sm,b,lv,wv⟩,⟨by simp;omega,ac.skip nc,qb⟩,by simp;omega,?_⟩;exact eP s hR fx (by simp(disch:=omega)[bU,Go.Sv.get]) (by simp[fI]) (by simp[gz,SV.lt]) (by simp[ee])
   | false =>
    have eg:gD s j false i = -(gt (gt s.R i) j):=by simp[gD]
    have qg:qw 171875000 (gD s j false i):=by rw[eg];exact fh qR
    have ng:=iZ (gt (gt s.R i) j);rw[<-eg]at ng;simp(disch:=omega)[am,aR,tg,lj,Ri,hj,hR,ep hR,eo hR];repeat refine asi ?_
    refine asl (ng) ?_;simp(disch:=omega)[ep hR,eo hR,hb,am,aO];repeat refine asi ?_
    by_cases sp:0<gD s j false i
    ·refine ae (kB sp) (by simp) ?_;by_cases hh:(gt c.high (gt s.basic i)).has=true
     ·have ic:mV c s j false i:=.inl ⟨sp,hh⟩;have eD:dQ c s j false i=((gt c.high (gt s.basic i)).at' - gt s.x (gt s.basic i)) / gD s j false i:=if_pos sp;have eW:wQ s j false i=3:=if_pos sp;have q1:qw 2406283016 ((gt c.high (gt s.basic i)).at' - gt s.x (gt s.basic i)):=ay (nL qh qx) (by omega);have q2:qw 2578158016 (dQ c s j false i):=by rw[eD];exact ay (kX q1 qg (by omega)) (by omega)
      simp(disch:=omega)[af,ax,aA,hh];repeat refine asi ?_
      refine aa.jZ (.d 21<|.qs [0,1,2,3,4,5,6,7,8,9,10,11,12,13,14,16]<|.p 15<|.p 17<|.qs [18,19,20]<|.b ( .l 22 [c.m+11]<|.qs [23]<|.nil )) (by kernel_rfl) (by kernel_rfl) (by simp[aF]) ?_;simp(disch:=omega)[af,ax,aA,ad,aG,hR,ep hR];repeat refine asi ?_
      refine fG (ot (gt c.high (gt s.basic i)).at' (gt s.x (gt s.basic i)) (ao qh (by omega)) (ao qx (by omega))) (by simp) ?_;simp;refine fG (oC ((gt c.high (gt s.basic i)).at' - gt s.x (gt s.basic i)) (gD s j false i) (ao q1 (by omega)) (ao qg (by omega))) (by simp) ?_;rw[<-eD];simp(disch:=omega)[ep hR,eo hR];repeat refine asi ?_
      refine qe (c:=c) (s:=s) (tl:=[_,_]) (b:=b) (sm:=sm) (lv:=lv) (wv:=wv) (y:=dQ c s j false i) (who:=((gt s.basic i:Nat):Int)) (at':=3) hR (ao q2 (by omega)) (ao qb (by omega)) λb' an ap ar hk=>?_;simp[];rcases hk with⟨hk,rfl,rfl,rfl,rfl⟩ | ⟨hk,rfl,rfl,rfl,rfl⟩
      ·refine⟨⟨i+1,true,dQ c s j false i,((gt s.basic i:Nat):Int),3⟩,⟨by simp;omega,by have:=ac.take ic hk;rw[eW]at this;exact this,ay q2 (by omega)⟩,by simp;omega,?_⟩;exact eP s hR fx (by simp(disch:=omega)[bU,Go.Sv.get,aK]) (by simp[bu,fI]) (by simp[gz,SV.lt]) (by simp[ee])
      ·refine⟨⟨i+1,an,b',ap,ar⟩,⟨by simp;omega,ac.no ic hk,qb⟩,by simp;omega,?_⟩;exact eP s hR fx (by simp(disch:=omega)[bU,Go.Sv.get,aK]) (by simp[bu,fI]) (by simp[gz,SV.lt]) (by simp[ee])
     ·have au:(gt c.high (gt s.basic i)).has=false:=by simpa using hh
      have nc:¬mV c s j false i:=λq=>by
       rcases q with⟨_,q⟩ | ⟨q,_⟩
       ·exact hh q
       ·grind
      simp(disch:=omega)[af,ax,aA,au,ep hR];repeat refine asi ?_
      refine asl (kB sp) ?_;simp(disch:=omega)[aK];repeat refine asi ?_
      refine⟨⟨i+1,sm,b,lv,wv⟩,⟨by simp;omega,ac.skip nc,qb⟩,by simp;omega,?_⟩;exact eP s hR fx (by simp(disch:=omega)[bU,Go.Sv.get]) (by simp[fI]) (by simp[gz,SV.lt]) (by simp[ee])
    ·by_cases sn:gD s j false i<0
     ·refine ae (kI sn) (by simp) ?_;simp(disch:=omega)[ep hR];repeat refine asi ?_
      refine asl (kI sn) ?_;by_cases hh:(gt c.low (gt s.basic i)).has=true
      ·have ic:mV c s j false i:=.inr ⟨sn,hh⟩;have eD:dQ c s j false i=((gt c.low (gt s.basic i)).at' - gt s.x (gt s.basic i)) / gD s j false i:=if_neg sp;have eW:wQ s j false i=2:=if_neg sp;have q1:qw 2406283016 ((gt c.low (gt s.basic i)).at' - gt s.x (gt s.basic i)):=ay (nL ql qx) (by omega);have q2:qw 2578158016 (dQ c s j false i):=by rw[eD];exact ay (kX q1 qg (by omega)) (by omega)
       simp(disch:=omega)[af,aw,az,hh];repeat refine asi ?_
       refine aa.jZ (.d 21<|.qs [0,1,2,3,4,5,6,7,8,9,10,11,12,13,14,16]<|.p 15<|.p 17<|.qs [18,19,20]<|.b ( .l 22 [c.m+11]<|.qs [23]<|.nil )) (by kernel_rfl) (by kernel_rfl) (by simp[aF]) ?_;simp(disch:=omega)[af,aw,az,ad,aG,hR,ep hR];repeat refine asi ?_
       refine fG (ot (gt c.low (gt s.basic i)).at' (gt s.x (gt s.basic i)) (ao ql (by omega)) (ao qx (by omega))) (by simp) ?_;simp;refine fG (oC ((gt c.low (gt s.basic i)).at' - gt s.x (gt s.basic i)) (gD s j false i) (ao q1 (by omega)) (ao qg (by omega))) (by simp) ?_;rw[<-eD];simp(disch:=omega)[ep hR,eo hR];repeat refine asi ?_
       refine qe (c:=c) (s:=s) (tl:=[_,_]) (b:=b) (sm:=sm) (lv:=lv) (wv:=wv) (y:=dQ c s j false i) (who:=((gt s.basic i:Nat):Int)) (at':=2) hR (ao q2 (by omega)) (ao qb (by omega)) λb' an ap ar hk=>?_;simp[];rcases hk with⟨hk,rfl,rfl,rfl,rfl⟩ | ⟨hk,rfl,rfl,rfl,rfl⟩
       ·refine⟨⟨i+1,true,dQ c s j false i,((gt s.basic i:Nat):Int),2⟩,⟨by simp;omega,by have:=ac.take ic hk;rw[eW]at this;exact this,ay q2 (by omega)⟩,by simp;omega,?_⟩;exact eP s hR fx (by simp(disch:=omega)[bU,Go.Sv.get,aK]) (by simp[bu,fI]) (by simp[gz,SV.lt]) (by simp[ee])
       ·refine⟨⟨i+1,an,b',ap,ar⟩,⟨by simp;omega,ac.no ic hk,qb⟩,by simp;omega,?_⟩;exact eP s hR fx (by simp(disch:=omega)[bU,Go.Sv.get,aK]) (by simp[bu,fI]) (by simp[gz,SV.lt]) (by simp[ee])
      ·have au:(gt c.low (gt s.basic i)).has=false:=by simpa using hh
       have nc:¬mV c s j false i:=λq=>by
        rcases q with⟨q,_⟩ | ⟨_,q⟩
        ·grind
        ·exact hh q
       simp(disch:=omega)[af,aw,az,au,aK];repeat refine asi ?_
       refine⟨⟨i+1,sm,b,lv,wv⟩,⟨by simp;omega,ac.skip nc,qb⟩,by simp;omega,?_⟩;exact eP s hR fx (by simp(disch:=omega)[bU,Go.Sv.get]) (by simp[fI]) (by simp[gz,SV.lt]) (by simp[ee])
     ·have z:gD s j false i=0:=by grind
      have nc:¬mV c s j false i:=λq=>by rcases q with q | q<;>grind
      refine asl (oH z) ?_;simp(disch:=omega)[ep hR];repeat refine asi ?_
      refine asl (oH z) ?_;simp(disch:=omega)[aK];repeat refine asi ?_
      refine⟨⟨i+1,sm,b,lv,wv⟩,⟨by simp;omega,ac.skip nc,qb⟩,by simp;omega,?_⟩;exact eP s hR fx (by simp(disch:=omega)[bU,Go.Sv.get]) (by simp[fI]) (by simp[gz,SV.lt]) (by simp[ee])
  ·obtain rfl:i=c.m:=by omega
   simp only[tT,tH,tS,iL,dJ,bu,as8,at3];simp(disch:=omega)[];repeat refine asi ?_
   refine⟨_,⟨sm,b,lv,wv,ac,qb,rfl⟩,?_⟩;exact r9 s hR fx (by simp[bU,Go.Sv.get]) (by simp[bu]) (by simp[gz,bu,SV.lt]) (by simp[bu,ee])
end Go.Proofs
set_option maxRecDepth 10000
namespace Go.Proofs
open Go.Sv Go Go.Tb Go.Pl Go.Ut Go.Mx Go.Li Go.Dt Go.Sx
theorem pF(c:Tc)(s:Tb)(tl:aD):fI (tT c s tl) (tT c s []):=kY (tH c s) (kY _ (by cases tl<;>trivial))
theorem pM{c:Tc}{s:Tb}(h:s.R.length=c.m):ee (tT c s []).length (tT c s []):=by have:=Ct (c:=c) (s:=s) h;rw[tT,List.append_nil];exact this
theorem RP{c:Tc}{K:(Nat->Rat)->Prop}{s:Tb}(hc:oR c)(hw:zG c)(hW:HW c K)(h:fo c K s){j:Nat}(hj:j<c.N)(ag:gt s.wh j≠1)(up:Bool){C:Ctx}(fx:∀k∈C.fx,k<c.m+6){b:Rat}{lv wv:Int}(ho:(fZ c j up).has=false)(hn:∀q,q<c.m->¬mV c s j up q) :
  aa awW C (bs 8 cG) ⟨206,iL c.m j up,tT c s (bu b false lv wv)⟩ (gK awW [.tmp 6] [] (rn (tT c s []) [] (Ah c s j up))):=by
 have h7:=hc.m7;have aB:=hc.sq;have hR:=h.t.R;have ad:=h.t.x;have hb:=h.t.b;have ak:=h.t.w;have al:=h.t.r;simp only[cG,axu,ate,ai,ah];simp only[tT,tH,tS,iL,dJ,bu,as8,at3];refine aa.go ?_;simp(disch:=omega)[hR,ep hR];repeat refine asi ?_
 refine⟨_,_,⟨s,rfl,hR,.inl ⟨rfl,rfl,ho,hn⟩⟩,rfl,pF c s _,by simp[tT,tH,hR],.inr ⟨by simp,pM hR⟩⟩
theorem F4{c:Tc}{K:(Nat->Rat)->Prop}{s:Tb}(hc:oR c)(hw:zG c)(hW:HW c K)(h:fo c K s){j:Nat}(hj:j<c.N)(ag:gt s.wh j≠1){C:Ctx}(fx:∀k∈C.fx,k<c.m+6){b:Rat}(qb:qw 2578158016 b)(ho:(fZ c j true).has=true)(eb:b=dO c s j true)(hn:∀q,q<c.m->mV c s j true q->dO c s j true<=dQ c s j true q) :
  aa awW C (bs 8 cG) ⟨206,iL c.m j true,tT c s (bu b true (-1) 0)⟩ (gK awW [.tmp 6] [] (rn (tT c s []) [] (Ah c s j true))):=by
 have h7:=hc.m7;have aB:=hc.sq;have hR:=h.t.R;have ad:=h.t.x;have hb:=h.t.b;have ak:=h.t.w;have al:=h.t.r;have lw:=cf (l:=s.wh) (i:=j) (by omega);have aP:aL ((s.wh.set j 2).map iv) j=iv 2:=by rw[cf (by rw[avs];omega),bG (by omega),if_pos rfl]
 have mo:=m6 c s hc h.t (Z:=5156313832) (W:=171875000) (Y:=2578158016) hj (qb) (hW _ _ h.d h.t.Rr) (ay (kn hc hw hW h hj) (by omega)) (λa ha q hq=>Jd hc hw hW h hj ag (qb) hq ha) (by omega) (by omega) (by omega);simp only[cG,axu,ate,ai,ah];simp only[tT,tH,tS,iL,dJ,bu,as8,at3];refine aa.go ?_;simp(disch:=omega)[hR,cE hR,ep hR,eo hR];repeat refine asi ?_
 refine dS (tl:=[_,_,_,_,_]) mo hR (by simp) (by simp) ?_;rintro T1 v ⟨rfl,rfl⟩;refine⟨_,rfl,hR,by simp,?_⟩;have aQ:(fK s j b c.m).length=c.N:=by rw[fD];exact ad
 simp only[tT,tH,tS,as8,at3];simp(disch:=omega)[hR,ep hR,hj,ak,lw,aP,dA, -aue];repeat refine asi ?_
 refine⟨_,_,⟨Km c s j (yD true b) (if true=true then 3 else 2),rfl,hR,.inr (.inl ⟨rfl,ho,hn,by rw[eb]⟩)⟩,rfl,?_,by simp[tT,tH,Km,hR],.inr ⟨by simp,pM (s:=Km c s j (yD true b) (if true=true then 3 else 2)) hR⟩⟩;exact pF c (Km c s j (yD true b) (if true=true then 3 else 2)) _
theorem FN{c:Tc}{K:(Nat->Rat)->Prop}{s:Tb}(hc:oR c)(hw:zG c)(hW:HW c K)(h:fo c K s){j:Nat}(hj:j<c.N)(ag:gt s.wh j≠1){C:Ctx}(fx:∀k∈C.fx,k<c.m+6){b:Rat}(qb:qw 2578158016 b){r:Nat}(hr:r<c.m)(aC:mV c s j true r)(eb:b=dQ c s j true r)(ho:(fZ c j true).has=true->dQ c s j true r<dO c s j true)(hn:∀q,q<c.m->mV c s j true q->dQ c s j true r<=dQ c s j true q∧(dQ c s j true q=dQ c s j true r->gt s.basic r<=gt s.basic q)) :
  aa awW C (bs 8 cG) ⟨206,iL c.m j true,tT c s (bu b true ((gt s.basic r:Nat):Int) (wQ s j true r))⟩ (gK awW [.tmp 6] [] (rn (tT c s []) [] (Ah c s j true))):=by
 have h7:=hc.m7;have aB:=hc.sq;have hR:=h.t.R;have ad:=h.t.x;have hb:=h.t.b;have ak:=h.t.w;have al:=h.t.r;have bb:=h.t.bb r hr;have nz:gD s j true r≠0:=by rcases aC with q | q<;>grind
 have ne:gt (gt s.R r) j≠0:=λq=>nz (by unfold gD;rw[q];simp);have mo:=m6 c s hc h.t (Z:=5156313832) (W:=171875000) (Y:=2578158016) hj (qb) (hW _ _ h.d h.t.Rr) (ay (kn hc hw hW h hj) (by omega)) (λa ha q hq=>Jd hc hw hW h hj ag (qb) hq ha) (by omega) (by omega) (by omega);have t1:ui c { s with x:=fK s j b c.m }:=⟨ak,by show(fK s j b c.m).length=_;rw[fD];exact ad,h.t.b,h.t.r,h.t.R,h.t.Rr,h.t.bb⟩;have tn:=pt c { s with x:=fK s j b c.m } hc t1 (W:=171875000) (by omega) (hW _ _ h.d h.t.Rr) (by omega) (i:=r) (j:=j) hr hj ne;have t2:=t1.yS (i:=r) hj;have w2:(gH { s with x:=fK s j b c.m } r j).wh.length=c.N:=t2.w;have av:gt s.row (gt s.basic r)=(r:Int):=by
  rcases h.r (gt s.basic r) bb with⟨q,hq,g1,g2⟩ | ⟨g1,g2⟩
  ·rw[g2,h.d.inj q r hq hr g1]
  ·exact absurd rfl (g2 r hr)
 have aj:aL (s.row.map iv) (gt s.basic r)=iv (r:Int):=by rw[cf (by omega),av]
 simp only[cG,axu,ate,ai,ah];simp only[tT,tH,tS,iL,dJ,bu,as8,at3];refine aa.go ?_;simp(disch:=omega)[hR,cE hR,ep hR,eo hR];repeat refine asi ?_
 refine dS (tl:=[_,_,_,_,_]) mo hR (by simp) (by simp) ?_;rintro T1 v ⟨rfl,rfl⟩;refine⟨_,rfl,hR,by simp,?_⟩;have aQ:(fK s j b c.m).length=c.N:=by rw[fD];exact ad
 simp only[tT,tH,tS,as8,at3];simp(disch:=omega)[hR,ep hR];repeat refine asi ?_
 refine aa.asj (.qs [0,1,2,3,4,5,6,7,8]<|.l 9 [1000000,0,1,2,3,4,5,6,7,8,9,10,11,12]<|.nil) ?_;simp(disch:=omega)[ep hR,bb,al,aj];repeat refine asi ?_
 refine dS (s:={ s with x:=fK s j b c.m }) (tl:=[_,_,_,_,_]) tn hR (by simp) (by intro ks e k hk;cases e;simp;omega) ?_;rintro T1 v ⟨rfl,rfl⟩;refine⟨_,rfl,t2.R,by simp,?_⟩;have aE:=cf (l:=(gH { s with x:=fK s j b c.m } r j).wh) (i:=gt s.basic r) (by rw[w2];exact bb);have ab:=t2.R;simp only[tT,tH,tS,as8,at3];simp(disch:=omega)[-aue];repeat refine asi ?_
 refine aa.asj (.qs [0,1,2,3,4,5,6]<|.l 7 [1]<|.nil) ?_;simp(disch:=omega)[ab,ep ab,bb,w2,aE,dA, -aue];repeat refine asi ?_
 refine⟨_,_,⟨yV c s r j (yD true b) (wQ s j true r),rfl,ab,.inr (.inr ⟨rfl,r,hr,aC,ho,hn,by rw[eb]⟩)⟩,rfl,pF c (yV c s r j (yD true b) (wQ s j true r)) _,?_,.inr ⟨by simp,pM (s:=yV c s r j (yD true b) (wQ s j true r)) ab⟩⟩;have:(yV c s r j (yD true b) (wQ s j true r)).R.length=c.m:=ab;simp[tT,tH,this,hR]
theorem Fk{c:Tc}{K:(Nat->Rat)->Prop}{s:Tb}(hc:oR c)(hw:zG c)(hW:HW c K)(h:fo c K s){j:Nat}(hj:j<c.N)(ag:gt s.wh j≠1){C:Ctx}(fx:∀k∈C.fx,k<c.m+6){b:Rat}(qb:qw 2578158016 b)(ho:(fZ c j false).has=true)(eb:b=dO c s j false)(hn:∀q,q<c.m->mV c s j false q->dO c s j false<=dQ c s j false q) :
  aa awW C (bs 8 cG) ⟨206,iL c.m j false,tT c s (bu b true (-1) 0)⟩ (gK awW [.tmp 6] [] (rn (tT c s []) [] (Ah c s j false))):=by
 have h7:=hc.m7;have aB:=hc.sq;have hR:=h.t.R;have ad:=h.t.x;have hb:=h.t.b;have ak:=h.t.w;have al:=h.t.r;have lw:=cf (l:=s.wh) (i:=j) (by omega);have aP:aL ((s.wh.set j 2).map iv) j=iv 2:=by rw[cf (by rw[avs];omega),bG (by omega),if_pos rfl]
 have mo:=m6 c s hc h.t (Z:=5156313832) (W:=171875000) (Y:=2578158016) hj (fh qb) (hW _ _ h.d h.t.Rr) (ay (kn hc hw hW h hj) (by omega)) (λa ha q hq=>Jd hc hw hW h hj ag (fh qb) hq ha) (by omega) (by omega) (by omega);simp only[cG,axu,ate,ai,ah];simp only[tT,tH,tS,iL,dJ,bu,as8,at3];refine aa.go ?_;simp(disch:=omega)[hR,cE hR,ep hR,eo hR];repeat refine asi ?_
 refine asl (iZ b) ?_;simp(disch:=omega)[ep hR,eo hR];repeat refine asi ?_
 refine dS (tl:=[_,_,_,_,_]) mo hR (by simp) (by simp) ?_;rintro T1 v ⟨rfl,rfl⟩;refine⟨_,rfl,hR,by simp,?_⟩;have aQ:(fK s j (-b) c.m).length=c.N:=by rw[fD];exact ad
 simp only[tT,tH,tS,as8,at3];simp(disch:=omega)[hR,ep hR,hj,ak,lw,dA, -aue];repeat refine asi ?_
 refine⟨_,_,⟨Km c s j (yD false b) (if false=true then 3 else 2),rfl,hR,.inr (.inl ⟨rfl,ho,hn,by rw[eb]⟩)⟩,rfl,?_,by simp[tT,tH,Km,hR],.inr ⟨by simp,pM (s:=Km c s j (yD false b) (if false=true then 3 else 2)) hR⟩⟩;exact pF c (Km c s j (yD false b) (if false=true then 3 else 2)) _
theorem Eo{c:Tc}{K:(Nat->Rat)->Prop}{s:Tb}(hc:oR c)(hw:zG c)(hW:HW c K)(h:fo c K s){j:Nat}(hj:j<c.N)(ag:gt s.wh j≠1){C:Ctx}(fx:∀k∈C.fx,k<c.m+6){b:Rat}(qb:qw 2578158016 b){r:Nat}(hr:r<c.m)(aC:mV c s j false r)(eb:b=dQ c s j false r)(ho:(fZ c j false).has=true->dQ c s j false r<dO c s j false)(hn:∀q,q<c.m->mV c s j false q->dQ c s j false r<=dQ c s j false q∧(dQ c s j false q=dQ c s j false r->gt s.basic r<=gt s.basic q)) :
  aa awW C (bs 8 cG) ⟨206,iL c.m j false,tT c s (bu b true ((gt s.basic r:Nat):Int) (wQ s j false r))⟩ (gK awW [.tmp 6] [] (rn (tT c s []) [] (Ah c s j false))):=by
 have h7:=hc.m7;have aB:=hc.sq;have hR:=h.t.R;have ad:=h.t.x;have hb:=h.t.b;have ak:=h.t.w;have al:=h.t.r;have bb:=h.t.bb r hr;have nz:gD s j false r≠0:=by rcases aC with q | q<;>grind
 have ne:gt (gt s.R r) j≠0:=λq=>nz (by unfold gD;rw[q];simp);have mo:=m6 c s hc h.t (Z:=5156313832) (W:=171875000) (Y:=2578158016) hj (fh qb) (hW _ _ h.d h.t.Rr) (ay (kn hc hw hW h hj) (by omega)) (λa ha q hq=>Jd hc hw hW h hj ag (fh qb) hq ha) (by omega) (by omega) (by omega);have t1:ui c { s with x:=fK s j (-b) c.m }:=⟨ak,by show(fK s j (-b) c.m).length=_;rw[fD];exact ad,h.t.b,h.t.r,h.t.R,h.t.Rr,h.t.bb⟩;have tn:=pt c { s with x:=fK s j (-b) c.m } hc t1 (W:=171875000) (by omega) (hW _ _ h.d h.t.Rr) (by omega) (i:=r) (j:=j) hr hj ne;have t2:=t1.yS (i:=r) hj;have w2:(gH { s with x:=fK s j (-b) c.m } r j).wh.length=c.N:=t2.w;have av:gt s.row (gt s.basic r)=(r:Int):=by
  rcases h.r (gt s.basic r) bb with⟨q,hq,g1,g2⟩ | ⟨g1,g2⟩
  ·rw[g2,h.d.inj q r hq hr g1]
  ·exact absurd rfl (g2 r hr)
 have aj:aL (s.row.map iv) (gt s.basic r)=iv (r:Int):=by rw[cf (by omega),av]
 simp only[cG,axu,ate,ai,ah];simp only[tT,tH,tS,iL,dJ,bu,as8,at3];refine aa.go ?_;simp(disch:=omega)[hR,cE hR,ep hR,eo hR];repeat refine asi ?_
 refine asl (iZ b) ?_;simp(disch:=omega)[ep hR,eo hR];repeat refine asi ?_
 refine dS (tl:=[_,_,_,_,_]) mo hR (by simp) (by simp) ?_;rintro T1 v ⟨rfl,rfl⟩;refine⟨_,rfl,hR,by simp,?_⟩;have aQ:(fK s j (-b) c.m).length=c.N:=by rw[fD];exact ad
 simp only[tT,tH,tS,as8,at3];simp(disch:=omega)[hR,ep hR];repeat refine asi ?_
 refine aa.asj (.qs [0,1,2,3,4,5,6,7,8]<|.l 9 [1000000,0,1,2,3,4,5,6,7,8,9,10,11,12]<|.nil) ?_;simp(disch:=omega)[ep hR,bb,al,aj];repeat refine asi ?_
 refine dS (s:={ s with x:=fK s j (-b) c.m }) (tl:=[_,_,_,_,_]) tn hR (by simp) (by intro ks e k hk;cases e;simp;omega) ?_;rintro T1 v ⟨rfl,rfl⟩;refine⟨_,rfl,t2.R,by simp,?_⟩;have aE:=cf (l:=(gH { s with x:=fK s j (-b) c.m } r j).wh) (i:=gt s.basic r) (by rw[w2];exact bb);have ab:=t2.R;simp only[tT,tH,tS,as8,at3];simp(disch:=omega)[-aue];repeat refine asi ?_
 refine aa.asj (.qs [0,1,2,3,4,5,6]<|.l 7 [1]<|.nil) ?_;simp(disch:=omega)[ab,ep ab,bb,w2,aE,dA, -aue];repeat refine asi ?_
 refine⟨_,_,⟨yV c s r j (yD false b) (wQ s j false r),rfl,ab,.inr (.inr ⟨rfl,r,hr,aC,ho,hn,by rw[eb]⟩)⟩,rfl,pF c (yV c s r j (yD false b) (wQ s j false r)) _,?_,.inr ⟨by simp,pM (s:=yV c s r j (yD false b) (wQ s j false r)) ab⟩⟩;have:(yV c s r j (yD false b) (wQ s j false r)).R.length=c.m:=ab;simp[tT,tH,this,hR]
theorem M8{c:Tc}{K:(Nat->Rat)->Prop}{s:Tb}(hc:oR c)(hw:zG c)(hW:HW c K)(h:fo c K s){j:Nat}(hj:j<c.N)(ag:gt s.wh j≠1)(up:Bool):kv awW 173 [.ptr 0 0 0,iv j,cX up] (tT c s []) [] (Ah c s j up):=by
 have hR:=h.t.R;refine iQ Tryz.func173 rfl (by simp) (λC hC=>?_);have fx:=oJ hR hC;show aa _ _ cG _ (gK awW [.tmp 6] [] _);refine Uk hc h hj up fx (SI hc hw hW h hj up fx (by simp) λsm b lv wv h0 q0=>acx hc hw hW h hj up fx (by simp) (λsm b lv wv h1 q1=>?_) h0 q0);rcases h1 with⟨rfl,_,_,_,g5,g6⟩ | ⟨rfl,rfl,rfl,g4,rfl,g6⟩ | ⟨rfl,r,g2,g3,rfl,rfl,rfl,g7,g8⟩
 ·exact RP hc hw hW h hj ag up fx g5 g6
 ·cases up with
  | true=>exact F4 hc hw hW h hj ag fx q1 g4 rfl g6
  | false=>exact Fk hc hw hW h hj ag fx q1 g4 rfl g6
 ·cases up with
  | true=>exact FN hc hw hW h hj ag fx q1 g2 g3 rfl g7 g8
  | false=>exact Eo hc hw hW h hj ag fx q1 g2 g3 rfl g7 g8
end Go.Proofs


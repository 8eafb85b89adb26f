/- A text of the prover's own. -/
import Derived.Test.YtnimjdcaajmfcaaGreatDoorVUx
open Go.Proofs.Tryz renaming prog->ay9,f173->aB4
open Option renaming getD_some->ayj
open List renaming cons_append->ayb,nil_append->aAf,length_set->aBI,map_set->aAq
set_option maxRecDepth 10000
set_option maxHeartbeats 1000000
namespace Go.Proofs
open Go.Sv Go Go.Tb Go.Pl Go.Ut Go.Mx Go.Li Go.Dt Go.Sx
structure StG where
 i:Nat
 sm:Bool
 b:Rat
 lv:Int
 wv:Int
theorem ab2{c:Tc}{K:(Nat->Rat)->Prop}{s:Tb}(hc:qe c)(hw:BN c)(hW:HW c K)(h:fm c K s){j:Nat}(hj:j<c.N)(up:Bool){C:Ctx}(fx:∀k∈C.fx,k<c.m+6){Q:bf}(aG:∀c st,¬Q (.panic c) st)
  (hn:∀sm b lv wv,JM c s j up c.m sm b lv wv->qw 2578158016 b->aa ay9 C (bh 8 cQ) ⟨206,jn c.m j up,tT c s (bG b sm lv wv)⟩ Q)
  {aI:Bool} {b0:Rat} {aJ aK:Int} (h0:JM c s j up 0 aI b0 aJ aK) (q0:qw 2578158016 b0):aa ay9 C (bh 7 cQ) ⟨206,jn c.m j up,tT c s (bG b0 aI aJ aK)⟩ Q:=by
 have h7:=hc.m7;have aB:=hc.ur;have hR:=h.t.R;have af:=h.t.x;have hb:=h.t.b;have aw:=hc.lo;have ay:=hc.hi;refine aa.cutAt 1 (StI c s j up c.m (jn c.m j up)) ?_ ?_
 rotate_left 1
 ·rintro st ⟨sm,b,lv,wv,h1,h2,rfl⟩;have:=hn _ _ _ _ h1 h2;simp only[cQ,aB4,ayj,ah,ab]at this ⊢;exact this
 clear hn;simp only[cQ,aB4,ayj,ah,ab,aN,aL];simp only[tT,tH,tS,jn,dX,bG,ayb,aAf];simp(disch:=omega)[];repeat refine awG ?_
 refine aa.bB (ι:=StG) (λg=>⟨206,jn c.m j up++[(62,.view 5 0 c.m),(63,iv c.m),(64,iv g.i)],tT c s (bG g.b g.sm g.lv g.wv)⟩)
  (λg=>g.i<=c.m∧JM c s j up g.i g.sm g.b g.lv g.wv∧qw 2578158016 g.b) (λg=>c.m - g.i) ⟨0,aI,b0,aJ,aK⟩ ⟨by simp,h0,q0⟩ ?_ ?_
 ·exact⟨rfl,by simp[bY,Go.Sv.get,jn,dX],ao _,.inl rfl⟩
 ·clear h0 q0;rintro⟨i,sm,b,lv,wv⟩ ⟨hi,ad,qb⟩;simp only at hi ad qb;by_cases am:i<c.m
  ·have aR:=gM (N:=c.N) (m:=c.m) (i:=i) am;have tg:=λtl:aC=>fE (C:=s.R) (tl:=tl) (e:=i) (by omega);have Ri:=h.t.Rr i am;have ag:=h.t.bb i am;have aO:=fI (l:=s.basic) (i:=i) (by omega);have aH:=ch (l:=s.x) (i:=gt s.basic i) (by omega);have az:aM (c.low.map dA) (gt s.basic i)=dA (gt c.low (gt s.basic i)):=ct _ (by omega);have aA:aM (c.high.map dA) (gt s.basic i)=dA (gt c.high (gt s.basic i)):=ct _ (by omega);have qx:=k9 hc hw hW h ag;have ql:=hw.lo _ ag;have qh:=hw.hi _ ag;have qR:=hW _ _ h.d h.t.Rr i am j (by omega);have lj:=ch (l:=gt s.R i) (i:=j) (by omega);simp only[tT,tH,tS,jn,dX,bG,ayb,aAf];cases up with
   | true =>
    have eg:gD s j true i=gt (gt s.R i) j:=by simp[gD]
    have qg:qw 171875000 (gD s j true i):=by rw[eg];exact qR
    rw[<-eg]at lj;simp(disch:=omega)[am,aR,tg,lj,Ri,hj,hR,eP hR,eQ hR,hb,aO];repeat refine awG ?_
    by_cases sp:0<gD s j true i
    ·refine ae (lg sp) (by simp) ?_;by_cases hh:(gt c.high (gt s.basic i)).has=true
     ·have ic:oE c s j true i:=.inl ⟨sp,hh⟩;have eD:dQ c s j true i=((gt c.high (gt s.basic i)).at' - gt s.x (gt s.basic i)) / gD s j true i:=if_pos sp;have eW:wQ s j true i=3:=if_pos sp;have q1:qw 2406283016 ((gt c.high (gt s.basic i)).at' - gt s.x (gt s.basic i)):=ax (qd qh qx) (by omega);have q2:qw 2578158016 (dQ c s j true i):=by rw[eD];exact ax (mF q1 qg (by omega)) (by omega)
      simp(disch:=omega)[ag,ay,aA,hh];repeat refine awG ?_
      refine aa.jB (.d 21<|.qs [0,1,2,3,4,5,6,7,8,9,10,11,12,13,14,16]<|.p 15<|.p 17<|.qs [18,19,20]<|.b ( .l 22 [c.m+11]<|.qs [23]<|.nil )) (by kernel_rfl) (by kernel_rfl) (by simp[aG]) ?_;simp(disch:=omega)[ag,ay,aA,af,aH,hR,eP hR];repeat refine awG ?_
      refine ff (pt (gt c.high (gt s.basic i)).at' (gt s.x (gt s.basic i)) (aq qh (by omega)) (aq qx (by omega))) (by simp) ?_;simp;refine ff (pB ((gt c.high (gt s.basic i)).at' - gt s.x (gt s.basic i)) (gD s j true i) (aq q1 (by omega)) (aq qg (by omega))) (by simp) ?_;rw[<-eD];simp(disch:=omega)[eP hR,eQ hR];repeat refine awG ?_
      refine rX (c:=c) (s:=s) (tl:=[_,_]) (b:=b) (sm:=sm) (lv:=lv) (wv:=wv) (y:=dQ c s j true i) (who:=((gt s.basic i:Nat):Int)) (at':=3) hR (aq q2 (by omega)) (aq qb (by omega)) λb' an ap ar hk=>?_;simp[];rcases hk with⟨hk,rfl,rfl,rfl,rfl⟩ | ⟨hk,rfl,rfl,rfl,rfl⟩
      ·refine⟨⟨i+1,true,dQ c s j true i,((gt s.basic i:Nat):Int),3⟩,⟨by simp;omega,by have:=ad.take ic hk;rw[eW]at this;exact this,ax q2 (by omega)⟩,by simp;omega,?_⟩;exact fv s hR fx (by simp(disch:=omega)[bY,Go.Sv.get,aD]) (by simp[bG,fj]) (by simp[gK,SV.lt]) (by simp[eA])
      ·refine⟨⟨i+1,an,b',ap,ar⟩,⟨by simp;omega,ad.no ic hk,qb⟩,by simp;omega,?_⟩;exact fv s hR fx (by simp(disch:=omega)[bY,Go.Sv.get,aD]) (by simp[bG,fj]) (by simp[gK,SV.lt]) (by simp[eA])
     ·have au:(gt c.high (gt s.basic i)).has=false:=by simpa using hh
      have nc:¬oE c s j true i:=λq=>by
       rcases q with⟨_,q⟩ | ⟨q,_⟩
       ·exact hh q
       ·grind
      simp(disch:=omega)[ag,ay,aA,au,eP hR];repeat refine awG ?_
      refine awI (lg sp) ?_;simp(disch:=omega)[aD];repeat refine awG ?_
      refine⟨⟨i+1,sm,b,lv,wv⟩,⟨by simp;omega,ad.skip nc,qb⟩,by simp;omega,?_⟩;exact fv s hR fx (by simp(disch:=omega)[bY,Go.Sv.get]) (by simp[fj]) (by simp[gK,SV.lt]) (by simp[eA])
    ·by_cases sn:gD s j true i<0
     ·refine ae (lP sn) (by simp) ?_;simp(disch:=omega)[eP hR];repeat refine awG ?_
      refine awI (lP sn) ?_;by_cases hh:(gt c.low (gt s.basic i)).has=true
      ·have ic:oE c s j true i:=.inr ⟨sn,hh⟩;have eD:dQ c s j true i=((gt c.low (gt s.basic i)).at' - gt s.x (gt s.basic i)) / gD s j true i:=if_neg sp;have eW:wQ s j true i=2:=if_neg sp;have q1:qw 2406283016 ((gt c.low (gt s.basic i)).at' - gt s.x (gt s.basic i)):=ax (qd ql qx) (by omega);have q2:qw 2578158016 (dQ c s j true i):=by rw[eD];exact ax (mF q1 qg (by omega)) (by omega)
       simp(disch:=omega)[ag,aw,az,hh];repeat refine awG ?_
       refine aa.jB (.d 21<|.qs [0,1,2,3,4,5,6,7,8,9,10,11,12,13,14,16]<|.p 15<|.p 17<|.qs [18,19,20]<|.b ( .l 22 [c.m+11]<|.qs [23]<|.nil )) (by kernel_rfl) (by kernel_rfl) (by simp[aG]) ?_;simp(disch:=omega)[ag,aw,az,af,aH,hR,eP hR];repeat refine awG ?_
       refine ff (pt (gt c.low (gt s.basic i)).at' (gt s.x (gt s.basic i)) (aq ql (by omega)) (aq qx (by omega))) (by simp) ?_;simp;refine ff (pB ((gt c.low (gt s.basic i)).at' - gt s.x (gt s.basic i)) (gD s j true i) (aq q1 (by omega)) (aq qg (by omega))) (by simp) ?_;rw[<-eD];simp(disch:=omega)[eP hR,eQ hR];repeat refine awG ?_
       refine rX (c:=c) (s:=s) (tl:=[_,_]) (b:=b) (sm:=sm) (lv:=lv) (wv:=wv) (y:=dQ c s j true i) (who:=((gt s.basic i:Nat):Int)) (at':=2) hR (aq q2 (by omega)) (aq qb (by omega)) λb' an ap ar hk=>?_;simp[];rcases hk with⟨hk,rfl,rfl,rfl,rfl⟩ | ⟨hk,rfl,rfl,rfl,rfl⟩
       ·refine⟨⟨i+1,true,dQ c s j true i,((gt s.basic i:Nat):Int),2⟩,⟨by simp;omega,by have:=ad.take ic hk;rw[eW]at this;exact this,ax q2 (by omega)⟩,by simp;omega,?_⟩;exact fv s hR fx (by simp(disch:=omega)[bY,Go.Sv.get,aD]) (by simp[bG,fj]) (by simp[gK,SV.lt]) (by simp[eA])
       ·refine⟨⟨i+1,an,b',ap,ar⟩,⟨by simp;omega,ad.no ic hk,qb⟩,by simp;omega,?_⟩;exact fv s hR fx (by simp(disch:=omega)[bY,Go.Sv.get,aD]) (by simp[bG,fj]) (by simp[gK,SV.lt]) (by simp[eA])
      ·have au:(gt c.low (gt s.basic i)).has=false:=by simpa using hh
       have nc:¬oE c s j true i:=λq=>by
        rcases q with⟨q,_⟩ | ⟨_,q⟩
        ·grind
        ·exact hh q
       simp(disch:=omega)[ag,aw,az,au,aD];repeat refine awG ?_
       refine⟨⟨i+1,sm,b,lv,wv⟩,⟨by simp;omega,ad.skip nc,qb⟩,by simp;omega,?_⟩;exact fv s hR fx (by simp(disch:=omega)[bY,Go.Sv.get]) (by simp[fj]) (by simp[gK,SV.lt]) (by simp[eA])
     ·have z:gD s j true i=0:=by grind
      have nc:¬oE c s j true i:=λq=>by rcases q with q | q<;>grind
      refine awI (pU z) ?_;simp(disch:=omega)[eP hR];repeat refine awG ?_
      refine awI (pU z) ?_;simp(disch:=omega)[aD];repeat refine awG ?_
      refine⟨⟨i+1,sm,b,lv,wv⟩,⟨by simp;omega,ad.skip nc,qb⟩,by simp;omega,?_⟩;exact fv s hR fx (by simp(disch:=omega)[bY,Go.Sv.get]) (by simp[fj]) (by simp[gK,SV.lt]) (by simp[eA])
   | false =>
    have eg:gD s j false i = -(gt (gt s.R i) j):=by simp[gD]
    have qg:qw 171875000 (gD s j false i):=by rw[eg];exact fh qR
    have ng:=jK (gt (gt s.R i) j);rw[<-eg]at ng;simp(disch:=omega)[am,aR,tg,lj,Ri,hj,hR,eP hR,eQ hR];repeat refine awG ?_
    refine awI (ng) ?_;simp(disch:=omega)[eP hR,eQ hR,hb,am,aO];repeat refine awG ?_
    by_cases sp:0<gD s j false i
    ·refine ae (lg sp) (by simp) ?_;by_cases hh:(gt c.high (gt s.basic i)).has=true
     ·have ic:oE c s j false i:=.inl ⟨sp,hh⟩;have eD:dQ c s j false i=((gt c.high (gt s.basic i)).at' - gt s.x (gt s.basic i)) / gD s j false i:=if_pos sp;have eW:wQ s j false i=3:=if_pos sp;have q1:qw 2406283016 ((gt c.high (gt s.basic i)).at' - gt s.x (gt s.basic i)):=ax (qd qh qx) (by omega);have q2:qw 2578158016 (dQ c s j false i):=by rw[eD];exact ax (mF q1 qg (by omega)) (by omega)
      simp(disch:=omega)[ag,ay,aA,hh];repeat refine awG ?_
      refine aa.jB (.d 21<|.qs [0,1,2,3,4,5,6,7,8,9,10,11,12,13,14,16]<|.p 15<|.p 17<|.qs [18,19,20]<|.b ( .l 22 [c.m+11]<|.qs [23]<|.nil )) (by kernel_rfl) (by kernel_rfl) (by simp[aG]) ?_;simp(disch:=omega)[ag,ay,aA,af,aH,hR,eP hR];repeat refine awG ?_
      refine ff (pt (gt c.high (gt s.basic i)).at' (gt s.x (gt s.basic i)) (aq qh (by omega)) (aq qx (by omega))) (by simp) ?_;simp;refine ff (pB ((gt c.high (gt s.basic i)).at' - gt s.x (gt s.basic i)) (gD s j false i) (aq q1 (by omega)) (aq qg (by omega))) (by simp) ?_;rw[<-eD];simp(disch:=omega)[eP hR,eQ hR];repeat refine awG ?_
      refine rX (c:=c) (s:=s) (tl:=[_,_]) (b:=b) (sm:=sm) (lv:=lv) (wv:=wv) (y:=dQ c s j false i) (who:=((gt s.basic i:Nat):Int)) (at':=3) hR (aq q2 (by omega)) (aq qb (by omega)) λb' an ap ar hk=>?_;simp[];rcases hk with⟨hk,rfl,rfl,rfl,rfl⟩ | ⟨hk,rfl,rfl,rfl,rfl⟩
      ·refine⟨⟨i+1,true,dQ c s j false i,((gt s.basic i:Nat):Int),3⟩,⟨by simp;omega,by have:=ad.take ic hk;rw[eW]at this;exact this,ax q2 (by omega)⟩,by simp;omega,?_⟩;exact fv s hR fx (by simp(disch:=omega)[bY,Go.Sv.get,aD]) (by simp[bG,fj]) (by simp[gK,SV.lt]) (by simp[eA])
      ·refine⟨⟨i+1,an,b',ap,ar⟩,⟨by simp;omega,ad.no ic hk,qb⟩,by simp;omega,?_⟩;exact fv s hR fx (by simp(disch:=omega)[bY,Go.Sv.get,aD]) (by simp[bG,fj]) (by simp[gK,SV.lt]) (by simp[eA])
     ·have au:(gt c.high (gt s.basic i)).has=false:=by simpa using hh
      have nc:¬oE c s j false i:=λq=>by
       rcases q with⟨_,q⟩ | ⟨q,_⟩
       ·exact hh q
       ·grind
      simp(disch:=omega)[ag,ay,aA,au,eP hR];repeat refine awG ?_
      refine awI (lg sp) ?_;simp(disch:=omega)[aD];repeat refine awG ?_
      refine⟨⟨i+1,sm,b,lv,wv⟩,⟨by simp;omega,ad.skip nc,qb⟩,by simp;omega,?_⟩;exact fv s hR fx (by simp(disch:=omega)[bY,Go.Sv.get]) (by simp[fj]) (by simp[gK,SV.lt]) (by simp[eA])
    ·by_cases sn:gD s j false i<0
     ·refine ae (lP sn) (by simp) ?_;simp(disch:=omega)[eP hR];repeat refine awG ?_
      refine awI (lP sn) ?_;by_cases hh:(gt c.low (gt s.basic i)).has=true
      ·have ic:oE c s j false i:=.inr ⟨sn,hh⟩;have eD:dQ c s j false i=((gt c.low (gt s.basic i)).at' - gt s.x (gt s.basic i)) / gD s j false i:=if_neg sp;have eW:wQ s j false i=2:=if_neg sp;have q1:qw 2406283016 ((gt c.low (gt s.basic i)).at' - gt s.x (gt s.basic i)):=ax (qd ql qx) (by omega);have q2:qw 2578158016 (dQ c s j false i):=by rw[eD];exact ax (mF q1 qg (by omega)) (by omega)
       simp(disch:=omega)[ag,aw,az,hh];repeat refine awG ?_
       refine aa.jB (.d 21<|.qs [0,1,2,3,4,5,6,7,8,9,10,11,12,13,14,16]<|.p 15<|.p 17<|.qs [18,19,20]<|.b ( .l 22 [c.m+11]<|.qs [23]<|.nil )) (by kernel_rfl) (by kernel_rfl) (by simp[aG]) ?_;simp(disch:=omega)[ag,aw,az,af,aH,hR,eP hR];repeat refine awG ?_
       refine ff (pt (gt c.low (gt s.basic i)).at' (gt s.x (gt s.basic i)) (aq ql (by omega)) (aq qx (by omega))) (by simp) ?_;simp;refine ff (pB ((gt c.low (gt s.basic i)).at' - gt s.x (gt s.basic i)) (gD s j false i) (aq q1 (by omega)) (aq qg (by omega))) (by simp) ?_;rw[<-eD];simp(disch:=omega)[eP hR,eQ hR];repeat refine awG ?_
       refine rX (c:=c) (s:=s) (tl:=[_,_]) (b:=b) (sm:=sm) (lv:=lv) (wv:=wv) (y:=dQ c s j false i) (who:=((gt s.basic i:Nat):Int)) (at':=2) hR (aq q2 (by omega)) (aq qb (by omega)) λb' an ap ar hk=>?_;simp[];rcases hk with⟨hk,rfl,rfl,rfl,rfl⟩ | ⟨hk,rfl,rfl,rfl,rfl⟩
       ·refine⟨⟨i+1,true,dQ c s j false i,((gt s.basic i:Nat):Int),2⟩,⟨by simp;omega,by have:=ad.take ic hk;rw[eW]at this;exact this,ax q2 (by omega)⟩,by simp;omega,?_⟩;exact fv s hR fx (by simp(disch:=omega)[bY,Go.Sv.get,aD]) (by simp[bG,fj]) (by simp[gK,SV.lt]) (by simp[eA])
       ·refine⟨⟨i+1,an,b',ap,ar⟩,⟨by simp;omega,ad.no ic hk,qb⟩,by simp;omega,?_⟩;exact fv s hR fx (by simp(disch:=omega)[bY,Go.Sv.get,aD]) (by simp[bG,fj]) (by simp[gK,SV.lt]) (by simp[eA])
      ·have au:(gt c.low (gt s.basic i)).has=false:=by simpa using hh
       have nc:¬oE c s j false i:=λq=>by
        rcases q with⟨q,_⟩ | ⟨_,q⟩
        ·grind
        ·exact hh q
       simp(disch:=omega)[ag,aw,az,au,aD];repeat refine awG ?_
       refine⟨⟨i+1,sm,b,lv,wv⟩,⟨by simp;omega,ad.skip nc,qb⟩,by simp;omega,?_⟩;exact fv s hR fx (by simp(disch:=omega)[bY,Go.Sv.get]) (by simp[fj]) (by simp[gK,SV.lt]) (by simp[eA])
     ·have z:gD s j false i=0:=by grind
      have nc:¬oE c s j false i:=λq=>by rcases q with q | q<;>grind
      refine awI (pU z) ?_;simp(disch:=omega)[eP hR];repeat refine awG ?_
      refine awI (pU z) ?_;simp(disch:=omega)[aD];repeat refine awG ?_
      refine⟨⟨i+1,sm,b,lv,wv⟩,⟨by simp;omega,ad.skip nc,qb⟩,by simp;omega,?_⟩;exact fv s hR fx (by simp(disch:=omega)[bY,Go.Sv.get]) (by simp[fj]) (by simp[gK,SV.lt]) (by simp[eA])
  ·obtain rfl:i=c.m:=by omega
   simp only[tT,tH,tS,jn,dX,bG,ayb,aAf];simp(disch:=omega)[];repeat refine awG ?_
   refine⟨_,⟨sm,b,lv,wv,ad,qb,rfl⟩,?_⟩;exact tF s hR fx (by simp[bY,Go.Sv.get]) (by simp[bG]) (by simp[gK,bG,SV.lt]) (by simp[bG,eA])
end Go.Proofs
set_option maxRecDepth 10000
namespace Go.Proofs
open Go.Sv Go Go.Tb Go.Pl Go.Ut Go.Mx Go.Li Go.Dt Go.Sx
theorem rD(c:Tc)(s:Tb)(tl:aC):fj (tT c s tl) (tT c s []):=mP (tH c s) (mP _ (by cases tl<;>trivial))
theorem qQ{c:Tc}{s:Tb}(h:s.R.length=c.m):eA (tT c s []).length (tT c s []):=by have:=Dr (c:=c) (s:=s) h;rw[tT,List.append_nil];exact this
theorem W7{c:Tc}{K:(Nat->Rat)->Prop}{s:Tb}(hc:qe c)(hw:BN c)(hW:HW c K)(h:fm c K s){j:Nat}(hj:j<c.N)(ai:gt s.wh j≠1)(up:Bool){C:Ctx}(fx:∀k∈C.fx,k<c.m+6){b:Rat}{lv wv:Int}(ho:(gT c j up).has=false)(hn:∀q,q<c.m->¬oE c s j up q) :
  aa ay9 C (bh 8 cQ) ⟨206,jn c.m j up,tT c s (bG b false lv wv)⟩ (im ay9 [.tmp 6] [] (sY (tT c s []) [] (CR c s j up))):=by
 have h7:=hc.m7;have aB:=hc.ur;have hR:=h.t.R;have af:=h.t.x;have hb:=h.t.b;have ak:=h.t.w;have al:=h.t.r;simp only[cQ,aB4,ayj,ah,ab];simp only[tT,tH,tS,jn,dX,bG,ayb,aAf];refine aa.go ?_;simp(disch:=omega)[hR,eP hR];repeat refine awG ?_
 refine⟨_,_,⟨s,rfl,hR,.inl ⟨rfl,rfl,ho,hn⟩⟩,rfl,rD c s _,by simp[tT,tH,hR],.inr ⟨by simp,qQ hR⟩⟩
theorem IB{c:Tc}{K:(Nat->Rat)->Prop}{s:Tb}(hc:qe c)(hw:BN c)(hW:HW c K)(h:fm c K s){j:Nat}(hj:j<c.N)(ai:gt s.wh j≠1){C:Ctx}(fx:∀k∈C.fx,k<c.m+6){b:Rat}(qb:qw 2578158016 b)(ho:(gT c j true).has=true)(eb:b=dO c s j true)(hn:∀q,q<c.m->oE c s j true q->dO c s j true<=dQ c s j true q) :
  aa ay9 C (bh 8 cQ) ⟨206,jn c.m j true,tT c s (bG b true (-1) 0)⟩ (im ay9 [.tmp 6] [] (sY (tT c s []) [] (CR c s j true))):=by
 have h7:=hc.m7;have aB:=hc.ur;have hR:=h.t.R;have af:=h.t.x;have hb:=h.t.b;have ak:=h.t.w;have al:=h.t.r;have lw:=cf (l:=s.wh) (i:=j) (by omega);have aP:aM ((s.wh.set j 2).map iv) j=iv 2:=by rw[cf (by rw[aBI];omega),bE (by omega),if_pos rfl]
 have mo:=oq c s hc h.t (Z:=5156313832) (W:=171875000) (Y:=2578158016) hj (qb) (hW _ _ h.d h.t.Rr) (ax (k9 hc hw hW h hj) (by omega)) (λa ha q hq=>Ls hc hw hW h hj ai (qb) hq ha) (by omega) (by omega) (by omega);simp only[cQ,aB4,ayj,ah,ab];simp only[tT,tH,tS,jn,dX,bG,ayb,aAf];refine aa.go ?_;simp(disch:=omega)[hR,cN hR,eP hR,eQ hR];repeat refine awG ?_
 refine ek (tl:=[_,_,_,_,_]) mo hR (by simp) (by simp) ?_;rintro T1 v ⟨rfl,rfl⟩;refine⟨_,rfl,hR,by simp,?_⟩;have aQ:(gj s j b c.m).length=c.N:=by rw[fU];exact af
 simp only[tT,tH,tS,ayb,aAf];simp(disch:=omega)[hR,eP hR,hj,ak,lw,aP,dM, -aAq];repeat refine awG ?_
 refine⟨_,_,⟨MZ c s j (yD true b) (if true=true then 3 else 2),rfl,hR,.inr (.inl ⟨rfl,ho,hn,by rw[eb]⟩)⟩,rfl,?_,by simp[tT,tH,MZ,hR],.inr ⟨by simp,qQ (s:=MZ c s j (yD true b) (if true=true then 3 else 2)) hR⟩⟩;exact rD c (MZ c s j (yD true b) (if true=true then 3 else 2)) _
theorem IN{c:Tc}{K:(Nat->Rat)->Prop}{s:Tb}(hc:qe c)(hw:BN c)(hW:HW c K)(h:fm c K s){j:Nat}(hj:j<c.N)(ai:gt s.wh j≠1){C:Ctx}(fx:∀k∈C.fx,k<c.m+6){b:Rat}(qb:qw 2578158016 b){r:Nat}(hr:r<c.m)(aE:oE c s j true r)(eb:b=dQ c s j true r)(ho:(gT c j true).has=true->dQ c s j true r<dO c s j true)(hn:∀q,q<c.m->oE c s j true q->dQ c s j true r<=dQ c s j true q∧(dQ c s j true q=dQ c s j true r->gt s.basic r<=gt s.basic q)) :
  aa ay9 C (bh 8 cQ) ⟨206,jn c.m j true,tT c s (bG b true ((gt s.basic r:Nat):Int) (wQ s j true r))⟩ (im ay9 [.tmp 6] [] (sY (tT c s []) [] (CR c s j true))):=by
 have h7:=hc.m7;have aB:=hc.ur;have hR:=h.t.R;have af:=h.t.x;have hb:=h.t.b;have ak:=h.t.w;have al:=h.t.r;have bb:=h.t.bb r hr;have nz:gD s j true r≠0:=by rcases aE with q | q<;>grind
 have ne:gt (gt s.R r) j≠0:=λq=>nz (by unfold gD;rw[q];simp);have mo:=oq c s hc h.t (Z:=5156313832) (W:=171875000) (Y:=2578158016) hj (qb) (hW _ _ h.d h.t.Rr) (ax (k9 hc hw hW h hj) (by omega)) (λa ha q hq=>Ls hc hw hW h hj ai (qb) hq ha) (by omega) (by omega) (by omega);have t1:wg c { s with x:=gj s j b c.m }:=⟨ak,by show(gj s j b c.m).length=_;rw[fU];exact af,h.t.b,h.t.r,h.t.R,h.t.Rr,h.t.bb⟩;have tn:=qT c { s with x:=gj s j b c.m } hc t1 (W:=171875000) (by omega) (hW _ _ h.d h.t.Rr) (by omega) (i:=r) (j:=j) hr hj ne;have t2:=t1.AT (i:=r) hj;have w2:(ia { s with x:=gj s j b c.m } r j).wh.length=c.N:=t2.w;have av:gt s.row (gt s.basic r)=(r:Int):=by
  rcases h.r (gt s.basic r) bb with⟨q,hq,g1,g2⟩ | ⟨g1,g2⟩
  ·rw[g2,h.d.inj q r hq hr g1]
  ·exact absurd rfl (g2 r hr)
 have aj:aM (s.row.map iv) (gt s.basic r)=iv (r:Int):=by rw[cf (by omega),av]
 simp only[cQ,aB4,ayj,ah,ab];simp only[tT,tH,tS,jn,dX,bG,ayb,aAf];refine aa.go ?_;simp(disch:=omega)[hR,cN hR,eP hR,eQ hR];repeat refine awG ?_
 refine ek (tl:=[_,_,_,_,_]) mo hR (by simp) (by simp) ?_;rintro T1 v ⟨rfl,rfl⟩;refine⟨_,rfl,hR,by simp,?_⟩;have aQ:(gj s j b c.m).length=c.N:=by rw[fU];exact af
 simp only[tT,tH,tS,ayb,aAf];simp(disch:=omega)[hR,eP hR];repeat refine awG ?_
 refine aa.awH (.qs [0,1,2,3,4,5,6,7,8]<|.l 9 [1000000,0,1,2,3,4,5,6,7,8,9,10,11,12]<|.nil) ?_;simp(disch:=omega)[eP hR,bb,al,aj];repeat refine awG ?_
 refine ek (s:={ s with x:=gj s j b c.m }) (tl:=[_,_,_,_,_]) tn hR (by simp) (by intro ks e k hk;cases e;simp;omega) ?_;rintro T1 v ⟨rfl,rfl⟩;refine⟨_,rfl,t2.R,by simp,?_⟩;have aF:=cf (l:=(ia { s with x:=gj s j b c.m } r j).wh) (i:=gt s.basic r) (by rw[w2];exact bb);have ac:=t2.R;simp only[tT,tH,tS,ayb,aAf];simp(disch:=omega)[-aAq];repeat refine awG ?_
 refine aa.awH (.qs [0,1,2,3,4,5,6]<|.l 7 [1]<|.nil) ?_;simp(disch:=omega)[ac,eP ac,bb,w2,aF,dM, -aAq];repeat refine awG ?_
 refine⟨_,_,⟨Be c s r j (yD true b) (wQ s j true r),rfl,ac,.inr (.inr ⟨rfl,r,hr,aE,ho,hn,by rw[eb]⟩)⟩,rfl,rD c (Be c s r j (yD true b) (wQ s j true r)) _,?_,.inr ⟨by simp,qQ (s:=Be c s r j (yD true b) (wQ s j true r)) ac⟩⟩;have:(Be c s r j (yD true b) (wQ s j true r)).R.length=c.m:=ac;simp[tT,tH,this,hR]
theorem Hw{c:Tc}{K:(Nat->Rat)->Prop}{s:Tb}(hc:qe c)(hw:BN c)(hW:HW c K)(h:fm c K s){j:Nat}(hj:j<c.N)(ai:gt s.wh j≠1){C:Ctx}(fx:∀k∈C.fx,k<c.m+6){b:Rat}(qb:qw 2578158016 b)(ho:(gT c j false).has=true)(eb:b=dO c s j false)(hn:∀q,q<c.m->oE c s j false q->dO c s j false<=dQ c s j false q) :
  aa ay9 C (bh 8 cQ) ⟨206,jn c.m j false,tT c s (bG b true (-1) 0)⟩ (im ay9 [.tmp 6] [] (sY (tT c s []) [] (CR c s j false))):=by
 have h7:=hc.m7;have aB:=hc.ur;have hR:=h.t.R;have af:=h.t.x;have hb:=h.t.b;have ak:=h.t.w;have al:=h.t.r;have lw:=cf (l:=s.wh) (i:=j) (by omega);have aP:aM ((s.wh.set j 2).map iv) j=iv 2:=by rw[cf (by rw[aBI];omega),bE (by omega),if_pos rfl]
 have mo:=oq c s hc h.t (Z:=5156313832) (W:=171875000) (Y:=2578158016) hj (fh qb) (hW _ _ h.d h.t.Rr) (ax (k9 hc hw hW h hj) (by omega)) (λa ha q hq=>Ls hc hw hW h hj ai (fh qb) hq ha) (by omega) (by omega) (by omega);simp only[cQ,aB4,ayj,ah,ab];simp only[tT,tH,tS,jn,dX,bG,ayb,aAf];refine aa.go ?_;simp(disch:=omega)[hR,cN hR,eP hR,eQ hR];repeat refine awG ?_
 refine awI (jK b) ?_;simp(disch:=omega)[eP hR,eQ hR];repeat refine awG ?_
 refine ek (tl:=[_,_,_,_,_]) mo hR (by simp) (by simp) ?_;rintro T1 v ⟨rfl,rfl⟩;refine⟨_,rfl,hR,by simp,?_⟩;have aQ:(gj s j (-b) c.m).length=c.N:=by rw[fU];exact af
 simp only[tT,tH,tS,ayb,aAf];simp(disch:=omega)[hR,eP hR,hj,ak,lw,dM, -aAq];repeat refine awG ?_
 refine⟨_,_,⟨MZ c s j (yD false b) (if false=true then 3 else 2),rfl,hR,.inr (.inl ⟨rfl,ho,hn,by rw[eb]⟩)⟩,rfl,?_,by simp[tT,tH,MZ,hR],.inr ⟨by simp,qQ (s:=MZ c s j (yD false b) (if false=true then 3 else 2)) hR⟩⟩;exact rD c (MZ c s j (yD false b) (if false=true then 3 else 2)) _
theorem FP{c:Tc}{K:(Nat->Rat)->Prop}{s:Tb}(hc:qe c)(hw:BN c)(hW:HW c K)(h:fm c K s){j:Nat}(hj:j<c.N)(ai:gt s.wh j≠1){C:Ctx}(fx:∀k∈C.fx,k<c.m+6){b:Rat}(qb:qw 2578158016 b){r:Nat}(hr:r<c.m)(aE:oE c s j false r)(eb:b=dQ c s j false r)(ho:(gT c j false).has=true->dQ c s j false r<dO c s j false)(hn:∀q,q<c.m->oE c s j false q->dQ c s j false r<=dQ c s j false q∧(dQ c s j false q=dQ c s j false r->gt s.basic r<=gt s.basic q)) :
  aa ay9 C (bh 8 cQ) ⟨206,jn c.m j false,tT c s (bG b true ((gt s.basic r:Nat):Int) (wQ s j false r))⟩ (im ay9 [.tmp 6] [] (sY (tT c s []) [] (CR c s j false))):=by
 have h7:=hc.m7;have aB:=hc.ur;have hR:=h.t.R;have af:=h.t.x;have hb:=h.t.b;have ak:=h.t.w;have al:=h.t.r;have bb:=h.t.bb r hr;have nz:gD s j false r≠0:=by rcases aE with q | q<;>grind
 have ne:gt (gt s.R r) j≠0:=λq=>nz (by unfold gD;rw[q];simp);have mo:=oq c s hc h.t (Z:=5156313832) (W:=171875000) (Y:=2578158016) hj (fh qb) (hW _ _ h.d h.t.Rr) (ax (k9 hc hw hW h hj) (by omega)) (λa ha q hq=>Ls hc hw hW h hj ai (fh qb) hq ha) (by omega) (by omega) (by omega);have t1:wg c { s with x:=gj s j (-b) c.m }:=⟨ak,by show(gj s j (-b) c.m).length=_;rw[fU];exact af,h.t.b,h.t.r,h.t.R,h.t.Rr,h.t.bb⟩;have tn:=qT c { s with x:=gj s j (-b) c.m } hc t1 (W:=171875000) (by omega) (hW _ _ h.d h.t.Rr) (by omega) (i:=r) (j:=j) hr hj ne;have t2:=t1.AT (i:=r) hj;have w2:(ia { s with x:=gj s j (-b) c.m } r j).wh.length=c.N:=t2.w;have av:gt s.row (gt s.basic r)=(r:Int):=by
  rcases h.r (gt s.basic r) bb with⟨q,hq,g1,g2⟩ | ⟨g1,g2⟩
  ·rw[g2,h.d.inj q r hq hr g1]
  ·exact absurd rfl (g2 r hr)
 have aj:aM (s.row.map iv) (gt s.basic r)=iv (r:Int):=by rw[cf (by omega),av]
 simp only[cQ,aB4,ayj,ah,ab];simp only[tT,tH,tS,jn,dX,bG,ayb,aAf];refine aa.go ?_;simp(disch:=omega)[hR,cN hR,eP hR,eQ hR];repeat refine awG ?_
 refine awI (jK b) ?_;simp(disch:=omega)[eP hR,eQ hR];repeat refine awG ?_
 refine ek (tl:=[_,_,_,_,_]) mo hR (by simp) (by simp) ?_;rintro T1 v ⟨rfl,rfl⟩;refine⟨_,rfl,hR,by simp,?_⟩;have aQ:(gj s j (-b) c.m).length=c.N:=by rw[fU];exact af
 simp only[tT,tH,tS,ayb,aAf];simp(disch:=omega)[hR,eP hR];repeat refine awG ?_
 refine aa.awH (.qs [0,1,2,3,4,5,6,7,8]<|.l 9 [1000000,0,1,2,3,4,5,6,7,8,9,10,11,12]<|.nil) ?_;simp(disch:=omega)[eP hR,bb,al,aj];repeat refine awG ?_
 refine ek (s:={ s with x:=gj s j (-b) c.m }) (tl:=[_,_,_,_,_]) tn hR (by simp) (by intro ks e k hk;cases e;simp;omega) ?_;rintro T1 v ⟨rfl,rfl⟩;refine⟨_,rfl,t2.R,by simp,?_⟩;have aF:=cf (l:=(ia { s with x:=gj s j (-b) c.m } r j).wh) (i:=gt s.basic r) (by rw[w2];exact bb);have ac:=t2.R;simp only[tT,tH,tS,ayb,aAf];simp(disch:=omega)[-aAq];repeat refine awG ?_
 refine aa.awH (.qs [0,1,2,3,4,5,6]<|.l 7 [1]<|.nil) ?_;simp(disch:=omega)[ac,eP ac,bb,w2,aF,dM, -aAq];repeat refine awG ?_
 refine⟨_,_,⟨Be c s r j (yD false b) (wQ s j false r),rfl,ac,.inr (.inr ⟨rfl,r,hr,aE,ho,hn,by rw[eb]⟩)⟩,rfl,rD c (Be c s r j (yD false b) (wQ s j false r)) _,?_,.inr ⟨by simp,qQ (s:=Be c s r j (yD false b) (wQ s j false r)) ac⟩⟩;have:(Be c s r j (yD false b) (wQ s j false r)).R.length=c.m:=ac;simp[tT,tH,this,hR]
theorem Oq{c:Tc}{K:(Nat->Rat)->Prop}{s:Tb}(hc:qe c)(hw:BN c)(hW:HW c K)(h:fm c K s){j:Nat}(hj:j<c.N)(ai:gt s.wh j≠1)(up:Bool):kZ ay9 173 [.ptr 0 0 0,iv j,dr up] (tT c s []) [] (CR c s j up):=by
 have hR:=h.t.R;refine iG Tryz.func173 rfl (by simp) (λC hC=>?_);have fx:=qm hR hC;show aa _ _ cQ _ (im ay9 [.tmp 6] [] _);refine Xz hc h hj up fx (US hc hw hW h hj up fx (by simp) λsm b lv wv h0 q0=>ab2 hc hw hW h hj up fx (by simp) (λsm b lv wv h1 q1=>?_) h0 q0);rcases h1 with⟨rfl,_,_,_,g5,g6⟩ | ⟨rfl,rfl,rfl,g4,rfl,g6⟩ | ⟨rfl,r,g2,g3,rfl,rfl,rfl,g7,g8⟩
 ·exact W7 hc hw hW h hj ai up fx g5 g6
 ·cases up with
  | true=>exact IB hc hw hW h hj ai fx q1 g4 rfl g6
  | false=>exact Hw hc hw hW h hj ai fx q1 g4 rfl g6
 ·cases up with
  | true=>exact IN hc hw hW h hj ai fx q1 g2 g3 rfl g7 g8
  | false=>exact FP hc hw hW h hj ai fx q1 g2 g3 rfl g7 g8
end Go.Proofs


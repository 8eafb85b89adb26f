/- A text of the prover's own. -/
import Derived.Test.YtnimjdcaajmfcaaGreatDoorVSi
open List renaming cons_append->ayb,nil_append->aAf,append_nil->aBS,map_set->aAq
set_option maxRecDepth 10000
set_option maxHeartbeats 1000000
namespace Go.Sx
open Go Go.Sv Go.Pl Go.Proofs Go.Tb Go.Ut Go.Mx Go.Li Go.Dt
theorem k9{c:Tc}{K:(Nat->Rat)->Prop}{s:Tb}(hc:qe c)(hw:BN c)(hW:HW c K)(h:fm c K s){k:Nat}(hk:k<c.N):qw 2406280815 (gt s.x k):=by
 by_cases e:gt s.wh k=1
 ·obtain⟨r,hr,rfl⟩:=(h.w k hk).1 e;rw[h.xb r hr];have aP:=hc.ur;have hN:c.N*(171875000+2200+1)<=14*(171875000+2200+1):=Nat.mul_le_mul_right _ aP;refine ax (uV (V:=171875000+2200) c.N λq hq=>?_) (by omega);by_cases aQ:gt s.wh q=1
  ·obtain⟨i,hi,rfl⟩:=(h.w q hq).1 aQ;rw[h.d.z0 r i hr hi,Rat.zero_mul];exact Proofs.cC (by omega)
  ·rw[h.xn q hq aQ];exact cy (hW _ _ h.d h.t.Rr r hr q (by rw[h.t.Rr r hr];exact hq)) (CQ hw _ hq) (by omega)
 ·rw[h.xn k hk e];exact ax (CQ hw _ hk) (by omega)
theorem Ls{c:Tc}{K:(Nat->Rat)->Prop}{s:Tb}(hc:qe c)(hw:BN c)(hW:HW c K)(h:fm c K s){j:Nat}{y:Rat}(hj:j<c.N)(aT:gt s.wh j≠1)(hy:qw 2578158016 y){k:Nat}(hk:k<c.N){i:Nat}(hi:i<=c.m):qw 5156313832 (gt (gj s j y i) k):=by
 have hb:=h.nb hj aT;by_cases e1:k=j
 ·subst e1;rw[Bq h hk hb i hi];exact ax (kX (k9 hc hw hW h hk) hy) (by omega)
 ·by_cases e2:∃r,r<c.m∧gt s.basic r=k
  ·obtain⟨r,hr,rfl⟩:=e2;rw[mu h hj hb hr i hi];split
   ·exact ax (kX (k9 hc hw hW h hk) (cy (hW _ _ h.d h.t.Rr r hr j (by rw[h.t.Rr r hr];exact hj)) hy (by omega))) (by omega)
   ·rw[Rat.add_zero];exact ax (k9 hc hw hW h hk) (by omega)
  ·rw[l5 h hk e1 (λr hr e=>e2 ⟨r,hr,e⟩) i hi];exact ax (k9 hc hw hW h hk) (by omega)
end Go.Sx
namespace Go.Proofs
open Go.Sv Go Go.Tb Go.Pl Go.Ut Go.Mx Go.Li Go.Dt Go.Sx
theorem lg{q:Rat}(h:0<q):aE Tryz.prog 40 [aS q] (.val (.int .i64 1)):=by
 have:=iy q
 rwa [show q.num.sign=1 by rw[Int.sign_eq_one_iff_pos];exact yd.2 h]at this
theorem lP{q:Rat}(h:q<0):aE Tryz.prog 40 [aS q] (.val (.int .i64 (-1))):=by
 have:=iy q;have h1:¬0<q.num:=λg=>by have:=yd.1 g;grind
 have h2:q.num≠0:=λg=>by rw[Rat.num_eq_zero]at g;grind
 rwa [show q.num.sign = -1 by rw[Int.sign_eq_neg_one_iff_neg];omega]at this
theorem pU{q:Rat}(h:q=0):aE Tryz.prog 40 [aS q] (.val (.int .i64 0)):=by have:=iy q;rw[h]at this ⊢;exact this
def ak7(C:Ctx)(c:Tc)(s:Tb)(e:Exit)(st:St):Prop:=e=.exit 2∧∃ah,Le C st ah∧((ah=⟨211,[(0,.ptr 0 0 0),(5,.val (.int .i64 (-1)))],tH c s++eH s.R⟩∧mr c s) ∨
 ∃(i b:Nat) (ab:Bool),i<c.m∧b=gt s.basic i∧ah=⟨211,[(0,.ptr 0 0 0),(5,iv (b:Int)),(6,dr ab)],tH c s++eH s.R⟩ ∧
  ((ab=true->(gt c.low (gt s.basic i)).has=true∧gt s.x (gt s.basic i)<(gt c.low (gt s.basic i)).at')∧(ab=false->(gt c.high (gt s.basic i)).has=true∧(gt c.high (gt s.basic i)).at'<gt s.x (gt s.basic i))) ∧
  ∀k,k<gt s.basic i->gt s.wh k=1->vG (gt c.low k) (gt s.x k)∧uy (gt c.high k) (gt s.x k))
def anb(C:Ctx)(c:Tc)(s:Tb)(i b:Nat)(ab:Bool)(e:Exit)(st:St):Prop:=e=.exit 4∧∃ah,Le C st ah ∧
 ((
  ah=⟨211,[(0,.ptr 0 0 0),(5,iv (b:Int)),(6,dr ab),(10,iv (i:Int)),(11,.val (.int .i64 (-1)))],tH c s++eH s.R⟩∧∀k,k<c.N->¬Iz c s i ab k) ∨
  ∃k:Nat,k<c.N∧Iz c s i ab k∧(∀q,q<k->¬Iz c s i ab q)∧ah=⟨211,[(0,.ptr 0 0 0),(5,iv (b:Int)),(6,dr ab),(10,iv (i:Int)),(11,iv (k:Int))],tH c s++eH s.R⟩)
def aaW(c:Tc)(K:(Nat->Rat)->Prop)(T:aC)(y:SV):Prop:=∃s,T=tT c s []∧s.R.length=c.m∧fm c K s ∧
 ((y=.bM [iv 0,dr false,dr true]∧mr c s)∨∃(i:Nat) (ab:Bool),y=.bM [iv (i:Int),dr ab,dr false]∧Gj c s i ab)
theorem EW(c:Tc)(K:(Nat->Rat)->Prop)(hc:qe c)(hw:BN c)(hb:HB c)(hW:HW c K)(s0:Tb)(h0:fm c K s0) :
  kZ Tryz.prog 122 [.ptr 0 0 0] (tT c s0 []) [] (aaW c K):=by
 have h7:=hc.m7;have aP:=hc.ur;have au:=hc.lo;have av:=hc.hi;refine gV Tryz.func122 rfl (by simp) (λC hC=>?_);have fx:=qm h0.t.R hC;simp only[tT,tH,tS,ayb,aAf,aBS];simp;refine aa.bB (ι:=Tb × Nat) (λ⟨s,L⟩=>⟨211,[(0,.ptr 0 0 0)],tH c s++eH s.R⟩)
  (λ⟨s,L⟩=>fm c K s∧RC c K s L) (λ⟨s,L⟩=>3^c.N - L) (s0,0) ⟨h0,RC.zero c K s0⟩ ?_ ?_
 ·exact⟨rfl,by simp[bY,Go.Sv.get],by simp only[tH,tS,ayb,aAf];exact ao _,.inl (by simp[tH])⟩
 ·rintro⟨s,L⟩ ⟨hs,hr⟩;have hR:=hs.t.R;have af:=hs.t.x;have ak:=hs.t.w;simp only[tH,tS,ayb,aAf];simp(disch:=omega)[];repeat refine awG ?_
  refine aa.Ol (ak7 C c s) ?_ ?_
  ·refine aa.go ?_;simp;refine aa.bB (ι:=Nat) (λj=>⟨211,[(0,.ptr 0 0 0),(5,.val (.int .i64 (-1))),(6,dr false),(23,iv c.N),(24,iv j)],tH c s++eH s.R⟩)
    (λj=>j<=c.N∧∀k,k<j->gt s.wh k=1->vG (gt c.low k) (gt s.x k)∧uy (gt c.high k) (gt s.x k)) (λj=>c.N - j) 0 ⟨by omega,λk hk=>by omega⟩ ?_ ?_
   ·exact⟨rfl,by simp[bY,Go.Sv.get],by simp only[tH,tS,ayb,aAf];exact ao _,.inl (by simp[tH])⟩
   ·rintro j ⟨hj,hq⟩;simp only[tH,tS,ayb,aAf];by_cases ag:j<c.N
    ·have lw:=cf (l:=s.wh) (i:=j) (by omega);have lx:=ch (l:=s.x) (i:=j) (by omega);have am:aM (c.low.map dA) j=dA (gt c.low j):=ct _ (by omega);have an:aM (c.high.map dA) j=dA (gt c.high j):=ct _ (by omega);have qx:=k9 hc hw hW hs ag;have ql:=hw.lo j ag;have qh:=hw.hi j ag;by_cases e1:gt s.wh j=1
     ·rw[e1]at lw;simp(disch:=omega)[ag,lw,ak];repeat refine awG ?_
      obtain⟨U,hU⟩:∃U:Bool,U=((gt c.low j).has&&decide (gt s.x j<(gt c.low j).at')):=⟨_,rfl⟩;obtain⟨V,hV⟩:∃V:Bool,V=((gt c.high j).has&&decide ((gt c.high j).at'<gt s.x j)):=⟨_,rfl⟩;refine aa.xD (.qs [0,1,2,3,4,5,6,7,8,9,10,11,12,13,14,15,16,17,18,19,20,21,22,23]<|.l 24 []<|.qs [25,26,27]<|.nil) ⟨211,[(0,.ptr 0 0 0),(5,.val (.int .i64 (-1))),(6,dr false),(7,iv j),(8,dr U),(23,iv c.N),(24,iv j)],tH c s++eH s.R⟩ (by kernel_rfl) (by kernel_rfl) ?_ ?_
      ·clear hr hs;by_cases u1:(gt c.low j).has=true
       ·simp(disch:=omega)[ag,af,au,lx,am,u1];repeat refine awG ?_
        have cm:=rP (gt s.x j) (gt c.low j).at' (aq qx (by omega)) (aq ql (by omega));have cl:=@Fs (gt s.x j) (gt c.low j).at';generalize (if gt s.x j<(gt c.low j).at' then(-1:Int) else if(gt c.low j).at'<gt s.x j then 1 else 0)=z at *;refine awI (cm) ?_;simp;exact⟨rfl,by simp[bY,Go.Sv.get,hU,u1,cl],ao _,.inl rfl⟩
       ·simp(disch:=omega)[ag,au,am,u1];repeat refine awG ?_
        exact⟨rfl,by simp[bY,Go.Sv.get,hU,u1],ao _,.inl rfl⟩
      simp only[tH,tS,ayb,aAf];simp;refine aa.xD (.qs [0,1,2,3,4,5,6,7,8,9,10,11,12,13,14,15,16,17,18,19,20,21,22,23]<|.l 24 []<|.qs [25,26,27]<|.nil) ⟨211,[(0,.ptr 0 0 0),(5,.val (.int .i64 (-1))),(6,dr false),(7,iv j),(8,dr U),(9,dr V),(23,iv c.N),(24,iv j)],tH c s++eH s.R⟩ (by kernel_rfl) (by kernel_rfl) ?_ ?_
      ·clear hr hs;by_cases u1:(gt c.high j).has=true
       ·simp(disch:=omega)[ag,af,av,lx,an,u1];repeat refine awG ?_
        have cm:=rP (gt s.x j) (gt c.high j).at' (aq qx (by omega)) (aq qh (by omega));have cl:=@AE (gt s.x j) (gt c.high j).at';generalize (if gt s.x j<(gt c.high j).at' then(-1:Int) else if(gt c.high j).at'<gt s.x j then 1 else 0)=z at *;refine awI (cm) ?_;simp;exact⟨rfl,by simp[bY,Go.Sv.get,hV,u1,cl],ao _,.inl rfl⟩
       ·simp(disch:=omega)[ag,av,an,u1];repeat refine awG ?_
        exact⟨rfl,by simp[bY,Go.Sv.get,hV,u1],ao _,.inl rfl⟩
      simp only[tH,tS,ayb,aAf];simp;obtain⟨i,hi,aw⟩:=(hs.w j ag).1 e1;have fst:∀k,k<gt s.basic i->gt s.wh k=1->vG (gt c.low k) (gt s.x k)∧uy (gt c.high k) (gt s.x k):=λk hk=>hq k (by omega);refine⟨λhu=>⟨λhv=>?_,λhv=>?_⟩,λhu=>?_⟩
      ·refine⟨rfl,⟨211,[(0,.ptr 0 0 0),(5,iv (j:Int)),(6,dr false)],tH c s++eH s.R⟩,Le.dE ⟨rfl,by simp[bY,Go.Sv.get,hu],ao _,.inl rfl⟩,.inr ⟨i,j,false,hi,aw.symm,rfl,⟨λq=>by simp at q,λ_=>?_⟩,fst⟩⟩;rw[hv]at hV;simpa[aw]using hV.symm
      ·refine⟨j+1,⟨by omega,λk hk ay=>?_⟩,by omega,Le.dE ⟨rfl,by simp(disch:=omega)[bY,Go.Sv.get,aD],ao _,.inl rfl⟩⟩;by_cases e:k=j
       ·subst e;rw[hu]at hU;rw[hv]at hV;exact⟨λg=>by simp[g]at hU;grind,λg=>by simp[g]at hV;grind⟩
       ·exact hq k (by omega) ay
      ·refine⟨rfl,⟨211,[(0,.ptr 0 0 0),(5,iv (j:Int)),(6,dr true)],tH c s++eH s.R⟩,Le.dE ⟨rfl,by simp[bY,Go.Sv.get,hu],ao _,.inl rfl⟩,.inr ⟨i,j,true,hi,aw.symm,rfl,⟨λ_=>?_,λq=>by simp at q⟩,fst⟩⟩;rw[hu]at hU;simpa[aw]using hU.symm
     ·simp(disch:=omega)[ag,lw,ak,e1,aD];repeat refine awG ?_
      refine⟨j+1,⟨by omega,λk hk ay=>?_⟩,by omega,Le.dE ⟨rfl,by simp(disch:=omega)[bY,Go.Sv.get],ao _,.inl rfl⟩⟩;by_cases e:k=j
      ·subst e;exact absurd ay e1
      ·exact hq k (by omega) ay
    ·obtain rfl:j=c.N:=by omega
     simp(disch:=omega)[];repeat refine awG ?_
     refine⟨rfl,⟨211,[(0,.ptr 0 0 0),(5,.val (.int .i64 (-1)))],tH c s++eH s.R⟩,Le.dE ⟨rfl,by simp[bY,Go.Sv.get],ao _,.inl rfl⟩,.inl ⟨rfl,λk hk=>?_⟩⟩;by_cases e1:gt s.wh k=1
     ·exact hq k hk e1
     ·exact hs.Zi hb hk e1
  ·rintro e st' ⟨rfl,ah,hle,⟨rfl,aU⟩ | ⟨i,b,ab,hi,az,rfl,hv,ap⟩⟩
   ·refine⟨_,hle,?_⟩;simp;exact⟨_,_,⟨s,rfl,hR,hs,.inl ⟨rfl,aU⟩⟩,rfl,by rw[tT,aBS];exact ao _,by have:=h0.t.R;simp[tT,tH];omega,.inl (by simp[tT,tH];omega)⟩
   ·refine⟨_,hle,?_⟩;have ad:b<c.N:=by rw[az];exact hs.d.bl i hi
    have aI:gt s.row b=(i:Int):=by
     rcases hs.r b ad with⟨q,hq,g1,g2⟩ | ⟨g1,g2⟩
     ·rw[g2,hs.d.inj q i hq hi (by rw[g1,az])]
     ·exact absurd az.symm (g2 i hi)
    have aJ:aM (s.row.map iv) b=iv (i:Int):=by rw[cf (by rw[hs.t.r];exact ad),aI]
    have aA:=gM (N:=c.N) (m:=c.m) hi;have aV:=hs.t.r;simp only[tH,tS,ayb,aAf];simp(disch:=omega)[ad,aJ,aA,aV,hi];repeat refine awG ?_
    refine aa.Ol (anb C c s i b ab) ?_ ?_
    ·have aK:=fE (C:=s.R) (tl:=[]) (e:=i) (by omega);rw[aBS]at aK;have Ri:=hs.t.Rr i hi;refine aa.go ?_;simp(disch:=omega)[];repeat refine awG ?_
     refine aa.bB (ι:=Nat) (λk=>⟨211,[(0,.ptr 0 0 0),(5,iv (b:Int)),(6,dr ab),(10,iv (i:Int)),(11,.val (.int .i64 (-1))),(111,.view (i+6) 0 c.N),(112,iv c.N),(113,iv k)],tH c s++eH s.R⟩)
      (λk=>k<=c.N∧∀q,q<k->¬Iz c s i ab q) (λk=>c.N - k) 0 ⟨by omega,λq hq=>by omega⟩ ?_ ?_
     ·exact⟨rfl,by simp[bY,Go.Sv.get],ao _,.inl rfl⟩
     ·rintro k ⟨hk,hq⟩;by_cases ac:k<c.N
      ·have lw:=cf (l:=s.wh) (i:=k) (by omega);have aB:=ch (l:=gt s.R i) (i:=k) (by omega);have qx:=k9 hc hw hW hs ac;simp only[tH,tS,ayb,aAf];simp(disch:=omega)[ac,aK,Ri,aB,hR,cN hR,cV hR];repeat refine awG ?_
       by_cases hz:gt (gt s.R i) k=0
       ·refine ae (pU hz) (by simp) ?_;simp(disch:=omega)[aD];repeat refine awG ?_
        refine⟨k+1,⟨by omega,λq al=>?_⟩,by omega,fY s hR fx (by simp(disch:=omega)[bY,Go.Sv.get]) (by simp[gK];omega)⟩;by_cases e:q=k
        ·subst e;exact λg=>g.1 hz
        ·exact hq q (by omega)
       ·have aF:=hz;by_cases sg:0<gt (gt s.R i) k
        ·refine ae (lg sg) (by simp) ?_;by_cases e1:gt s.wh k=1
         ·rw[e1]at lw;simp(disch:=omega)[ac,lw,ak,aD];repeat refine awG ?_
          refine⟨k+1,⟨by omega,λq al=>?_⟩,by omega,fY s hR fx (by simp(disch:=omega)[bY,Go.Sv.get]) (by simp[gK];omega)⟩;by_cases e:q=k
          ·subst e;exact λg=>g.2.1 e1
          ·exact hq q (by omega)
         ·simp(disch:=omega)[ac,lw,ak,e1,cN hR];repeat refine awG ?_
          refine awI (lg sg) ?_;cases ab with
          | true =>
           simp(disch:=omega)[];repeat refine awG ?_
           refine ek (tl:=[_]) (rL c s hc hs.t (Z:=2406280815) ac qx (ax (hw.hi k ac) (by omega)) (by omega)) hR (by simp) (by simp) ?_;rintro T1 y ⟨rfl,rfl⟩;refine⟨s,rfl,hR,by simp,?_⟩;simp only[tT,tH,tS,ayb,aAf];by_cases u:Us (gt c.high k) (gt s.x k)=true
           ·simp(disch:=omega)[u];repeat refine awG ?_
            refine⟨rfl,⟨211,[(0,.ptr 0 0 0),(5,iv (b:Int)),(6,dr true),(10,iv (i:Int)),(11,iv (k:Int))],tH c s++eH s.R⟩,fY s hR fx (by simp[bY,Go.Sv.get]) (by simp[gK]),.inr ⟨k,ac,⟨aF,e1,.inl ⟨by simp[sg],r5.1 u⟩⟩,hq,rfl⟩⟩
           ·simp(disch:=omega)[u,aD];repeat refine awG ?_
            refine⟨k+1,⟨by omega,λq al=>?_⟩,by omega,fY s hR fx (by simp(disch:=omega)[bY,Go.Sv.get]) (by simp[gK];omega)⟩;by_cases e:q=k
            ·subst e;exact λg=>by
              rcases g.2.2 with⟨g1,g2⟩ | ⟨g1,g2⟩
              ·exact u (r5.2 g2)
              ·simp[sg]at g1
            ·exact hq q (by omega)
          | false =>
           simp(disch:=omega)[];repeat refine awG ?_
           refine ek (tl:=[_]) (qL c s hc hs.t (Z:=2406280815) ac qx (ax (hw.lo k ac) (by omega)) (by omega)) hR (by simp) (by simp) ?_;rintro T1 y ⟨rfl,rfl⟩;refine⟨s,rfl,hR,by simp,?_⟩;simp only[tT,tH,tS,ayb,aAf];by_cases u:Uz (gt c.low k) (gt s.x k)=true
           ·simp(disch:=omega)[u];repeat refine awG ?_
            refine⟨rfl,⟨211,[(0,.ptr 0 0 0),(5,iv (b:Int)),(6,dr false),(10,iv (i:Int)),(11,iv (k:Int))],tH c s++eH s.R⟩,fY s hR fx (by simp[bY,Go.Sv.get]) (by simp[gK]),.inr ⟨k,ac,⟨aF,e1,.inr ⟨by simp[sg],sr.1 u⟩⟩,hq,rfl⟩⟩
           ·simp(disch:=omega)[u,aD];repeat refine awG ?_
            refine⟨k+1,⟨by omega,λq al=>?_⟩,by omega,fY s hR fx (by simp(disch:=omega)[bY,Go.Sv.get]) (by simp[gK];omega)⟩;by_cases e:q=k
            ·subst e;exact λg=>by
              rcases g.2.2 with⟨g1,g2⟩ | ⟨g1,g2⟩
              ·simp[sg]at g1
              ·exact u (sr.2 g2)
            ·exact hq q (by omega)
        ·have aG:¬0<gt (gt s.R i) k:=sg;have sg:gt (gt s.R i) k<0:=by grind
         refine awI (lP sg) ?_;by_cases e1:gt s.wh k=1
         ·rw[e1]at lw;simp(disch:=omega)[ac,lw,ak,aD];repeat refine awG ?_
          refine⟨k+1,⟨by omega,λq al=>?_⟩,by omega,fY s hR fx (by simp(disch:=omega)[bY,Go.Sv.get]) (by simp[gK];omega)⟩;by_cases e:q=k
          ·subst e;exact λg=>g.2.1 e1
          ·exact hq q (by omega)
         ·simp(disch:=omega)[ac,lw,ak,e1,cN hR];repeat refine awG ?_
          refine awI (lP sg) ?_;cases ab with
          | true =>
           simp(disch:=omega)[];repeat refine awG ?_
           refine ek (tl:=[_]) (qL c s hc hs.t (Z:=2406280815) ac qx (ax (hw.lo k ac) (by omega)) (by omega)) hR (by simp) (by simp) ?_;rintro T1 y ⟨rfl,rfl⟩;refine⟨s,rfl,hR,by simp,?_⟩;simp only[tT,tH,tS,ayb,aAf];by_cases u:Uz (gt c.low k) (gt s.x k)=true
           ·simp(disch:=omega)[u];repeat refine awG ?_
            refine⟨rfl,⟨211,[(0,.ptr 0 0 0),(5,iv (b:Int)),(6,dr true),(10,iv (i:Int)),(11,iv (k:Int))],tH c s++eH s.R⟩,fY s hR fx (by simp[bY,Go.Sv.get]) (by simp[gK]),.inr ⟨k,ac,⟨aF,e1,.inr ⟨by simp[aG],sr.1 u⟩⟩,hq,rfl⟩⟩
           ·simp(disch:=omega)[u,aD];repeat refine awG ?_
            refine⟨k+1,⟨by omega,λq al=>?_⟩,by omega,fY s hR fx (by simp(disch:=omega)[bY,Go.Sv.get]) (by simp[gK];omega)⟩;by_cases e:q=k
            ·subst e;exact λg=>by
              rcases g.2.2 with⟨g1,g2⟩ | ⟨g1,g2⟩
              ·simp[aG]at g1
              ·exact u (sr.2 g2)
            ·exact hq q (by omega)
          | false =>
           simp(disch:=omega)[];repeat refine awG ?_
           refine ek (tl:=[_]) (rL c s hc hs.t (Z:=2406280815) ac qx (ax (hw.hi k ac) (by omega)) (by omega)) hR (by simp) (by simp) ?_;rintro T1 y ⟨rfl,rfl⟩;refine⟨s,rfl,hR,by simp,?_⟩;simp only[tT,tH,tS,ayb,aAf];by_cases u:Us (gt c.high k) (gt s.x k)=true
           ·simp(disch:=omega)[u];repeat refine awG ?_
            refine⟨rfl,⟨211,[(0,.ptr 0 0 0),(5,iv (b:Int)),(6,dr false),(10,iv (i:Int)),(11,iv (k:Int))],tH c s++eH s.R⟩,fY s hR fx (by simp[bY,Go.Sv.get]) (by simp[gK]),.inr ⟨k,ac,⟨aF,e1,.inl ⟨by simp[aG],r5.1 u⟩⟩,hq,rfl⟩⟩
           ·simp(disch:=omega)[u,aD];repeat refine awG ?_
            refine⟨k+1,⟨by omega,λq al=>?_⟩,by omega,fY s hR fx (by simp(disch:=omega)[bY,Go.Sv.get]) (by simp[gK];omega)⟩;by_cases e:q=k
            ·subst e;exact λg=>by
              rcases g.2.2 with⟨g1,g2⟩ | ⟨g1,g2⟩
              ·exact u (r5.2 g2)
              ·simp[aG]at g1
            ·exact hq q (by omega)
      ·obtain rfl:k=c.N:=by omega
       simp only[tH,tS,ayb,aAf];simp(disch:=omega)[];repeat refine awG ?_
       refine⟨rfl,⟨211,[(0,.ptr 0 0 0),(5,iv (b:Int)),(6,dr ab),(10,iv (i:Int)),(11,.val (.int .i64 (-1)))],tH c s++eH s.R⟩,Le.dE ⟨rfl,by simp[bY,Go.Sv.get],ao _,.inl rfl⟩,.inl ⟨rfl,hq⟩⟩
    ·rintro e st' ⟨rfl,ah,hle,⟨rfl,aH⟩ | ⟨k,ac,ai,aH,rfl⟩⟩
     ·refine⟨_,hle,?_⟩;simp;exact⟨_,_,⟨s,rfl,hR,hs,.inr ⟨i,ab,rfl,NT hi hv aH⟩⟩,rfl,by rw[tT,aBS];exact ao _,by have:=h0.t.R;simp[tT,tH];omega,.inl (by simp[tT,tH];omega)⟩
     ·refine⟨_,hle,?_⟩;subst az;have am:aM (c.low.map dA) (gt s.basic i)=dA (gt c.low (gt s.basic i)):=ct _ (by omega);have an:aM (c.high.map dA) (gt s.basic i)=dA (gt c.high (gt s.basic i)):=ct _ (by omega);have aR:=ch (l:=s.x) (i:=gt s.basic i) (by omega);have tg:=λtl:aC=>fE (C:=s.R) (tl:=tl) (e:=i) (by omega);have Ri:=hs.t.Rr i hi;have aB:=ch (l:=gt s.R i) (i:=k) (by omega);have qx:=k9 hc hw hW hs ad;have qR:=hW _ _ hs.d hs.t.Rr i hi k (by omega);simp only[tH,tS,ayb,aAf];cases ab with
      | true =>
       have aW:=hv.1 rfl;have qb:=hw.lo _ ad;have aL:gt s.x (gt s.basic i)+gt (gt s.R i) k*(((gt c.low (gt s.basic i)).at' - gt s.x (gt s.basic i)) / gt (gt s.R i) k)=(gt c.low (gt s.basic i)).at':=by have:=Rat.div_mul_cancel (a:=(gt c.low (gt s.basic i)).at' - gt s.x (gt s.basic i)) ai.1;rw[Rat.mul_comm,this];grind
       have q1:qw 2406283016 ((gt c.low (gt s.basic i)).at' - gt s.x (gt s.basic i)):=ax (qd qb qx) (by omega);have q2:qw 2578158016 (((gt c.low (gt s.basic i)).at' - gt s.x (gt s.basic i)) / gt (gt s.R i) k):=ax (mF q1 qR (by omega)) (by omega);simp(disch:=omega)[ad,au,av,am,an,hR,cN hR,cV hR];repeat refine awG ?_
       refine aa.jB (.d 24<|.qs [0,1,2,3,4,5,6,7,8,10,11,12,13,14,15,16,17,18,19]<|.p 9<|.p 20<|.qs [21,22,23]<|.b ( .l 25 [c.m+7]<|.qs [26]<|.nil )) (by kernel_rfl) (by kernel_rfl) (by simp) ?_;simp(disch:=omega)[ad,af,aR,hi,aA,tg,Ri,aB,ac,hR,cN hR];repeat refine awG ?_
       refine ff (pt (gt c.low (gt s.basic i)).at' (gt s.x (gt s.basic i)) (aq qb (by omega)) (aq qx (by omega))) (by simp) ?_;simp;refine ff (pB ((gt c.low (gt s.basic i)).at' - gt s.x (gt s.basic i)) (gt (gt s.R i) k) (aq q1 (by omega)) (aq qR (by omega))) (by simp) ?_;have fs:=CC (y:=((gt c.low (gt s.basic i)).at' - gt s.x (gt s.basic i)) / gt (gt s.R i) k) hb hs hi ac hv ap ai aH (by simpa using aL);generalize ((gt c.low (gt s.basic i)).at' - gt s.x (gt s.basic i)) / gt (gt s.R i) k=y at *;simp(disch:=omega)[xK hR,BM hR];repeat refine awG ?_
       obtain⟨ar,aj⟩:=fs;simp only[if_true]at ar aj;have mo:=oq c s hc hs.t (Z:=5156313832) (W:=171875000) (Y:=2578158016) ac q2 (hW _ _ hs.d hs.t.Rr) (ax (k9 hc hw hW hs ac) (by omega)) (λa ha q hq=>Ls hc hw hW hs ac ai.2.1 q2 hq ha) (by omega) (by omega) (by omega);refine ek (tl:=[_,_]) mo hR (by simp) (by simp) ?_;rintro T1 v ⟨rfl,rfl⟩;refine⟨_,rfl,hR,by simp,?_⟩;have t1:wg c { s with x:=gj s k y c.m }:=⟨hs.t.w,by show(gj s k y c.m).length=_;rw[fU];exact af,hs.t.b,hs.t.r,hs.t.R,hs.t.Rr,hs.t.bb⟩;have tn:=qT c { s with x:=gj s k y c.m } hc t1 (W:=171875000) (by omega) (hW _ _ hs.d hs.t.Rr) (by omega) (i:=i) (j:=k) hi ac ai.1;have t2:=t1.AT (i:=i) ac;have w2:(ia { s with x:=gj s k y c.m } i k).wh.length=c.N:=t2.w;simp only[tT,tH,tS,ayb,aAf];simp(disch:=omega)[];repeat refine awG ?_
       refine ek (s:={ s with x:=gj s k y c.m }) (tl:=[_,_]) tn hR (by simp) (by simp) ?_;rintro T1 v ⟨rfl,rfl⟩;refine⟨_,rfl,t2.R,by simp,?_⟩;have aN:=cf (l:=(ia { s with x:=gj s k y c.m } i k).wh) (i:=gt s.basic i) (by rw[w2];exact ad);have aO:=t2.R;simp only[tT,tH,tS,ayb,aAf];simp(disch:=omega)[ad,w2,aN,dM, -aAq];repeat refine awG ?_
       refine⟨Be c s i k y 2,L+1,⟨ar,hr.next aj⟩,by have:=(hr.next aj).lt;omega,?_⟩;exact fY (Be c s i k y 2) aO fx (by simp[bY,Go.Sv.get]) (by simp[gK])
      | false =>
       have aW:=hv.2 rfl;have qb:=hw.hi _ ad;have aL:gt s.x (gt s.basic i)+gt (gt s.R i) k*(((gt c.high (gt s.basic i)).at' - gt s.x (gt s.basic i)) / gt (gt s.R i) k)=(gt c.high (gt s.basic i)).at':=by have:=Rat.div_mul_cancel (a:=(gt c.high (gt s.basic i)).at' - gt s.x (gt s.basic i)) ai.1;rw[Rat.mul_comm,this];grind
       have q1:qw 2406283016 ((gt c.high (gt s.basic i)).at' - gt s.x (gt s.basic i)):=ax (qd qb qx) (by omega);have q2:qw 2578158016 (((gt c.high (gt s.basic i)).at' - gt s.x (gt s.basic i)) / gt (gt s.R i) k):=ax (mF q1 qR (by omega)) (by omega);simp(disch:=omega)[ad,av,an,hR,cN hR,cV hR];repeat refine awG ?_
       refine aa.jB (.d 24<|.qs [0,1,2,3,4,5,6,7,8,10,11,12,13,14,15,16,17,18,19]<|.p 9<|.p 20<|.qs [21,22,23]<|.b ( .l 25 [c.m+7]<|.qs [26]<|.nil )) (by kernel_rfl) (by kernel_rfl) (by simp) ?_;simp(disch:=omega)[ad,af,aR,hi,aA,tg,Ri,aB,ac,hR,cN hR];repeat refine awG ?_
       refine ff (pt (gt c.high (gt s.basic i)).at' (gt s.x (gt s.basic i)) (aq qb (by omega)) (aq qx (by omega))) (by simp) ?_;simp;refine ff (pB ((gt c.high (gt s.basic i)).at' - gt s.x (gt s.basic i)) (gt (gt s.R i) k) (aq q1 (by omega)) (aq qR (by omega))) (by simp) ?_;have fs:=CC (y:=((gt c.high (gt s.basic i)).at' - gt s.x (gt s.basic i)) / gt (gt s.R i) k) hb hs hi ac hv ap ai aH (by simpa using aL);generalize ((gt c.high (gt s.basic i)).at' - gt s.x (gt s.basic i)) / gt (gt s.R i) k=y at *;simp(disch:=omega)[xK hR,BM hR];repeat refine awG ?_
       obtain⟨ar,aj⟩:=fs;simp only[Bool.false_eq_true,if_false]at ar aj;have mo:=oq c s hc hs.t (Z:=5156313832) (W:=171875000) (Y:=2578158016) ac q2 (hW _ _ hs.d hs.t.Rr) (ax (k9 hc hw hW hs ac) (by omega)) (λa ha q hq=>Ls hc hw hW hs ac ai.2.1 q2 hq ha) (by omega) (by omega) (by omega);refine ek (tl:=[_,_]) mo hR (by simp) (by simp) ?_;rintro T1 v ⟨rfl,rfl⟩;refine⟨_,rfl,hR,by simp,?_⟩;have t1:wg c { s with x:=gj s k y c.m }:=⟨hs.t.w,by show(gj s k y c.m).length=_;rw[fU];exact af,hs.t.b,hs.t.r,hs.t.R,hs.t.Rr,hs.t.bb⟩;have tn:=qT c { s with x:=gj s k y c.m } hc t1 (W:=171875000) (by omega) (hW _ _ hs.d hs.t.Rr) (by omega) (i:=i) (j:=k) hi ac ai.1;have t2:=t1.AT (i:=i) ac;have w2:(ia { s with x:=gj s k y c.m } i k).wh.length=c.N:=t2.w;simp only[tT,tH,tS,ayb,aAf];simp(disch:=omega)[];repeat refine awG ?_
       refine ek (s:={ s with x:=gj s k y c.m }) (tl:=[_,_]) tn hR (by simp) (by simp) ?_;rintro T1 v ⟨rfl,rfl⟩;refine⟨_,rfl,t2.R,by simp,?_⟩;have aN:=cf (l:=(ia { s with x:=gj s k y c.m } i k).wh) (i:=gt s.basic i) (by rw[w2];exact ad);have aO:=t2.R;simp only[tT,tH,tS,ayb,aAf];simp(disch:=omega)[ad,w2,aN,dM, -aAq];repeat refine awG ?_
       refine⟨Be c s i k y 3,L+1,⟨ar,hr.next aj⟩,by have:=(hr.next aj).lt;omega,?_⟩;exact fY (Be c s i k y 3) aO fx (by simp[bY,Go.Sv.get]) (by simp[gK])
end Go.Proofs


/- A text of the prover's own. -/
import Derived.Test.YtnimjdcaajmfcaaGreatDoorBSi
open List renaming cons_append->as8,nil_append->at3,append_nil->avB,map_set->aue
set_option maxRecDepth 10000
set_option maxHeartbeats 1000000
namespace Go.Sx
open Go Go.Sv Go.Pl Go.Proofs Go.Tb Go.Ut Go.Mx Go.Li Go.Dt
theorem kn{c:Tc}{K:(Nat->Rat)->Prop}{s:Tb}(hc:oR c)(hw:zG c)(hW:HW c K)(h:fo c K s){k:Nat}(hk:k<c.N):qw 2406280815 (gt s.x k):=by
 by_cases e:gt s.wh k=1
 ·obtain⟨r,hr,rfl⟩:=(h.w k hk).1 e;rw[h.xb r hr];have aP:=hc.sq;have hN:c.N*(171875000+2200+1)<=14*(171875000+2200+1):=Nat.mul_le_mul_right _ aP;refine ay (CB (V:=171875000+2200) c.N λq hq=>?_) (by omega);by_cases aQ:gt s.wh q=1
  ·obtain⟨i,hi,rfl⟩:=(h.w q hq).1 aQ;rw[h.d.z0 r i hr hi,Rat.zero_mul];exact Proofs.cL (by omega)
  ·rw[h.xn q hq aQ];exact cx (hW _ _ h.d h.t.Rr r hr q (by rw[h.t.Rr r hr];exact hq)) (H4 hw _ hq) (by omega)
 ·rw[h.xn k hk e];exact ay (H4 hw _ hk) (by omega)
theorem Jd{c:Tc}{K:(Nat->Rat)->Prop}{s:Tb}(hc:oR c)(hw:zG c)(hW:HW c K)(h:fo c K s){j:Nat}{y:Rat}(hj:j<c.N)(aS:gt s.wh j≠1)(hy:qw 2578158016 y){k:Nat}(hk:k<c.N){i:Nat}(hi:i<=c.m):qw 5156313832 (gt (fK s j y i) k):=by
 have hb:=h.nb hj aS;by_cases e1:k=j
 ·subst e1;rw[zx h hk hb i hi];exact ay (kg (kn hc hw hW h hk) hy) (by omega)
 ·by_cases e2:∃r,r<c.m∧gt s.basic r=k
  ·obtain⟨r,hr,rfl⟩:=e2;rw[lq h hj hb hr i hi];split
   ·exact ay (kg (kn hc hw hW h hk) (cx (hW _ _ h.d h.t.Rr r hr j (by rw[h.t.Rr r hr];exact hj)) hy (by omega))) (by omega)
   ·rw[Rat.add_zero];exact ay (kn hc hw hW h hk) (by omega)
  ·rw[lM h hk e1 (λr hr e=>e2 ⟨r,hr,e⟩) i hi];exact ay (kn hc hw hW h hk) (by omega)
end Go.Sx
namespace Go.Proofs
open Go.Sv Go Go.Tb Go.Pl Go.Ut Go.Mx Go.Li Go.Dt Go.Sx
theorem kB{q:Rat}(h:0<q):aG Tryz.prog 40 [aU q] (.val (.int .i64 1)):=by
 have:=gM q
 rwa [show q.num.sign=1 by rw[Int.sign_eq_one_iff_pos];exact wb.2 h]at this
theorem kI{q:Rat}(h:q<0):aG Tryz.prog 40 [aU q] (.val (.int .i64 (-1))):=by
 have:=gM q;have h1:¬0<q.num:=λg=>by have:=wb.1 g;grind
 have h2:q.num≠0:=λg=>by rw[Rat.num_eq_zero]at g;grind
 rwa [show q.num.sign = -1 by rw[Int.sign_eq_neg_one_iff_neg];omega]at this
theorem oH{q:Rat}(h:q=0):aG Tryz.prog 40 [aU q] (.val (.int .i64 0)):=by have:=gM q;rw[h]at this ⊢;exact this
def aj5(C:Ctx)(c:Tc)(s:Tb)(e:Exit)(st:St):Prop:=e=.exit 2∧∃ah,Le C st ah∧((ah=⟨211,[(0,.ptr 0 0 0),(5,.val (.int .i64 (-1)))],tH c s++ey s.R⟩∧kW c s) ∨
 ∃(i b:Nat) (ab:Bool),i<c.m∧b=gt s.basic i∧ah=⟨211,[(0,.ptr 0 0 0),(5,iv (b:Int)),(6,cX ab)],tH c s++ey s.R⟩ ∧
  ((ab=true->(gt c.low (gt s.basic i)).has=true∧gt s.x (gt s.basic i)<(gt c.low (gt s.basic i)).at')∧(ab=false->(gt c.high (gt s.basic i)).has=true∧(gt c.high (gt s.basic i)).at'<gt s.x (gt s.basic i))) ∧
  ∀k,k<gt s.basic i->gt s.wh k=1->tm (gt c.low k) (gt s.x k)∧ta (gt c.high k) (gt s.x k))
def aiE(C:Ctx)(c:Tc)(s:Tb)(i b:Nat)(ab:Bool)(e:Exit)(st:St):Prop:=e=.exit 4∧∃ah,Le C st ah ∧
 ((
  ah=⟨211,[(0,.ptr 0 0 0),(5,iv (b:Int)),(6,cX ab),(10,iv (i:Int)),(11,.val (.int .i64 (-1)))],tH c s++ey s.R⟩∧∀k,k<c.N->¬Gf c s i ab k) ∨
  ∃k:Nat,k<c.N∧Gf c s i ab k∧(∀q,q<k->¬Gf c s i ab q)∧ah=⟨211,[(0,.ptr 0 0 0),(5,iv (b:Int)),(6,cX ab),(10,iv (i:Int)),(11,iv (k:Int))],tH c s++ey s.R⟩)
def Ze(c:Tc)(K:(Nat->Rat)->Prop)(T:aD)(y:SV):Prop:=∃s,T=tT c s []∧s.R.length=c.m∧fo c K s ∧
 ((y=.bP [iv 0,cX false,cX true]∧kW c s)∨∃(i:Nat) (ab:Bool),y=.bP [iv (i:Int),cX ab,cX false]∧Ds c s i ab)
theorem CD(c:Tc)(K:(Nat->Rat)->Prop)(hc:oR c)(hw:zG c)(hb:HB c)(hW:HW c K)(s0:Tb)(h0:fo c K s0) :
  kv Tryz.prog 122 [.ptr 0 0 0] (tT c s0 []) [] (Ze c K):=by
 have h7:=hc.m7;have aP:=hc.sq;have au:=hc.lo;have av:=hc.hi;refine gu Tryz.func122 rfl (by simp) (λC hC=>?_);have fx:=oJ h0.t.R hC;simp only[tT,tH,tS,as8,at3,avB];simp;refine aa.bM (ι:=Tb × Nat) (λ⟨s,L⟩=>⟨211,[(0,.ptr 0 0 0)],tH c s++ey s.R⟩)
  (λ⟨s,L⟩=>fo c K s∧N3 c K s L) (λ⟨s,L⟩=>3^c.N - L) (s0,0) ⟨h0,N3.zero c K s0⟩ ?_ ?_
 ·exact⟨rfl,by simp[bU,Go.Sv.get],by simp only[tH,tS,as8,at3];exact aq _,.inl (by simp[tH])⟩
 ·rintro⟨s,L⟩ ⟨hs,hr⟩;have hR:=hs.t.R;have af:=hs.t.x;have ak:=hs.t.w;simp only[tH,tS,as8,at3];simp(disch:=omega)[];repeat refine asi ?_
  refine aa.LS (aj5 C c s) ?_ ?_
  ·refine aa.go ?_;simp;refine aa.bM (ι:=Nat) (λj=>⟨211,[(0,.ptr 0 0 0),(5,.val (.int .i64 (-1))),(6,cX false),(23,iv c.N),(24,iv j)],tH c s++ey s.R⟩)
    (λj=>j<=c.N∧∀k,k<j->gt s.wh k=1->tm (gt c.low k) (gt s.x k)∧ta (gt c.high k) (gt s.x k)) (λj=>c.N - j) 0 ⟨by omega,λk hk=>by omega⟩ ?_ ?_
   ·exact⟨rfl,by simp[bU,Go.Sv.get],by simp only[tH,tS,as8,at3];exact aq _,.inl (by simp[tH])⟩
   ·rintro j ⟨hj,hq⟩;simp only[tH,tS,as8,at3];by_cases ag:j<c.N
    ·have lw:=cf (l:=s.wh) (i:=j) (by omega);have lx:=bS (l:=s.x) (i:=j) (by omega);have am:aL (c.low.map dh) j=dh (gt c.low j):=cy _ (by omega);have an:aL (c.high.map dh) j=dh (gt c.high j):=cy _ (by omega);have qx:=kn hc hw hW hs ag;have ql:=hw.lo j ag;have qh:=hw.hi j ag;by_cases e1:gt s.wh j=1
     ·rw[e1]at lw;simp(disch:=omega)[ag,lw,ak];repeat refine asi ?_
      obtain⟨U,hU⟩:∃U:Bool,U=((gt c.low j).has&&decide (gt s.x j<(gt c.low j).at')):=⟨_,rfl⟩;obtain⟨V,hV⟩:∃V:Bool,V=((gt c.high j).has&&decide ((gt c.high j).at'<gt s.x j)):=⟨_,rfl⟩;refine aa.uR (.qs [0,1,2,3,4,5,6,7,8,9,10,11,12,13,14,15,16,17,18,19,20,21,22,23]<|.l 24 []<|.qs [25,26,27]<|.nil) ⟨211,[(0,.ptr 0 0 0),(5,.val (.int .i64 (-1))),(6,cX false),(7,iv j),(8,cX U),(23,iv c.N),(24,iv j)],tH c s++ey s.R⟩ (by kernel_rfl) (by kernel_rfl) ?_ ?_
      ·clear hr hs;by_cases u1:(gt c.low j).has=true
       ·simp(disch:=omega)[ag,af,au,lx,am,u1];repeat refine asi ?_
        have cm:=p6 (gt s.x j) (gt c.low j).at' (ao qx (by omega)) (ao ql (by omega));have cl:=@Fu (gt s.x j) (gt c.low j).at';generalize (if gt s.x j<(gt c.low j).at' then(-1:Int) else if(gt c.low j).at'<gt s.x j then 1 else 0)=z at *;refine asl (cm) ?_;simp;exact⟨rfl,by simp[bU,Go.Sv.get,hU,u1,cl],aq _,.inl rfl⟩
       ·simp(disch:=omega)[ag,au,am,u1];repeat refine asi ?_
        exact⟨rfl,by simp[bU,Go.Sv.get,hU,u1],aq _,.inl rfl⟩
      simp only[tH,tS,as8,at3];simp;refine aa.uR (.qs [0,1,2,3,4,5,6,7,8,9,10,11,12,13,14,15,16,17,18,19,20,21,22,23]<|.l 24 []<|.qs [25,26,27]<|.nil) ⟨211,[(0,.ptr 0 0 0),(5,.val (.int .i64 (-1))),(6,cX false),(7,iv j),(8,cX U),(9,cX V),(23,iv c.N),(24,iv j)],tH c s++ey s.R⟩ (by kernel_rfl) (by kernel_rfl) ?_ ?_
      ·clear hr hs;by_cases u1:(gt c.high j).has=true
       ·simp(disch:=omega)[ag,af,av,lx,an,u1];repeat refine asi ?_
        have cm:=p6 (gt s.x j) (gt c.high j).at' (ao qx (by omega)) (ao qh (by omega));have cl:=@yv (gt s.x j) (gt c.high j).at';generalize (if gt s.x j<(gt c.high j).at' then(-1:Int) else if(gt c.high j).at'<gt s.x j then 1 else 0)=z at *;refine asl (cm) ?_;simp;exact⟨rfl,by simp[bU,Go.Sv.get,hV,u1,cl],aq _,.inl rfl⟩
       ·simp(disch:=omega)[ag,av,an,u1];repeat refine asi ?_
        exact⟨rfl,by simp[bU,Go.Sv.get,hV,u1],aq _,.inl rfl⟩
      simp only[tH,tS,as8,at3];simp;obtain⟨i,hi,aw⟩:=(hs.w j ag).1 e1;have fst:∀k,k<gt s.basic i->gt s.wh k=1->tm (gt c.low k) (gt s.x k)∧ta (gt c.high k) (gt s.x k):=λk hk=>hq k (by omega);refine⟨λhu=>⟨λhv=>?_,λhv=>?_⟩,λhu=>?_⟩
      ·refine⟨rfl,⟨211,[(0,.ptr 0 0 0),(5,iv (j:Int)),(6,cX false)],tH c s++ey s.R⟩,Le.fm ⟨rfl,by simp[bU,Go.Sv.get,hu],aq _,.inl rfl⟩,.inr ⟨i,j,false,hi,aw.symm,rfl,⟨λq=>by simp at q,λ_=>?_⟩,fst⟩⟩;rw[hv]at hV;simpa[aw]using hV.symm
      ·refine⟨j+1,⟨by omega,λk hk ax=>?_⟩,by omega,Le.fm ⟨rfl,by simp(disch:=omega)[bU,Go.Sv.get,aK],aq _,.inl rfl⟩⟩;by_cases e:k=j
       ·subst e;rw[hu]at hU;rw[hv]at hV;exact⟨λg=>by simp[g]at hU;grind,λg=>by simp[g]at hV;grind⟩
       ·exact hq k (by omega) ax
      ·refine⟨rfl,⟨211,[(0,.ptr 0 0 0),(5,iv (j:Int)),(6,cX true)],tH c s++ey s.R⟩,Le.fm ⟨rfl,by simp[bU,Go.Sv.get,hu],aq _,.inl rfl⟩,.inr ⟨i,j,true,hi,aw.symm,rfl,⟨λ_=>?_,λq=>by simp at q⟩,fst⟩⟩;rw[hu]at hU;simpa[aw]using hU.symm
     ·simp(disch:=omega)[ag,lw,ak,e1,aK];repeat refine asi ?_
      refine⟨j+1,⟨by omega,λk hk ax=>?_⟩,by omega,Le.fm ⟨rfl,by simp(disch:=omega)[bU,Go.Sv.get],aq _,.inl rfl⟩⟩;by_cases e:k=j
      ·subst e;exact absurd ax e1
      ·exact hq k (by omega) ax
    ·obtain rfl:j=c.N:=by omega
     simp(disch:=omega)[];repeat refine asi ?_
     refine⟨rfl,⟨211,[(0,.ptr 0 0 0),(5,.val (.int .i64 (-1)))],tH c s++ey s.R⟩,Le.fm ⟨rfl,by simp[bU,Go.Sv.get],aq _,.inl rfl⟩,.inl ⟨rfl,λk hk=>?_⟩⟩;by_cases e1:gt s.wh k=1
     ·exact hq k hk e1
     ·exact hs.UQ hb hk e1
  ·rintro e st' ⟨rfl,ah,hle,⟨rfl,aT⟩ | ⟨i,b,ab,hi,az,rfl,hv,ap⟩⟩
   ·refine⟨_,hle,?_⟩;simp;exact⟨_,_,⟨s,rfl,hR,hs,.inl ⟨rfl,aT⟩⟩,rfl,by rw[tT,avB];exact aq _,by have:=h0.t.R;simp[tT,tH];omega,.inl (by simp[tT,tH];omega)⟩
   ·refine⟨_,hle,?_⟩;have ad:b<c.N:=by rw[az];exact hs.d.bl i hi
    have aH:gt s.row b=(i:Int):=by
     rcases hs.r b ad with⟨q,hq,g1,g2⟩ | ⟨g1,g2⟩
     ·rw[g2,hs.d.inj q i hq hi (by rw[g1,az])]
     ·exact absurd az.symm (g2 i hi)
    have aI:aL (s.row.map iv) b=iv (i:Int):=by rw[cf (by rw[hs.t.r];exact ad),aH]
    have aA:=gj (N:=c.N) (m:=c.m) hi;have aV:=hs.t.r;simp only[tH,tS,as8,at3];simp(disch:=omega)[ad,aI,aA,aV,hi];repeat refine asi ?_
    refine aa.LS (aiE C c s i b ab) ?_ ?_
    ·have aJ:=e9 (C:=s.R) (tl:=[]) (e:=i) (by omega);rw[avB]at aJ;have Ri:=hs.t.Rr i hi;refine aa.go ?_;simp(disch:=omega)[];repeat refine asi ?_
     refine aa.bM (ι:=Nat) (λk=>⟨211,[(0,.ptr 0 0 0),(5,iv (b:Int)),(6,cX ab),(10,iv (i:Int)),(11,.val (.int .i64 (-1))),(111,.view (i+6) 0 c.N),(112,iv c.N),(113,iv k)],tH c s++ey s.R⟩)
      (λk=>k<=c.N∧∀q,q<k->¬Gf c s i ab q) (λk=>c.N - k) 0 ⟨by omega,λq hq=>by omega⟩ ?_ ?_
     ·exact⟨rfl,by simp[bU,Go.Sv.get],aq _,.inl rfl⟩
     ·rintro k ⟨hk,hq⟩;by_cases ac:k<c.N
      ·have lw:=cf (l:=s.wh) (i:=k) (by omega);have aB:=bS (l:=gt s.R i) (i:=k) (by omega);have qx:=kn hc hw hW hs ac;simp only[tH,tS,as8,at3];simp(disch:=omega)[ac,aJ,Ri,aB,hR,cE hR,cP hR];repeat refine asi ?_
       by_cases hz:gt (gt s.R i) k=0
       ·refine ae (oH hz) (by simp) ?_;simp(disch:=omega)[aK];repeat refine asi ?_
        refine⟨k+1,⟨by omega,λq al=>?_⟩,by omega,fE s hR fx (by simp(disch:=omega)[bU,Go.Sv.get]) (by simp[gz];omega)⟩;by_cases e:q=k
        ·subst e;exact λg=>g.1 hz
        ·exact hq q (by omega)
       ·have aC:=hz;by_cases sg:0<gt (gt s.R i) k
        ·refine ae (kB sg) (by simp) ?_;by_cases e1:gt s.wh k=1
         ·rw[e1]at lw;simp(disch:=omega)[ac,lw,ak,aK];repeat refine asi ?_
          refine⟨k+1,⟨by omega,λq al=>?_⟩,by omega,fE s hR fx (by simp(disch:=omega)[bU,Go.Sv.get]) (by simp[gz];omega)⟩;by_cases e:q=k
          ·subst e;exact λg=>g.2.1 e1
          ·exact hq q (by omega)
         ·simp(disch:=omega)[ac,lw,ak,e1,cE hR];repeat refine asi ?_
          refine asl (kB sg) ?_;cases ab with
          | true =>
           simp(disch:=omega)[];repeat refine asi ?_
           refine dS (tl:=[_]) (pf c s hc hs.t (Z:=2406280815) ac qx (ay (hw.hi k ac) (by omega)) (by omega)) hR (by simp) (by simp) ?_;rintro T1 y ⟨rfl,rfl⟩;refine⟨s,rfl,hR,by simp,?_⟩;simp only[tT,tH,tS,as8,at3];by_cases u:Rx (gt c.high k) (gt s.x k)=true
           ·simp(disch:=omega)[u];repeat refine asi ?_
            refine⟨rfl,⟨211,[(0,.ptr 0 0 0),(5,iv (b:Int)),(6,cX true),(10,iv (i:Int)),(11,iv (k:Int))],tH c s++ey s.R⟩,fE s hR fx (by simp[bU,Go.Sv.get]) (by simp[gz]),.inr ⟨k,ac,⟨aC,e1,.inl ⟨by simp[sg],qy.1 u⟩⟩,hq,rfl⟩⟩
           ·simp(disch:=omega)[u,aK];repeat refine asi ?_
            refine⟨k+1,⟨by omega,λq al=>?_⟩,by omega,fE s hR fx (by simp(disch:=omega)[bU,Go.Sv.get]) (by simp[gz];omega)⟩;by_cases e:q=k
            ·subst e;exact λg=>by
              rcases g.2.2 with⟨g1,g2⟩ | ⟨g1,g2⟩
              ·exact u (qy.2 g2)
              ·simp[sg]at g1
            ·exact hq q (by omega)
          | false =>
           simp(disch:=omega)[];repeat refine asi ?_
           refine dS (tl:=[_]) (pK c s hc hs.t (Z:=2406280815) ac qx (ay (hw.lo k ac) (by omega)) (by omega)) hR (by simp) (by simp) ?_;rintro T1 y ⟨rfl,rfl⟩;refine⟨s,rfl,hR,by simp,?_⟩;simp only[tT,tH,tS,as8,at3];by_cases u:Qx (gt c.low k) (gt s.x k)=true
           ·simp(disch:=omega)[u];repeat refine asi ?_
            refine⟨rfl,⟨211,[(0,.ptr 0 0 0),(5,iv (b:Int)),(6,cX false),(10,iv (i:Int)),(11,iv (k:Int))],tH c s++ey s.R⟩,fE s hR fx (by simp[bU,Go.Sv.get]) (by simp[gz]),.inr ⟨k,ac,⟨aC,e1,.inr ⟨by simp[sg],qN.1 u⟩⟩,hq,rfl⟩⟩
           ·simp(disch:=omega)[u,aK];repeat refine asi ?_
            refine⟨k+1,⟨by omega,λq al=>?_⟩,by omega,fE s hR fx (by simp(disch:=omega)[bU,Go.Sv.get]) (by simp[gz];omega)⟩;by_cases e:q=k
            ·subst e;exact λg=>by
              rcases g.2.2 with⟨g1,g2⟩ | ⟨g1,g2⟩
              ·simp[sg]at g1
              ·exact u (qN.2 g2)
            ·exact hq q (by omega)
        ·have aE:¬0<gt (gt s.R i) k:=sg;have sg:gt (gt s.R i) k<0:=by grind
         refine asl (kI sg) ?_;by_cases e1:gt s.wh k=1
         ·rw[e1]at lw;simp(disch:=omega)[ac,lw,ak,aK];repeat refine asi ?_
          refine⟨k+1,⟨by omega,λq al=>?_⟩,by omega,fE s hR fx (by simp(disch:=omega)[bU,Go.Sv.get]) (by simp[gz];omega)⟩;by_cases e:q=k
          ·subst e;exact λg=>g.2.1 e1
          ·exact hq q (by omega)
         ·simp(disch:=omega)[ac,lw,ak,e1,cE hR];repeat refine asi ?_
          refine asl (kI sg) ?_;cases ab with
          | true =>
           simp(disch:=omega)[];repeat refine asi ?_
           refine dS (tl:=[_]) (pK c s hc hs.t (Z:=2406280815) ac qx (ay (hw.lo k ac) (by omega)) (by omega)) hR (by simp) (by simp) ?_;rintro T1 y ⟨rfl,rfl⟩;refine⟨s,rfl,hR,by simp,?_⟩;simp only[tT,tH,tS,as8,at3];by_cases u:Qx (gt c.low k) (gt s.x k)=true
           ·simp(disch:=omega)[u];repeat refine asi ?_
            refine⟨rfl,⟨211,[(0,.ptr 0 0 0),(5,iv (b:Int)),(6,cX true),(10,iv (i:Int)),(11,iv (k:Int))],tH c s++ey s.R⟩,fE s hR fx (by simp[bU,Go.Sv.get]) (by simp[gz]),.inr ⟨k,ac,⟨aC,e1,.inr ⟨by simp[aE],qN.1 u⟩⟩,hq,rfl⟩⟩
           ·simp(disch:=omega)[u,aK];repeat refine asi ?_
            refine⟨k+1,⟨by omega,λq al=>?_⟩,by omega,fE s hR fx (by simp(disch:=omega)[bU,Go.Sv.get]) (by simp[gz];omega)⟩;by_cases e:q=k
            ·subst e;exact λg=>by
              rcases g.2.2 with⟨g1,g2⟩ | ⟨g1,g2⟩
              ·simp[aE]at g1
              ·exact u (qN.2 g2)
            ·exact hq q (by omega)
          | false =>
           simp(disch:=omega)[];repeat refine asi ?_
           refine dS (tl:=[_]) (pf c s hc hs.t (Z:=2406280815) ac qx (ay (hw.hi k ac) (by omega)) (by omega)) hR (by simp) (by simp) ?_;rintro T1 y ⟨rfl,rfl⟩;refine⟨s,rfl,hR,by simp,?_⟩;simp only[tT,tH,tS,as8,at3];by_cases u:Rx (gt c.high k) (gt s.x k)=true
           ·simp(disch:=omega)[u];repeat refine asi ?_
            refine⟨rfl,⟨211,[(0,.ptr 0 0 0),(5,iv (b:Int)),(6,cX false),(10,iv (i:Int)),(11,iv (k:Int))],tH c s++ey s.R⟩,fE s hR fx (by simp[bU,Go.Sv.get]) (by simp[gz]),.inr ⟨k,ac,⟨aC,e1,.inl ⟨by simp[aE],qy.1 u⟩⟩,hq,rfl⟩⟩
           ·simp(disch:=omega)[u,aK];repeat refine asi ?_
            refine⟨k+1,⟨by omega,λq al=>?_⟩,by omega,fE s hR fx (by simp(disch:=omega)[bU,Go.Sv.get]) (by simp[gz];omega)⟩;by_cases e:q=k
            ·subst e;exact λg=>by
              rcases g.2.2 with⟨g1,g2⟩ | ⟨g1,g2⟩
              ·exact u (qy.2 g2)
              ·simp[aE]at g1
            ·exact hq q (by omega)
      ·obtain rfl:k=c.N:=by omega
       simp only[tH,tS,as8,at3];simp(disch:=omega)[];repeat refine asi ?_
       refine⟨rfl,⟨211,[(0,.ptr 0 0 0),(5,iv (b:Int)),(6,cX ab),(10,iv (i:Int)),(11,.val (.int .i64 (-1)))],tH c s++ey s.R⟩,Le.fm ⟨rfl,by simp[bU,Go.Sv.get],aq _,.inl rfl⟩,.inl ⟨rfl,hq⟩⟩
    ·rintro e st' ⟨rfl,ah,hle,⟨rfl,aF⟩ | ⟨k,ac,ai,aF,rfl⟩⟩
     ·refine⟨_,hle,?_⟩;simp;exact⟨_,_,⟨s,rfl,hR,hs,.inr ⟨i,ab,rfl,NM hi hv aF⟩⟩,rfl,by rw[tT,avB];exact aq _,by have:=h0.t.R;simp[tT,tH];omega,.inl (by simp[tT,tH];omega)⟩
     ·refine⟨_,hle,?_⟩;subst az;have am:aL (c.low.map dh) (gt s.basic i)=dh (gt c.low (gt s.basic i)):=cy _ (by omega);have an:aL (c.high.map dh) (gt s.basic i)=dh (gt c.high (gt s.basic i)):=cy _ (by omega);have aR:=bS (l:=s.x) (i:=gt s.basic i) (by omega);have tg:=λtl:aD=>e9 (C:=s.R) (tl:=tl) (e:=i) (by omega);have Ri:=hs.t.Rr i hi;have aB:=bS (l:=gt s.R i) (i:=k) (by omega);have qx:=kn hc hw hW hs ad;have qR:=hW _ _ hs.d hs.t.Rr i hi k (by omega);simp only[tH,tS,as8,at3];cases ab with
      | true =>
       have aW:=hv.1 rfl;have qb:=hw.lo _ ad;have aM:gt s.x (gt s.basic i)+gt (gt s.R i) k*(((gt c.low (gt s.basic i)).at' - gt s.x (gt s.basic i)) / gt (gt s.R i) k)=(gt c.low (gt s.basic i)).at':=by have:=Rat.div_mul_cancel (a:=(gt c.low (gt s.basic i)).at' - gt s.x (gt s.basic i)) ai.1;rw[Rat.mul_comm,this];grind
       have q1:qw 2406283016 ((gt c.low (gt s.basic i)).at' - gt s.x (gt s.basic i)):=ay (nL qb qx) (by omega);have q2:qw 2578158016 (((gt c.low (gt s.basic i)).at' - gt s.x (gt s.basic i)) / gt (gt s.R i) k):=ay (kX q1 qR (by omega)) (by omega);simp(disch:=omega)[ad,au,av,am,an,hR,cE hR,cP hR];repeat refine asi ?_
       refine aa.jZ (.d 24<|.qs [0,1,2,3,4,5,6,7,8,10,11,12,13,14,15,16,17,18,19]<|.p 9<|.p 20<|.qs [21,22,23]<|.b ( .l 25 [c.m+7]<|.qs [26]<|.nil )) (by kernel_rfl) (by kernel_rfl) (by simp) ?_;simp(disch:=omega)[ad,af,aR,hi,aA,tg,Ri,aB,ac,hR,cE hR];repeat refine asi ?_
       refine fG (ot (gt c.low (gt s.basic i)).at' (gt s.x (gt s.basic i)) (ao qb (by omega)) (ao qx (by omega))) (by simp) ?_;simp;refine fG (oC ((gt c.low (gt s.basic i)).at' - gt s.x (gt s.basic i)) (gt (gt s.R i) k) (ao q1 (by omega)) (ao qR (by omega))) (by simp) ?_;have fs:=AA (y:=((gt c.low (gt s.basic i)).at' - gt s.x (gt s.basic i)) / gt (gt s.R i) k) hb hs hi ac hv ap ai aF (by simpa using aM);generalize ((gt c.low (gt s.basic i)).at' - gt s.x (gt s.basic i)) / gt (gt s.R i) k=y at *;simp(disch:=omega)[vV hR,zF hR];repeat refine asi ?_
       obtain⟨ar,aj⟩:=fs;simp only[if_true]at ar aj;have mo:=m6 c s hc hs.t (Z:=5156313832) (W:=171875000) (Y:=2578158016) ac q2 (hW _ _ hs.d hs.t.Rr) (ay (kn hc hw hW hs ac) (by omega)) (λa ha q hq=>Jd hc hw hW hs ac ai.2.1 q2 hq ha) (by omega) (by omega) (by omega);refine dS (tl:=[_,_]) mo hR (by simp) (by simp) ?_;rintro T1 v ⟨rfl,rfl⟩;refine⟨_,rfl,hR,by simp,?_⟩;have t1:ui c { s with x:=fK s k y c.m }:=⟨hs.t.w,by show(fK s k y c.m).length=_;rw[fD];exact af,hs.t.b,hs.t.r,hs.t.R,hs.t.Rr,hs.t.bb⟩;have tn:=pt c { s with x:=fK s k y c.m } hc t1 (W:=171875000) (by omega) (hW _ _ hs.d hs.t.Rr) (by omega) (i:=i) (j:=k) hi ac ai.1;have t2:=t1.yS (i:=i) ac;have w2:(gH { s with x:=fK s k y c.m } i k).wh.length=c.N:=t2.w;simp only[tT,tH,tS,as8,at3];simp(disch:=omega)[];repeat refine asi ?_
       refine dS (s:={ s with x:=fK s k y c.m }) (tl:=[_,_]) tn hR (by simp) (by simp) ?_;rintro T1 v ⟨rfl,rfl⟩;refine⟨_,rfl,t2.R,by simp,?_⟩;have aN:=cf (l:=(gH { s with x:=fK s k y c.m } i k).wh) (i:=gt s.basic i) (by rw[w2];exact ad);have aO:=t2.R;simp only[tT,tH,tS,as8,at3];simp(disch:=omega)[ad,w2,aN,dA, -aue];repeat refine asi ?_
       refine⟨yV c s i k y 2,L+1,⟨ar,hr.next aj⟩,by have:=(hr.next aj).lt;omega,?_⟩;exact fE (yV c s i k y 2) aO fx (by simp[bU,Go.Sv.get]) (by simp[gz])
      | false =>
       have aW:=hv.2 rfl;have qb:=hw.hi _ ad;have aM:gt s.x (gt s.basic i)+gt (gt s.R i) k*(((gt c.high (gt s.basic i)).at' - gt s.x (gt s.basic i)) / gt (gt s.R i) k)=(gt c.high (gt s.basic i)).at':=by have:=Rat.div_mul_cancel (a:=(gt c.high (gt s.basic i)).at' - gt s.x (gt s.basic i)) ai.1;rw[Rat.mul_comm,this];grind
       have q1:qw 2406283016 ((gt c.high (gt s.basic i)).at' - gt s.x (gt s.basic i)):=ay (nL qb qx) (by omega);have q2:qw 2578158016 (((gt c.high (gt s.basic i)).at' - gt s.x (gt s.basic i)) / gt (gt s.R i) k):=ay (kX q1 qR (by omega)) (by omega);simp(disch:=omega)[ad,av,an,hR,cE hR,cP hR];repeat refine asi ?_
       refine aa.jZ (.d 24<|.qs [0,1,2,3,4,5,6,7,8,10,11,12,13,14,15,16,17,18,19]<|.p 9<|.p 20<|.qs [21,22,23]<|.b ( .l 25 [c.m+7]<|.qs [26]<|.nil )) (by kernel_rfl) (by kernel_rfl) (by simp) ?_;simp(disch:=omega)[ad,af,aR,hi,aA,tg,Ri,aB,ac,hR,cE hR];repeat refine asi ?_
       refine fG (ot (gt c.high (gt s.basic i)).at' (gt s.x (gt s.basic i)) (ao qb (by omega)) (ao qx (by omega))) (by simp) ?_;simp;refine fG (oC ((gt c.high (gt s.basic i)).at' - gt s.x (gt s.basic i)) (gt (gt s.R i) k) (ao q1 (by omega)) (ao qR (by omega))) (by simp) ?_;have fs:=AA (y:=((gt c.high (gt s.basic i)).at' - gt s.x (gt s.basic i)) / gt (gt s.R i) k) hb hs hi ac hv ap ai aF (by simpa using aM);generalize ((gt c.high (gt s.basic i)).at' - gt s.x (gt s.basic i)) / gt (gt s.R i) k=y at *;simp(disch:=omega)[vV hR,zF hR];repeat refine asi ?_
       obtain⟨ar,aj⟩:=fs;simp only[Bool.false_eq_true,if_false]at ar aj;have mo:=m6 c s hc hs.t (Z:=5156313832) (W:=171875000) (Y:=2578158016) ac q2 (hW _ _ hs.d hs.t.Rr) (ay (kn hc hw hW hs ac) (by omega)) (λa ha q hq=>Jd hc hw hW hs ac ai.2.1 q2 hq ha) (by omega) (by omega) (by omega);refine dS (tl:=[_,_]) mo hR (by simp) (by simp) ?_;rintro T1 v ⟨rfl,rfl⟩;refine⟨_,rfl,hR,by simp,?_⟩;have t1:ui c { s with x:=fK s k y c.m }:=⟨hs.t.w,by show(fK s k y c.m).length=_;rw[fD];exact af,hs.t.b,hs.t.r,hs.t.R,hs.t.Rr,hs.t.bb⟩;have tn:=pt c { s with x:=fK s k y c.m } hc t1 (W:=171875000) (by omega) (hW _ _ hs.d hs.t.Rr) (by omega) (i:=i) (j:=k) hi ac ai.1;have t2:=t1.yS (i:=i) ac;have w2:(gH { s with x:=fK s k y c.m } i k).wh.length=c.N:=t2.w;simp only[tT,tH,tS,as8,at3];simp(disch:=omega)[];repeat refine asi ?_
       refine dS (s:={ s with x:=fK s k y c.m }) (tl:=[_,_]) tn hR (by simp) (by simp) ?_;rintro T1 v ⟨rfl,rfl⟩;refine⟨_,rfl,t2.R,by simp,?_⟩;have aN:=cf (l:=(gH { s with x:=fK s k y c.m } i k).wh) (i:=gt s.basic i) (by rw[w2];exact ad);have aO:=t2.R;simp only[tT,tH,tS,as8,at3];simp(disch:=omega)[ad,w2,aN,dA, -aue];repeat refine asi ?_
       refine⟨yV c s i k y 3,L+1,⟨ar,hr.next aj⟩,by have:=(hr.next aj).lt;omega,?_⟩;exact fE (yV c s i k y 3) aO fx (by simp[bU,Go.Sv.get]) (by simp[gz])
end Go.Proofs


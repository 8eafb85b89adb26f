/- A text of the prover's own. -/
import Derived.Test.YtnimjdcaajmfcaaGreatDoorVQk
set_option maxRecDepth 20000
namespace Go.Proofs
open Go.Sv Go Go.Pl
def S9(m:Nat)(s T:ByteArray)(neg:Bool)(e tv:Nat):St:=⟨193,[(0,.val (.string s)),(1,.val (.int .i64 m)),(4,.ptr 0 0 0),(5,.ptr 1 0 0),(7,.val (.bool neg)),(8,.val (.int .i64 e)),(10,.val (.string T)),(11,.ptr 3 0 0),(12,.ptr 4 0 0)],
 [q4,fe 0 0,fe 0 (-1),some ⟨2,[e9 tv],false⟩,some ⟨2,[e9 1],false⟩]⟩
theorem RU{s:ByteArray}{a k:Nat}(h:∀i,a<=i->i<a+k->bI s i)(hk:k<=400000000000):eO (nv s a k:Nat):=um (vg h) (by omega)
theorem MD{n:Nat}:(bO 10000 n).length=0↔n=0:=by rw[List.length_eq_zero_iff,bW (by omega)]
theorem QA{C:Ctx}{s T:ByteArray}{m:Nat}{neg:Bool}{e tv k:Nat}(hs:s.size<=4611686018427387904)(hm:m<=4611686018427387904)(ai:min m s.size<=200000000000)(hn:decide (minus s)=neg)(hk:k<=200000000000)(am:tv<10^k)(g:bR s e 47)
  (hq:gm m s=if e+1+m<aK s (e+1) then(0,2,e+1+m) else if aK s (e+1)=e+1∨aK s (e+1)<s.size then(0,1,aK s (e+1)) else if nv s (e+1) (s.size - (e+1))=0 then(0,3,e+1) else(Rat.divInt (jZ s tv) (nv s (e+1) (s.size - (e+1)):Int),0,0)) :
  aa Tryz.prog C (bh 9 iR) (S9 m s T neg e tv) (QP m s):=by
 simp only[iR,Tryz.f109,Option.getD_some,ah,ab];refine aa.go ?_;have h1:=g.1;have h2:=jX.2 g.2;have hd:=po s (e+1) m (by omega) hs hm;have ac:=fy (s:=s) (a:=e+1) (by omega);have an:=jo s (e+1);have ad:=λi (h1:e+1<=i) (h2:i<aK s (e+1))=>dv (s:=s) (a:=e+1) h1 h2;rw[show((e+1:Nat):Int)=(e:Int)+1 by push_cast;rfl]at hd;simp(disch:=omega)[S9,h1,h2,aD];refine awI hd ?_;unfold BE;generalize aK s (e+1)=b at *;by_cases k1:e+1+m<b
 ·rw[if_pos k1]at hq ⊢;simp[fZ,fe,q4];refine aa.awH (.qs [0]<|.q 1 [0]<|.l 2 [0]<|.l 3 [1]<|.nil) ?_;simp[j0,hq,fZ,nT,Sv.Sub,cP]
 ·rw[if_neg k1]at hq ⊢;by_cases k2:b=e+1
  ·rw[if_pos k2];rw[if_pos (.inl k2),k2]at hq;simp[fZ,fe,q4];refine aa.awH (.qs [0]<|.q 1 [0]<|.l 2 [0]<|.l 3 [1]<|.nil) ?_;simp[j0,hq,fZ,nT,Sv.Sub,cP]
  ·rw[if_neg k2];by_cases k3:b<s.size
   ·rw[if_pos (.inr k3)]at hq;simp[fZ,fe,q4,k3];simp[j0,hq,fZ,nT,Sv.Sub,cP]
   ·obtain rfl:b=s.size:=by omega
    rw[if_neg (by omega)]at hq;have aw:=eF s (a:=e+1) ac;have az:=iS ac ad;have aA:=jH s ac _ (show e+1+(s.size - (e+1))<=s.size by omega);have ae:=uq (s.extract (e+1) s.size) (by rw[aw];omega) az;rw[aw,aA]at ae;have aB:eO (nv s (e+1) (s.size - (e+1)):Nat):=RU (λi i1 i2=>ad i i1 (by omega)) (by omega);have ht:=um am (by omega);have mk:=oF neg tv (by have:=ht;unfold eO at this;rwa [Int.natAbs_natCast]at this);rw[show(if neg=true then -((tv:Nat):Int) else((tv:Nat):Int))=jZ s tv from (kD hn _).symm]at mk;have aC:eO (jZ s tv):=by rw[kD hn];split;exact oI.2 ht;exact ht
    generalize nv s (e+1) (s.size - (e+1))=d at *;generalize jZ s tv=Y at *;have z:=MD (n:=d);have hi:((e:Int)+1).toNat=e+1:=by omega
    simp(disch:=omega)[fZ,fe,q4,aD,hi];refine⟨by omega,?_⟩;refine awI ae ?_;by_cases k4:d=0
    ·rw[if_pos k4]at hq;have z':=z.2 k4;simp(disch:=omega)[z',aD];simp[j0,hq,fZ,nT,Sv.Sub,cP]
    ·rw[if_neg k4]at hq;have z':¬(bO 10000 d).length=0:=λh=>k4 (z.1 h);have ov:=oa Y d aC aB (by omega);simp[z'];refine aa.awH (.qs [0,1,2,4,6]<|.l 3 []<|.l 5 []<|.l 7 [0]<|.l 8 [1]<|.nil) ?_;simp;refine awI mk ?_;simp;refine awI ov ?_;simp[j0,hq,fZ]
def XD(m:Nat)(s:ByteArray)(neg:Bool)(st:St):Prop:=∃(N p f k:Nat),k<=400000000000∧N<10^k∧p<=400000000000∧f<=s.size∧gm m s=dC s N p f ∧
 st=⟨193,[(0,.val (.string s)),(4,.ptr 0 0 0),(5,.ptr 1 0 0),(7,.val (.bool neg)),(8,.val (.int .i64 f)),(11,.ptr 3 0 0),(12,.ptr 4 0 0),(15,.val (.int .i64 p))],[q4,fe 0 0,fe 0 (-1),some ⟨2,[e9 N],false⟩,some ⟨2,[e9 1],false⟩]⟩
theorem fp(a b:ByteArray):(a++b).size=a.size+b.size:=by simp
theorem qY(a b:ByteArray)(i:Nat):eL (a++b) i=if i<a.size then eL a i else eL b (i - a.size):=by unfold eL;rw[ByteArray.data_append,Array.getD_eq_getD_getElem?,Array.getElem?_append];have h:a.data.size=a.size:=rfl;rw[h];split<;>rw[Array.getD_eq_getD_getElem?]
theorem Ex(a b:ByteArray):∀k,k<=a.size->nv (a++b) 0 k=nv a 0 k
 | 0,_=>rfl
 | k+1,h=>by simp only[nv,kJ,Nat.zero_add];rw[Ex a b k (by omega),qY,if_pos (by omega)]
theorem Jw(a b:ByteArray):∀k,nv (a++b) a.size k=nv b 0 k
 | 0=>rfl
 | k+1=>by simp only[nv,kJ,Nat.zero_add];rw[Jw a b k,qY,if_neg (by omega),show a.size+k - a.size=k by omega]
theorem NL(a b:ByteArray):nv (a++b) 0 (a++b).size=nv a 0 a.size*10^b.size+nv b 0 b.size:=by rw[fp,zR,Ex a b _ (Nat.le_refl _),Nat.zero_add,Jw]
theorem J9{a b:ByteArray}(ha:∀i,i<a.size->bI a i)(hb:∀i,i<b.size->bI b i):∀i,i<(a++b).size->bI (a++b) i:=λi hi=>by
 refine⟨hi,?_⟩;rw[fp]at hi;unfold kJ;rw[qY];split
 ·rename_i h;exact(ha i h).2
 ·rename_i h;exact(hb (i - a.size) (by omega)).2
theorem XB{C:Ctx}(hC:C.fx=[]){s T:ByteArray}{m:Nat}{neg:Bool}{e tv:Nat}(hs:s.size<=4611686018427387904)(hm:m<=4611686018427387904)(ai:min m s.size<=200000000000)(hn:decide (minus s)=neg)(ag:e<=s.size)
  (hT:∀i,i<T.size->bI T i) (ak:T.size<=200000000000) (am:tv=nv T 0 T.size) (g0:¬bR s e 47)
  (hq:gm m s=if bR s e 46 then if e+1+m<aK s (e+1) then(0,2,e+1+m) else if aK s (e+1)=e+1 then(0,1,e+1) else dC s (tv*10^(aK s (e+1) - (e+1))+nv s (e+1) (aK s (e+1) - (e+1))) (aK s (e+1) - (e+1)) (aK s (e+1)) else dC s tv 0 e) :
  aa Tryz.prog C (bh 9 iR) (S9 m s T neg e tv) (QP m s):=by
 have aq:tv<10^T.size:=by rw[am];exact vg λi _ hi=>hT i (by omega)
 refine aa.cutAt 3 (XD m s neg) ?_ ?_
 ·simp only[iR,Tryz.f109,Option.getD_some,ah,ab,aN,aL];have fin:(e<s.size∧¬((eL s e).toNat:Int)=47)∨¬e<s.size:=by
   by_cases h:e<s.size
   ·exact .inl ⟨h,λh2=>g0 ⟨h,jX (c:=47) |>.1 h2⟩⟩
   ·exact .inr h
  by_cases g:bR s e 46
  ·rw[if_pos g]at hq;have h1:=g.1;have h2:=jX.2 g.2;have h3:=(fin.resolve_right (λh=>h h1)).2;have hd:=po s (e+1) m (by omega) hs hm;have ac:=fy (s:=s) (a:=e+1) (by omega);have an:=jo s (e+1);have ad:=λi (h1:e+1<=i) (h2:i<aK s (e+1))=>dv (s:=s) (a:=e+1) h1 h2;rw[show((e+1:Nat):Int)=(e:Int)+1 by push_cast;rfl]at hd;simp(disch:=omega)[S9,h1,h2,aD];refine awI hd ?_;unfold BE;generalize aK s (e+1)=b at *;by_cases k1:e+1+m<b
   ·rw[if_pos k1]at hq ⊢;simp[fZ,fe,q4];refine aa.awH (.qs [0]<|.q 1 [0]<|.l 2 [0]<|.l 3 [1]<|.nil) ?_;simp[j0,hq,fZ,nT,Sv.Sub,cP]
   ·rw[if_neg k1]at hq ⊢;by_cases k2:b=e+1
    ·rw[if_pos k2]at hq ⊢;simp[fZ,fe,q4];refine aa.awH (.qs [0]<|.q 1 [0]<|.l 2 [0]<|.l 3 [1]<|.nil) ?_;simp[j0,hq,fZ,nT,Sv.Sub,cP]
    ·rw[if_neg k2]at hq ⊢;have ao:=eF s (a:=e+1) ac;have ax:=iS ac ad;have ar:=jH s (a:=e+1) ac (b - (e+1)) (by omega);rw[<-ao]at ar;have ae:=uq (T++s.extract (e+1) b) (by rw[fp,ao];omega) (J9 hT ax);have aF:=vg (s:=s.extract (e+1) b) (a:=0) (k:=(s.extract (e+1) b).size) λi _ hi=>ax i (by omega);rw[NL,<-am,ar,ao]at ae;rw[ar,ao]at aF;have aG:tv*10^(b - (e+1))+nv s (e+1) (b - (e+1))<10^(T.size+(b - (e+1))):=by
      rw[Nat.pow_add];have:=Nat.mul_le_mul_right (10^(b - (e+1))) (show tv+1<=10^T.size from aq);rw[Nat.add_mul]at this;omega
     generalize hN:tv*10^(b - (e+1))+nv s (e+1) (b - (e+1))=N at *;have hi:((e:Int)+1).toNat=e+1:=by omega
     have hp:(b:Int) - e - 1=((b - (e+1):Nat):Int):=by omega
     simp(disch:=omega)[fZ,fe,q4,aD,hi,hp];refine⟨⟨by omega,by omega,ac⟩,by omega,?_⟩;refine awI ae ?_;simp;exact⟨_,⟨N,b - (e+1),b,T.size+(b - (e+1)),by omega,aG,by omega,ac,hq,rfl⟩,by simp[aP,hC,fe,q4,fZ]⟩
  ·rw[if_neg g]at hq;rcases fin with⟨h1,h3⟩ | h1
   ·have h2:¬((eL s e).toNat:Int)=46:=λh2=>g ⟨h1,jX (c:=46) |>.1 h2⟩;simp[S9,h1,h3,h2];exact⟨_,⟨tv,0,e,T.size,by omega,aq,by omega,ag,hq,rfl⟩,by simp[aP,hC,fe,q4,fZ]⟩
   ·simp[S9,h1];exact⟨_,⟨tv,0,e,T.size,by omega,aq,by omega,ag,hq,rfl⟩,by simp[aP,hC,fe,q4,fZ]⟩
 ·rintro st ⟨N,p,f,k,h1,h2,h3,h4,h5,rfl⟩;exact WM hC hs hn h1 h2 h3 h4 h5
def XH(m:Nat)(s:ByteArray)(st:St):Prop:=st=⟨193,[(0,.val (.string s)),(1,.val (.int .i64 m)),(4,.ptr 0 0 0),(5,.ptr 1 0 0),(6,.val (.int .i64 (av s))),(7,.val (.bool (decide (minus s))))],[q4,fe 0 0]⟩
def XJ(m:Nat)(s:ByteArray)(a b:Nat)(st:St):Prop:=¬a+m<b∧¬b=a∧st=S9 m s (s.extract a b) (decide (minus s)) b (nv s a (b - a))
theorem adU{C:Ctx}(hC:C.fx=[]){s:ByteArray}{m:Nat}(hs:s.size<=4611686018427387904)(hm:m<=4611686018427387904)(ai:min m s.size<=200000000000)(h1:¬av s+m<aK s (av s))(h2:¬aK s (av s)=av s) :
  aa Tryz.prog C (bh 9 iR) (S9 m s (s.extract (av s) (aK s (av s))) (decide (minus s)) (aK s (av s)) (nv s (av s) (aK s (av s) - av s))) (QP m s):=by
 have ha:=kI s;have ag:=fy (s:=s) (a:=av s) ha;have an:=jo s (av s);have ad:=λi (h1:av s<=i) (h2:i<aK s (av s))=>dv (s:=s) (a:=av s) h1 h2;have ak:=eF s (a:=av s) ag;have au:=iS ag ad;have ap:=jH s (a:=av s) ag (aK s (av s) - av s) (by omega);rw[<-ak]at ap;have hq:gm m s=_:=rfl;rw[show gm m s=_ from by unfold gm;rw[if_neg h1,if_neg h2]]at hq;by_cases g:bR s (aK s (av s)) 47
 ·refine QA (k:=aK s (av s) - av s) hs hm ai rfl (by omega) (vg λi i1 i2=>ad i i1 (by omega)) g ?_;unfold gm;rw[if_neg h1,if_neg h2,if_pos g]
 ·refine XB hC hs hm ai rfl ag au (by omega) (by rw[ap,ak]) g ?_;unfold gm;rw[if_neg h1,if_neg h2,if_neg g]
theorem C1(s:ByteArray)(m:Nat)(hs:s.size<=4611686018427387904)(hm:m<=4611686018427387904)(ai:min m s.size<=200000000000):aE Tryz.prog 109 [.val (.string s),.val (.int .i64 m)] (j0 (gm m s)):=by
 refine jA Tryz.func109 rfl (by simp) (λC hC=>?_);refine aa.cutAt 4 (XH m s) ?_ ?_
 ·by_cases hz:0<s.size
  ·have ay:s≠ByteArray.empty:=λh=>by rw[h]at hz;exact absurd hz (by decide)
   by_cases hb:((eL s 0).toNat:Int)=45
   ·have af:minus s:=⟨hz,jX (c:=45) |>.1 hb⟩;have al:av s=1:=by simp[av,af]
    simp[hz,hb];exact⟨_,rfl,by simp[aP,hC,fe,q4,fZ,af,al]⟩
   ·have af:¬minus s:=λh=>hb (jX (c:=45) |>.2 h.2);have al:av s=0:=by simp[av,af]
    simp[hz,hb];exact⟨_,rfl,by simp[aP,hC,fe,q4,fZ,af,al]⟩
  ·have af:¬minus s:=λh=>hz h.1;have al:av s=0:=by simp[av,af]
   simp[hz];exact⟨_,rfl,by simp[aP,hC,fe,q4,fZ,af,al]⟩
 ·rintro st rfl;refine aa.cutAt 5 (XJ m s (av s) (aK s (av s))) ?_ ?_
  ·have ha:=kI s;have hd:=po s (av s) m ha hs hm;have ac:=fy (s:=s) (a:=av s) ha;have an:=jo s (av s);have ad:=λi (h1:av s<=i) (h2:i<aK s (av s))=>dv (s:=s) (a:=av s) h1 h2;simp only[ah,ab,aN,aL];have aH:av s+m<aK s (av s)->gm m s=(0,2,av s+m):=λh1=>by unfold gm;rw[if_pos h1]
   have aI:¬av s+m<aK s (av s)->aK s (av s)=av s->gm m s=(0,1,av s):=λh1 h2=>by unfold gm;rw[if_neg h1,if_pos h2]
   unfold BE at hd;generalize aK s (av s)=b at *;generalize av s=a at *;simp;refine awI hd ?_;by_cases k1:a+m<b
   ·have hq:=aH k1;rw[if_pos k1];simp[fZ,fe,q4];refine aa.awH (.qs [0]<|.q 1 [0]<|.l 2 [0]<|.l 3 [1]<|.nil) ?_;simp[j0,hq,fZ,nT,Sv.Sub,cP]
   ·rw[if_neg k1];by_cases k2:b=a
    ·have hq:=aI k1 k2;rw[if_pos k2];simp[fZ,fe,q4];refine aa.awH (.qs [0]<|.q 1 [0]<|.l 2 [0]<|.l 3 [1]<|.nil) ?_;simp[j0,hq,fZ,nT,Sv.Sub,cP]
    ·rw[if_neg k2];have ak:=eF s (a:=a) ac;have au:=iS ac ad;have ap:=jH s (a:=a) ac (b - a) (by omega);have ae:=uq (s.extract a b) (by omega) au;rw[ak,ap]at ae;simp(disch:=omega)[fZ,fe,q4];refine⟨⟨an,ac⟩,?_⟩;refine awI ae ?_;simp;refine awI (kd 1 (by omega) (by omega)) ?_;simp;exact⟨_,⟨k1,k2,rfl⟩,by simp[aP,hC,S9,fe,q4,fZ]⟩
  ·rintro st ⟨h1,h2,rfl⟩;exact adU hC hs hm ai h1 h2
theorem CK(s:ByteArray)(hs:s.size<=4611686018427387904):aE Tryz.prog 66 [.val (.string s)] (j0 (gm 300 s)):=by
 refine aj Tryz.func66 rfl (by simp) (λC hC=>?_);have hq:=C1 s 300 hs (by omega) (by omega);rw[show((300:Nat):Int)=300 from rfl]at hq;generalize gm 300 s=r at *;obtain⟨x,c,a⟩:=r;by_cases h:c=0
 ·subst h;simp only[j0,if_pos]at hq;simp;refine awI hq ?_;simp[j0,fZ]
 ·simp only[j0,if_neg h]at hq;simp;refine awI hq ?_;simp[j0,h,fZ,nT]
end Go.Proofs
namespace Go.Proofs
open Go.Sv Go Go.Pl
theorem y4{k:Nat}{s:ByteArray}{n:Nat}(h:fw k (n:Nat)):fw k (jZ s n):=by
 unfold jZ;split
 ·exact Po h
 ·exact h
theorem cC{k:Nat}(h:1<=k):qw k 0:=⟨kF k,mM h⟩
theorem Ii{s:ByteArray}{a m:Nat}(ha:a<=s.size)(h:¬a+m<aK s a)(hm:m<=400):fw 400 (nv s a (aK s a - a):Nat):=by have:=jo s a;exact Nt (λi h1 h2=>dv h1 (by omega)) (by omega)
theorem FX{s:ByteArray}{N p e:Nat}(hN:fw 2000 (N:Nat))(hp:p<=300):qw 2200 (dC s N p e).1:=by
 have hP:∀i,i<=400->fw 2200 ((10^i:Nat):Int):=λi hi=>gG (rq hi) (by omega);unfold dC;split
 ·split
  ·exact cC (by omega)
  split
  ·exact cC (by omega)
  split
  ·exact cC (by omega)
  split
  ·exact kc (y4 (gG hN (by omega))) (hP _ (by omega)) (by omega)
  ·refine kc (y4 ?_) (hP _ (by omega)) (by omega);have:=iD hN (rq (i:=nv s (cz s e) (s.size - cz s e)) (by omega));exact gG (by simpa using this) (by omega)
 ·split
  ·exact cC (by omega)
  ·exact kc (y4 (gG hN (by omega))) (hP _ (by omega)) (by omega)
theorem Ed(s:ByteArray):qw 2200 (gm 300 s).1:=by
 have ha:=kI s;have hb:=fy (s:=s) (a:=av s) ha;unfold gm;split
 ·exact cC (by omega)
 rename_i h1;split
 ·exact cC (by omega)
 have hT:=Ii ha h1 (by omega);split
 ·rename_i g;split
  ·exact cC (by omega)
  rename_i h2;split
  ·exact cC (by omega)
  rename_i h3;split
  ·exact cC (by omega)
  have hd:=Ii g.1 h2 (by omega);have he:=fy (s:=s) (a:=aK s (av s)+1) g.1;have:aK s (aK s (av s)+1)=s.size:=by omega
  rw[this]at hd;exact kc (y4 (gG hT (by omega))) (gG hd (by omega)) (by omega)
 split
 ·rename_i g;split
  ·exact cC (by omega)
  rename_i h2;split
  ·exact cC (by omega)
  have hd:=Ii g.1 h2 (by omega);have hl:=jo s (aK s (av s)+1);refine FX ?_ (by omega);have:=Bj (gG (iD hT (rq (i:=aK s (aK s (av s)+1) - (aK s (av s)+1)) (by omega))) (show 400+100<=1000 by omega)) (gG hd (show 400<=1000 by omega));exact gG (by simpa using this) (by omega)
 ·exact FX (gG hT (by omega)) (by omega)
end Go.Proofs


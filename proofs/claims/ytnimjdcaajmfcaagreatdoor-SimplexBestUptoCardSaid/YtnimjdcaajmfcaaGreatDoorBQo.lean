/- A text of the prover's own. -/
import Derived.Test.YtnimjdcaajmfcaaGreatDoorBQk
set_option maxRecDepth 20000
namespace Go.Proofs
open Go.Sv Go Go.Pl
def S9(m:Nat)(s T:ByteArray)(neg:Bool)(e tv:Nat):St:=⟨193,[(0,.val (.string s)),(1,.val (.int .i64 m)),(4,.ptr 0 0 0),(5,.ptr 1 0 0),(7,.val (.bool neg)),(8,.val (.int .i64 e)),(10,.val (.string T)),(11,.ptr 3 0 0),(12,.ptr 4 0 0)],
 [q4,fe 0 0,fe 0 (-1),some ⟨2,[eL tv],false⟩,some ⟨2,[eL 1],false⟩]⟩
theorem Qb{s:ByteArray}{a k:Nat}(h:∀i,a<=i->i<a+k->bA s i)(hk:k<=400000000000):eG (nv s a k:Nat):=rS (vS h) (by omega)
theorem JE{n:Nat}:(bO 10000 n).length=0↔n=0:=by rw[List.length_eq_zero_iff,bX (by omega)]
theorem MA{C:Ctx}{s T:ByteArray}{m:Nat}{neg:Bool}{e tv k:Nat}(hs:s.size<=4611686018427387904)(hm:m<=4611686018427387904)(ag:min m s.size<=200000000000)(hn:decide (minus s)=neg)(hk:k<=200000000000)(am:tv<10^k)(g:bK s e 47)
  (hq:fy m s=if e+1+m<aJ s (e+1) then(0,2,e+1+m) else if aJ s (e+1)=e+1∨aJ s (e+1)<s.size then(0,1,aJ s (e+1)) else if nv s (e+1) (s.size - (e+1))=0 then(0,3,e+1) else(Rat.divInt (jc s tv) (nv s (e+1) (s.size - (e+1)):Int),0,0)) :
  aa Tryz.prog C (bs 9 ij) (S9 m s T neg e tv) (QP m s):=by
 simp only[ij,Tryz.f109,Option.getD_some,ai,ah];refine aa.go ?_;have h1:=g.1;have h2:=jh.2 g.2;have hd:=nT s (e+1) m (by omega) hs hm;have ab:=eY (s:=s) (a:=e+1) (by omega);have an:=iI s (e+1);have ac:=λi (h1:e+1<=i) (h2:i<aJ s (e+1))=>di (s:=s) (a:=e+1) h1 h2;rw[show((e+1:Nat):Int)=(e:Int)+1 by push_cast;rfl]at hd;simp(disch:=omega)[S9,h1,h2,aK];refine asl hd ?_;unfold zH;generalize aJ s (e+1)=b at *;by_cases k1:e+1+m<b
 ·rw[if_pos k1]at hq ⊢;simp[fC,fe,q4];refine aa.asj (.qs [0]<|.q 1 [0]<|.l 2 [0]<|.l 3 [1]<|.nil) ?_;simp[iW,hq,fC,mD,Sv.Sub,cK]
 ·rw[if_neg k1]at hq ⊢;by_cases k2:b=e+1
  ·rw[if_pos k2];rw[if_pos (.inl k2),k2]at hq;simp[fC,fe,q4];refine aa.asj (.qs [0]<|.q 1 [0]<|.l 2 [0]<|.l 3 [1]<|.nil) ?_;simp[iW,hq,fC,mD,Sv.Sub,cK]
  ·rw[if_neg k2];by_cases k3:b<s.size
   ·rw[if_pos (.inr k3)]at hq;simp[fC,fe,q4,k3];simp[iW,hq,fC,mD,Sv.Sub,cK]
   ·obtain rfl:b=s.size:=by omega
    rw[if_neg (by omega)]at hq;have aw:=dZ s (a:=e+1) ab;have az:=hO ab ac;have aA:=jr s ab _ (show e+1+(s.size - (e+1))<=s.size by omega);have ad:=si (s.extract (e+1) s.size) (by rw[aw];omega) az;rw[aw,aA]at ad;have aB:eG (nv s (e+1) (s.size - (e+1)):Nat):=Qb (λi i1 i2=>ac i i1 (by omega)) (by omega);have ht:=rS am (by omega);have mk:=na neg tv (by have:=ht;unfold eG at this;rwa [Int.natAbs_natCast]at this);rw[show(if neg=true then -((tv:Nat):Int) else((tv:Nat):Int))=jc s tv from (jO hn _).symm]at mk;have aC:eG (jc s tv):=by rw[jO hn];split;exact mT.2 ht;exact ht
    generalize nv s (e+1) (s.size - (e+1))=d at *;generalize jc s tv=Y at *;have z:=JE (n:=d);have hi:((e:Int)+1).toNat=e+1:=by omega
    simp(disch:=omega)[fC,fe,q4,aK,hi];refine⟨by omega,?_⟩;refine asl ad ?_;by_cases k4:d=0
    ·rw[if_pos k4]at hq;have z':=z.2 k4;simp(disch:=omega)[z',aK];simp[iW,hq,fC,mD,Sv.Sub,cK]
    ·rw[if_neg k4]at hq;have z':¬(bO 10000 d).length=0:=λh=>k4 (z.1 h);have ov:=pG Y d aC aB (by omega);simp[z'];refine aa.asj (.qs [0,1,2,4,6]<|.l 3 []<|.l 5 []<|.l 7 [0]<|.l 8 [1]<|.nil) ?_;simp;refine asl mk ?_;simp;refine asl ov ?_;simp[iW,hq,fC]
def XD(m:Nat)(s:ByteArray)(neg:Bool)(st:St):Prop:=∃(N p f k:Nat),k<=400000000000∧N<10^k∧p<=400000000000∧f<=s.size∧fy m s=da s N p f ∧
 st=⟨193,[(0,.val (.string s)),(4,.ptr 0 0 0),(5,.ptr 1 0 0),(7,.val (.bool neg)),(8,.val (.int .i64 f)),(11,.ptr 3 0 0),(12,.ptr 4 0 0),(15,.val (.int .i64 p))],[q4,fe 0 0,fe 0 (-1),some ⟨2,[eL N],false⟩,some ⟨2,[eL 1],false⟩]⟩
theorem eO(a b:ByteArray):(a++b).size=a.size+b.size:=by simp
theorem py(a b:ByteArray)(i:Nat):eH (a++b) i=if i<a.size then eH a i else eH b (i - a.size):=by unfold eH;rw[ByteArray.data_append,Array.getD_eq_getD_getElem?,Array.getElem?_append];have h:a.data.size=a.size:=rfl;rw[h];split<;>rw[Array.getD_eq_getD_getElem?]
theorem B7(a b:ByteArray):∀k,k<=a.size->nv (a++b) 0 k=nv a 0 k
 | 0,_=>rfl
 | k+1,h=>by simp only[nv,jS,Nat.zero_add];rw[B7 a b k (by omega),py,if_pos (by omega)]
theorem HK(a b:ByteArray):∀k,nv (a++b) a.size k=nv b 0 k
 | 0=>rfl
 | k+1=>by simp only[nv,jS,Nat.zero_add];rw[HK a b k,py,if_neg (by omega),show a.size+k - a.size=k by omega]
theorem Mi(a b:ByteArray):nv (a++b) 0 (a++b).size=nv a 0 a.size*10^b.size+nv b 0 b.size:=by rw[eO,xD,B7 a b _ (Nat.le_refl _),Nat.zero_add,HK]
theorem Ht{a b:ByteArray}(ha:∀i,i<a.size->bA a i)(hb:∀i,i<b.size->bA b i):∀i,i<(a++b).size->bA (a++b) i:=λi hi=>by
 refine⟨hi,?_⟩;rw[eO]at hi;unfold jS;rw[py];split
 ·rename_i h;exact(ha i h).2
 ·rename_i h;exact(hb (i - a.size) (by omega)).2
theorem T4{C:Ctx}(hC:C.fx=[]){s T:ByteArray}{m:Nat}{neg:Bool}{e tv:Nat}(hs:s.size<=4611686018427387904)(hm:m<=4611686018427387904)(ag:min m s.size<=200000000000)(hn:decide (minus s)=neg)(af:e<=s.size)
  (hT:∀i,i<T.size->bA T i) (ak:T.size<=200000000000) (am:tv=nv T 0 T.size) (g0:¬bK s e 47)
  (hq:fy m s=if bK s e 46 then if e+1+m<aJ s (e+1) then(0,2,e+1+m) else if aJ s (e+1)=e+1 then(0,1,e+1) else da s (tv*10^(aJ s (e+1) - (e+1))+nv s (e+1) (aJ s (e+1) - (e+1))) (aJ s (e+1) - (e+1)) (aJ s (e+1)) else da s tv 0 e) :
  aa Tryz.prog C (bs 9 ij) (S9 m s T neg e tv) (QP m s):=by
 have aq:tv<10^T.size:=by rw[am];exact vS λi _ hi=>hT i (by omega)
 refine aa.cutAt 3 (XD m s neg) ?_ ?_
 ·simp only[ij,Tryz.f109,Option.getD_some,ai,ah,aN,aM];have fin:(e<s.size∧¬((eH s e).toNat:Int)=47)∨¬e<s.size:=by
   by_cases h:e<s.size
   ·exact .inl ⟨h,λh2=>g0 ⟨h,jh (c:=47) |>.1 h2⟩⟩
   ·exact .inr h
  by_cases g:bK s e 46
  ·rw[if_pos g]at hq;have h1:=g.1;have h2:=jh.2 g.2;have h3:=(fin.resolve_right (λh=>h h1)).2;have hd:=nT s (e+1) m (by omega) hs hm;have ab:=eY (s:=s) (a:=e+1) (by omega);have an:=iI s (e+1);have ac:=λi (h1:e+1<=i) (h2:i<aJ s (e+1))=>di (s:=s) (a:=e+1) h1 h2;rw[show((e+1:Nat):Int)=(e:Int)+1 by push_cast;rfl]at hd;simp(disch:=omega)[S9,h1,h2,aK];refine asl hd ?_;unfold zH;generalize aJ s (e+1)=b at *;by_cases k1:e+1+m<b
   ·rw[if_pos k1]at hq ⊢;simp[fC,fe,q4];refine aa.asj (.qs [0]<|.q 1 [0]<|.l 2 [0]<|.l 3 [1]<|.nil) ?_;simp[iW,hq,fC,mD,Sv.Sub,cK]
   ·rw[if_neg k1]at hq ⊢;by_cases k2:b=e+1
    ·rw[if_pos k2]at hq ⊢;simp[fC,fe,q4];refine aa.asj (.qs [0]<|.q 1 [0]<|.l 2 [0]<|.l 3 [1]<|.nil) ?_;simp[iW,hq,fC,mD,Sv.Sub,cK]
    ·rw[if_neg k2]at hq ⊢;have ao:=dZ s (a:=e+1) ab;have ax:=hO ab ac;have ar:=jr s (a:=e+1) ab (b - (e+1)) (by omega);rw[<-ao]at ar;have ad:=si (T++s.extract (e+1) b) (by rw[eO,ao];omega) (Ht hT ax);have aD:=vS (s:=s.extract (e+1) b) (a:=0) (k:=(s.extract (e+1) b).size) λi _ hi=>ax i (by omega);rw[Mi,<-am,ar,ao]at ad;rw[ar,ao]at aD;have aE:tv*10^(b - (e+1))+nv s (e+1) (b - (e+1))<10^(T.size+(b - (e+1))):=by
      rw[Nat.pow_add];have:=Nat.mul_le_mul_right (10^(b - (e+1))) (show tv+1<=10^T.size from aq);rw[Nat.add_mul]at this;omega
     generalize hN:tv*10^(b - (e+1))+nv s (e+1) (b - (e+1))=N at *;have hi:((e:Int)+1).toNat=e+1:=by omega
     have hp:(b:Int) - e - 1=((b - (e+1):Nat):Int):=by omega
     simp(disch:=omega)[fC,fe,q4,aK,hi,hp];refine⟨⟨by omega,by omega,ab⟩,by omega,?_⟩;refine asl ad ?_;simp;exact⟨_,⟨N,b - (e+1),b,T.size+(b - (e+1)),by omega,aE,by omega,ab,hq,rfl⟩,by simp[aR,hC,fe,q4,fC]⟩
  ·rw[if_neg g]at hq;rcases fin with⟨h1,h3⟩ | h1
   ·have h2:¬((eH s e).toNat:Int)=46:=λh2=>g ⟨h1,jh (c:=46) |>.1 h2⟩;simp[S9,h1,h3,h2];exact⟨_,⟨tv,0,e,T.size,by omega,aq,by omega,af,hq,rfl⟩,by simp[aR,hC,fe,q4,fC]⟩
   ·simp[S9,h1];exact⟨_,⟨tv,0,e,T.size,by omega,aq,by omega,af,hq,rfl⟩,by simp[aR,hC,fe,q4,fC]⟩
 ·rintro st ⟨N,p,f,k,h1,h2,h3,h4,h5,rfl⟩;exact Tg hC hs hn h1 h2 h3 h4 h5
def XH(m:Nat)(s:ByteArray)(st:St):Prop:=st=⟨193,[(0,.val (.string s)),(1,.val (.int .i64 m)),(4,.ptr 0 0 0),(5,.ptr 1 0 0),(6,.val (.int .i64 (au s))),(7,.val (.bool (decide (minus s))))],[q4,fe 0 0]⟩
def XJ(m:Nat)(s:ByteArray)(a b:Nat)(st:St):Prop:=¬a+m<b∧¬b=a∧st=S9 m s (s.extract a b) (decide (minus s)) b (nv s a (b - a))
theorem X8{C:Ctx}(hC:C.fx=[]){s:ByteArray}{m:Nat}(hs:s.size<=4611686018427387904)(hm:m<=4611686018427387904)(ag:min m s.size<=200000000000)(h1:¬au s+m<aJ s (au s))(h2:¬aJ s (au s)=au s) :
  aa Tryz.prog C (bs 9 ij) (S9 m s (s.extract (au s) (aJ s (au s))) (decide (minus s)) (aJ s (au s)) (nv s (au s) (aJ s (au s) - au s))) (QP m s):=by
 have ha:=jX s;have af:=eY (s:=s) (a:=au s) ha;have an:=iI s (au s);have ac:=λi (h1:au s<=i) (h2:i<aJ s (au s))=>di (s:=s) (a:=au s) h1 h2;have ak:=dZ s (a:=au s) af;have av:=hO af ac;have ap:=jr s (a:=au s) af (aJ s (au s) - au s) (by omega);rw[<-ak]at ap;have hq:fy m s=_:=rfl;rw[show fy m s=_ from by unfold fy;rw[if_neg h1,if_neg h2]]at hq;by_cases g:bK s (aJ s (au s)) 47
 ·refine MA (k:=aJ s (au s) - au s) hs hm ag rfl (by omega) (vS λi i1 i2=>ac i i1 (by omega)) g ?_;unfold fy;rw[if_neg h1,if_neg h2,if_pos g]
 ·refine T4 hC hs hm ag rfl af av (by omega) (by rw[ap,ak]) g ?_;unfold fy;rw[if_neg h1,if_neg h2,if_neg g]
theorem Ba(s:ByteArray)(m:Nat)(hs:s.size<=4611686018427387904)(hm:m<=4611686018427387904)(ag:min m s.size<=200000000000):aG Tryz.prog 109 [.val (.string s),.val (.int .i64 m)] (iW (fy m s)):=by
 refine jT Tryz.func109 rfl (by simp) (λC hC=>?_);refine aa.cutAt 4 (XH m s) ?_ ?_
 ·by_cases hz:0<s.size
  ·have ay:s≠ByteArray.empty:=λh=>by rw[h]at hz;exact absurd hz (by decide)
   by_cases hb:((eH s 0).toNat:Int)=45
   ·have ae:minus s:=⟨hz,jh (c:=45) |>.1 hb⟩;have al:au s=1:=by simp[au,ae]
    simp[hz,hb];exact⟨_,rfl,by simp[aR,hC,fe,q4,fC,ae,al]⟩
   ·have ae:¬minus s:=λh=>hb (jh (c:=45) |>.2 h.2);have al:au s=0:=by simp[au,ae]
    simp[hz,hb];exact⟨_,rfl,by simp[aR,hC,fe,q4,fC,ae,al]⟩
  ·have ae:¬minus s:=λh=>hz h.1;have al:au s=0:=by simp[au,ae]
   simp[hz];exact⟨_,rfl,by simp[aR,hC,fe,q4,fC,ae,al]⟩
 ·rintro st rfl;refine aa.cutAt 5 (XJ m s (au s) (aJ s (au s))) ?_ ?_
  ·have ha:=jX s;have hd:=nT s (au s) m ha hs hm;have ab:=eY (s:=s) (a:=au s) ha;have an:=iI s (au s);have ac:=λi (h1:au s<=i) (h2:i<aJ s (au s))=>di (s:=s) (a:=au s) h1 h2;simp only[ai,ah,aN,aM];have aF:au s+m<aJ s (au s)->fy m s=(0,2,au s+m):=λh1=>by unfold fy;rw[if_pos h1]
   have aH:¬au s+m<aJ s (au s)->aJ s (au s)=au s->fy m s=(0,1,au s):=λh1 h2=>by unfold fy;rw[if_neg h1,if_pos h2]
   unfold zH at hd;generalize aJ s (au s)=b at *;generalize au s=a at *;simp;refine asl hd ?_;by_cases k1:a+m<b
   ·have hq:=aF k1;rw[if_pos k1];simp[fC,fe,q4];refine aa.asj (.qs [0]<|.q 1 [0]<|.l 2 [0]<|.l 3 [1]<|.nil) ?_;simp[iW,hq,fC,mD,Sv.Sub,cK]
   ·rw[if_neg k1];by_cases k2:b=a
    ·have hq:=aH k1 k2;rw[if_pos k2];simp[fC,fe,q4];refine aa.asj (.qs [0]<|.q 1 [0]<|.l 2 [0]<|.l 3 [1]<|.nil) ?_;simp[iW,hq,fC,mD,Sv.Sub,cK]
    ·rw[if_neg k2];have ak:=dZ s (a:=a) ab;have av:=hO ab ac;have ap:=jr s (a:=a) ab (b - a) (by omega);have ad:=si (s.extract a b) (by omega) av;rw[ak,ap]at ad;simp(disch:=omega)[fC,fe,q4];refine⟨⟨an,ab⟩,?_⟩;refine asl ad ?_;simp;refine asl (jy 1 (by omega) (by omega)) ?_;simp;exact⟨_,⟨k1,k2,rfl⟩,by simp[aR,hC,S9,fe,q4,fC]⟩
  ·rintro st ⟨h1,h2,rfl⟩;exact X8 hC hs hm ag h1 h2
theorem uv(s:ByteArray)(hs:s.size<=4611686018427387904):aG Tryz.prog 66 [.val (.string s)] (iW (fy 300 s)):=by
 refine aj Tryz.func66 rfl (by simp) (λC hC=>?_);have hq:=Ba s 300 hs (by omega) (by omega);rw[show((300:Nat):Int)=300 from rfl]at hq;generalize fy 300 s=r at *;obtain⟨x,c,a⟩:=r;by_cases h:c=0
 ·subst h;simp only[iW,if_pos]at hq;simp;refine asl hq ?_;simp[iW,fC]
 ·simp only[iW,if_neg h]at hq;simp;refine asl hq ?_;simp[iW,h,fC,mD]
end Go.Proofs
namespace Go.Proofs
open Go.Sv Go Go.Pl
theorem wW{k:Nat}{s:ByteArray}{n:Nat}(h:fw k (n:Nat)):fw k (jc s n):=by
 unfold jc;split
 ·exact Mb h
 ·exact h
theorem cL{k:Nat}(h:1<=k):qw k 0:=⟨jK k,k7 h⟩
theorem Gu{s:ByteArray}{a m:Nat}(ha:a<=s.size)(h:¬a+m<aJ s a)(hm:m<=400):fw 400 (nv s a (aJ s a - a):Nat):=by have:=iI s a;exact KX (λi h1 h2=>di h1 (by omega)) (by omega)
theorem Db{s:ByteArray}{N p e:Nat}(hN:fw 2000 (N:Nat))(hp:p<=300):qw 2200 (da s N p e).1:=by
 have hP:∀i,i<=400->fw 2200 ((10^i:Nat):Int):=λi hi=>fQ (pq hi) (by omega);unfold da;split
 ·split
  ·exact cL (by omega)
  split
  ·exact cL (by omega)
  split
  ·exact cL (by omega)
  split
  ·exact jx (wW (fQ hN (by omega))) (hP _ (by omega)) (by omega)
  ·refine jx (wW ?_) (hP _ (by omega)) (by omega);have:=gV hN (pq (i:=nv s (ch s e) (s.size - ch s e)) (by omega));exact fQ (by simpa using this) (by omega)
 ·split
  ·exact cL (by omega)
  ·exact jx (wW (fQ hN (by omega))) (hP _ (by omega)) (by omega)
theorem xE(s:ByteArray):qw 2200 (fy 300 s).1:=by
 have ha:=jX s;have hb:=eY (s:=s) (a:=au s) ha;unfold fy;split
 ·exact cL (by omega)
 rename_i h1;split
 ·exact cL (by omega)
 have hT:=Gu ha h1 (by omega);split
 ·rename_i g;split
  ·exact cL (by omega)
  rename_i h2;split
  ·exact cL (by omega)
  rename_i h3;split
  ·exact cL (by omega)
  have hd:=Gu g.1 h2 (by omega);have he:=eY (s:=s) (a:=aJ s (au s)+1) g.1;have:aJ s (aJ s (au s)+1)=s.size:=by omega
  rw[this]at hd;exact jx (wW (fQ hT (by omega))) (fQ hd (by omega)) (by omega)
 split
 ·rename_i g;split
  ·exact cL (by omega)
  rename_i h2;split
  ·exact cL (by omega)
  have hd:=Gu g.1 h2 (by omega);have hl:=iI s (aJ s (au s)+1);refine Db ?_ (by omega);have:=yX (fQ (gV hT (pq (i:=aJ s (aJ s (au s)+1) - (aJ s (au s)+1)) (by omega))) (show 400+100<=1000 by omega)) (fQ hd (show 400<=1000 by omega));exact fQ (by simpa using this) (by omega)
 ·exact Db (fQ hT (by omega)) (by omega)
end Go.Proofs


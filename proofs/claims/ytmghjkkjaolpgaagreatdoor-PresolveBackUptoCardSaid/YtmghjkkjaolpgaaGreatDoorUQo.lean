/- A text of the prover's own. -/
import Derived.Test.YtmghjkkjaolpgaaGreatDoorUQk
set_option maxRecDepth 20000
namespace Go.Proofs
open Go.Sv Go Go.Pl
def S9(m:Nat)(s T:ByteArray)(neg:Bool)(e tv:Nat):St:=⟨193,[(0,.val (.string s)),(1,.val (.int .i64 m)),(4,.ptr 0 0 0),(5,.ptr 1 0 0),(7,.val (.bool neg)),(8,.val (.int .i64 e)),(10,.val (.string T)),(11,.ptr 3 0 0),(12,.ptr 4 0 0)],
 [q4,fe 0 0,fe 0 (-1),some ⟨2,[eJ tv],false⟩,some ⟨2,[eJ 1],false⟩]⟩
theorem Kc{s:ByteArray}{a k:Nat}(h:∀i,a≤i→i<a+k→bj s i)(hk:k≤400000000000):eE (nv s a k:Nat):=pR (rA h) (by omega)
theorem Fy{n:Nat}:(bB 10000 n).length=0↔n=0:=by rw[List.length_eq_zero_iff,bL (by omega)]
theorem JJ{C:Ctx}{s T:ByteArray}{m:Nat}{neg:Bool}{e tv k:Nat}(hs:s.size≤4611686018427387904)(hm:m≤4611686018427387904)(hms:min m s.size≤200000000000)(hn:decide (minus s)=neg)(hk:k≤200000000000)(htv:tv<10^k)(g:bA s e 47)
  (hq:eH m s=if e+1+m<aw s (e+1) then(0,2,e+1+m) else if aw s (e+1)=e+1∨aw s (e+1)<s.size then(0,1,aw s (e+1)) else if nv s (e+1) (s.size - (e+1))=0 then(0,3,e+1) else(Rat.divInt (iO s tv) (nv s (e+1) (s.size - (e+1)):Int),0,0)) :
  ae Tryz.prog C (fk 9 gu) (S9 m s T neg e tv) (QP m s):=by
 simp only[gu,Tryz.f84,Option.getD_some,ax,au];refine ae.go ?_;have h1:=g.1;have h2:=iM.2 g.2;have hd:=lV s (e+1) m (by omega) hs hm;have hbs:=dI (s:=s) (a:=e+1) (by omega);have hge:=fD s (e+1);have hLd:=fun i (h1:e+1≤i) (h2:i<aw s (e+1))=>cV (s:=s) (a:=e+1) h1 h2;rw[show((e+1:Nat):Int)=(e:Int)+1 by push_cast;rfl]at hd;simp(disch:=omega)[S9,h1,h2,aP];refine alT hd ?_;unfold xa;generalize aw s (e+1)=b at *;by_cases k1:e+1+m<b
 ·rw[if_pos k1]at hq ⊢;simp[eS,fe,q4];refine ae.alS (.qs [0]<|.q 1 [0]<|.l 2 [0]<|.l 3 [1]<|.nil) ?_;simp[iu,hq,eS,kH,Sv.Sub,cA]
 ·rw[if_neg k1]at hq ⊢;by_cases k2:b=e+1
  ·rw[if_pos k2];rw[if_pos (.inl k2),k2]at hq;simp[eS,fe,q4];refine ae.alS (.qs [0]<|.q 1 [0]<|.l 2 [0]<|.l 3 [1]<|.nil) ?_;simp[iu,hq,eS,kH,Sv.Sub,cA]
  ·rw[if_neg k2];by_cases k3:b<s.size
   ·rw[if_pos (.inr k3)]at hq;simp[eS,fe,q4,k3];simp[iu,hq,eS,kH,Sv.Sub,cA]
   ·obtain rfl:b=s.size:=by omega
    rw[if_neg (by omega)]at hq;have hLz:=ef s (a:=e+1) hbs;have hLa:=gp hbs hLd;have hLn:=iA s hbs _ (show e+1+(s.size - (e+1))≤s.size by omega);have hfg:=pt (s.extract (e+1) s.size) (by rw[hLz];omega) hLa;rw[hLz,hLn]at hfg;have hdf:eE (nv s (e+1) (s.size - (e+1)):Nat):=Kc (fun i i1 i2=>hLd i i1 (by omega)) (by omega);have ht:=pR htv (by omega);have mk:=lP neg tv (by have:=ht;unfold eE at this;rwa [Int.natAbs_natCast]at this);rw[show(if neg=true then -((tv:Nat):Int) else((tv:Nat):Int))=iO s tv from (js hn _).symm]at mk;have hsN:eE (iO s tv):=by rw[js hn];split;exact lG.2 ht;exact ht
    generalize nv s (e+1) (s.size - (e+1))=d at *;generalize iO s tv=Y at *;have z:=Fy (n:=d);have hi:((e:Int)+1).toNat=e+1:=by omega
    simp(disch:=omega)[eS,fe,q4,aP,hi];refine⟨by omega,?_⟩;refine alT hfg ?_;by_cases k4:d=0
    ·rw[if_pos k4]at hq;have z':=z.2 k4;simp(disch:=omega)[z',aP];simp[iu,hq,eS,kH,Sv.Sub,cA]
    ·rw[if_neg k4]at hq;have z':¬(bB 10000 d).length=0:=fun h=>k4 (z.1 h);have ov:=nM Y d hsN hdf (by omega);simp[z'];refine ae.alS (.qs [0,1,2,4,6]<|.l 3 []<|.l 5 []<|.l 7 [0]<|.l 8 [1]<|.nil) ?_;simp;refine alT mk ?_;simp;refine alT ov ?_;simp[iu,hq,eS]
def XD(m:Nat)(s:ByteArray)(neg:Bool)(st:St):Prop:=∃(N p f k:Nat),k≤400000000000∧N<10^k∧p≤400000000000∧f≤s.size∧eH m s=cS s N p f ∧
 st=⟨193,[(0,.val (.string s)),(4,.ptr 0 0 0),(5,.ptr 1 0 0),(7,.val (.bool neg)),(8,.val (.int .i64 f)),(11,.ptr 3 0 0),(12,.ptr 4 0 0),(15,.val (.int .i64 p))],[q4,fe 0 0,fe 0 (-1),some ⟨2,[eJ N],false⟩,some ⟨2,[eJ 1],false⟩]⟩
theorem eO(a b:ByteArray):(a++b).size=a.size+b.size:=by simp
theorem nX(a b:ByteArray)(i:Nat):eG (a++b) i=if i<a.size then eG a i else eG b (i - a.size):=by
 unfold eG;rw[ByteArray.data_append,Array.getD_eq_getD_getElem?,Array.getElem?_append];have h:a.data.size=a.size:=rfl;rw[h];split<;>rw[Array.getD_eq_getD_getElem?]
theorem zt(a b:ByteArray):∀k,k≤a.size→nv (a++b) 0 k=nv a 0 k
 | 0,_=>rfl
 | k+1,h=>by
  simp only[nv,jB,Nat.zero_add];rw[zt a b k (by omega),nX,if_pos (by omega)]
theorem EH(a b:ByteArray):∀k,nv (a++b) a.size k=nv b 0 k
 | 0=>rfl
 | k+1=>by
  simp only[nv,jB,Nat.zero_add];rw[EH a b k,nX,if_neg (by omega),show a.size+k - a.size=k by omega]
theorem GR(a b:ByteArray):nv (a++b) 0 (a++b).size=nv a 0 a.size*10^b.size+nv b 0 b.size:=by
 rw[eO,vP,zt a b _ (Nat.le_refl _),Nat.zero_add,EH]
theorem EJ{a b:ByteArray}(ha:∀i,i<a.size→bj a i)(hb:∀i,i<b.size→bj b i):∀i,i<(a++b).size→bj (a++b) i:=fun i hi=>by
 refine⟨hi,?_⟩;rw[eO]at hi;unfold jB;rw[nX];split
 ·rename_i h;exact(ha i h).2
 ·rename_i h;exact(hb (i - a.size) (by omega)).2
theorem N6{C:Ctx}(hC:C.fx=[]){s T:ByteArray}{m:Nat}{neg:Bool}{e tv:Nat}(hs:s.size≤4611686018427387904)(hm:m≤4611686018427387904)(hms:min m s.size≤200000000000)(hn:decide (minus s)=neg)(hes:e≤s.size)
  (hT:∀i,i<T.size→bj T i) (hTz:T.size≤200000000000) (htv:tv=nv T 0 T.size) (g0:¬bA s e 47)
  (hq:eH m s=if bA s e 46 then if e+1+m<aw s (e+1) then(0,2,e+1+m) else if aw s (e+1)=e+1 then(0,1,e+1) else cS s (tv*10^(aw s (e+1) - (e+1))+nv s (e+1) (aw s (e+1) - (e+1))) (aw s (e+1) - (e+1)) (aw s (e+1)) else cS s tv 0 e) :
  ae Tryz.prog C (fk 9 gu) (S9 m s T neg e tv) (QP m s):=by
 have htl:tv<10^T.size:=by rw[htv];exact rA fun i _ hi=>hT i (by omega)
 refine ae.cutAt 3 (XD m s neg) ?_ ?_
 ·simp only[gu,Tryz.f84,Option.getD_some,ax,au,aG,aE];have fin:(e<s.size∧¬((eG s e).toNat:Int)=47)∨¬e<s.size:=by
   by_cases h:e<s.size
   ·exact .inl ⟨h,fun h2=>g0 ⟨h,iM (c:=47) |>.1 h2⟩⟩
   ·exact .inr h
  by_cases g:bA s e 46
  ·rw[if_pos g]at hq;have h1:=g.1;have h2:=iM.2 g.2;have h3:=(fin.resolve_right (fun h=>h h1)).2;have hd:=lV s (e+1) m (by omega) hs hm;have hbs:=dI (s:=s) (a:=e+1) (by omega);have hge:=fD s (e+1);have hLd:=fun i (h1:e+1≤i) (h2:i<aw s (e+1))=>cV (s:=s) (a:=e+1) h1 h2;rw[show((e+1:Nat):Int)=(e:Int)+1 by push_cast;rfl]at hd;simp(disch:=omega)[S9,h1,h2,aP];refine alT hd ?_;unfold xa;generalize aw s (e+1)=b at *;by_cases k1:e+1+m<b
   ·rw[if_pos k1]at hq ⊢;simp[eS,fe,q4];refine ae.alS (.qs [0]<|.q 1 [0]<|.l 2 [0]<|.l 3 [1]<|.nil) ?_;simp[iu,hq,eS,kH,Sv.Sub,cA]
   ·rw[if_neg k1]at hq ⊢;by_cases k2:b=e+1
    ·rw[if_pos k2]at hq ⊢;simp[eS,fe,q4];refine ae.alS (.qs [0]<|.q 1 [0]<|.l 2 [0]<|.l 3 [1]<|.nil) ?_;simp[iu,hq,eS,kH,Sv.Sub,cA]
    ·rw[if_neg k2]at hq ⊢;have hPz:=ef s (a:=e+1) hbs;have hPa:=gp hbs hLd;have hPn:=iA s (a:=e+1) hbs (b - (e+1)) (by omega);rw[←hPz]at hPn;have hfg:=pt (T++s.extract (e+1) b) (by rw[eO,hPz];omega) (EJ hT hPa);have hpl:=rA (s:=s.extract (e+1) b) (a:=0) (k:=(s.extract (e+1) b).size) fun i _ hi=>hPa i (by omega);rw[GR,←htv,hPn,hPz]at hfg;rw[hPn,hPz]at hpl;have hNl:tv*10^(b - (e+1))+nv s (e+1) (b - (e+1))<10^(T.size+(b - (e+1))):=by
      rw[Nat.pow_add];have:=Nat.mul_le_mul_right (10^(b - (e+1))) (show tv+1≤10^T.size from htl);rw[Nat.add_mul]at this;omega
     generalize hN:tv*10^(b - (e+1))+nv s (e+1) (b - (e+1))=N at *;have hi:((e:Int)+1).toNat=e+1:=by omega
     have hp:(b:Int) - e - 1=((b - (e+1):Nat):Int):=by omega
     simp(disch:=omega)[eS,fe,q4,aP,hi,hp];refine⟨⟨by omega,by omega,hbs⟩,by omega,?_⟩;refine alT hfg ?_;simp;exact⟨_,⟨N,b - (e+1),b,T.size+(b - (e+1)),by omega,hNl,by omega,hbs,hq,rfl⟩,by simp[ar,hC,fe,q4,eS]⟩
  ·rw[if_neg g]at hq;rcases fin with⟨h1,h3⟩ | h1
   ·have h2:¬((eG s e).toNat:Int)=46:=fun h2=>g ⟨h1,iM (c:=46) |>.1 h2⟩;simp[S9,h1,h3,h2];exact⟨_,⟨tv,0,e,T.size,by omega,htl,by omega,hes,hq,rfl⟩,by simp[ar,hC,fe,q4,eS]⟩
   ·simp[S9,h1];exact⟨_,⟨tv,0,e,T.size,by omega,htl,by omega,hes,hq,rfl⟩,by simp[ar,hC,fe,q4,eS]⟩
 ·rintro st ⟨N,p,f,k,h1,h2,h3,h4,h5,rfl⟩;exact Nr hC hs hn h1 h2 h3 h4 h5
def XH(m:Nat)(s:ByteArray)(st:St):Prop:=st=⟨193,[(0,.val (.string s)),(1,.val (.int .i64 m)),(4,.ptr 0 0 0),(5,.ptr 1 0 0),(6,.val (.int .i64 (ak s))),(7,.val (.bool (decide (minus s))))],[q4,fe 0 0]⟩
def XJ(m:Nat)(s:ByteArray)(a b:Nat)(st:St):Prop:=¬a+m<b∧¬b=a∧st=S9 m s (s.extract a b) (decide (minus s)) b (nv s a (b - a))
theorem Wo{C:Ctx}(hC:C.fx=[]){s:ByteArray}{m:Nat}(hs:s.size≤4611686018427387904)(hm:m≤4611686018427387904)(hms:min m s.size≤200000000000)(h1:¬ak s+m<aw s (ak s))(h2:¬aw s (ak s)=ak s) :
  ae Tryz.prog C (fk 9 gu) (S9 m s (s.extract (ak s) (aw s (ak s))) (decide (minus s)) (aw s (ak s)) (nv s (ak s) (aw s (ak s) - ak s))) (QP m s):=by
 have ha:=gY s;have hes:=dI (s:=s) (a:=ak s) ha;have hge:=fD s (ak s);have hLd:=fun i (h1:ak s≤i) (h2:i<aw s (ak s))=>cV (s:=s) (a:=ak s) h1 h2;have hTz:=ef s (a:=ak s) hes;have hTa:=gp hes hLd;have hTn:=iA s (a:=ak s) hes (aw s (ak s) - ak s) (by omega);rw[←hTz]at hTn;have hq:eH m s=_:=rfl;rw[show eH m s=_ from by unfold eH;rw[if_neg h1,if_neg h2]]at hq;by_cases g:bA s (aw s (ak s)) 47
 ·refine JJ (k:=aw s (ak s) - ak s) hs hm hms rfl (by omega) (rA fun i i1 i2=>hLd i i1 (by omega)) g ?_;unfold eH;rw[if_neg h1,if_neg h2,if_pos g]
 ·refine N6 hC hs hm hms rfl hes hTa (by omega) (by rw[hTn,hTz]) g ?_;unfold eH;rw[if_neg h1,if_neg h2,if_neg g]
theorem xL(s:ByteArray)(m:Nat)(hs:s.size≤4611686018427387904)(hm:m≤4611686018427387904)(hms:min m s.size≤200000000000):aI Tryz.prog 84 [.val (.string s),.val (.int .i64 m)] (iu (eH m s)):=by
 refine ir Tryz.func84 rfl (by simp) (fun C hC=>?_);refine ae.cutAt 4 (XH m s) ?_ ?_
 ·by_cases hz:0<s.size
  ·have hne:s≠ByteArray.empty:=fun h=>by rw[h]at hz;exact absurd hz (by decide)
   by_cases hb:((eG s 0).toNat:Int)=45
   ·have hmn:minus s:=⟨hz,iM (c:=45) |>.1 hb⟩;have hsa:ak s=1:=by simp[ak,hmn]
    simp[hz,hb,hne];exact⟨_,rfl,by simp[ar,hC,fe,q4,eS,hmn,hsa]⟩
   ·have hmn:¬minus s:=fun h=>hb (iM (c:=45) |>.2 h.2);have hsa:ak s=0:=by simp[ak,hmn]
    simp[hz,hb,hne];exact⟨_,rfl,by simp[ar,hC,fe,q4,eS,hmn,hsa]⟩
  ·have hmn:¬minus s:=fun h=>hz h.1;have hsa:ak s=0:=by simp[ak,hmn]
   simp[hz];exact⟨_,rfl,by simp[ar,hC,fe,q4,eS,hmn,hsa]⟩
 ·rintro st rfl;refine ae.cutAt 5 (XJ m s (ak s) (aw s (ak s))) ?_ ?_
  ·have ha:=gY s;have hd:=lV s (ak s) m ha hs hm;have hbs:=dI (s:=s) (a:=ak s) ha;have hge:=fD s (ak s);have hLd:=fun i (h1:ak s≤i) (h2:i<aw s (ak s))=>cV (s:=s) (a:=ak s) h1 h2;simp only[ax,au,aG,aE];have hq1:ak s+m<aw s (ak s)→eH m s=(0,2,ak s+m):=fun h1=>by unfold eH;rw[if_pos h1]
   have hq2:¬ak s+m<aw s (ak s)→aw s (ak s)=ak s→eH m s=(0,1,ak s):=fun h1 h2=>by unfold eH;rw[if_neg h1,if_pos h2]
   unfold xa at hd;generalize aw s (ak s)=b at *;generalize ak s=a at *;simp;refine alT hd ?_;by_cases k1:a+m<b
   ·have hq:=hq1 k1;rw[if_pos k1];simp[eS,fe,q4];refine ae.alS (.qs [0]<|.q 1 [0]<|.l 2 [0]<|.l 3 [1]<|.nil) ?_;simp[iu,hq,eS,kH,Sv.Sub,cA]
   ·rw[if_neg k1];by_cases k2:b=a
    ·have hq:=hq2 k1 k2;rw[if_pos k2];simp[eS,fe,q4];refine ae.alS (.qs [0]<|.q 1 [0]<|.l 2 [0]<|.l 3 [1]<|.nil) ?_;simp[iu,hq,eS,kH,Sv.Sub,cA]
    ·rw[if_neg k2];have hTz:=ef s (a:=a) hbs;have hTa:=gp hbs hLd;have hTn:=iA s (a:=a) hbs (b - a) (by omega);have hfg:=pt (s.extract a b) (by omega) hTa;rw[hTz,hTn]at hfg;simp(disch:=omega)[eS,fe,q4];refine⟨⟨hge,hbs⟩,?_⟩;refine alT hfg ?_;simp;refine alT (jg 1 (by omega) (by omega)) ?_;simp;exact⟨_,⟨k1,k2,rfl⟩,by simp[ar,hC,S9,fe,q4,eS]⟩
  ·rintro st ⟨h1,h2,rfl⟩;exact Wo hC hs hm hms h1 h2
theorem r9(s:ByteArray)(hs:s.size≤4611686018427387904):aI Tryz.prog 50 [.val (.string s)] (iu (eH 300 s)):=by
 refine aj Tryz.func50 rfl (by simp) (fun C hC=>?_);have hq:=xL s 300 hs (by omega) (by omega);rw[show((300:Nat):Int)=300 from rfl]at hq;generalize eH 300 s=r at *;obtain⟨x,c,a⟩:=r;by_cases h:c=0
 ·subst h;simp only[iu,if_pos]at hq;simp;refine alT hq ?_;simp[iu,eS]
 ·simp only[iu,if_neg h]at hq;simp;refine alT hq ?_;simp[iu,h,eS,kH]
end Go.Proofs
namespace Go.Proofs
open Go.Sv Go Go.Pl
theorem kU{k:Nat}{s:ByteArray}{n:Nat}(h:fw k (n:Nat)):fw k (iO s n):=by
 unfold iO;split
 ·exact CU h
 ·exact h
theorem bt{k:Nat}(h:1≤k):qw k 0:=⟨ug k,pD h⟩
theorem CM{s:ByteArray}{a m:Nat}(ha:a≤s.size)(h:¬a+m<aw s a)(hm:m≤400):fw 400 (nv s a (aw s a - a):Nat):=by
 have:=fD s a;exact JE (fun i h1 h2=>cV h1 (by omega)) (by omega)
theorem BD{s:ByteArray}{N p e:Nat}(hN:fw 2000 (N:Nat))(hp:p≤300):qw 2200 (cS s N p e).1:=by
 have hP:∀i,i≤400→fw 2200 ((10^i:Nat):Int):=fun i hi=>cI (jN hi) (by omega);unfold cS;split
 ·split
  ·exact bt (by omega)
  split
  ·exact bt (by omega)
  split
  ·exact bt (by omega)
  split
  ·exact fi (kU (cI hN (by omega))) (hP _ (by omega)) (by omega)
  ·refine fi (kU ?_) (hP _ (by omega)) (by omega);have:=fF hN (jN (i:=nv s (bQ s e) (s.size - bQ s e)) (by omega));exact cI (by simpa using this) (by omega)
 ·split
  ·exact bt (by omega)
  ·exact fi (kU (cI hN (by omega))) (hP _ (by omega)) (by omega)
theorem yS(s:ByteArray):qw 2200 (eH 300 s).1:=by
 have ha:=gY s;have hb:=dI (s:=s) (a:=ak s) ha;unfold eH;split
 ·exact bt (by omega)
 rename_i h1;split
 ·exact bt (by omega)
 have hT:=CM ha h1 (by omega);split
 ·rename_i g;split
  ·exact bt (by omega)
  rename_i h2;split
  ·exact bt (by omega)
  rename_i h3;split
  ·exact bt (by omega)
  have hd:=CM g.1 h2 (by omega);have he:=dI (s:=s) (a:=aw s (ak s)+1) g.1;have:aw s (aw s (ak s)+1)=s.size:=by omega
  rw[this]at hd;exact fi (kU (cI hT (by omega))) (cI hd (by omega)) (by omega)
 split
 ·rename_i g;split
  ·exact bt (by omega)
  rename_i h2;split
  ·exact bt (by omega)
  have hd:=CM g.1 h2 (by omega);have hl:=fD s (aw s (ak s)+1);refine BD ?_ (by omega);have:=sf (cI (fF hT (jN (i:=aw s (aw s (ak s)+1) - (aw s (ak s)+1)) (by omega))) (show 400+100≤1000 by omega)) (cI hd (show 400≤1000 by omega));exact cI (by simpa using this) (by omega)
 ·exact BD (cI hT (by omega)) (by omega)
end Go.Proofs


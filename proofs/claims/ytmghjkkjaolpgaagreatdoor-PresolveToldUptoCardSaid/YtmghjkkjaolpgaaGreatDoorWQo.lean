/- A text of the prover's own. -/
import Derived.Test.YtmghjkkjaolpgaaGreatDoorWQk
set_option maxRecDepth 20000
namespace Go.Proofs
open Go.Sv Go Go.Pl
def S9(m:Nat)(s T:ByteArray)(neg:Bool)(e tv:Nat):St:=⟨193,[(0,.val (.string s)),(1,.val (.int .i64 m)),(4,.ptr 0 0 0),(5,.ptr 1 0 0),(7,.val (.bool neg)),(8,.val (.int .i64 e)),(10,.val (.string T)),(11,.ptr 3 0 0),(12,.ptr 4 0 0)],
 [q4,fe 0 0,fe 0 (-1),some ⟨2,[dY tv],false⟩,some ⟨2,[dY 1],false⟩]⟩
theorem Jn{s:ByteArray}{a k:Nat}(h:∀i,a≤i→i<a+k→bV s i)(hk:k≤400000000000):eo (nv s a k:Nat):=pY (th h) (by omega)
theorem Eg{n:Nat}:(bC 10000 n).length=0↔n=0:=by rw[List.length_eq_zero_iff,bR (by omega)]
theorem Ho{C:Ctx}{s T:ByteArray}{m:Nat}{neg:Bool}{e tv k:Nat}(hs:s.size≤4611686018427387904)(hm:m≤4611686018427387904)(hms:min m s.size≤200000000000)(hn:decide (minus s)=neg)(hk:k≤200000000000)(htv:tv<10^k)(g:bH s e 47)
  (hq:fE m s=if e+1+m<aH s (e+1) then(0,2,e+1+m) else if aH s (e+1)=e+1∨aH s (e+1)<s.size then(0,1,aH s (e+1)) else if nv s (e+1) (s.size - (e+1))=0 then(0,3,e+1) else(Rat.divInt (jC s tv) (nv s (e+1) (s.size - (e+1)):Int),0,0)) :
  aa Tryz.prog C (e9 9 gm) (S9 m s T neg e tv) (QP m s):=by
 simp only[gm,Tryz.f84,Option.getD_some,ao,al];refine aa.go ?_;have h1:=g.1;have h2:=iU.2 g.2;have hd:=mB s (e+1) m (by omega) hs hm;have hbs:=eC (s:=s) (a:=e+1) (by omega);have hge:=iS s (e+1);have hLd:=fun i (h1:e+1≤i) (h2:i<aH s (e+1))=>dC (s:=s) (a:=e+1) h1 h2;rw[show((e+1:Nat):Int)=(e:Int)+1 by push_cast;rfl]at hd;simp(disch:=omega)[S9,h1,h2,aN];refine akK hd ?_;unfold wL;generalize aH s (e+1)=b at *;by_cases k1:e+1+m<b
 ·rw[if_pos k1]at hq ⊢;simp[fH,fe,q4];refine aa.akJ (.qs [0]<|.q 1 [0]<|.l 2 [0]<|.l 3 [1]<|.nil) ?_;simp[jt,hq,fH,kT,Sv.Sub,cz]
 ·rw[if_neg k1]at hq ⊢;by_cases k2:b=e+1
  ·rw[if_pos k2];rw[if_pos (.inl k2),k2]at hq;simp[fH,fe,q4];refine aa.akJ (.qs [0]<|.q 1 [0]<|.l 2 [0]<|.l 3 [1]<|.nil) ?_;simp[jt,hq,fH,kT,Sv.Sub,cz]
  ·rw[if_neg k2];by_cases k3:b<s.size
   ·rw[if_pos (.inr k3)]at hq;simp[fH,fe,q4,k3];simp[jt,hq,fH,kT,Sv.Sub,cz]
   ·obtain rfl:b=s.size:=by omega
    rw[if_neg (by omega)]at hq;have hLz:=ef s (a:=e+1) hbs;have hLa:=gC hbs hLd;have hLn:=iK s hbs _ (show e+1+(s.size - (e+1))≤s.size by omega);have hfg:=pR (s.extract (e+1) s.size) (by rw[hLz];omega) hLa;rw[hLz,hLn]at hfg;have hdf:eo (nv s (e+1) (s.size - (e+1)):Nat):=Jn (fun i i1 i2=>hLd i i1 (by omega)) (by omega);have ht:=pY htv (by omega);have mk:=lN neg tv (by have:=ht;unfold eo at this;rwa [Int.natAbs_natCast]at this);rw[show(if neg=true then -((tv:Nat):Int) else((tv:Nat):Int))=jC s tv from (jJ hn _).symm]at mk;have hsN:eo (jC s tv):=by rw[jJ hn];split;exact lW.2 ht;exact ht
    generalize nv s (e+1) (s.size - (e+1))=d at *;generalize jC s tv=Y at *;have z:=Eg (n:=d);have hi:((e:Int)+1).toNat=e+1:=by omega
    simp(disch:=omega)[fH,fe,q4,aN,hi];refine⟨by omega,?_⟩;refine akK hfg ?_;by_cases k4:d=0
    ·rw[if_pos k4]at hq;have z':=z.2 k4;simp(disch:=omega)[z',aN];simp[jt,hq,fH,kT,Sv.Sub,cz]
    ·rw[if_neg k4]at hq;have z':¬(bC 10000 d).length=0:=fun h=>k4 (z.1 h);have ov:=lV Y d hsN hdf (by omega);simp[z'];refine aa.akJ (.qs [0,1,2,4,6]<|.l 3 []<|.l 5 []<|.l 7 [0]<|.l 8 [1]<|.nil) ?_;simp;refine akK mk ?_;simp;refine akK ov ?_;simp[jt,hq,fH]
def XD(m:Nat)(s:ByteArray)(neg:Bool)(st:St):Prop:=∃(N p f k:Nat),k≤400000000000∧N<10^k∧p≤400000000000∧f≤s.size∧fE m s=dh s N p f ∧
 st=⟨193,[(0,.val (.string s)),(4,.ptr 0 0 0),(5,.ptr 1 0 0),(7,.val (.bool neg)),(8,.val (.int .i64 f)),(11,.ptr 3 0 0),(12,.ptr 4 0 0),(15,.val (.int .i64 p))],[q4,fe 0 0,fe 0 (-1),some ⟨2,[dY N],false⟩,some ⟨2,[dY 1],false⟩]⟩
theorem uA(a b:ByteArray):(a++b).size=a.size+b.size:=by simp
theorem vR(a b:ByteArray)(i:Nat):ek (a++b) i=if i<a.size then ek a i else ek b (i - a.size):=by
 unfold ek;rw[ByteArray.data_append,Array.getD_eq_getD_getElem?,Array.getElem?_append];have h:a.data.size=a.size:=rfl;rw[h];split<;>rw[Array.getD_eq_getD_getElem?]
theorem Db(a b:ByteArray):∀k,k≤a.size→nv (a++b) 0 k=nv a 0 k
 | 0,_=>rfl
 | k+1,h=>by
  simp only[nv,kV,Nat.zero_add];rw[Db a b k (by omega),vR,if_pos (by omega)]
theorem D6(a b:ByteArray):∀k,nv (a++b) a.size k=nv b 0 k
 | 0=>rfl
 | k+1=>by
  simp only[nv,kV,Nat.zero_add];rw[D6 a b k,vR,if_neg (by omega),show a.size+k - a.size=k by omega]
theorem Nv(a b:ByteArray):nv (a++b) 0 (a++b).size=nv a 0 a.size*10^b.size+nv b 0 b.size:=by
 rw[uA,uv,Db a b _ (Nat.le_refl _),Nat.zero_add,D6]
theorem Ko{a b:ByteArray}(ha:∀i,i<a.size→bV a i)(hb:∀i,i<b.size→bV b i):∀i,i<(a++b).size→bV (a++b) i:=fun i hi=>by
 refine⟨hi,?_⟩;rw[uA]at hi;unfold kV;rw[vR];split
 ·rename_i h;exact(ha i h).2
 ·rename_i h;exact(hb (i - a.size) (by omega)).2
theorem L3{C:Ctx}(hC:C.fx=[]){s T:ByteArray}{m:Nat}{neg:Bool}{e tv:Nat}(hs:s.size≤4611686018427387904)(hm:m≤4611686018427387904)(hms:min m s.size≤200000000000)(hn:decide (minus s)=neg)(hes:e≤s.size)
  (hT:∀i,i<T.size→bV T i) (hTz:T.size≤200000000000) (htv:tv=nv T 0 T.size) (g0:¬bH s e 47)
  (hq:fE m s=if bH s e 46 then if e+1+m<aH s (e+1) then(0,2,e+1+m) else if aH s (e+1)=e+1 then(0,1,e+1) else dh s (tv*10^(aH s (e+1) - (e+1))+nv s (e+1) (aH s (e+1) - (e+1))) (aH s (e+1) - (e+1)) (aH s (e+1)) else dh s tv 0 e) :
  aa Tryz.prog C (e9 9 gm) (S9 m s T neg e tv) (QP m s):=by
 have htl:tv<10^T.size:=by rw[htv];exact th fun i _ hi=>hT i (by omega)
 refine aa.cutAt 3 (XD m s neg) ?_ ?_
 ·simp only[gm,Tryz.f84,Option.getD_some,ao,al,ar,aq];have fin:(e<s.size∧¬((ek s e).toNat:Int)=47)∨¬e<s.size:=by
   by_cases h:e<s.size
   ·exact .inl ⟨h,fun h2=>g0 ⟨h,iU (c:=47) |>.1 h2⟩⟩
   ·exact .inr h
  by_cases g:bH s e 46
  ·rw[if_pos g]at hq;have h1:=g.1;have h2:=iU.2 g.2;have h3:=(fin.resolve_right (fun h=>h h1)).2;have hd:=mB s (e+1) m (by omega) hs hm;have hbs:=eC (s:=s) (a:=e+1) (by omega);have hge:=iS s (e+1);have hLd:=fun i (h1:e+1≤i) (h2:i<aH s (e+1))=>dC (s:=s) (a:=e+1) h1 h2;rw[show((e+1:Nat):Int)=(e:Int)+1 by push_cast;rfl]at hd;simp(disch:=omega)[S9,h1,h2,aN];refine akK hd ?_;unfold wL;generalize aH s (e+1)=b at *;by_cases k1:e+1+m<b
   ·rw[if_pos k1]at hq ⊢;simp[fH,fe,q4];refine aa.akJ (.qs [0]<|.q 1 [0]<|.l 2 [0]<|.l 3 [1]<|.nil) ?_;simp[jt,hq,fH,kT,Sv.Sub,cz]
   ·rw[if_neg k1]at hq ⊢;by_cases k2:b=e+1
    ·rw[if_pos k2]at hq ⊢;simp[fH,fe,q4];refine aa.akJ (.qs [0]<|.q 1 [0]<|.l 2 [0]<|.l 3 [1]<|.nil) ?_;simp[jt,hq,fH,kT,Sv.Sub,cz]
    ·rw[if_neg k2]at hq ⊢;have hPz:=ef s (a:=e+1) hbs;have hPa:=gC hbs hLd;have hPn:=iK s (a:=e+1) hbs (b - (e+1)) (by omega);rw[←hPz]at hPn;have hfg:=pR (T++s.extract (e+1) b) (by rw[uA,hPz];omega) (Ko hT hPa);have hpl:=th (s:=s.extract (e+1) b) (a:=0) (k:=(s.extract (e+1) b).size) fun i _ hi=>hPa i (by omega);rw[Nv,←htv,hPn,hPz]at hfg;rw[hPn,hPz]at hpl;have hNl:tv*10^(b - (e+1))+nv s (e+1) (b - (e+1))<10^(T.size+(b - (e+1))):=by
      rw[Nat.pow_add];have:=Nat.mul_le_mul_right (10^(b - (e+1))) (show tv+1≤10^T.size from htl);rw[Nat.add_mul]at this;omega
     generalize hN:tv*10^(b - (e+1))+nv s (e+1) (b - (e+1))=N at *;have hi:((e:Int)+1).toNat=e+1:=by omega
     have hp:(b:Int) - e - 1=((b - (e+1):Nat):Int):=by omega
     simp(disch:=omega)[fH,fe,q4,aN,hi,hp];refine⟨⟨by omega,by omega,hbs⟩,by omega,?_⟩;refine akK hfg ?_;simp;exact⟨_,⟨N,b - (e+1),b,T.size+(b - (e+1)),by omega,hNl,by omega,hbs,hq,rfl⟩,by simp[aw,hC,fe,q4,fH]⟩
  ·rw[if_neg g]at hq;rcases fin with⟨h1,h3⟩ | h1
   ·have h2:¬((ek s e).toNat:Int)=46:=fun h2=>g ⟨h1,iU (c:=46) |>.1 h2⟩;simp[S9,h1,h3,h2];exact⟨_,⟨tv,0,e,T.size,by omega,htl,by omega,hes,hq,rfl⟩,by simp[aw,hC,fe,q4,fH]⟩
   ·simp[S9,h1];exact⟨_,⟨tv,0,e,T.size,by omega,htl,by omega,hes,hq,rfl⟩,by simp[aw,hC,fe,q4,fH]⟩
 ·rintro st ⟨N,p,f,k,h1,h2,h3,h4,h5,rfl⟩;exact M5 hC hs hn h1 h2 h3 h4 h5
def XH(m:Nat)(s:ByteArray)(st:St):Prop:=st=⟨193,[(0,.val (.string s)),(1,.val (.int .i64 m)),(4,.ptr 0 0 0),(5,.ptr 1 0 0),(6,.val (.int .i64 (au s))),(7,.val (.bool (decide (minus s))))],[q4,fe 0 0]⟩
def XJ(m:Nat)(s:ByteArray)(a b:Nat)(st:St):Prop:=¬a+m<b∧¬b=a∧st=S9 m s (s.extract a b) (decide (minus s)) b (nv s a (b - a))
theorem Tp{C:Ctx}(hC:C.fx=[]){s:ByteArray}{m:Nat}(hs:s.size≤4611686018427387904)(hm:m≤4611686018427387904)(hms:min m s.size≤200000000000)(h1:¬au s+m<aH s (au s))(h2:¬aH s (au s)=au s) :
  aa Tryz.prog C (e9 9 gm) (S9 m s (s.extract (au s) (aH s (au s))) (decide (minus s)) (aH s (au s)) (nv s (au s) (aH s (au s) - au s))) (QP m s):=by
 have ha:=jO s;have hes:=eC (s:=s) (a:=au s) ha;have hge:=iS s (au s);have hLd:=fun i (h1:au s≤i) (h2:i<aH s (au s))=>dC (s:=s) (a:=au s) h1 h2;have hTz:=ef s (a:=au s) hes;have hTa:=gC hes hLd;have hTn:=iK s (a:=au s) hes (aH s (au s) - au s) (by omega);rw[←hTz]at hTn;have hq:fE m s=_:=rfl;rw[show fE m s=_ from by unfold fE;rw[if_neg h1,if_neg h2]]at hq;by_cases g:bH s (aH s (au s)) 47
 ·refine Ho (k:=aH s (au s) - au s) hs hm hms rfl (by omega) (th fun i i1 i2=>hLd i i1 (by omega)) g ?_;unfold fE;rw[if_neg h1,if_neg h2,if_pos g]
 ·refine L3 hC hs hm hms rfl hes hTa (by omega) (by rw[hTn,hTz]) g ?_;unfold fE;rw[if_neg h1,if_neg h2,if_neg g]
theorem Eu(s:ByteArray)(m:Nat)(hs:s.size≤4611686018427387904)(hm:m≤4611686018427387904)(hms:min m s.size≤200000000000):aF Tryz.prog 84 [.val (.string s),.val (.int .i64 m)] (jt (fE m s)):=by
 refine fg Tryz.func84 rfl (by simp) (fun C hC=>?_);refine aa.cutAt 4 (XH m s) ?_ ?_
 ·by_cases hz:0<s.size
  ·have hne:s≠ByteArray.empty:=fun h=>by rw[h]at hz;exact absurd hz (by decide)
   by_cases hb:((ek s 0).toNat:Int)=45
   ·have hmn:minus s:=⟨hz,iU (c:=45) |>.1 hb⟩;have hsa:au s=1:=by simp[au,hmn]
    simp[hz,hb,hne];exact⟨_,rfl,by simp[aw,hC,fe,q4,fH,hmn,hsa]⟩
   ·have hmn:¬minus s:=fun h=>hb (iU (c:=45) |>.2 h.2);have hsa:au s=0:=by simp[au,hmn]
    simp[hz,hb,hne];exact⟨_,rfl,by simp[aw,hC,fe,q4,fH,hmn,hsa]⟩
  ·have hmn:¬minus s:=fun h=>hz h.1;have hsa:au s=0:=by simp[au,hmn]
   simp[hz];exact⟨_,rfl,by simp[aw,hC,fe,q4,fH,hmn,hsa]⟩
 ·rintro st rfl;refine aa.cutAt 5 (XJ m s (au s) (aH s (au s))) ?_ ?_
  ·have ha:=jO s;have hd:=mB s (au s) m ha hs hm;have hbs:=eC (s:=s) (a:=au s) ha;have hge:=iS s (au s);have hLd:=fun i (h1:au s≤i) (h2:i<aH s (au s))=>dC (s:=s) (a:=au s) h1 h2;simp only[ao,al,ar,aq];have hq1:au s+m<aH s (au s)→fE m s=(0,2,au s+m):=fun h1=>by unfold fE;rw[if_pos h1]
   have hq2:¬au s+m<aH s (au s)→aH s (au s)=au s→fE m s=(0,1,au s):=fun h1 h2=>by unfold fE;rw[if_neg h1,if_pos h2]
   unfold wL at hd;generalize aH s (au s)=b at *;generalize au s=a at *;simp;refine akK hd ?_;by_cases k1:a+m<b
   ·have hq:=hq1 k1;rw[if_pos k1];simp[fH,fe,q4];refine aa.akJ (.qs [0]<|.q 1 [0]<|.l 2 [0]<|.l 3 [1]<|.nil) ?_;simp[jt,hq,fH,kT,Sv.Sub,cz]
   ·rw[if_neg k1];by_cases k2:b=a
    ·have hq:=hq2 k1 k2;rw[if_pos k2];simp[fH,fe,q4];refine aa.akJ (.qs [0]<|.q 1 [0]<|.l 2 [0]<|.l 3 [1]<|.nil) ?_;simp[jt,hq,fH,kT,Sv.Sub,cz]
    ·rw[if_neg k2];have hTz:=ef s (a:=a) hbs;have hTa:=gC hbs hLd;have hTn:=iK s (a:=a) hbs (b - a) (by omega);have hfg:=pR (s.extract a b) (by omega) hTa;rw[hTz,hTn]at hfg;simp(disch:=omega)[fH,fe,q4];refine⟨⟨hge,hbs⟩,?_⟩;refine akK hfg ?_;simp;refine akK (gn 1 (by omega) (by omega)) ?_;simp;exact⟨_,⟨k1,k2,rfl⟩,by simp[aw,hC,S9,fe,q4,fH]⟩
  ·rintro st ⟨h1,h2,rfl⟩;exact Tp hC hs hm hms h1 h2
theorem xf(s:ByteArray)(hs:s.size≤4611686018427387904):aF Tryz.prog 50 [.val (.string s)] (jt (fE 300 s)):=by
 refine aj Tryz.func50 rfl (by simp) (fun C hC=>?_);have hq:=Eu s 300 hs (by omega) (by omega);rw[show((300:Nat):Int)=300 from rfl]at hq;generalize fE 300 s=r at *;obtain⟨x,c,a⟩:=r;by_cases h:c=0
 ·subst h;simp only[jt,if_pos]at hq;simp;refine akK hq ?_;simp[jt,fH]
 ·simp only[jt,if_neg h]at hq;simp;refine akK hq ?_;simp[jt,h,fH,kT]
end Go.Proofs
namespace Go.Proofs
open Go.Sv Go Go.Pl
theorem tQ{k:Nat}{s:ByteArray}{n:Nat}(h:fw k (n:Nat)):fw k (jC s n):=by
 unfold jC;split
 ·exact Ca h
 ·exact h
theorem cP{k:Nat}(h:1≤k):qw k 0:=⟨tN k,p6 h⟩
theorem B8{s:ByteArray}{a m:Nat}(ha:a≤s.size)(h:¬a+m<aH s a)(hm:m≤400):fw 400 (nv s a (aH s a - a):Nat):=by
 have:=iS s a;exact H7 (fun i h1 h2=>dC h1 (by omega)) (by omega)
theorem AT{s:ByteArray}{N p e:Nat}(hN:fw 2000 (N:Nat))(hp:p≤300):qw 2200 (dh s N p e).1:=by
 have hP:∀i,i≤400→fw 2200 ((10^i:Nat):Int):=fun i hi=>fo (nT hi) (by omega);unfold dh;split
 ·split
  ·exact cP (by omega)
  split
  ·exact cP (by omega)
  split
  ·exact cP (by omega)
  split
  ·exact jD (tQ (fo hN (by omega))) (hP _ (by omega)) (by omega)
  ·refine jD (tQ ?_) (hP _ (by omega)) (by omega);have:=fQ hN (nT (i:=nv s (bY s e) (s.size - bY s e)) (by omega));exact fo (by simpa using this) (by omega)
 ·split
  ·exact cP (by omega)
  ·exact jD (tQ (fo hN (by omega))) (hP _ (by omega)) (by omega)
theorem yo(s:ByteArray):qw 2200 (fE 300 s).1:=by
 have ha:=jO s;have hb:=eC (s:=s) (a:=au s) ha;unfold fE;split
 ·exact cP (by omega)
 rename_i h1;split
 ·exact cP (by omega)
 have hT:=B8 ha h1 (by omega);split
 ·rename_i g;split
  ·exact cP (by omega)
  rename_i h2;split
  ·exact cP (by omega)
  rename_i h3;split
  ·exact cP (by omega)
  have hd:=B8 g.1 h2 (by omega);have he:=eC (s:=s) (a:=aH s (au s)+1) g.1;have:aH s (aH s (au s)+1)=s.size:=by omega
  rw[this]at hd;exact jD (tQ (fo hT (by omega))) (fo hd (by omega)) (by omega)
 split
 ·rename_i g;split
  ·exact cP (by omega)
  rename_i h2;split
  ·exact cP (by omega)
  have hd:=B8 g.1 h2 (by omega);have hl:=iS s (aH s (au s)+1);refine AT ?_ (by omega);have:=v8 (fo (fQ hT (nT (i:=aH s (aH s (au s)+1) - (aH s (au s)+1)) (by omega))) (show 400+100≤1000 by omega)) (fo hd (show 400≤1000 by omega));exact fo (by simpa using this) (by omega)
 ·exact AT (fo hT (by omega)) (by omega)
end Go.Proofs


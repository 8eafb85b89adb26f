/- A text of the prover's own. -/
import Derived.Test.YtnimjdcaajmfcaaGreatDoorUQk
set_option maxRecDepth 20000
namespace Go.Proofs
open Go.Sv Go Go.Pl
def S9 (m:Nat) (s T:ByteArray) (neg:Bool) (e tv:Nat):St:=⟨193,[(0,.val (.string s)),(1,.val (.int .i64 m)),(4,.ptr 0 0 0),(5,.ptr 1 0 0),(7,.val (.bool neg)),(8,.val (.int .i64 e)),(10,.val (.string T)),(11,.ptr 3 0 0),(12,.ptr 4 0 0)],
 [q4,fe 0 0,fe 0 (-1),some ⟨2,[nsv tv],false⟩,some ⟨2,[nsv 1],false⟩]⟩
theorem rfit_nv {s:ByteArray} {a k:Nat} (h:∀i,a≤i→i<a+k→digAt s i) (hk:k≤800000000):rfit (nv s a k:Nat):=rfit10 (nv_lt h) (by omega)
theorem dig4_zero {n:Nat}:(dig 10000 n).length=0↔n=0:=by rw [List.length_eq_zero_iff,dig_eq_nil (by omega)]
theorem qr_slash {C:Ctx} {s T:ByteArray} {m:Nat} {neg:Bool} {e tv k:Nat} (hs:s.size≤4611686018427387904) (hm:m≤4611686018427387904) (hms:min m s.size≤400000000) (hn:decide (minus s)=neg) (hk:k≤400000000) (htv:tv<10^k) (g:isAt s e 47)
  (hq:qrd m s=if e+1+m<dend s (e+1) then (0,2,e+1+m) else if dend s (e+1)=e+1∨dend s (e+1)<s.size then (0,1,dend s (e+1)) else if nv s (e+1) (s.size - (e+1))=0 then (0,3,e+1) else (Rat.divInt (sgnd s tv) (nv s (e+1) (s.size - (e+1)):Int),0,0)) :
  CodeJ Tryz.prog C (dropC 9 qreadBody) (S9 m s T neg e tv) (QP m s):=by
 simp only [qreadBody,Tryz.f109,Option.getD_some,dropC_succ,dropC_zero]
 refine CodeJ.go ?_
 have h1:=g.1
 have h2:=byt_eq.2 g.2
 have hd:=pDigits_ok s (e+1) m (by omega) hs hm
 have hbs:=dend_le (s:=s) (a:=e+1) (by omega)
 have hge:=dend_ge s (e+1)
 have hLd:=fun i (h1:e+1≤i) (h2:i<dend s (e+1))=>dend_dig (s:=s) (a:=e+1) h1 h2
 rw [show ((e+1:Nat):Int)=(e:Int)+1 by push_cast;rfl] at hd
 simp (disch:=omega) [S9,h1,h2,w64]
 refine callS hd (by simp) ?_
 unfold dgm
 generalize dend s (e+1)=b at *
 by_cases k1:e+1+m<b
 ·rw [if_pos k1] at hq ⊢
  simp [fsv,fe,q4]
  refine CodeJ.draw (.qs [0]<|.q 1 [0]<|.l 2 [0]<|.l 3 [1]<|.nil) (by kernel_rfl) (by kernel_rfl) (by simp) ?_
  simp [outP,hq,fsv,qnil,Sv.Sub,SubL]
 ·rw [if_neg k1] at hq ⊢
  by_cases k2:b=e+1
  ·rw [if_pos k2]
   rw [if_pos (.inl k2),k2] at hq
   simp [fsv,fe,q4]
   refine CodeJ.draw (.qs [0]<|.q 1 [0]<|.l 2 [0]<|.l 3 [1]<|.nil) (by kernel_rfl) (by kernel_rfl) (by simp) ?_
   simp [outP,hq,fsv,qnil,Sv.Sub,SubL]
  ·rw [if_neg k2]
   by_cases k3:b<s.size
   ·rw [if_pos (.inr k3)] at hq
    simp [fsv,fe,q4,k3]
    simp [outP,hq,fsv,qnil,Sv.Sub,SubL]
   ·obtain rfl:b=s.size:=by omega
    rw [if_neg (by omega)] at hq
    have hLz:=size_ext s (a:=e+1) hbs
    have hLa:=dig_ext hbs hLd
    have hLn:=nv_ext s hbs _ (show e+1+(s.size - (e+1))≤s.size by omega)
    have hfg:=rFigure_ok (s.extract (e+1) s.size) (by rw [hLz];omega) hLa
    rw [hLz,hLn] at hfg
    have hdf:rfit (nv s (e+1) (s.size - (e+1)):Nat):=rfit_nv (fun i i1 i2=>hLd i i1 (by omega)) (by omega)
    have ht:=rfit10 htv (by omega)
    have mk:=rMade_dig neg tv (by have:=ht;unfold rfit at this;rwa [Int.natAbs_natCast] at this)
    rw [show (if neg=true then -((tv:Nat):Int) else ((tv:Nat):Int))=sgnd s tv from (sgnd_eq hn _).symm] at mk
    have hsN:rfit (sgnd s tv):=by rw [sgnd_eq hn];split;exact rfit_neg.2 ht;exact ht
    generalize nv s (e+1) (s.size - (e+1))=d at *
    generalize sgnd s tv=Y at *
    have z:=dig4_zero (n:=d)
    have hi:((e:Int)+1).toNat=e+1:=by omega
    simp (disch:=omega) [fsv,fe,q4,w64,hi]
    refine ⟨by omega,?_⟩
    refine callS hfg (by simp) ?_
    by_cases k4:d=0
    ·rw [if_pos k4] at hq
     have z':=z.2 k4
     simp (disch:=omega) [z',w64]
     simp [outP,hq,fsv,qnil,Sv.Sub,SubL]
    ·rw [if_neg k4] at hq
     have z':¬(dig 10000 d).length=0:=fun h=>k4 (z.1 h)
     have ov:=pOver_ok Y d hsN hdf (by omega)
     simp [z']
     refine CodeJ.draw (.qs [0,1,2,4,6]<|.l 3 []<|.l 5 []<|.l 7 [0]<|.l 8 [1]<|.nil) (by kernel_rfl) (by kernel_rfl) (by simp) ?_
     simp
     refine callS mk (by simp) ?_
     simp
     refine callS ov (by simp) ?_
     simp [outP,hq,fsv]
def XD (m:Nat) (s:ByteArray) (neg:Bool) (st:St):Prop:=∃(N p f k:Nat),k≤800000000∧N<10^k∧p≤800000000∧f≤s.size∧qrd m s=qtail s N p f ∧
 st=⟨193,[(0,.val (.string s)),(4,.ptr 0 0 0),(5,.ptr 1 0 0),(7,.val (.bool neg)),(8,.val (.int .i64 f)),(11,.ptr 3 0 0),(12,.ptr 4 0 0),(15,.val (.int .i64 p))],[q4,fe 0 0,fe 0 (-1),some ⟨2,[nsv N],false⟩,some ⟨2,[nsv 1],false⟩]⟩
theorem size_app (a b:ByteArray):(a++b).size=a.size+b.size:=by simp
theorem sget_app (a b:ByteArray) (i:Nat):sget (a++b) i=if i<a.size then sget a i else sget b (i - a.size):=by
 unfold sget
 rw [ByteArray.data_append,Array.getD_eq_getD_getElem?,Array.getElem?_append]
 have h:a.data.size=a.size:=rfl
 rw [h]
 split<;>rw [Array.getD_eq_getD_getElem?]
theorem nv_app1 (a b:ByteArray):∀k,k≤a.size→nv (a++b) 0 k=nv a 0 k
 | 0,_=>rfl
 | k+1,h=>by
  simp only [nv,byt,Nat.zero_add]
  rw [nv_app1 a b k (by omega),sget_app,if_pos (by omega)]
theorem nv_app2 (a b:ByteArray):∀k,nv (a++b) a.size k=nv b 0 k
 | 0=>rfl
 | k+1=>by
  simp only [nv,byt,Nat.zero_add]
  rw [nv_app2 a b k,sget_app,if_neg (by omega),show a.size+k - a.size=k by omega]
theorem nv_app (a b:ByteArray):nv (a++b) 0 (a++b).size=nv a 0 a.size*10^b.size+nv b 0 b.size:=by
 rw [size_app,nv_split,nv_app1 a b _ (Nat.le_refl _),Nat.zero_add,nv_app2]
theorem dig_app {a b:ByteArray} (ha:∀i,i<a.size→digAt a i) (hb:∀i,i<b.size→digAt b i):∀i,i<(a++b).size→digAt (a++b) i:=fun i hi=>by
 refine ⟨hi,?_⟩
 rw [size_app] at hi
 unfold byt
 rw [sget_app]
 split
 ·rename_i h;exact (ha i h).2
 ·rename_i h;exact (hb (i - a.size) (by omega)).2
theorem qr_dot {C:Ctx} (hC:C.fx=[]) {s T:ByteArray} {m:Nat} {neg:Bool} {e tv:Nat} (hs:s.size≤4611686018427387904) (hm:m≤4611686018427387904) (hms:min m s.size≤400000000) (hn:decide (minus s)=neg) (hes:e≤s.size)
  (hT:∀i,i<T.size→digAt T i) (hTz:T.size≤400000000) (htv:tv=nv T 0 T.size) (g0:¬isAt s e 47)
  (hq:qrd m s=if isAt s e 46 then if e+1+m<dend s (e+1) then (0,2,e+1+m) else if dend s (e+1)=e+1 then (0,1,e+1) else qtail s (tv*10^(dend s (e+1) - (e+1))+nv s (e+1) (dend s (e+1) - (e+1))) (dend s (e+1) - (e+1)) (dend s (e+1)) else qtail s tv 0 e) :
  CodeJ Tryz.prog C (dropC 9 qreadBody) (S9 m s T neg e tv) (QP m s):=by
 have htl:tv<10^T.size:=by rw [htv];exact nv_lt fun i _ hi=>hT i (by omega)
 refine CodeJ.cutAt 3 (XD m s neg) ?_ ?_
 ·simp only [qreadBody,Tryz.f109,Option.getD_some,dropC_succ,dropC_zero,takeC_succ,takeC_zero]
  have fin:(e<s.size∧¬((sget s e).toNat:Int)=47)∨¬e<s.size:=by
   by_cases h:e<s.size
   ·exact .inl ⟨h,fun h2=>g0 ⟨h,byt_eq (c:=47) |>.1 h2⟩⟩
   ·exact .inr h
  by_cases g:isAt s e 46
  ·rw [if_pos g] at hq
   have h1:=g.1
   have h2:=byt_eq.2 g.2
   have h3:=(fin.resolve_right (fun h=>h h1)).2
   have hd:=pDigits_ok s (e+1) m (by omega) hs hm
   have hbs:=dend_le (s:=s) (a:=e+1) (by omega)
   have hge:=dend_ge s (e+1)
   have hLd:=fun i (h1:e+1≤i) (h2:i<dend s (e+1))=>dend_dig (s:=s) (a:=e+1) h1 h2
   rw [show ((e+1:Nat):Int)=(e:Int)+1 by push_cast;rfl] at hd
   simp (disch:=omega) [S9,h1,h2,w64]
   refine callS hd (by simp) ?_
   unfold dgm
   generalize dend s (e+1)=b at *
   by_cases k1:e+1+m<b
   ·rw [if_pos k1] at hq ⊢
    simp [fsv,fe,q4]
    refine CodeJ.draw (.qs [0]<|.q 1 [0]<|.l 2 [0]<|.l 3 [1]<|.nil) (by kernel_rfl) (by kernel_rfl) (by simp) ?_
    simp [outP,hq,fsv,qnil,Sv.Sub,SubL]
   ·rw [if_neg k1] at hq ⊢
    by_cases k2:b=e+1
    ·rw [if_pos k2] at hq ⊢
     simp [fsv,fe,q4]
     refine CodeJ.draw (.qs [0]<|.q 1 [0]<|.l 2 [0]<|.l 3 [1]<|.nil) (by kernel_rfl) (by kernel_rfl) (by simp) ?_
     simp [outP,hq,fsv,qnil,Sv.Sub,SubL]
    ·rw [if_neg k2] at hq ⊢
     have hPz:=size_ext s (a:=e+1) hbs
     have hPa:=dig_ext hbs hLd
     have hPn:=nv_ext s (a:=e+1) hbs (b - (e+1)) (by omega)
     rw [←hPz] at hPn
     have hfg:=rFigure_ok (T++s.extract (e+1) b) (by rw [size_app,hPz];omega) (dig_app hT hPa)
     have hpl:=nv_lt (s:=s.extract (e+1) b) (a:=0) (k:=(s.extract (e+1) b).size) fun i _ hi=>hPa i (by omega)
     rw [nv_app,←htv,hPn,hPz] at hfg
     rw [hPn,hPz] at hpl
     have hNl:tv*10^(b - (e+1))+nv s (e+1) (b - (e+1))<10^(T.size+(b - (e+1))):=by
      rw [Nat.pow_add]
      have:=Nat.mul_le_mul_right (10^(b - (e+1))) (show tv+1≤10^T.size from htl)
      rw [Nat.add_mul] at this
      omega
     generalize hN:tv*10^(b - (e+1))+nv s (e+1) (b - (e+1))=N at *
     have hi:((e:Int)+1).toNat=e+1:=by omega
     have hp:(b:Int) - e - 1=((b - (e+1):Nat):Int):=by omega
     simp (disch:=omega) [fsv,fe,q4,w64,hi,hp]
     refine ⟨⟨by omega,by omega,hbs⟩,by omega,?_⟩
     refine callS hfg (by simp) ?_
     simp
     exact ⟨_,⟨N,b - (e+1),b,T.size+(b - (e+1)),by omega,hNl,by omega,hbs,hq,rfl⟩,by simp [leS,hC,fe,q4,fsv]⟩
  ·rw [if_neg g] at hq
   rcases fin with ⟨h1,h3⟩ | h1
   ·have h2:¬((sget s e).toNat:Int)=46:=fun h2=>g ⟨h1,byt_eq (c:=46) |>.1 h2⟩
    simp [S9,h1,h3,h2]
    exact ⟨_,⟨tv,0,e,T.size,by omega,htl,by omega,hes,hq,rfl⟩,by simp [leS,hC,fe,q4,fsv]⟩
   ·simp [S9,h1]
    exact ⟨_,⟨tv,0,e,T.size,by omega,htl,by omega,hes,hq,rfl⟩,by simp [leS,hC,fe,q4,fsv]⟩
 ·rintro st ⟨N,p,f,k,h1,h2,h3,h4,h5,rfl⟩
  exact qr_exp hC hs hn h1 h2 h3 h4 h5
def XH (m:Nat) (s:ByteArray) (st:St):Prop:=st=⟨193,[(0,.val (.string s)),(1,.val (.int .i64 m)),(4,.ptr 0 0 0),(5,.ptr 1 0 0),(6,.val (.int .i64 (sgnAt s))),(7,.val (.bool (decide (minus s))))],[q4,fe 0 0]⟩
def XJ (m:Nat) (s:ByteArray) (a b:Nat) (st:St):Prop:=¬a+m<b∧¬b=a∧st=S9 m s (s.extract a b) (decide (minus s)) b (nv s a (b - a))
theorem qr_h3 {C:Ctx} (hC:C.fx=[]) {s:ByteArray} {m:Nat} (hs:s.size≤4611686018427387904) (hm:m≤4611686018427387904) (hms:min m s.size≤400000000) (h1:¬sgnAt s+m<dend s (sgnAt s)) (h2:¬dend s (sgnAt s)=sgnAt s) :
  CodeJ Tryz.prog C (dropC 9 qreadBody) (S9 m s (s.extract (sgnAt s) (dend s (sgnAt s))) (decide (minus s)) (dend s (sgnAt s)) (nv s (sgnAt s) (dend s (sgnAt s) - sgnAt s))) (QP m s):=by
 have ha:=sgnAt_le s
 have hes:=dend_le (s:=s) (a:=sgnAt s) ha
 have hge:=dend_ge s (sgnAt s)
 have hLd:=fun i (h1:sgnAt s≤i) (h2:i<dend s (sgnAt s))=>dend_dig (s:=s) (a:=sgnAt s) h1 h2
 have hTz:=size_ext s (a:=sgnAt s) hes
 have hTa:=dig_ext hes hLd
 have hTn:=nv_ext s (a:=sgnAt s) hes (dend s (sgnAt s) - sgnAt s) (by omega)
 rw [←hTz] at hTn
 have hq:qrd m s=_:=rfl
 rw [show qrd m s=_ from by unfold qrd;rw [if_neg h1,if_neg h2]] at hq
 by_cases g:isAt s (dend s (sgnAt s)) 47
 ·refine qr_slash (k:=dend s (sgnAt s) - sgnAt s) hs hm hms rfl (by omega) (nv_lt fun i i1 i2=>hLd i i1 (by omega)) g ?_
  unfold qrd
  rw [if_neg h1,if_neg h2,if_pos g]
 ·refine qr_dot hC hs hm hms rfl hes hTa (by omega) (by rw [hTn,hTz]) g ?_
  unfold qrd
  rw [if_neg h1,if_neg h2,if_neg g]
theorem pqread_ok (s:ByteArray) (m:Nat) (hs:s.size≤4611686018427387904) (hm:m≤4611686018427387904) (hms:min m s.size≤400000000):PureF Tryz.prog 109 [.val (.string s),.val (.int .i64 m)] (outP (qrd m s)):=by
 refine pure_enterJ Tryz.func109 rfl (by simp) (fun C hC=>?_)
 refine CodeJ.cutAt 4 (XH m s) ?_ ?_
 ·by_cases hz:0<s.size
  ·have hne:s≠ByteArray.empty:=fun h=>by rw [h] at hz;exact absurd hz (by decide)
   by_cases hb:((sget s 0).toNat:Int)=45
   ·have hmn:minus s:=⟨hz,byt_eq (c:=45) |>.1 hb⟩
    have hsa:sgnAt s=1:=by simp [sgnAt,hmn]
    simp [hz,hb,hne]
    exact ⟨_,rfl,by simp [leS,hC,fe,q4,fsv,hmn,hsa]⟩
   ·have hmn:¬minus s:=fun h=>hb (byt_eq (c:=45) |>.2 h.2)
    have hsa:sgnAt s=0:=by simp [sgnAt,hmn]
    simp [hz,hb,hne]
    exact ⟨_,rfl,by simp [leS,hC,fe,q4,fsv,hmn,hsa]⟩
  ·have hmn:¬minus s:=fun h=>hz h.1
   have hsa:sgnAt s=0:=by simp [sgnAt,hmn]
   simp [hz]
   exact ⟨_,rfl,by simp [leS,hC,fe,q4,fsv,hmn,hsa]⟩
 ·rintro st rfl
  refine CodeJ.cutAt 5 (XJ m s (sgnAt s) (dend s (sgnAt s))) ?_ ?_
  ·have ha:=sgnAt_le s
   have hd:=pDigits_ok s (sgnAt s) m ha hs hm
   have hbs:=dend_le (s:=s) (a:=sgnAt s) ha
   have hge:=dend_ge s (sgnAt s)
   have hLd:=fun i (h1:sgnAt s≤i) (h2:i<dend s (sgnAt s))=>dend_dig (s:=s) (a:=sgnAt s) h1 h2
   simp only [dropC_succ,dropC_zero,takeC_succ,takeC_zero]
   have hq1:sgnAt s+m<dend s (sgnAt s)→qrd m s=(0,2,sgnAt s+m):=fun h1=>by unfold qrd;rw [if_pos h1]
   have hq2:¬sgnAt s+m<dend s (sgnAt s)→dend s (sgnAt s)=sgnAt s→qrd m s=(0,1,sgnAt s):=fun h1 h2=>by unfold qrd;rw [if_neg h1,if_pos h2]
   unfold dgm at hd
   generalize dend s (sgnAt s)=b at *
   generalize sgnAt s=a at *
   simp
   refine callS hd (by simp) ?_
   by_cases k1:a+m<b
   ·have hq:=hq1 k1
    rw [if_pos k1]
    simp [fsv,fe,q4]
    refine CodeJ.draw (.qs [0]<|.q 1 [0]<|.l 2 [0]<|.l 3 [1]<|.nil) (by kernel_rfl) (by kernel_rfl) (by simp) ?_
    simp [outP,hq,fsv,qnil,Sv.Sub,SubL]
   ·rw [if_neg k1]
    by_cases k2:b=a
    ·have hq:=hq2 k1 k2
     rw [if_pos k2]
     simp [fsv,fe,q4]
     refine CodeJ.draw (.qs [0]<|.q 1 [0]<|.l 2 [0]<|.l 3 [1]<|.nil) (by kernel_rfl) (by kernel_rfl) (by simp) ?_
     simp [outP,hq,fsv,qnil,Sv.Sub,SubL]
    ·rw [if_neg k2]
     have hTz:=size_ext s (a:=a) hbs
     have hTa:=dig_ext hbs hLd
     have hTn:=nv_ext s (a:=a) hbs (b - a) (by omega)
     have hfg:=rFigure_ok (s.extract a b) (by omega) hTa
     rw [hTz,hTn] at hfg
     simp (disch:=omega) [fsv,fe,q4]
     refine ⟨⟨hge,hbs⟩,?_⟩
     refine callS hfg (by simp) ?_
     simp
     refine callS (rSmall_ok 1 (by omega) (by omega)) (by simp) ?_
     simp
     exact ⟨_,⟨k1,k2,rfl⟩,by simp [leS,hC,S9,fe,q4,fsv]⟩
  ·rintro st ⟨h1,h2,rfl⟩
   exact qr_h3 hC hs hm hms h1 h2
theorem pQRead_ok (s:ByteArray) (hs:s.size≤4611686018427387904):PureF Tryz.prog 66 [.val (.string s)] (outP (qrd 300 s)):=by
 refine pure_enter Tryz.func66 rfl (by simp) (fun C hC=>?_)
 have hq:=pqread_ok s 300 hs (by omega) (by omega)
 rw [show ((300:Nat):Int)=300 from rfl] at hq
 generalize qrd 300 s=r at *
 obtain ⟨x,c,a⟩:=r
 by_cases h:c=0
 ·subst h
  simp only [outP,if_pos] at hq
  simp
  refine callS hq (by simp) ?_
  simp [outP,fsv]
 ·simp only [outP,if_neg h] at hq
  simp
  refine callS hq (by simp) ?_
  simp [outP,h,fsv,qnil]
end Go.Proofs
namespace Go.Proofs
open Go.Sv Go Go.Pl
theorem fw_sgnd {k:Nat} {s:ByteArray} {n:Nat} (h:fw k (n:Nat)):fw k (sgnd s n):=by
 unfold sgnd;split
 ·exact fw_neg h
 ·exact h
theorem qw_zero {k:Nat} (h:1≤k):qw k 0:=⟨fw_zero k,fw_one h⟩
theorem fw_nvd {s:ByteArray} {a m:Nat} (ha:a≤s.size) (h:¬a+m<dend s a) (hm:m≤400):fw 400 (nv s a (dend s a - a):Nat):=by
 have:=dend_ge s a
 exact fw_nv (fun i h1 h2=>dend_dig h1 (by omega)) (by omega)
theorem qw_qtail {s:ByteArray} {N p e:Nat} (hN:fw 2000 (N:Nat)) (hp:p≤300):qw 2200 (qtail s N p e).1:=by
 have hP:∀i,i≤400→fw 2200 ((10^i:Nat):Int):=fun i hi=>fw_mono (fw_p10 hi) (by omega)
 unfold qtail
 split
 ·split
  ·exact qw_zero (by omega)
  split
  ·exact qw_zero (by omega)
  split
  ·exact qw_zero (by omega)
  split
  ·exact qw_divInt (fw_sgnd (fw_mono hN (by omega))) (hP _ (by omega)) (by omega)
  ·refine qw_divInt (fw_sgnd ?_) (hP _ (by omega)) (by omega)
   have:=fw_mul hN (fw_p10 (i:=nv s (expAt s e) (s.size - expAt s e)) (by omega))
   exact fw_mono (by simpa using this) (by omega)
 ·split
  ·exact qw_zero (by omega)
  ·exact qw_divInt (fw_sgnd (fw_mono hN (by omega))) (hP _ (by omega)) (by omega)
theorem qw_qrd (s:ByteArray):qw 2200 (qrd 300 s).1:=by
 have ha:=sgnAt_le s
 have hb:=dend_le (s:=s) (a:=sgnAt s) ha
 unfold qrd
 split
 ·exact qw_zero (by omega)
 rename_i h1
 split
 ·exact qw_zero (by omega)
 have hT:=fw_nvd ha h1 (by omega)
 split
 ·rename_i g
  split
  ·exact qw_zero (by omega)
  rename_i h2
  split
  ·exact qw_zero (by omega)
  rename_i h3
  split
  ·exact qw_zero (by omega)
  have hd:=fw_nvd g.1 h2 (by omega)
  have he:=dend_le (s:=s) (a:=dend s (sgnAt s)+1) g.1
  have:dend s (dend s (sgnAt s)+1)=s.size:=by omega
  rw [this] at hd
  exact qw_divInt (fw_sgnd (fw_mono hT (by omega))) (fw_mono hd (by omega)) (by omega)
 split
 ·rename_i g
  split
  ·exact qw_zero (by omega)
  rename_i h2
  split
  ·exact qw_zero (by omega)
  have hd:=fw_nvd g.1 h2 (by omega)
  have hl:=dend_ge s (dend s (sgnAt s)+1)
  refine qw_qtail ?_ (by omega)
  have:=fw_add (fw_mono (fw_mul hT (fw_p10 (i:=dend s (dend s (sgnAt s)+1) - (dend s (sgnAt s)+1)) (by omega))) (show 400+100≤1000 by omega)) (fw_mono hd (show 400≤1000 by omega))
  exact fw_mono (by simpa using this) (by omega)
 ·exact qw_qtail (fw_mono hT (by omega)) (by omega)
end Go.Proofs


/- A text of the prover's own. -/
import Derived.Test.YtnimjdcaajmfcaaGreatDoorUQi
set_option maxRecDepth 20000
namespace Go.Proofs
open Go.Sv Go Go.Pl
theorem sget_ext (s:ByteArray) {a b i:Nat} (h:a+i<b) (hb:b≤s.size):sget (s.extract a b) i=sget s (a+i):=by
 unfold sget
 have hs:s.data.size=s.size:=rfl
 rw [ByteArray.data_extract,Array.getD_eq_getD_getElem?,Array.getD_eq_getD_getElem?,Array.getElem?_extract]
 rw [if_pos (by omega)]
theorem size_ext (s:ByteArray) {a b:Nat} (hb:b≤s.size):(s.extract a b).size=b - a:=by simp;omega
theorem nv_ext (s:ByteArray) {a b:Nat} (hb:b≤s.size):∀k,a+k≤b→nv (s.extract a b) 0 k=nv s a k
 | 0,_=>rfl
 | k+1,h=>by
  simp only [nv,Nat.zero_add,byt]
  rw [nv_ext s hb k (by omega),sget_ext s (by omega) hb]
theorem dig_ext {s:ByteArray} {a b:Nat} (hb:b≤s.size) (h:∀i,a≤i→i<b→digAt s i):∀i,i<(s.extract a b).size→digAt (s.extract a b) i:=fun i hi=>by
 refine ⟨hi,?_⟩
 rw [size_ext s hb] at hi
 unfold byt
 rw [sget_ext s (by omega) hb]
 exact (h (a+i) (by omega) (by omega)).2
theorem rd_digits {t:ByteArray} (h:∀i,i<t.size→digAt t i) (h0:0<t.size) (h1:t.size≤300):rd t=(((nv t 0 t.size:Nat):Int),0,0):=by
 have hm:¬minus t:=fun hm=>by
  have:=(h 0 h0).2.1
  have:=hm.2
  omega
 have hs:sgnAt t=0:=by simp [sgnAt,hm]
 have hd:dend t 0=t.size:=dend_eq (Nat.zero_le _) (fun i _ hi=>h i hi) (fun h'=>by have:=h'.1;omega)
 unfold rd
 rw [hs,hd,if_neg (by omega),if_neg (by omega),if_neg hm]
 simp
theorem ext_ne {s:ByteArray} {a b:Nat} (hb:b≤s.size) (h:a<b):s.extract a b≠⟨#[]⟩:=fun e=>by
 have:=size_ext s (a:=a) hb
 rw [e] at this
 have e0:(⟨#[]⟩:ByteArray).size=0:=rfl
 omega
set_option exponentiation.threshold 1000 in
theorem fw_nv {s:ByteArray} {a k:Nat} (h:∀i,a≤i→i<a+k→digAt s i) (hk:k≤400):fw 400 (nv s a k:Nat):=by
 have:=nv_lt h
 exact fw_mono (k:=100) (fw_le (y:=((10^k:Nat):Int)) (by simp only [Int.natAbs_natCast];omega) (fw_p10 hk)) (by omega)
def outQ (r:Rat × Nat × Nat):SV:=.tup [rsv r.1,errSV r.2.1 r.2.2]
@[simp] theorem orF_some (e:Nat × Nat) (b:Bool) (c p:Nat):orF (some e) b c p=some e:=rfl
theorem outR_some (c p:Nat) (v:Rat) (hc:c≠0):outR (some (c,p)) v=outQ (0,c,p):=by simp [outR,outQ,errSV,hc]
theorem outR_none (v:Rat) (p:Nat):outR none v=outQ (v,0,p):=by simp [outR,outQ,errSV]
def IA (s:ByteArray) (st:St):Prop:=∃(T P Lw Pw:ByteArray) (a la pa:Nat) (E:Option (Nat × Nat)) (neg up:Bool) (t d:Nat),
 (∀c p,E=some (c,p)→c=1∨c=2∨c=3)∧(E=none→rd T=((t:Int),0,0))∧T.size≤400∧P.size≤400∧(∀i,i<P.size→digAt P i)∧fw 400 d∧fw 400 t ∧
  ((Lw=⟨#[]⟩∧d=1)∨(Lw≠⟨#[]⟩∧rd Lw=((d:Int),0,0)∧Lw.size≤400))∧(∀i,i<Pw.size→digAt Pw i)∧Pw.size≤400 ∧
  outR (orF (orF (orF E (decide (a<s.size)) 1 a) (decide (60<nv Pw 0 Pw.size)) 2 pa) (decide (Lw≠⟨#[]⟩)&&decide (d=0)) 3 la) (valR neg up t P (min (nv Pw 0 Pw.size) 61) d)=outQ (qrd 300 s) ∧
  st=⟨151,[(0,.val (.string s)),(2,.ptr 0 0 0),(3,.val .nilIface),(4,.ptr 1 0 0),(5,.val (.bool neg)),(6,.val (.string T)),(7,.val (.string P)),(8,.val (.string Lw)),(9,.val (.string Pw)),(10,.val (.bool up)),(11,.val (.int .i64 la)),(12,.val (.int .i64 pa))],MR s a E⟩
theorem fw1:fw 400 ((1:Nat):Int):=fw_one (by omega)
theorem IA.err {s T:ByteArray} {a la pa:Nat} {c p:Nat} {neg up:Bool} {st:St} (hc:c=1∨c=2∨c=3) (hT:T.size≤400) (hq:qrd 300 s=(0,c,p))
  (h:st=⟨151,[(0,.val (.string s)),(2,.ptr 0 0 0),(3,.val .nilIface),(4,.ptr 1 0 0),(5,.val (.bool neg)),(6,.val (.string T)),(7,.val (.string ⟨#[]⟩)),(8,.val (.string ⟨#[]⟩)),(9,.val (.string ⟨#[]⟩)),(10,.val (.bool up)),(11,.val (.int .i64 la)),(12,.val (.int .i64 pa))],MR s a (some (c,p))⟩):IA s st :=
 ⟨T,⟨#[]⟩,⟨#[]⟩,⟨#[]⟩,a,la,pa,some (c,p),neg,up,0,1,fun c' p' h'=>by simp only [Option.some.injEq,Prod.mk.injEq] at h';omega,fun h'=>(by cases h'),hT,Nat.zero_le _,fun i hi=>absurd hi (Nat.not_lt_zero _),fw1,fw_zero _,.inl ⟨rfl,rfl⟩,
  fun i hi=>absurd hi (Nat.not_lt_zero _),Nat.zero_le _,by simp only [orF_some];rw [outR_some _ _ _ (by omega),hq],h⟩
theorem e_size:(⟨#[]⟩:ByteArray).size=0:=rfl
theorem e_nv:nv ⟨#[]⟩ 0 (⟨#[]⟩:ByteArray).size=0:=rfl
theorem e_all (Q:Nat→Prop):∀i,i<(⟨#[]⟩:ByteArray).size→Q i:=fun i hi=>absurd hi (Nat.not_lt_zero _)
theorem sgnd_eq {s:ByteArray} {neg:Bool} (h:decide (minus s)=neg) (n:Nat):sgnd s n=if neg=true then -(n:Int) else (n:Int):=by
 unfold sgnd;rw [←h];by_cases hm:minus s<;>simp [hm]
theorem eq_slash {s Lw:ByteArray} {e b tv d:Nat} {neg:Bool} (hn:decide (minus s)=neg) (hL:Lw≠⟨#[]⟩) (hbs:b≤s.size) (hb:e+1<b) (hd:d=nv s (e+1) (b - (e+1))) :
  outR (orF (orF (orF none (decide (b<s.size)) 1 b) (decide (60<nv ⟨#[]⟩ 0 (⟨#[]⟩:ByteArray).size)) 2 0) (decide (Lw≠⟨#[]⟩)&&decide (d=0)) 3 (e+1)) (valR neg true tv ⟨#[]⟩ (min (nv ⟨#[]⟩ 0 (⟨#[]⟩:ByteArray).size) 61) d) =
   outQ (if b=e+1∨b<s.size then (0,1,b) else if nv s (e+1) (s.size - (e+1))=0 then (0,3,e+1) else (Rat.divInt (sgnd s tv) (nv s (e+1) (s.size - (e+1)):Int),0,0)):=by
 rw [e_nv]
 by_cases l1:b<s.size
 ·rw [if_pos (.inr l1)]
  simp only [orF,l1,decide_true,if_true]
  exact outR_some _ _ _ (by omega)
 ·rw [if_neg (show ¬(b=e+1∨b<s.size) by omega),show s.size - (e+1)=b - (e+1) by omega,←hd]
  by_cases l2:d=0
  ·simp only [orF,l1,l2,hL,if_true,decide_false,Bool.false_eq_true,if_false,Nat.not_lt_zero,ne_eq,not_false_eq_true,decide_true,Bool.and_self]
   exact outR_some _ _ _ (by omega)
  ·simp only [orF,l1,l2,hL,if_false,decide_false,Bool.false_eq_true,Nat.not_lt_zero,ne_eq,not_false_eq_true,decide_true,Bool.and_false]
   rw [outR_none _ 0,sgnd_eq hn]
   unfold valR
   simp [e_size,nv]
theorem eq_noexp {s P:ByteArray} {e tv:Nat} {neg:Bool} (hn:decide (minus s)=neg) (he:e≤s.size) (g:¬isAt s e 101) :
  outR (orF (orF (orF none (decide (e<s.size)) 1 e) (decide (60<nv ⟨#[]⟩ 0 (⟨#[]⟩:ByteArray).size)) 2 0) (decide ((⟨#[]⟩:ByteArray)≠⟨#[]⟩)&&decide ((1:Nat)=0)) 3 0) (valR neg true tv P (min (nv ⟨#[]⟩ 0 (⟨#[]⟩:ByteArray).size) 61) 1) =
   outQ (qtail s (tv*10^P.size+nv P 0 P.size) P.size e):=by
 rw [e_nv]
 unfold qtail
 rw [if_neg g]
 by_cases l1:e<s.size
 ·rw [if_pos l1]
  simp only [orF,l1,decide_true,if_true]
  exact outR_some _ _ _ (by omega)
 ·rw [if_neg l1]
  simp only [orF,l1,if_false,decide_false,Bool.false_eq_true,Nat.not_lt_zero,ne_eq,not_true,Bool.false_and]
  rw [outR_none _ 0,sgnd_eq hn]
  unfold valR
  simp
theorem eq_exp {s P W:ByteArray} {e b c tv:Nat} {neg up:Bool} (hn:decide (minus s)=neg) (hcs:c≤s.size) (g:isAt s e 101) (hb:expAt s e=b) (hu:up=true↔¬isAt s (e+1) 45) (hc:dend s b=c) (hbc:b<c) (h3:¬b+300<c) (hW:nv W 0 W.size=nv s b (c - b)) :
  outR (orF (orF (orF none (decide (c<s.size)) 1 c) (decide (60<nv W 0 W.size)) 2 b) (decide ((⟨#[]⟩:ByteArray)≠⟨#[]⟩)&&decide ((1:Nat)=0)) 3 0) (valR neg up tv P (min (nv W 0 W.size) 61) 1) =
   outQ (qtail s (tv*10^P.size+nv P 0 P.size) P.size e):=by
 unfold qtail
 rw [if_pos g,hb,hc,if_neg h3,hW]
 by_cases l1:c<s.size
 ·rw [if_pos (.inr l1)]
  simp only [orF,l1,decide_true,if_true]
  exact outR_some _ _ _ (by omega)
 ·rw [if_neg (show ¬(c=b∨c<s.size) by omega),show s.size - b=c - b by omega]
  generalize nv s b (c - b)=x at *
  by_cases l2:60<x
  ·rw [if_pos l2]
   simp only [orF,l1,l2,if_true,decide_false,Bool.false_eq_true,if_false,decide_true]
   exact outR_some _ _ _ (by omega)
  ·rw [if_neg l2]
   simp only [orF,l1,l2,if_false,decide_false,Bool.false_eq_true,ne_eq,not_true,Bool.false_and]
   rw [outR_none _ 0,show min x 61=x by omega]
   unfold valR
   cases up with
   | true =>
    rw [if_neg (hu.1 rfl),sgnd_eq hn]
    simp
   | false =>
    rw [if_pos (show isAt s (e+1) 45 from Classical.byContradiction fun h=>by have:=hu.2 h;cases this),sgnd_eq hn]
    simp [Nat.pow_add]
def st5 (s T:ByteArray) (neg:Bool) (a:Nat) (E:Option (Nat × Nat)):St:=⟨151,[(0,.val (.string s)),(2,.ptr 0 0 0),(3,.val .nilIface),(4,.ptr 1 0 0),(5,.val (.bool neg)),(6,.val (.string T)),(7,.val (.string ⟨#[]⟩)),(8,.val (.string ⟨#[]⟩)),(9,.val (.string ⟨#[]⟩)),(10,.val (.bool true)),(11,.val (.int .i64 0)),(12,.val (.int .i64 0))],MR s a E⟩
theorem IA.errP {s T P:ByteArray} {a pa:Nat} {c p:Nat} {neg up:Bool} {st:St} (hc:c=1∨c=2∨c=3) (hT:T.size≤400) (hP:P.size≤400) (hPd:∀i,i<P.size→digAt P i) (hq:qrd 300 s=(0,c,p))
  (h:st=⟨151,[(0,.val (.string s)),(2,.ptr 0 0 0),(3,.val .nilIface),(4,.ptr 1 0 0),(5,.val (.bool neg)),(6,.val (.string T)),(7,.val (.string P)),(8,.val (.string ⟨#[]⟩)),(9,.val (.string ⟨#[]⟩)),(10,.val (.bool up)),(11,.val (.int .i64 0)),(12,.val (.int .i64 pa))],MR s a (some (c,p))⟩):IA s st :=
 ⟨T,P,⟨#[]⟩,⟨#[]⟩,a,0,pa,some (c,p),neg,up,0,1,fun c' p' h'=>by simp only [Option.some.injEq,Prod.mk.injEq] at h';omega,fun h'=>(by cases h'),hT,hP,hPd,fw1,fw_zero _,.inl ⟨rfl,rfl⟩,
  e_all _,Nat.zero_le _,by simp only [orF_some];rw [outR_some _ _ _ (by omega),hq],h⟩
theorem head_err {C:Ctx} {Q:Post} (hC:C.fx=[]) {s T:ByteArray} {neg:Bool} {a c p:Nat} (hTz:T.size≤300) (hc:c=1∨c=2∨c=3) (hq:qrd 300 s=(0,c,p)):vc Tryz.prog C (takeC 1 (dropC 5 readBody)) (st5 s T neg a (some (c,p))) (cutQ C (IA s) Q) (cutQ C (IA s) Q):=by
 simp only [readBody,Tryz.f110,Option.getD_some,dropC_succ,dropC_zero,takeC_succ,takeC_zero]
 simp [st5,MR]
 refine is_err s a 47 (k2:=2) (by simp [tget,rdr]) (by simp) ?_
 simp
 refine is_err s a 46 (k2:=2) (by simp [tget,rdr]) (by simp) ?_
 simp
 refine is_err s a 101 (k2:=2) (by simp [tget,rdr]) (by simp) ?_
 simp
 exact ⟨_,IA.err (T:=T) (a:=a) (la:=0) (pa:=0) (neg:=neg) (up:=true) hc (by omega) hq rfl,by simp [leS,hC,MR,flt,rdr,z4]⟩
theorem head_slash {C:Ctx} {Q:Post} (hC:C.fx=[]) {s T:ByteArray} {neg:Bool} {e tv:Nat} (hs:s.size≤4611686018427387904) (hn:decide (minus s)=neg) (hes:e≤s.size) (hT:rd T=((tv:Int),0,0)) (hTz:T.size≤300) (ht:fw 400 (tv:Nat)) (g:isAt s e 47)
  (hq0:qrd 300 s=if e+1+300<dend s (e+1) then (0,2,e+1+300) else if dend s (e+1)=e+1∨dend s (e+1)<s.size then (0,1,dend s (e+1)) else if nv s (e+1) (s.size - (e+1))=0 then (0,3,e+1) else (Rat.divInt (sgnd s tv) (nv s (e+1) (s.size - (e+1)):Int),0,0)):vc Tryz.prog C (takeC 1 (dropC 5 readBody)) (st5 s T neg e none) (cutQ C (IA s) Q) (cutQ C (IA s) Q):=by
 simp only [readBody,Tryz.f110,Option.getD_some,dropC_succ,dropC_zero,takeC_succ,takeC_zero]
 simp [st5,MR]
 have hg:=g.1
 refine is_here s e 47 (by simp [tget,rdr]) hs (by omega) (by simp) (fun _=>?_) (fun g'=>absurd g g')
 simp [rdr]
 refine digits_here s (e+1) (by simp [tget,rdr]) hs (by omega) (by simp) (fun k1=>?_) (fun k1=>?_) (fun k1 k2=>?_)
 ·have hq:qrd 300 s=(0,2,e+1+300):=by rw [hq0,if_pos k1]
  simp
  exact ⟨_,IA.err (T:=T) (a:=e+1+300) (la:=e+1) (pa:=0) (neg:=neg) (up:=true) (by omega) (by omega) hq rfl,by simp [leS,hC,MR,flt,rdr,z4]⟩
 ·have hq:qrd 300 s=(0,1,e+1):=by rw [hq0,if_neg (by omega),if_pos (.inl k1),k1]
  simp
  exact ⟨_,IA.err (T:=T) (a:=e+1) (la:=e+1) (pa:=0) (neg:=neg) (up:=true) (by omega) (by omega) hq rfl,by simp [leS,hC,MR,flt,rdr,z4]⟩
 ·obtain ⟨b,hb⟩:∃b,b=dend s (e+1):=⟨_,rfl⟩
  have hbs:=dend_le (s:=s) (a:=e+1) (by omega)
  have hLd:=fun i (h1:e+1≤i) (h2:i<b)=>dend_dig (s:=s) (a:=e+1) h1 (hb ▸ h2)
  rw [←hb] at k1 k2 hbs hq0
  rw [if_neg k1] at hq0
  have hLz:=size_ext s (a:=e+1) hbs
  have hL:=rd_digits (dig_ext hbs hLd) (by omega) (by omega)
  rw [hLz,nv_ext s hbs _ (by omega)] at hL
  have hd:fw 400 (nv s (e+1) (b - (e+1)):Nat):=fw_nv (fun i i1 i2=>hLd i i1 (by omega)) (by omega)
  have hLn:=ext_ne hbs (show e+1<b by omega)
  rw [←hb]
  have hL4:(s.extract (e+1) b).size≤400:=by omega
  have fin:=eq_slash (tv:=tv) hn hLn hbs (by omega) (d:=nv s (e+1) (b - (e+1))) rfl
  rw [←hq0] at fin
  generalize s.extract (e+1) b=Lw at *
  simp
  exact ⟨_,⟨T,⟨#[]⟩,Lw,⟨#[]⟩,b,e+1,0,none,neg,true,tv,nv s (e+1) (b - (e+1)),by simp,fun _=>hT,by omega,Nat.zero_le _,e_all _,hd,ht,.inr ⟨hLn,hL,hL4⟩,e_all _,Nat.zero_le _,fin,rfl⟩,by simp [leS,hC,MR,flt,rdr,z4]⟩
theorem head_dot0 {C:Ctx} {Q:Post} (hC:C.fx=[]) {s T:ByteArray} {neg:Bool} {e tv:Nat} (hs:s.size≤4611686018427387904) (hn:decide (minus s)=neg) (hes:e≤s.size) (hT:rd T=((tv:Int),0,0)) (hTz:T.size≤300) (ht:fw 400 (tv:Nat)) (g0:¬isAt s e 47) (g:isAt s e 46) (hk:e+1+300<dend s (e+1)∨dend s (e+1)=e+1)
  (hq0:qrd 300 s=if e+1+300<dend s (e+1) then (0,2,e+1+300) else if dend s (e+1)=e+1 then (0,1,e+1) else qtail s (tv*10^(dend s (e+1) - (e+1))+nv s (e+1) (dend s (e+1) - (e+1))) (dend s (e+1) - (e+1)) (dend s (e+1))):vc Tryz.prog C (takeC 1 (dropC 5 readBody)) (st5 s T neg e none) (cutQ C (IA s) Q) (cutQ C (IA s) Q):=by
 simp only [readBody,Tryz.f110,Option.getD_some,dropC_succ,dropC_zero,takeC_succ,takeC_zero]
 simp [st5,MR]
 have hg:=g.1
 refine is_here s e 47 (by simp [tget,rdr]) hs (by omega) (by simp) (fun g'=>absurd g' g0) (fun _=>?_)
 simp
 refine is_here s e 46 (by simp [tget,rdr]) hs (by omega) (by simp) (fun _=>?_) (fun g'=>absurd g g')
 simp [rdr]
 refine digits_here s (e+1) (by simp [tget,rdr]) hs (by omega) (by simp) (fun k1=>?_) (fun k1=>?_) (fun k1 k2=>by omega)
 ·have hq:qrd 300 s=(0,2,e+1+300):=by rw [hq0,if_pos k1]
  simp
  refine is_err s (e+1+300) 101 (k2:=2) (by simp [tget,rdr]) (by simp) ?_
  simp
  exact ⟨_,IA.err (T:=T) (a:=e+1+300) (la:=0) (pa:=0) (neg:=neg) (up:=true) (by omega) (by omega) hq rfl,by simp [leS,hC,MR,flt,rdr,z4]⟩
 ·have hq:qrd 300 s=(0,1,e+1):=by rw [hq0,if_neg (by omega),if_pos k1]
  simp
  refine is_err s (e+1) 101 (k2:=2) (by simp [tget,rdr]) (by simp) ?_
  simp
  exact ⟨_,IA.err (T:=T) (a:=e+1) (la:=0) (pa:=0) (neg:=neg) (up:=true) (by omega) (by omega) hq rfl,by simp [leS,hC,MR,flt,rdr,z4]⟩
theorem head_dx0 {C:Ctx} {Q:Post} (hC:C.fx=[]) {s T:ByteArray} {neg:Bool} {e tv:Nat} (hs:s.size≤4611686018427387904) (hn:decide (minus s)=neg) (hes:e≤s.size) (hT:rd T=((tv:Int),0,0)) (hTz:T.size≤300) (ht:fw 400 (tv:Nat)) (g0:¬isAt s e 47) (g:isAt s e 46) (hk1:¬e+1+300<dend s (e+1)) (hk2:e+1<dend s (e+1)) {f:Nat} (hf:f=dend s (e+1)) {P:ByteArray} (hPe:P=s.extract (e+1) f) (hPz:P.size=f - (e+1)) (hPd:∀i,i<P.size→digAt P i) (hfs:f≤s.size) (hq0:qrd 300 s=qtail s (tv*10^P.size+nv P 0 P.size) P.size f) (x0:¬isAt s f 101):vc Tryz.prog C (takeC 1 (dropC 5 readBody)) (st5 s T neg e none) (cutQ C (IA s) Q) (cutQ C (IA s) Q):=by
 simp only [readBody,Tryz.f110,Option.getD_some,dropC_succ,dropC_zero,takeC_succ,takeC_zero]
 simp [st5,MR]
 have hg:=g.1
 refine is_here s e 47 (by simp [tget,rdr]) hs (by omega) (by simp) (fun g'=>absurd g' g0) (fun _=>?_)
 simp
 refine is_here s e 46 (by simp [tget,rdr]) hs (by omega) (by simp) (fun _=>?_) (fun g'=>absurd g g')
 simp [rdr]
 refine digits_here s (e+1) (by simp [tget,rdr]) hs (by omega) (by simp) (fun k1=>by omega) (fun k1=>by omega) (fun _ _=>?_)
 rw [←hf,←hPe]
 simp [rdr]
 refine is_here s f 101 (by simp [tget,rdr]) hs (by omega) (by simp) (fun g'=>absurd g' x0) (fun _=>?_)
 have fin:=eq_noexp (P:=P) (tv:=tv) hn hfs x0
 rw [←hq0] at fin
 simp
 exact ⟨_,⟨T,P,⟨#[]⟩,⟨#[]⟩,f,0,0,none,neg,true,tv,1,by simp,fun _=>hT,by omega,by omega,hPd,fw1,ht,.inl ⟨rfl,rfl⟩,e_all _,Nat.zero_le _,fin,rfl⟩,by simp [leS,hC,MR,flt,rdr,z4]⟩
theorem head_dx1 {C:Ctx} {Q:Post} (hC:C.fx=[]) {s T:ByteArray} {neg:Bool} {e tv:Nat} (hs:s.size≤4611686018427387904) (hn:decide (minus s)=neg) (hes:e≤s.size) (hT:rd T=((tv:Int),0,0)) (hTz:T.size≤300) (ht:fw 400 (tv:Nat)) (g0:¬isAt s e 47) (g:isAt s e 46) (hk1:¬e+1+300<dend s (e+1)) (hk2:e+1<dend s (e+1)) {f:Nat} (hf:f=dend s (e+1)) {P:ByteArray} (hPe:P=s.extract (e+1) f) (hPz:P.size=f - (e+1)) (hPd:∀i,i<P.size→digAt P i) (hfs:f≤s.size) (hq0:qrd 300 s=qtail s (tv*10^P.size+nv P 0 P.size) P.size f) (x0:isAt s f 101) (x1:isAt s (f+1) 45):vc Tryz.prog C (takeC 1 (dropC 5 readBody)) (st5 s T neg e none) (cutQ C (IA s) Q) (cutQ C (IA s) Q):=by
 simp only [readBody,Tryz.f110,Option.getD_some,dropC_succ,dropC_zero,takeC_succ,takeC_zero]
 simp [st5,MR]
 have hg:=g.1
 refine is_here s e 47 (by simp [tget,rdr]) hs (by omega) (by simp) (fun g'=>absurd g' g0) (fun _=>?_)
 simp
 refine is_here s e 46 (by simp [tget,rdr]) hs (by omega) (by simp) (fun _=>?_) (fun g'=>absurd g g')
 simp [rdr]
 refine digits_here s (e+1) (by simp [tget,rdr]) hs (by omega) (by simp) (fun k1=>by omega) (fun k1=>by omega) (fun _ _=>?_)
 rw [←hf,←hPe]
 simp [rdr]
 have hx0:=x0.1
 refine is_here s f 101 (by simp [tget,rdr]) hs (by omega) (by simp) (fun _=>?_) (fun g'=>absurd x0 g')
 simp [rdr]
 have hx1:=x1.1
 have hb:expAt s f=f+1+1:=by unfold expAt;rw [if_pos (.inl x1)]
 refine is_here s (f+1) 45 (by simp [tget,rdr]) hs (by omega) (by simp) (fun _=>?_) (fun g'=>absurd x1 g')
 simp [rdr]
 refine digits_here s (f+1+1) (by simp [tget,rdr]) hs (by omega) (by simp) (fun k1=>?_) (fun k1=>?_) (fun k1 k2=>?_)
 ·have hq:qrd 300 s=(0,2,f+1+1+300):=by rw [hq0];unfold qtail;rw [if_pos x0,hb,if_pos k1]
  simp [rdr]
  exact ⟨_,IA.errP (T:=T) (P:=P) (a:=f+1+1+300) (pa:=f+1+1) (neg:=neg) (up:=false) (by omega) (by omega) (by omega) hPd hq rfl,by simp [leS,hC,MR,flt,rdr,z4]⟩
 ·have hq:qrd 300 s=(0,1,f+1+1):=by rw [hq0];unfold qtail;rw [if_pos x0,hb,if_neg (by omega),if_pos (.inl k1),k1]
  simp [rdr]
  exact ⟨_,IA.errP (T:=T) (P:=P) (a:=f+1+1) (pa:=f+1+1) (neg:=neg) (up:=false) (by omega) (by omega) (by omega) hPd hq rfl,by simp [leS,hC,MR,flt,rdr,z4]⟩
 ·obtain ⟨c,hc⟩:∃c,c=dend s (f+1+1):=⟨_,rfl⟩
  have hcs:=dend_le (s:=s) (a:=f+1+1) (by omega)
  have hWd:=fun i (h1:f+1+1≤i) (h2:i<c)=>dend_dig (s:=s) (a:=f+1+1) h1 (hc ▸ h2)
  rw [←hc] at k1 k2 hcs
  have hWz:=size_ext s (a:=f+1+1) hcs
  have hWn:=nv_ext s (a:=f+1+1) hcs (c - (f+1+1)) (by omega)
  rw [←hWz] at hWn
  have hWa:=dig_ext hcs hWd
  rw [←hc]
  generalize s.extract (f+1+1) c=W at *
  rw [hWz] at hWn
  have hW4:W.size≤400:=by omega
  have fin:=eq_exp (P:=P) (W:=W) (tv:=tv) (up:=false) hn hcs x0 hb (by simp [x1]) hc.symm k2 k1 (by rw [hWz];exact hWn)
  rw [←hq0] at fin
  simp [rdr]
  exact ⟨_,⟨T,P,⟨#[]⟩,W,c,0,f+1+1,none,neg,false,tv,1,by simp,fun _=>hT,by omega,by omega,hPd,fw1,ht,.inl ⟨rfl,rfl⟩,hWa,hW4,fin,rfl⟩,by simp [leS,hC,MR,flt,rdr,z4]⟩
theorem head_dx2 {C:Ctx} {Q:Post} (hC:C.fx=[]) {s T:ByteArray} {neg:Bool} {e tv:Nat} (hs:s.size≤4611686018427387904) (hn:decide (minus s)=neg) (hes:e≤s.size) (hT:rd T=((tv:Int),0,0)) (hTz:T.size≤300) (ht:fw 400 (tv:Nat)) (g0:¬isAt s e 47) (g:isAt s e 46) (hk1:¬e+1+300<dend s (e+1)) (hk2:e+1<dend s (e+1)) {f:Nat} (hf:f=dend s (e+1)) {P:ByteArray} (hPe:P=s.extract (e+1) f) (hPz:P.size=f - (e+1)) (hPd:∀i,i<P.size→digAt P i) (hfs:f≤s.size) (hq0:qrd 300 s=qtail s (tv*10^P.size+nv P 0 P.size) P.size f) (x0:isAt s f 101) (x1:¬isAt s (f+1) 45) (x2:isAt s (f+1) 43):vc Tryz.prog C (takeC 1 (dropC 5 readBody)) (st5 s T neg e none) (cutQ C (IA s) Q) (cutQ C (IA s) Q):=by
 simp only [readBody,Tryz.f110,Option.getD_some,dropC_succ,dropC_zero,takeC_succ,takeC_zero]
 simp [st5,MR]
 have hg:=g.1
 refine is_here s e 47 (by simp [tget,rdr]) hs (by omega) (by simp) (fun g'=>absurd g' g0) (fun _=>?_)
 simp
 refine is_here s e 46 (by simp [tget,rdr]) hs (by omega) (by simp) (fun _=>?_) (fun g'=>absurd g g')
 simp [rdr]
 refine digits_here s (e+1) (by simp [tget,rdr]) hs (by omega) (by simp) (fun k1=>by omega) (fun k1=>by omega) (fun _ _=>?_)
 rw [←hf,←hPe]
 simp [rdr]
 have hx0:=x0.1
 refine is_here s f 101 (by simp [tget,rdr]) hs (by omega) (by simp) (fun _=>?_) (fun g'=>absurd x0 g')
 simp [rdr]
 have hx1:=x2.1
 have hb:expAt s f=f+1+1:=by unfold expAt;rw [if_pos (.inr x2)]
 refine is_here s (f+1) 45 (by simp [tget,rdr]) hs (by omega) (by simp) (fun g'=>absurd g' x1) (fun _=>?_)
 simp [rdr]
 refine is_here s (f+1) 43 (by simp [tget,rdr]) hs (by omega) (by simp) (fun _=>?_) (fun g'=>absurd x2 g')
 simp [rdr]
 refine digits_here s (f+1+1) (by simp [tget,rdr]) hs (by omega) (by simp) (fun k1=>?_) (fun k1=>?_) (fun k1 k2=>?_)
 ·have hq:qrd 300 s=(0,2,f+1+1+300):=by rw [hq0];unfold qtail;rw [if_pos x0,hb,if_pos k1]
  simp [rdr]
  exact ⟨_,IA.errP (T:=T) (P:=P) (a:=f+1+1+300) (pa:=f+1+1) (neg:=neg) (up:=true) (by omega) (by omega) (by omega) hPd hq rfl,by simp [leS,hC,MR,flt,rdr,z4]⟩
 ·have hq:qrd 300 s=(0,1,f+1+1):=by rw [hq0];unfold qtail;rw [if_pos x0,hb,if_neg (by omega),if_pos (.inl k1),k1]
  simp [rdr]
  exact ⟨_,IA.errP (T:=T) (P:=P) (a:=f+1+1) (pa:=f+1+1) (neg:=neg) (up:=true) (by omega) (by omega) (by omega) hPd hq rfl,by simp [leS,hC,MR,flt,rdr,z4]⟩
 ·obtain ⟨c,hc⟩:∃c,c=dend s (f+1+1):=⟨_,rfl⟩
  have hcs:=dend_le (s:=s) (a:=f+1+1) (by omega)
  have hWd:=fun i (h1:f+1+1≤i) (h2:i<c)=>dend_dig (s:=s) (a:=f+1+1) h1 (hc ▸ h2)
  rw [←hc] at k1 k2 hcs
  have hWz:=size_ext s (a:=f+1+1) hcs
  have hWn:=nv_ext s (a:=f+1+1) hcs (c - (f+1+1)) (by omega)
  rw [←hWz] at hWn
  have hWa:=dig_ext hcs hWd
  rw [←hc]
  generalize s.extract (f+1+1) c=W at *
  rw [hWz] at hWn
  have hW4:W.size≤400:=by omega
  have fin:=eq_exp (P:=P) (W:=W) (tv:=tv) (up:=true) hn hcs x0 hb (by simp [x1]) hc.symm k2 k1 (by rw [hWz];exact hWn)
  rw [←hq0] at fin
  simp [rdr]
  exact ⟨_,⟨T,P,⟨#[]⟩,W,c,0,f+1+1,none,neg,true,tv,1,by simp,fun _=>hT,by omega,by omega,hPd,fw1,ht,.inl ⟨rfl,rfl⟩,hWa,hW4,fin,rfl⟩,by simp [leS,hC,MR,flt,rdr,z4]⟩
theorem head_dx3 {C:Ctx} {Q:Post} (hC:C.fx=[]) {s T:ByteArray} {neg:Bool} {e tv:Nat} (hs:s.size≤4611686018427387904) (hn:decide (minus s)=neg) (hes:e≤s.size) (hT:rd T=((tv:Int),0,0)) (hTz:T.size≤300) (ht:fw 400 (tv:Nat)) (g0:¬isAt s e 47) (g:isAt s e 46) (hk1:¬e+1+300<dend s (e+1)) (hk2:e+1<dend s (e+1)) {f:Nat} (hf:f=dend s (e+1)) {P:ByteArray} (hPe:P=s.extract (e+1) f) (hPz:P.size=f - (e+1)) (hPd:∀i,i<P.size→digAt P i) (hfs:f≤s.size) (hq0:qrd 300 s=qtail s (tv*10^P.size+nv P 0 P.size) P.size f) (x0:isAt s f 101) (x1:¬isAt s (f+1) 45) (x2:¬isAt s (f+1) 43):vc Tryz.prog C (takeC 1 (dropC 5 readBody)) (st5 s T neg e none) (cutQ C (IA s) Q) (cutQ C (IA s) Q):=by
 simp only [readBody,Tryz.f110,Option.getD_some,dropC_succ,dropC_zero,takeC_succ,takeC_zero]
 simp [st5,MR]
 have hg:=g.1
 refine is_here s e 47 (by simp [tget,rdr]) hs (by omega) (by simp) (fun g'=>absurd g' g0) (fun _=>?_)
 simp
 refine is_here s e 46 (by simp [tget,rdr]) hs (by omega) (by simp) (fun _=>?_) (fun g'=>absurd g g')
 simp [rdr]
 refine digits_here s (e+1) (by simp [tget,rdr]) hs (by omega) (by simp) (fun k1=>by omega) (fun k1=>by omega) (fun _ _=>?_)
 rw [←hf,←hPe]
 simp [rdr]
 have hx0:=x0.1
 refine is_here s f 101 (by simp [tget,rdr]) hs (by omega) (by simp) (fun _=>?_) (fun g'=>absurd x0 g')
 simp [rdr]
 have hb:expAt s f=f+1:=by unfold expAt;rw [if_neg (fun h=>h.elim x1 x2)]
 refine is_here s (f+1) 45 (by simp [tget,rdr]) hs (by omega) (by simp) (fun g'=>absurd g' x1) (fun _=>?_)
 simp [rdr]
 refine is_here s (f+1) 43 (by simp [tget,rdr]) hs (by omega) (by simp) (fun g'=>absurd g' x2) (fun _=>?_)
 simp [rdr]
 refine digits_here s (f+1) (by simp [tget,rdr]) hs (by omega) (by simp) (fun k1=>?_) (fun k1=>?_) (fun k1 k2=>?_)
 ·have hq:qrd 300 s=(0,2,f+1+300):=by rw [hq0];unfold qtail;rw [if_pos x0,hb,if_pos k1]
  simp [rdr]
  exact ⟨_,IA.errP (T:=T) (P:=P) (a:=f+1+300) (pa:=f+1) (neg:=neg) (up:=true) (by omega) (by omega) (by omega) hPd hq rfl,by simp [leS,hC,MR,flt,rdr,z4]⟩
 ·have hq:qrd 300 s=(0,1,f+1):=by rw [hq0];unfold qtail;rw [if_pos x0,hb,if_neg (by omega),if_pos (.inl k1),k1]
  simp [rdr]
  exact ⟨_,IA.errP (T:=T) (P:=P) (a:=f+1) (pa:=f+1) (neg:=neg) (up:=true) (by omega) (by omega) (by omega) hPd hq rfl,by simp [leS,hC,MR,flt,rdr,z4]⟩
 ·obtain ⟨c,hc⟩:∃c,c=dend s (f+1):=⟨_,rfl⟩
  have hcs:=dend_le (s:=s) (a:=f+1) (by omega)
  have hWd:=fun i (h1:f+1≤i) (h2:i<c)=>dend_dig (s:=s) (a:=f+1) h1 (hc ▸ h2)
  rw [←hc] at k1 k2 hcs
  have hWz:=size_ext s (a:=f+1) hcs
  have hWn:=nv_ext s (a:=f+1) hcs (c - (f+1)) (by omega)
  rw [←hWz] at hWn
  have hWa:=dig_ext hcs hWd
  rw [←hc]
  generalize s.extract (f+1) c=W at *
  rw [hWz] at hWn
  have hW4:W.size≤400:=by omega
  have fin:=eq_exp (P:=P) (W:=W) (tv:=tv) (up:=true) hn hcs x0 hb (by simp [x1]) hc.symm k2 k1 (by rw [hWz];exact hWn)
  rw [←hq0] at fin
  simp [rdr]
  exact ⟨_,⟨T,P,⟨#[]⟩,W,c,0,f+1,none,neg,true,tv,1,by simp,fun _=>hT,by omega,by omega,hPd,fw1,ht,.inl ⟨rfl,rfl⟩,hWa,hW4,fin,rfl⟩,by simp [leS,hC,MR,flt,rdr,z4]⟩
theorem head_nx0 {C:Ctx} {Q:Post} (hC:C.fx=[]) {s T:ByteArray} {neg:Bool} {e tv:Nat} (hs:s.size≤4611686018427387904) (hn:decide (minus s)=neg) (hes:e≤s.size) (hT:rd T=((tv:Int),0,0)) (hTz:T.size≤300) (ht:fw 400 (tv:Nat)) (g0:¬isAt s e 47) (g:¬isAt s e 46) {f:Nat} (hf:f=e) {P:ByteArray} (hPe:P=⟨#[]⟩) (hPz:P.size=0) (hPd:∀i,i<P.size→digAt P i) (hfs:f≤s.size) (hq0:qrd 300 s=qtail s (tv*10^P.size+nv P 0 P.size) P.size f) (x0:¬isAt s f 101):vc Tryz.prog C (takeC 1 (dropC 5 readBody)) (st5 s T neg e none) (cutQ C (IA s) Q) (cutQ C (IA s) Q):=by
 simp only [readBody,Tryz.f110,Option.getD_some,dropC_succ,dropC_zero,takeC_succ,takeC_zero]
 simp [st5,MR]
 subst hf
 subst hPe
 refine is_here s f 47 (by simp [tget,rdr]) hs (by omega) (by simp) (fun g'=>absurd g' g0) (fun _=>?_)
 simp
 refine is_here s f 46 (by simp [tget,rdr]) hs (by omega) (by simp) (fun g'=>absurd g' g) (fun _=>?_)
 simp [rdr]
 refine is_here s f 101 (by simp [tget,rdr]) hs (by omega) (by simp) (fun g'=>absurd g' x0) (fun _=>?_)
 have fin:=eq_noexp (P:=⟨#[]⟩) (tv:=tv) hn hfs x0
 rw [←hq0] at fin
 simp
 exact ⟨_,⟨T,⟨#[]⟩,⟨#[]⟩,⟨#[]⟩,f,0,0,none,neg,true,tv,1,by simp,fun _=>hT,by omega,by omega,hPd,fw1,ht,.inl ⟨rfl,rfl⟩,e_all _,Nat.zero_le _,fin,rfl⟩,by simp [leS,hC,MR,flt,rdr,z4]⟩
theorem head_nx1 {C:Ctx} {Q:Post} (hC:C.fx=[]) {s T:ByteArray} {neg:Bool} {e tv:Nat} (hs:s.size≤4611686018427387904) (hn:decide (minus s)=neg) (hes:e≤s.size) (hT:rd T=((tv:Int),0,0)) (hTz:T.size≤300) (ht:fw 400 (tv:Nat)) (g0:¬isAt s e 47) (g:¬isAt s e 46) {f:Nat} (hf:f=e) {P:ByteArray} (hPe:P=⟨#[]⟩) (hPz:P.size=0) (hPd:∀i,i<P.size→digAt P i) (hfs:f≤s.size) (hq0:qrd 300 s=qtail s (tv*10^P.size+nv P 0 P.size) P.size f) (x0:isAt s f 101) (x1:isAt s (f+1) 45):vc Tryz.prog C (takeC 1 (dropC 5 readBody)) (st5 s T neg e none) (cutQ C (IA s) Q) (cutQ C (IA s) Q):=by
 simp only [readBody,Tryz.f110,Option.getD_some,dropC_succ,dropC_zero,takeC_succ,takeC_zero]
 simp [st5,MR]
 subst hf
 subst hPe
 refine is_here s f 47 (by simp [tget,rdr]) hs (by omega) (by simp) (fun g'=>absurd g' g0) (fun _=>?_)
 simp
 refine is_here s f 46 (by simp [tget,rdr]) hs (by omega) (by simp) (fun g'=>absurd g' g) (fun _=>?_)
 simp [rdr]
 have hx0:=x0.1
 refine is_here s f 101 (by simp [tget,rdr]) hs (by omega) (by simp) (fun _=>?_) (fun g'=>absurd x0 g')
 simp [rdr]
 have hx1:=x1.1
 have hb:expAt s f=f+1+1:=by unfold expAt;rw [if_pos (.inl x1)]
 refine is_here s (f+1) 45 (by simp [tget,rdr]) hs (by omega) (by simp) (fun _=>?_) (fun g'=>absurd x1 g')
 simp [rdr]
 refine digits_here s (f+1+1) (by simp [tget,rdr]) hs (by omega) (by simp) (fun k1=>?_) (fun k1=>?_) (fun k1 k2=>?_)
 ·have hq:qrd 300 s=(0,2,f+1+1+300):=by rw [hq0];unfold qtail;rw [if_pos x0,hb,if_pos k1]
  simp [rdr]
  exact ⟨_,IA.errP (T:=T) (P:=⟨#[]⟩) (a:=f+1+1+300) (pa:=f+1+1) (neg:=neg) (up:=false) (by omega) (by omega) (by omega) hPd hq rfl,by simp [leS,hC,MR,flt,rdr,z4]⟩
 ·have hq:qrd 300 s=(0,1,f+1+1):=by rw [hq0];unfold qtail;rw [if_pos x0,hb,if_neg (by omega),if_pos (.inl k1),k1]
  simp [rdr]
  exact ⟨_,IA.errP (T:=T) (P:=⟨#[]⟩) (a:=f+1+1) (pa:=f+1+1) (neg:=neg) (up:=false) (by omega) (by omega) (by omega) hPd hq rfl,by simp [leS,hC,MR,flt,rdr,z4]⟩
 ·obtain ⟨c,hc⟩:∃c,c=dend s (f+1+1):=⟨_,rfl⟩
  have hcs:=dend_le (s:=s) (a:=f+1+1) (by omega)
  have hWd:=fun i (h1:f+1+1≤i) (h2:i<c)=>dend_dig (s:=s) (a:=f+1+1) h1 (hc ▸ h2)
  rw [←hc] at k1 k2 hcs
  have hWz:=size_ext s (a:=f+1+1) hcs
  have hWn:=nv_ext s (a:=f+1+1) hcs (c - (f+1+1)) (by omega)
  rw [←hWz] at hWn
  have hWa:=dig_ext hcs hWd
  rw [←hc]
  generalize s.extract (f+1+1) c=W at *
  rw [hWz] at hWn
  have hW4:W.size≤400:=by omega
  have fin:=eq_exp (P:=⟨#[]⟩) (W:=W) (tv:=tv) (up:=false) hn hcs x0 hb (by simp [x1]) hc.symm k2 k1 (by rw [hWz];exact hWn)
  rw [←hq0] at fin
  simp [rdr]
  exact ⟨_,⟨T,⟨#[]⟩,⟨#[]⟩,W,c,0,f+1+1,none,neg,false,tv,1,by simp,fun _=>hT,by omega,by omega,hPd,fw1,ht,.inl ⟨rfl,rfl⟩,hWa,hW4,fin,rfl⟩,by simp [leS,hC,MR,flt,rdr,z4]⟩
theorem head_nx2 {C:Ctx} {Q:Post} (hC:C.fx=[]) {s T:ByteArray} {neg:Bool} {e tv:Nat} (hs:s.size≤4611686018427387904) (hn:decide (minus s)=neg) (hes:e≤s.size) (hT:rd T=((tv:Int),0,0)) (hTz:T.size≤300) (ht:fw 400 (tv:Nat)) (g0:¬isAt s e 47) (g:¬isAt s e 46) {f:Nat} (hf:f=e) {P:ByteArray} (hPe:P=⟨#[]⟩) (hPz:P.size=0) (hPd:∀i,i<P.size→digAt P i) (hfs:f≤s.size) (hq0:qrd 300 s=qtail s (tv*10^P.size+nv P 0 P.size) P.size f) (x0:isAt s f 101) (x1:¬isAt s (f+1) 45) (x2:isAt s (f+1) 43):vc Tryz.prog C (takeC 1 (dropC 5 readBody)) (st5 s T neg e none) (cutQ C (IA s) Q) (cutQ C (IA s) Q):=by
 simp only [readBody,Tryz.f110,Option.getD_some,dropC_succ,dropC_zero,takeC_succ,takeC_zero]
 simp [st5,MR]
 subst hf
 subst hPe
 refine is_here s f 47 (by simp [tget,rdr]) hs (by omega) (by simp) (fun g'=>absurd g' g0) (fun _=>?_)
 simp
 refine is_here s f 46 (by simp [tget,rdr]) hs (by omega) (by simp) (fun g'=>absurd g' g) (fun _=>?_)
 simp [rdr]
 have hx0:=x0.1
 refine is_here s f 101 (by simp [tget,rdr]) hs (by omega) (by simp) (fun _=>?_) (fun g'=>absurd x0 g')
 simp [rdr]
 have hx1:=x2.1
 have hb:expAt s f=f+1+1:=by unfold expAt;rw [if_pos (.inr x2)]
 refine is_here s (f+1) 45 (by simp [tget,rdr]) hs (by omega) (by simp) (fun g'=>absurd g' x1) (fun _=>?_)
 simp [rdr]
 refine is_here s (f+1) 43 (by simp [tget,rdr]) hs (by omega) (by simp) (fun _=>?_) (fun g'=>absurd x2 g')
 simp [rdr]
 refine digits_here s (f+1+1) (by simp [tget,rdr]) hs (by omega) (by simp) (fun k1=>?_) (fun k1=>?_) (fun k1 k2=>?_)
 ·have hq:qrd 300 s=(0,2,f+1+1+300):=by rw [hq0];unfold qtail;rw [if_pos x0,hb,if_pos k1]
  simp [rdr]
  exact ⟨_,IA.errP (T:=T) (P:=⟨#[]⟩) (a:=f+1+1+300) (pa:=f+1+1) (neg:=neg) (up:=true) (by omega) (by omega) (by omega) hPd hq rfl,by simp [leS,hC,MR,flt,rdr,z4]⟩
 ·have hq:qrd 300 s=(0,1,f+1+1):=by rw [hq0];unfold qtail;rw [if_pos x0,hb,if_neg (by omega),if_pos (.inl k1),k1]
  simp [rdr]
  exact ⟨_,IA.errP (T:=T) (P:=⟨#[]⟩) (a:=f+1+1) (pa:=f+1+1) (neg:=neg) (up:=true) (by omega) (by omega) (by omega) hPd hq rfl,by simp [leS,hC,MR,flt,rdr,z4]⟩
 ·obtain ⟨c,hc⟩:∃c,c=dend s (f+1+1):=⟨_,rfl⟩
  have hcs:=dend_le (s:=s) (a:=f+1+1) (by omega)
  have hWd:=fun i (h1:f+1+1≤i) (h2:i<c)=>dend_dig (s:=s) (a:=f+1+1) h1 (hc ▸ h2)
  rw [←hc] at k1 k2 hcs
  have hWz:=size_ext s (a:=f+1+1) hcs
  have hWn:=nv_ext s (a:=f+1+1) hcs (c - (f+1+1)) (by omega)
  rw [←hWz] at hWn
  have hWa:=dig_ext hcs hWd
  rw [←hc]
  generalize s.extract (f+1+1) c=W at *
  rw [hWz] at hWn
  have hW4:W.size≤400:=by omega
  have fin:=eq_exp (P:=⟨#[]⟩) (W:=W) (tv:=tv) (up:=true) hn hcs x0 hb (by simp [x1]) hc.symm k2 k1 (by rw [hWz];exact hWn)
  rw [←hq0] at fin
  simp [rdr]
  exact ⟨_,⟨T,⟨#[]⟩,⟨#[]⟩,W,c,0,f+1+1,none,neg,true,tv,1,by simp,fun _=>hT,by omega,by omega,hPd,fw1,ht,.inl ⟨rfl,rfl⟩,hWa,hW4,fin,rfl⟩,by simp [leS,hC,MR,flt,rdr,z4]⟩
theorem head_nx3 {C:Ctx} {Q:Post} (hC:C.fx=[]) {s T:ByteArray} {neg:Bool} {e tv:Nat} (hs:s.size≤4611686018427387904) (hn:decide (minus s)=neg) (hes:e≤s.size) (hT:rd T=((tv:Int),0,0)) (hTz:T.size≤300) (ht:fw 400 (tv:Nat)) (g0:¬isAt s e 47) (g:¬isAt s e 46) {f:Nat} (hf:f=e) {P:ByteArray} (hPe:P=⟨#[]⟩) (hPz:P.size=0) (hPd:∀i,i<P.size→digAt P i) (hfs:f≤s.size) (hq0:qrd 300 s=qtail s (tv*10^P.size+nv P 0 P.size) P.size f) (x0:isAt s f 101) (x1:¬isAt s (f+1) 45) (x2:¬isAt s (f+1) 43):vc Tryz.prog C (takeC 1 (dropC 5 readBody)) (st5 s T neg e none) (cutQ C (IA s) Q) (cutQ C (IA s) Q):=by
 simp only [readBody,Tryz.f110,Option.getD_some,dropC_succ,dropC_zero,takeC_succ,takeC_zero]
 simp [st5,MR]
 subst hf
 subst hPe
 refine is_here s f 47 (by simp [tget,rdr]) hs (by omega) (by simp) (fun g'=>absurd g' g0) (fun _=>?_)
 simp
 refine is_here s f 46 (by simp [tget,rdr]) hs (by omega) (by simp) (fun g'=>absurd g' g) (fun _=>?_)
 simp [rdr]
 have hx0:=x0.1
 refine is_here s f 101 (by simp [tget,rdr]) hs (by omega) (by simp) (fun _=>?_) (fun g'=>absurd x0 g')
 simp [rdr]
 have hb:expAt s f=f+1:=by unfold expAt;rw [if_neg (fun h=>h.elim x1 x2)]
 refine is_here s (f+1) 45 (by simp [tget,rdr]) hs (by omega) (by simp) (fun g'=>absurd g' x1) (fun _=>?_)
 simp [rdr]
 refine is_here s (f+1) 43 (by simp [tget,rdr]) hs (by omega) (by simp) (fun g'=>absurd g' x2) (fun _=>?_)
 simp [rdr]
 refine digits_here s (f+1) (by simp [tget,rdr]) hs (by omega) (by simp) (fun k1=>?_) (fun k1=>?_) (fun k1 k2=>?_)
 ·have hq:qrd 300 s=(0,2,f+1+300):=by rw [hq0];unfold qtail;rw [if_pos x0,hb,if_pos k1]
  simp [rdr]
  exact ⟨_,IA.errP (T:=T) (P:=⟨#[]⟩) (a:=f+1+300) (pa:=f+1) (neg:=neg) (up:=true) (by omega) (by omega) (by omega) hPd hq rfl,by simp [leS,hC,MR,flt,rdr,z4]⟩
 ·have hq:qrd 300 s=(0,1,f+1):=by rw [hq0];unfold qtail;rw [if_pos x0,hb,if_neg (by omega),if_pos (.inl k1),k1]
  simp [rdr]
  exact ⟨_,IA.errP (T:=T) (P:=⟨#[]⟩) (a:=f+1) (pa:=f+1) (neg:=neg) (up:=true) (by omega) (by omega) (by omega) hPd hq rfl,by simp [leS,hC,MR,flt,rdr,z4]⟩
 ·obtain ⟨c,hc⟩:∃c,c=dend s (f+1):=⟨_,rfl⟩
  have hcs:=dend_le (s:=s) (a:=f+1) (by omega)
  have hWd:=fun i (h1:f+1≤i) (h2:i<c)=>dend_dig (s:=s) (a:=f+1) h1 (hc ▸ h2)
  rw [←hc] at k1 k2 hcs
  have hWz:=size_ext s (a:=f+1) hcs
  have hWn:=nv_ext s (a:=f+1) hcs (c - (f+1)) (by omega)
  rw [←hWz] at hWn
  have hWa:=dig_ext hcs hWd
  rw [←hc]
  generalize s.extract (f+1) c=W at *
  rw [hWz] at hWn
  have hW4:W.size≤400:=by omega
  have fin:=eq_exp (P:=⟨#[]⟩) (W:=W) (tv:=tv) (up:=true) hn hcs x0 hb (by simp [x1]) hc.symm k2 k1 (by rw [hWz];exact hWn)
  rw [←hq0] at fin
  simp [rdr]
  exact ⟨_,⟨T,⟨#[]⟩,⟨#[]⟩,W,c,0,f+1,none,neg,true,tv,1,by simp,fun _=>hT,by omega,by omega,hPd,fw1,ht,.inl ⟨rfl,rfl⟩,hWa,hW4,fin,rfl⟩,by simp [leS,hC,MR,flt,rdr,z4]⟩
end Go.Proofs
set_option maxRecDepth 20000
namespace Go.Proofs
open Go.Sv Go Go.Pl
def IH (s:ByteArray) (neg:Bool) (st:St):Prop :=
 (∃c p a,(c=1∨c=2∨c=3)∧qrd 300 s=(0,c,p)∧st=st5 s ⟨#[]⟩ neg a (some (c,p))) ∨
 (sgnAt s<dend s (sgnAt s)∧¬sgnAt s+300<dend s (sgnAt s)∧st=st5 s (s.extract (sgnAt s) (dend s (sgnAt s))) neg (dend s (sgnAt s)) none)
theorem head_all {C:Ctx} {Q:Post} (hC:C.fx=[]) {s:ByteArray} {neg:Bool} (hs:s.size≤4611686018427387904) (hn:decide (minus s)=neg) {st:St} (h:IH s neg st) :
  vc Tryz.prog C (takeC 1 (dropC 5 readBody)) st (cutQ C (IA s) Q) (cutQ C (IA s) Q):=by
 rcases h with ⟨c,p,a,hc,hq,rfl⟩ | ⟨h2,h1,rfl⟩
 ·exact head_err hC (Nat.zero_le _) hc hq
 ·have hsz:=sgnAt_le s
  obtain ⟨e,he⟩:∃e,e=dend s (sgnAt s):=⟨_,rfl⟩
  have hes:=dend_le hsz
  have hTd:=fun i (h1:sgnAt s≤i) (h2:i<e)=>dend_dig (s:=s) (a:=sgnAt s) h1 (he ▸ h2)
  rw [←he] at h1 h2 hes ⊢
  have hTz:=size_ext s (a:=sgnAt s) hes
  have hT:=rd_digits (dig_ext hes hTd) (by omega) (by omega)
  rw [hTz,nv_ext s hes _ (by omega)] at hT
  have ht:fw 400 (nv s (sgnAt s) (e - sgnAt s):Nat):=fw_nv (fun i i1 i2=>hTd i i1 (by omega)) (by omega)
  have hT3:(s.extract (sgnAt s) e).size≤300:=by omega
  have hq0:qrd 300 s=if isAt s e 47 then
    if e+1+300<dend s (e+1) then (0,2,e+1+300)
    else if dend s (e+1)=e+1∨dend s (e+1)<s.size then (0,1,dend s (e+1))
    else if nv s (e+1) (s.size - (e+1))=0 then (0,3,e+1)
    else (Rat.divInt (sgnd s (nv s (sgnAt s) (e - sgnAt s))) (nv s (e+1) (s.size - (e+1)):Int),0,0)
   else if isAt s e 46 then
    if e+1+300<dend s (e+1) then (0,2,e+1+300)
    else if dend s (e+1)=e+1 then (0,1,e+1)
    else qtail s (nv s (sgnAt s) (e - sgnAt s)*10^(dend s (e+1) - (e+1))+nv s (e+1) (dend s (e+1) - (e+1))) (dend s (e+1) - (e+1)) (dend s (e+1))
   else qtail s (nv s (sgnAt s) (e - sgnAt s)) 0 e:=by
   unfold qrd;rw [←he,if_neg h1,if_neg (by omega)]
  clear he hTd h1 h2
  generalize nv s (sgnAt s) (e - sgnAt s)=tv at *
  generalize s.extract (sgnAt s) e=T at *
  by_cases g0:isAt s e 47
  ·rw [if_pos g0] at hq0
   exact head_slash hC hs hn hes hT hT3 ht g0 hq0
  ·rw [if_neg g0] at hq0
   by_cases g:isAt s e 46
   ·rw [if_pos g] at hq0
    by_cases hk:e+1+300<dend s (e+1)∨dend s (e+1)=e+1
    ·exact head_dot0 hC hs hn hes hT hT3 ht g0 g hk hq0
    ·have hk1:¬e+1+300<dend s (e+1):=fun h=>hk (.inl h)
     have hg:=g.1
     have hk2:e+1<dend s (e+1):=by have:=dend_ge s (e+1);omega
     obtain ⟨f,hf⟩:∃f,f=dend s (e+1):=⟨_,rfl⟩
     have hfs:f≤s.size:=by rw [hf];exact dend_le (by omega)
     have hPd:=fun i (h1:e+1≤i) (h2:i<f)=>dend_dig (s:=s) (a:=e+1) h1 (hf ▸ h2)
     rw [if_neg hk1,if_neg (by omega),←hf] at hq0
     have hPz:=size_ext s (a:=e+1) hfs
     have hPn:=nv_ext s (a:=e+1) hfs (f - (e+1)) (by omega)
     have hPa:=dig_ext hfs hPd
     rw [←hPn,←hPz] at hq0
     by_cases x0:isAt s f 101
     ·by_cases x1:isAt s (f+1) 45
      ·exact head_dx1 hC hs hn hes hT hT3 ht g0 g hk1 hk2 hf rfl hPz hPa hfs hq0 x0 x1
      ·by_cases x2:isAt s (f+1) 43
       ·exact head_dx2 hC hs hn hes hT hT3 ht g0 g hk1 hk2 hf rfl hPz hPa hfs hq0 x0 x1 x2
       ·exact head_dx3 hC hs hn hes hT hT3 ht g0 g hk1 hk2 hf rfl hPz hPa hfs hq0 x0 x1 x2
     ·exact head_dx0 hC hs hn hes hT hT3 ht g0 g hk1 hk2 hf rfl hPz hPa hfs hq0 x0
   ·rw [if_neg g] at hq0
    have hq1:qrd 300 s=qtail s (tv*10^(⟨#[]⟩:ByteArray).size+nv ⟨#[]⟩ 0 (⟨#[]⟩:ByteArray).size) (⟨#[]⟩:ByteArray).size e:=by
     rw [hq0,e_nv,e_size];simp
    by_cases x0:isAt s e 101
    ·by_cases x1:isAt s (e+1) 45
     ·exact head_nx1 hC hs hn hes hT hT3 ht g0 g rfl rfl e_size (e_all _) hes hq1 x0 x1
     ·by_cases x2:isAt s (e+1) 43
      ·exact head_nx2 hC hs hn hes hT hT3 ht g0 g rfl rfl e_size (e_all _) hes hq1 x0 x1 x2
      ·exact head_nx3 hC hs hn hes hT hT3 ht g0 g rfl rfl e_size (e_all _) hes hq1 x0 x1 x2
    ·exact head_nx0 hC hs hn hes hT hT3 ht g0 g rfl rfl e_size (e_all _) hes hq1 x0
theorem qRead_ok (s:ByteArray) (hs:s.size≤4611686018427387904):PureF Tryz.prog 110 [.val (.string s)] (outQ (qrd 300 s)):=by
 refine pure_enterJ Tryz.func110 rfl (by simp) (fun C hC=>?_)
 refine CodeJ.cutAt 3 (fun st=>st=⟨151,[(0,.val (.string s)),(2,.ptr 0 0 0),(3,.val .nilIface),(4,.ptr 1 0 0),(5,.val (.bool (decide (minus s))))],MR s (sgnAt s) none⟩) ?_ ?_
 ·simp
  refine is_here s 0 45 (by simp [tget,rdr]) hs (by omega) (by simp) (fun h=>?_) (fun h=>?_)
  ·have hm:minus s:=h
   have ha:sgnAt s=1:=by simp [sgnAt,hm]
   simp [rdr,hm,ha,MR,leS,hC,z4]
  ·have hm:¬minus s:=h
   have ha:sgnAt s=0:=by simp [sgnAt,hm]
   simp [hm,ha,MR,leS,hC,z4,rdr]
 ·rintro st rfl
  simp only [dropC_succ,dropC_zero]
  refine CodeJ.cutAt 2 (IH s (decide (minus s))) ?_ (fun st h=>CodeJ.cutAt 1 (IA s) (head_all hC hs rfl h) ?_)
  ·simp
   have hsz:=sgnAt_le s
   generalize hneg:decide (minus s)=neg
   refine digits_here s (sgnAt s) (by simp [tget,MR]) hs hsz (by simp [MR]) (fun h1=>?_) (fun h1=>?_) (fun h1 h2=>?_)
   ·have hq:qrd 300 s=(0,2,sgnAt s+300):=by unfold qrd;rw [if_pos h1]
    simp
    exact ⟨_,Or.inl ⟨2,sgnAt s+300,sgnAt s+300,.inr (.inl rfl),hq,rfl⟩,by simp [leS,hC,MR,flt,st5]⟩
   ·have hq:qrd 300 s=(0,1,sgnAt s):=by unfold qrd;rw [if_neg (by omega),if_pos h1]
    simp
    exact ⟨_,Or.inl ⟨1,sgnAt s,sgnAt s,.inl rfl,hq,rfl⟩,by simp [leS,hC,MR,flt,st5]⟩
   ·simp
    exact ⟨_,Or.inr ⟨h2,h1,rfl⟩,by simp [leS,hC,MR,st5]⟩
  ·rintro st ⟨T,P,Lw,Pw,a,la,pa,E,neg,up,t,d,h1,h2,h3,h4,h5,h6,h7,h8,h9,h10,h11,rfl⟩
   have:=read_a (C:=C) hC s T P Lw Pw a la pa E neg up t d h1 h2 h3 h4 h5 h6 h7 h8 h9 h10
   rw [h11] at this
   exact this
end Go.Proofs
namespace Go.Proofs
open Go.Sv Go Go.Pl
def dgm (m:Nat) (s:ByteArray) (a:Nat):Nat × Nat × Int :=
 if a+m<dend s a then (a+m,2,((a+m:Nat):Int)) else if dend s a=a then (a,1,a) else (dend s a,0, -1)
theorem pDigits_ok (s:ByteArray) (a m:Nat) (ha:a≤s.size) (hs:s.size≤4611686018427387904) (hm:m≤4611686018427387904) :
  PureF Tryz.prog 151 [.val (.string s),.val (.int .i64 a),.val (.int .i64 m)] (.tup [.val (.int .i64 (dgm m s a).1),fsv (dgm m s a).2.1 (dgm m s a).2.2]):=by
 refine pure_enter Tryz.func151 rfl (by simp) (fun C hC=>?_)
 simp
 refine CodeJ.loop (ι:=Nat) (fun i=>⟨38,[(0,.val (.string s)),(1,.val (.int .i64 a)),(2,.val (.int .i64 m)),(7,.ptr 0 0 0),(8,.val (.int .i64 i))],
   [some ⟨2,[.agg [.val (.int .i64 0),.val (.int .i64 0)]],false⟩]⟩)
  (fun i=>a≤i∧i≤s.size∧i≤a+m∧∀k,a≤k→k<i→digAt s k) (fun i=>s.size - i) a ?_ ?_ ?_
 ·exact ⟨by omega,ha,by omega,fun k h1 h2=>by omega⟩
 ·simp [leS,hC]
 ·rintro i ⟨h1,h2,h3,h4⟩
  have hb:=byt_lt s i
  have stop:¬digAt s i→dend s a=i:=fun h=>dend_eq h1 h4 h
  have e3:¬digAt s i→¬a+m<dend s a:=fun h=>by rw [stop h];omega
  by_cases hi:i<s.size
  ·have hd:=rDigit_ok (byt s i) hb
   simp [hi]
   refine callF hd (by simp [byt]) ?_
   by_cases hdg:isDig (byt s i)
   ·have hdi:digAt s i:=⟨hi,hdg⟩
    have all:∀k,a≤k→k<i+1→digAt s k:=fun k k1 k2=>by
     by_cases e:k=i
     ·subst e;exact hdi
     ·exact h4 k k1 (by omega)
    by_cases he:i=a+m
    ·have he':(i:Int) - a=m:=by omega
     have hgt:=dend_gt h1 fun k k1 k2=>all k k1 (by omega)
     have hr:dgm m s a=(i,2,(i:Int)):=by
      unfold dgm;rw [if_pos (by omega),←he]
     simp (disch:=omega) [hdg,he',w64,hr,fsv]
    ·have he':¬(i:Int) - a=m:=by omega
     simp (disch:=omega) [hdg,he',w64]
     exact ⟨i+1,⟨by omega,by omega,by omega,all⟩,by omega,by simp [leS,hC]⟩
   ·have hnd:¬digAt s i:=fun h=>hdg h.2
    by_cases he:i=a
    ·have hr:dgm m s a=(a,1,(a:Int)):=by
      unfold dgm;rw [if_neg (e3 hnd),if_pos (by rw [stop hnd,he])]
     subst he
     simp [hdg,hr,fsv]
    ·have hr:dgm m s a=(i,0,(-1:Int)):=by
      unfold dgm;rw [if_neg (e3 hnd),if_neg (by rw [stop hnd];exact he),stop hnd]
     have he':¬(i:Int)=a:=by omega
     simp [hdg,hr,fsv,he']
  ·have hnd:¬digAt s i:=fun h=>hi h.1
   by_cases he:i=a
   ·have hr:dgm m s a=(a,1,(a:Int)):=by
     unfold dgm;rw [if_neg (e3 hnd),if_pos (by rw [stop hnd,he])]
    subst he
    simp [hi,hr,fsv]
   ·have hr:dgm m s a=(i,0,(-1:Int)):=by
     unfold dgm;rw [if_neg (e3 hnd),if_neg (by rw [stop hnd];exact he),stop hnd]
    have he':¬(i:Int)=a:=by omega
    simp [hi,hr,fsv,he']
theorem rfit10 {n k:Nat} (h:n<10^k) (hk:k≤1000000000000):rfit (n:Int):=by
 unfold rfit
 rw [Int.natAbs_natCast]
 exact Nat.le_trans (wid_base (A:=10) (B:=10000) (by omega) (by omega) n) (Nat.le_trans (wid_le (by omega) h) hk)
theorem rfitp {i:Nat} (h:i≤1000000000):rfit ((10:Int)^i):=by
 rw [show (10:Int)^i=((10^i:Nat):Int) by push_cast;rfl]
 exact rfit10 (Nat.pow_lt_pow_right (by omega) (Nat.lt_succ_self i)) (by omega)
theorem pTen_ok (n:Nat) (hn:n≤1000000000):PureF Tryz.prog 154 [.val (.int .i64 n)] (nsv ((10:Int)^n)):=by
 refine pure_enter Tryz.func154 rfl (by simp) (fun C hC=>?_)
 simp
 refine callS (rSmall_ok 1 (by omega) (by omega)) (by simp) ?_
 simp
 refine callS (rSmall_ok 10 (by omega) (by omega)) (by simp) ?_
 simp
 refine CodeJ.loop (ι:=Nat) (fun i=>⟨17,[(0,.val (.int .i64 n)),(2,.ptr 0 0 0),(3,.ptr 1 0 0),(4,.ptr 2 0 0),(5,.val (.int .i64 i))],
   [some ⟨2,[.agg [.val (.bool false),.val (.slice none 0 0)]],false⟩,some ⟨2,[nsv ((10:Int)^i)],false⟩,some ⟨2,[nsv 10],false⟩]⟩)
  (fun i=>i≤n) (fun i=>n - i) 0 ?_ ?_ ?_
 ·exact Nat.zero_le _
 ·simp [leS,hC]
 ·rintro i hi
  by_cases hlt:i<n
  ·have hlt':(i:Int)<n:=by omega
   have m1:=rMul_ok ((10:Int)^i) 10 (rfitp (by omega)) (rfit10 (n:=10) (k:=2) (by decide) (by omega))
   rw [show (10:Int)^i*10=(10:Int)^(i+1) by rw [Int.pow_succ]] at m1
   generalize (10:Int)^i=X at *
   simp (disch:=omega) [hlt']
   refine callS m1 (by simp) ?_
   simp (disch:=omega) [w64]
   exact ⟨i+1,by omega,by omega,by simp [leS,hC]⟩
  ·obtain rfl:i=n:=by omega
   simp
def capR (s:ByteArray) (a:Nat):Nat→Nat
 | 0=>0
 | k+1=>if capR s a k≤60 then 10*capR s a k+(byt s (a+k) - 48) else capR s a k
theorem capR_eq (s:ByteArray) (a:Nat) (h:∀i,byt s i<256):∀k,(capR s a k≤60→capR s a k=nv s a k)∧(60<capR s a k→60<nv s a k)∧capR s a k≤1000
 | 0=>⟨fun _=>rfl,fun h=>by simp [capR] at h,by simp [capR]⟩
 | k+1=>by
  obtain ⟨h1,h2,h3⟩:=capR_eq s a h k
  have hb:=h (a+k)
  simp only [capR,nv]
  by_cases hc:capR s a k≤60
  ·rw [if_pos hc]
   have:=h1 hc
   omega
  ·rw [if_neg hc]
   have:=h2 (by omega)
   omega
def pwS (s:ByteArray) (e:Nat):SV :=
 if expAt s e+300<dend s (expAt s e) then .tup [.val (.int .i64 0),.val (.int .i64 (expAt s e+300:Nat)),fsv 2 (expAt s e+300:Nat)]
 else if dend s (expAt s e)=expAt s e then .tup [.val (.int .i64 0),.val (.int .i64 (expAt s e)),fsv 1 (expAt s e)]
 else if dend s (expAt s e)<s.size then .tup [.val (.int .i64 0),.val (.int .i64 (dend s (expAt s e))),fsv 1 (dend s (expAt s e))]
 else if 60<nv s (expAt s e) (s.size - expAt s e) then .tup [.val (.int .i64 0),.val (.int .i64 s.size),fsv 2 (expAt s e)]
 else .tup [.val (.int .i64 (if isAt s (e+1) 45 then -(nv s (expAt s e) (s.size - expAt s e):Int) else (nv s (expAt s e) (s.size - expAt s e):Int))),.val (.int .i64 s.size),fsv 0 (-1)]
theorem pPower_ok (s:ByteArray) (e:Nat) (he:e<s.size) (hs:s.size≤4611686018427387904):PureF Tryz.prog 153 [.val (.string s),.val (.int .i64 (e+1:Nat))] (pwS s e):=by
 refine pure_enterJ Tryz.func153 rfl (by simp) (fun C hC=>?_)
 obtain ⟨b,hb⟩:∃b,b=expAt s e:=⟨_,rfl⟩
 have hexp:((b=e+2∧e+1<s.size)∨b=e+1):=by
  rw [hb];unfold expAt
  split
  ·rename_i h;rcases h with h | h<;>exact .inl ⟨rfl,h.1⟩
  ·exact .inr rfl
 have hbs:b≤s.size:=by omega
 have hd:=pDigits_ok s b 300 hbs hs (by omega)
 have hpw:pwS s e=if b+300<dend s b then .tup [.val (.int .i64 0),.val (.int .i64 (b+300:Nat)),fsv 2 (b+300:Nat)]
   else if dend s b=b then .tup [.val (.int .i64 0),.val (.int .i64 b),fsv 1 b]
   else if dend s b<s.size then .tup [.val (.int .i64 0),.val (.int .i64 (dend s b)),fsv 1 (dend s b)]
   else if 60<nv s b (s.size - b) then .tup [.val (.int .i64 0),.val (.int .i64 s.size),fsv 2 b]
   else .tup [.val (.int .i64 (if isAt s (e+1) 45 then -(nv s b (s.size - b):Int) else (nv s b (s.size - b):Int))),.val (.int .i64 s.size),fsv 0 (-1)]:=by
  unfold pwS;rw [←hb]
 rw [hpw]
 clear hpw
 obtain ⟨neg,hneg⟩:∃neg:Bool,neg=decide (isAt s (e+1) 45):=⟨_,rfl⟩
 have hng:(if isAt s (e+1) 45 then -(nv s b (s.size - b):Int) else (nv s b (s.size - b):Int))=if neg=true then -(nv s b (s.size - b):Int) else (nv s b (s.size - b):Int):=by
  rw [hneg];by_cases h:isAt s (e+1) 45<;>simp [h]
 rw [hng]
 refine CodeJ.cutAt 3 (fun st=>st=⟨82,[(0,.val (.string s)),(1,.val (.int .i64 b)),(6,.ptr 0 0 0),(7,.val (.bool neg))],[some ⟨2,[.agg [.val (.int .i64 0),.val (.int .i64 0)]],false⟩]⟩) ?_ ?_
 ·have hb':=hb
  unfold expAt at hb'
  rw [show e+2=(e+1)+1 by omega] at hb'
  clear hb hexp hd hng
  generalize e+1=p at *
  simp
  by_cases h1:p<s.size
  ·have h1':(p:Int)<s.size:=by omega
   by_cases h2:byt s p=45
   ·have x1:isAt s p 45:=⟨h1,h2⟩
    have h2':=byt_eq.2 h2
    rw [if_pos (.inl x1)] at hb'
    have hn:neg=true:=by rw [hneg];simp [x1]
    simp (disch:=omega) [h1,h2',w64]
    simp [leS,hC,hb',hn]<;>omega
   ·have x1:¬isAt s p 45:=fun h=>h2 h.2
    have h2':¬((sget s p).toNat:Int)=45:=fun h=>h2 (byt_eq (c:=45) |>.1 h)
    have hn:neg=false:=by rw [hneg];simp [x1]
    by_cases h3:byt s p=43
    ·have x2:isAt s p 43:=⟨h1,h3⟩
     have h3':=byt_eq.2 h3
     rw [if_pos (.inr x2)] at hb'
     simp (disch:=omega) [h1,h3',w64]
     simp [leS,hC,hb',hn]<;>omega
    ·have x2:¬isAt s p 43:=fun h=>h3 h.2
     have h3':¬((sget s p).toNat:Int)=43:=fun h=>h3 (byt_eq (c:=43) |>.1 h)
     rw [if_neg (fun h=>h.elim x1 x2)] at hb'
     simp (disch:=omega) [h1,h2',h3',w64]
     simp [leS,hC,hb',hn]<;>omega
  ·have x1:¬isAt s p 45:=fun h=>h1 h.1
   have x2:¬isAt s p 43:=fun h=>h1 h.1
   rw [if_neg (fun h=>h.elim x1 x2)] at hb'
   have hn:neg=false:=by rw [hneg];simp [x1]
   simp (disch:=omega) [h1]
   simp [leS,hC,hb',hn]<;>omega
 ·rintro st rfl
  simp only [dropC_succ,dropC_zero]
  refine CodeJ.go ?_
  clear hng hneg hb hexp he
  simp
  refine callS hd (by simp) ?_
  by_cases k1:b+300<dend s b
  ·have e1:dgm 300 s b=(b+300,2,((b+300:Nat):Int)):=by unfold dgm;rw [if_pos k1]
   rw [e1,if_pos k1]
   simp [fsv]
   refine CodeJ.draw (.qs [0,1,2,3]<|.l 4 [0]<|.nil) (by kernel_rfl) (by kernel_rfl) (by simp) ?_
   simp
  ·rw [if_neg k1]
   by_cases k2:dend s b=b
   ·have e1:dgm 300 s b=(b,1,(b:Int)):=by unfold dgm;rw [if_neg k1,if_pos k2]
    rw [e1,if_pos k2]
    simp [fsv]
    refine CodeJ.draw (.qs [0,1,2,3]<|.l 4 [0]<|.nil) (by kernel_rfl) (by kernel_rfl) (by simp) ?_
    simp
   ·rw [if_neg k2]
    have e1:dgm 300 s b=(dend s b,0,(-1:Int)):=by unfold dgm;rw [if_neg k1,if_neg k2]
    have hcs:=dend_le hbs
    have hge:=dend_ge s b
    have hWd:=fun i (h1:b≤i) (h2:i<dend s b)=>dend_dig (s:=s) (a:=b) h1 h2
    rw [e1]
    generalize dend s b=c at *
    by_cases k3:c<s.size
    ·rw [if_pos k3]
     simp [fsv,k3]
    ·rw [if_neg k3]
     obtain rfl:c=s.size:=by omega
     simp [fsv]
     refine CodeJ.loop (ι:=Nat) (fun i=>⟨82,[(0,.val (.string s)),(1,.val (.int .i64 b)),(6,.ptr 0 0 0),(7,.val (.bool neg)),(8,.val (.int .i64 s.size)),(10,.val (.int .i64 (capR s b i))),(11,.val (.int .i64 (b+i:Nat)))],[some ⟨2,[.agg [.val (.int .i64 0),.val (.int .i64 0)]],false⟩]⟩)
      (fun i=>b+i≤s.size) (fun i=>s.size - b - i) 0 ?_ ?_ ?_
     ·exact hbs
     ·simp [leS,hC,capR]
     ·rintro i hi
      obtain ⟨g1,g2,g3⟩:=capR_eq s b (byt_lt s) i
      by_cases hlt:b+i<s.size
      ·have hlt':(b:Int)+i<s.size:=by omega
       obtain ⟨d,hd⟩:∃d,d=byt s (b+i) - 48:=⟨_,rfl⟩
       have hdg:=(hWd (b+i) (by omega) hlt).2
       have hcb:byt s (b+i)=48+d:=by have:=hdg.1;omega
       have hc9:d≤9:=by have:=hdg.2;omega
       have hbb:((sget s (b+i)).toNat:Int)=48+d:=by unfold byt at hcb;omega
       have hw:(48+(d:Int) - 48) % 256=d:=by omega
       have e:capR s b (i+1)=if capR s b i≤60 then 10*capR s b i+d else capR s b i:=by simp only [capR];rw [←hd]
       generalize capR s b i=X at *
       by_cases hX:X≤60
       ·have hX':(X:Int)≤60:=by omega
        rw [if_pos hX] at e
        have e':10*(X:Int)+d=((capR s b (i+1):Nat):Int):=by rw [e];push_cast;rfl
        simp (disch:=omega) [hlt',hbb,u8w,w64,hw,hX',e']
        exact ⟨by omega,i+1,by omega,by omega,by simp [leS,hC];omega⟩
       ·have hX':¬(X:Int)≤60:=by omega
        rw [if_neg hX] at e
        simp (disch:=omega) [hlt',w64,hX']
        exact ⟨i+1,by omega,by omega,by simp [leS,hC,e];omega⟩
      ·obtain rfl:i=s.size - b:=by omega
       have hlt':¬(b:Int)+((s.size - b:Nat):Int)<s.size:=by omega
       generalize capR s b (s.size - b)=X at *
       generalize nv s b (s.size - b)=x at *
       by_cases hX:60<X
       ·have hX':(60:Int)<X:=by omega
        rw [if_pos (g2 hX)]
        simp [hlt',hX']
       ·have hX':¬(60:Int)<X:=by omega
        have ex:=g1 (by omega)
        subst ex
        rw [if_neg hX]
        cases neg with
        | true =>
         simp (disch:=omega) [hlt',hX',w64]
        | false=>simp [hlt',hX']
end Go.Proofs
namespace Go.Proofs
open Go.Sv Go Go.Pl
def outP (r:Rat × Nat × Nat):SV:=.tup [if r.2.1=0 then qsv r.1 else qnil,fsv r.2.1 (if r.2.1=0 then -1 else (r.2.2:Int))]
noncomputable def qreadBody:Code:=Tryz.f109.body.getD .skip
def q4:Option Ent:=some ⟨4,[.agg [.val (.bool false),.val (.slice none 0 0),.val (.bool false),.val (.slice none 0 0)]],false⟩
def fe (c:Nat) (a:Int):Option Ent:=some ⟨2,[fsv c a],false⟩
abbrev QP (m:Nat) (s:ByteArray):Post:=retQ Tryz.prog [.cell 4 42,.cell 5 131] (fun y=>y=outP (qrd m s))
theorem qr_end {C:Ctx} (hC:C.fx=[]) {s:ByteArray} {m:Nat} {neg:Bool} {N p f:Nat} {up:Int} (hn:decide (minus s)=neg) {k:Nat} (hk:k≤800000000) (hN:N<10^k) (hp:p≤800000000) (hup : -60≤up∧up≤60)
  (hq:qrd m s=if f<s.size then (0,1,f) else if 0<up then (Rat.divInt (sgnd s (N*10^up.toNat)) ((10^p:Nat):Int),0,0) else (Rat.divInt (sgnd s N) ((10^(p+(-up).toNat):Nat):Int),0,0)) :
  CodeJ Tryz.prog C (dropC 14 qreadBody) ⟨193,[(0,.val (.string s)),(4,.ptr 0 0 0),(5,.ptr 1 0 0),(7,.val (.bool neg)),(8,.val (.int .i64 f)),(11,.ptr 3 0 0),(12,.ptr 4 0 0),(15,.val (.int .i64 p)),(18,.val (.int .i64 up))],[q4,fe 0 0,fe 0 (-1),some ⟨2,[nsv N],false⟩,some ⟨2,[nsv 1],false⟩]⟩ (QP m s):=by
 simp only [qreadBody,Tryz.f109,Option.getD_some,dropC_succ,dropC_zero]
 refine CodeJ.go ?_
 by_cases h1:f<s.size
 ·rw [if_pos h1] at hq
  simp [h1,q4,fe,fsv,hq,outP,qnil]
 ·rw [if_neg h1] at hq
  have ten:=pTen_ok p (by omega)
  have hp10:=rfitp (i:=p) (by omega)
  simp [h1]
  refine callS ten (by simp) ?_
  by_cases h2:0<up
  ·rw [if_pos h2] at hq
   obtain ⟨u,hu⟩:∃u:Nat,u=up.toNat:=⟨_,rfl⟩
   obtain rfl:up=(u:Int):=by omega
   rw [←hu] at hq
   have hNu:rfit ((N:Int)*(10:Int)^u):=by
    rw [show (N:Int)*(10:Int)^u=((N*10^u:Nat):Int) by push_cast;rfl]
    refine rfit10 (k:=k+u) ?_ (by omega)
    rw [Nat.pow_add]
    exact Nat.mul_lt_mul_of_pos_right hN (Nat.pow_pos (by omega))
   have hv:(if neg=true then -((N:Int)*(10:Int)^u) else (N:Int)*(10:Int)^u)=sgnd s (N*10^u):=by
    rw [sgnd_eq hn];push_cast;rfl
   have mk:=rMade_dig neg (N*10^u) (by have:=hNu;unfold rfit at this;rwa [show (N:Int)*(10:Int)^u=((N*10^u:Nat):Int) by push_cast;rfl,Int.natAbs_natCast] at this)
   have ov:=pOver_ok (sgnd s (N*10^u)) ((10:Int)^p) (by rw [←hv];split;exact rfit_neg.2 hNu;exact hNu) hp10 (by have:(0:Int)<10^p:=Int.pow_pos (by omega);omega)
   rw [show (if neg=true then -((N*10^u:Nat):Int) else ((N*10^u:Nat):Int))=sgnd s (N*10^u) from (sgnd_eq hn _).symm] at mk
   have h2':0<u:=by omega
   have ml:=rMul_ok (N:Int) ((10:Int)^u) (rfit10 hN (by omega)) (rfitp (by omega))
   have hX:((N:Int)*(10:Int)^u).natAbs=N*10^u:=by
    rw [show (N:Int)*(10:Int)^u=((N*10^u:Nat):Int) by push_cast;rfl,Int.natAbs_natCast]
   generalize sgnd s (N*10^u)=Y at *
   rw [←hX] at mk
   generalize (N:Int)*(10:Int)^u=X at *
   simp [h2',q4,fe,fsv]
   refine callS (pTen_ok u (by omega)) (by simp) ?_
   simp
   refine callS ml (by simp) ?_
   simp
   refine CodeJ.draw (.qs [0,1,2,4,6]<|.l 3 []<|.l 5 []<|.l 7 [0]<|.l 8 [1]<|.nil) (by kernel_rfl) (by kernel_rfl) (by simp) ?_
   simp
   refine callS mk (by simp) ?_
   simp
   refine callS ov (by simp) ?_
   simp [outP,hq,fsv]
  ·rw [if_neg h2] at hq
   obtain ⟨u,hu⟩:∃u:Nat,u=(-up).toNat:=⟨_,rfl⟩
   obtain rfl:up = -(u:Int):=by omega
   rw [←hu] at hq
   have h2':¬0 < -(u:Int):=h2
   have hD:rfit ((10:Int)^p*(10:Int)^u):=by rw [←Int.pow_add];exact rfitp (by omega)
   have hN':rfit (N:Int):=rfit10 hN (by omega)
   have mk:=rMade_dig neg N (by have:=hN';unfold rfit at this;rwa [Int.natAbs_natCast] at this)
   rw [show (if neg=true then -((N:Nat):Int) else ((N:Nat):Int))=sgnd s N from (sgnd_eq hn _).symm] at mk
   have hsN:rfit (sgnd s N):=by rw [sgnd_eq hn];split;exact rfit_neg.2 hN';exact hN'
   have ov:=pOver_ok (sgnd s N) ((10:Int)^p*(10:Int)^u) hsN hD (by have:(0:Int)<10^p:=Int.pow_pos (by omega);have:(0:Int)<10^u:=Int.pow_pos (by omega);exact Int.mul_ne_zero (by omega) (by omega))
   have e10:((10^(p+u):Nat):Int)=(10:Int)^p*(10:Int)^u:=by rw [Nat.pow_add];push_cast;rfl
   rw [e10] at hq
   have hneg:(0:Int) - -(u:Int)=u:=by omega
   have hu0:¬(u:Int)<0:=by omega
   have ml:=rMul_ok ((10:Int)^p) ((10:Int)^u) hp10 (rfitp (by omega))
   generalize (10:Int)^p*(10:Int)^u=X at *
   generalize sgnd s N=Y at *
   simp (disch:=omega) [q4,fe,fsv,w64,hneg,hu0]
   refine callS (pTen_ok u (by omega)) (by simp) ?_
   simp
   refine callS ml (by simp) ?_
   simp
   refine CodeJ.draw (.qs [0,1,2,4,6]<|.l 3 []<|.l 5 []<|.l 7 [0]<|.l 8 [1]<|.nil) (by kernel_rfl) (by kernel_rfl) (by simp) ?_
   simp
   refine callS mk (by simp) ?_
   simp
   refine callS ov (by simp) ?_
   simp [outP,hq,fsv]
def XS (m:Nat) (s:ByteArray) (neg:Bool) (st:St):Prop:=∃(N p f k:Nat) (up:Int),k≤800000000∧N<10^k∧p≤800000000∧(-60≤up∧up≤60) ∧
 (qrd m s=if f<s.size then (0,1,f) else if 0<up then (Rat.divInt (sgnd s (N*10^up.toNat)) ((10^p:Nat):Int),0,0) else (Rat.divInt (sgnd s N) ((10^(p+(-up).toNat):Nat):Int),0,0)) ∧
 st=⟨193,[(0,.val (.string s)),(4,.ptr 0 0 0),(5,.ptr 1 0 0),(7,.val (.bool neg)),(8,.val (.int .i64 f)),(11,.ptr 3 0 0),(12,.ptr 4 0 0),(15,.val (.int .i64 p)),(18,.val (.int .i64 up))],[q4,fe 0 0,fe 0 (-1),some ⟨2,[nsv N],false⟩,some ⟨2,[nsv 1],false⟩]⟩
theorem qr_exp {C:Ctx} (hC:C.fx=[]) {s:ByteArray} {m:Nat} {neg:Bool} {N p f k:Nat} (hs:s.size≤4611686018427387904) (hn:decide (minus s)=neg) (hk:k≤800000000) (hN:N<10^k) (hp:p≤800000000) (hfs:f≤s.size)
  (hq:qrd m s=qtail s N p f) :
  CodeJ Tryz.prog C (dropC 12 qreadBody) ⟨193,[(0,.val (.string s)),(4,.ptr 0 0 0),(5,.ptr 1 0 0),(7,.val (.bool neg)),(8,.val (.int .i64 f)),(11,.ptr 3 0 0),(12,.ptr 4 0 0),(15,.val (.int .i64 p))],[q4,fe 0 0,fe 0 (-1),some ⟨2,[nsv N],false⟩,some ⟨2,[nsv 1],false⟩]⟩ (QP m s):=by
 refine CodeJ.cutAt 2 (XS m s neg) ?_ ?_
 ·simp only [qreadBody,Tryz.f109,Option.getD_some,dropC_succ,dropC_zero,takeC_succ,takeC_zero]
  unfold qtail at hq
  by_cases x0:isAt s f 101
  ·rw [if_pos x0] at hq
   have h1:=x0.1
   have h2:=byt_eq.2 x0.2
   have pw:=pPower_ok s f h1 hs
   rw [show ((f+1:Nat):Int)=(f:Int)+1 by push_cast;rfl] at pw
   unfold pwS at pw
   generalize expAt s f=b at *
   by_cases k1:b+300<dend s b
   ·rw [if_pos k1] at pw hq
    simp (disch:=omega) [h1,h2,w64]
    refine callS pw (by simp [fsv]) ?_
    simp [fsv,fe,q4]
    refine CodeJ.draw (.qs [0]<|.q 1 [0]<|.l 2 [0]<|.l 3 [1]<|.nil) (by kernel_rfl) (by kernel_rfl) (by simp) ?_
    simp [outP,hq,fsv,qnil,Sv.Sub,SubL]
   ·rw [if_neg k1] at pw hq
    by_cases k2:dend s b=b
    ·rw [if_pos k2] at pw
     rw [if_pos (.inl k2),k2] at hq
     simp (disch:=omega) [h1,h2,w64]
     refine callS pw (by simp [fsv]) ?_
     simp [fsv,fe,q4]
     refine CodeJ.draw (.qs [0]<|.q 1 [0]<|.l 2 [0]<|.l 3 [1]<|.nil) (by kernel_rfl) (by kernel_rfl) (by simp) ?_
     simp [outP,hq,fsv,qnil,Sv.Sub,SubL]
    ·rw [if_neg k2] at pw
     by_cases k3:dend s b<s.size
     ·rw [if_pos k3] at pw
      rw [if_pos (.inr k3)] at hq
      simp (disch:=omega) [h1,h2,w64]
      refine callS pw (by simp [fsv]) ?_
      simp [fsv,fe,q4]
      refine CodeJ.draw (.qs [0]<|.q 1 [0]<|.l 2 [0]<|.l 3 [1]<|.nil) (by kernel_rfl) (by kernel_rfl) (by simp) ?_
      simp [outP,hq,fsv,qnil,Sv.Sub,SubL]
     ·rw [if_neg k3] at pw
      rw [if_neg (fun h=>h.elim k2 k3)] at hq
      generalize nv s b (s.size - b)=x at *
      by_cases k4:60<x
      ·rw [if_pos k4] at pw hq
       simp (disch:=omega) [h1,h2,w64]
       refine callS pw (by simp [fsv]) ?_
       simp [fsv,fe,q4]
       refine CodeJ.draw (.qs [0]<|.q 1 [0]<|.l 2 [0]<|.l 3 [1]<|.nil) (by kernel_rfl) (by kernel_rfl) (by simp) ?_
       simp [outP,hq,fsv,qnil,Sv.Sub,SubL]
      ·rw [if_neg k4] at pw hq
       obtain ⟨up,hup⟩:∃up,up=if isAt s (f+1) 45 then -(x:Int) else (x:Int):=⟨_,rfl⟩
       rw [←hup] at pw
       have hb : -60≤up∧up≤60:=by rw [hup];split<;>omega
       simp (disch:=omega) [h1,h2,w64]
       refine callS pw (by simp [fsv]) ?_
       simp [fsv,fe,q4]
       refine ⟨_,⟨N,p,s.size,k,up,hk,hN,hp,hb,?_,rfl⟩,by simp [leS,hC,fe,q4,fsv]⟩
       rw [hq,if_neg (Nat.lt_irrefl _)]
       by_cases x1:isAt s (f+1) 45
       ·rw [if_pos x1] at hup ⊢
        rw [if_neg (by omega),show (-up).toNat=x by omega]
       ·rw [if_neg x1] at hup ⊢
        by_cases hx0:x=0
        ·subst hx0
         simp [hup]
        ·rw [if_pos (by omega),show up.toNat=x by omega]
  ·rw [if_neg x0] at hq
   have fin:((f<s.size∧¬((sget s f).toNat:Int)=101)∨¬f<s.size):=by
    by_cases h:f<s.size
    ·exact .inl ⟨h,fun h2=>x0 ⟨h,byt_eq (c:=101) |>.1 h2⟩⟩
    ·exact .inr h
   rcases fin with ⟨h1,h2⟩ | h1
   ·simp [h1,h2]
    refine ⟨_,⟨N,p,f,k,0,hk,hN,hp,by omega,?_,rfl⟩,by simp [leS,hC]⟩
    rw [hq];simp
   ·simp [h1]
    refine ⟨_,⟨N,p,f,k,0,hk,hN,hp,by omega,?_,rfl⟩,by simp [leS,hC]⟩
    rw [hq];simp
 ·rintro st ⟨N,p,f,k,up,h1,h2,h3,h4,h5,rfl⟩
  exact qr_end hC hn h1 h2 h3 h4 h5
end Go.Proofs


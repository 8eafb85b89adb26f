/- A text of the prover's own. -/
import Derived.Test.YtmghjkkjaolpgaaGreatDoorUWb
open Nat renaming le_refl→amk,lt_or_ge→amz,pow_succ→anj,lt_of_lt_of_le→amR,le_trans→amQ,div_le_self→aok
open List renaming take_of_length_le→anE,length→aol,length_pos_iff→anB,map_set→anF,map_append→anb
open Int renaming tmod_eq_emod_of_nonneg→aog,tdiv_eq_ediv_of_nonneg→aom
set_option maxRecDepth 20000
namespace Go.Pl
open Go.Sv Go
def jB(s:ByteArray)(i:Nat):Nat:=(eG s i).toNat
theorem I7(s:ByteArray)(i:Nat):jB s i<256:=(eG s i).toNat_lt
def mP(c:Nat):Prop:=48≤c∧c≤57
instance (c:Nat):Decidable (mP c):=inferInstanceAs (Decidable (_∧_))
def bj(s:ByteArray)(i:Nat):Prop:=i<s.size∧mP (jB s i)
instance (s:ByteArray) (i:Nat):Decidable (bj s i):=inferInstanceAs (Decidable (_∧_))
def sZ(s:ByteArray):Nat→Nat→Nat
 | 0,a=>a
 | f+1,a=>if bj s a then sZ s f (a+1) else a
def aw(s:ByteArray)(a:Nat):Nat:=sZ s (s.size - a) a
theorem me(s:ByteArray):∀(f a:Nat),s.size≤a+f→a≤sZ s f a∧(∀i,a≤i→i<sZ s f a→bj s i)∧¬bj s (sZ s f a)
 | 0,a,h=>⟨amk _,fun i h1 h2=>by simp only[sZ]at h2;omega,fun h'=>by simp only[sZ]at h';have:=h'.1;omega⟩
 | f+1,a,h=>by
  simp only[sZ];split
  ·rename_i hd;obtain⟨h1,h2,h3⟩:=me s f (a+1) (by omega);refine⟨by omega,fun i hi1 hi2=>?_,h3⟩;by_cases e:i=a
   ·subst e;exact hd
   ·exact h2 i (by omega) hi2
  ·rename_i hd;exact⟨amk _,fun i h1 h2=>by omega,hd⟩
theorem fD(s:ByteArray)(a:Nat):a≤aw s a:=(me s _ a (by omega)).1
theorem cV{s:ByteArray}{a i:Nat}(h:a≤i)(h':i<aw s a):bj s i:=(me s _ a (by omega)).2.1 i h h'
theorem vq(s:ByteArray)(a:Nat):¬bj s (aw s a):=(me s _ a (by omega)).2.2
theorem kI{s:ByteArray}{a e:Nat}(h:a≤e)(hd:∀i,a≤i→i<e→bj s i)(hn:¬bj s e):aw s a=e:=by
 have h1:=fD s a;rcases Nat.lt_trichotomy (aw s a) e with h2 | h2 | h2
 ·exact absurd (hd _ h1 h2) (vq s a)
 ·exact h2
 ·exact absurd (cV h h2) hn
theorem yu{s:ByteArray}{a e:Nat}(h:a≤e)(hd:∀i,a≤i→i≤e→bj s i):e<aw s a:=by
 rcases amz e (aw s a)with h2 | h2
 ·exact h2
 ·exact absurd (hd _ (fD s a) h2) (vq s a)
theorem dI{s:ByteArray}{a:Nat}(h:a≤s.size):aw s a≤s.size:=by
 rcases amz s.size (aw s a)with h2 | h2
 ·have:=(cV h h2).1;omega
 ·exact h2
def nv(s:ByteArray)(a:Nat):Nat→Nat
 | 0=>0
 | k+1=>nv s a k*10+(jB s (a+k) - 48)
theorem rA{s:ByteArray}{a:Nat}:∀{k:Nat},(∀i,a≤i→i<a+k→bj s i)→nv s a k<10^k
 | 0,_=>by simp[nv]
 | k+1,h=>by
  have ih:=rA (k:=k) fun i h1 h2=>h i h1 (by omega);have:=(h (a+k) (by omega) (by omega)).2;unfold mP at this;simp only[nv,anj];omega
def minus(s:ByteArray):Prop:=0<s.size∧jB s 0=45
instance (s:ByteArray):Decidable (minus s):=inferInstanceAs (Decidable (_∧_))
def ak(s:ByteArray):Nat:=if minus s then 1 else 0
theorem gY(s:ByteArray):ak s≤s.size:=by
 unfold ak;by_cases h:minus s
 ·rw[if_pos h];exact h.1
 ·rw[if_neg h];omega
def rd(s:ByteArray):Int × Nat × Nat :=
 if ak s+300<aw s (ak s) then(0,2,ak s+300)
 else if aw s (ak s)=ak s∨aw s (ak s)<s.size then(0,1,aw s (ak s))
 else((if minus s then -(nv s (ak s) (s.size - ak s):Int) else(nv s (ak s) (s.size - ak s):Int)),0,0)
theorem BV{s:ByteArray}(h:(rd s).2.1=0):aw s (ak s)=s.size∧ak s<s.size∧s.size≤ak s+300∧(rd s).1=if minus s then -(nv s (ak s) (s.size - ak s):Int) else(nv s (ak s) (s.size - ak s):Int):=by
 unfold rd at h ⊢;split at h
 ·cases h
 ·split at h
  ·cases h
  ·rename_i h1 h2;have h3:=dI (gY s);have h4:=fD s (ak s);rw[if_neg h1,if_neg h2];exact⟨by omega,by omega,by omega,rfl⟩
end Go.Pl
namespace Go.Proofs
open Go.Sv Go Go.Pl
def fN:Nat:=161
def pT(c:Nat):Nat:=if c=1 then 3 else if c=2 then 1 else 4
def kv(c a:Nat):SV:=if c=0 then .val .nilIface else .iw fN (.bU (.agg [.val (.int .i64 a),.fp eM (pT c)]) 0)
end Go.Proofs
namespace Go.Sv
end Go.Sv
namespace Go.Proofs
open Go.Sv Go Go.Pl
theorem yy(s:ByteArray)(hs:s.size≤4611686018427387904):aI Tryz.prog 127 [.val (.string s)] (.bG [cK (rd s).1,kv (rd s).2.1 (rd s).2.2]):=by
 refine aj Tryz.func127 rfl (by simp) (fun C hC=>?_);have pre:(0<s.size∧eG s 0=45∧minus s∧ak s=1)∨(0<s.size∧¬((eG s 0).toNat:Int)=45∧¬minus s∧ak s=0)∨(¬0<s.size∧True∧¬minus s∧ak s=0):=by
  by_cases h1:0<s.size
  ·by_cases h2:eG s 0=45
   ·have hm:minus s:=⟨h1,by simp[jB,h2]⟩;exact .inl ⟨h1,h2,hm,by simp[ak,hm]⟩
   ·have hm:¬minus s:=fun h=>h2 (UInt8.toNat_inj.1 h.2);exact .inr (.inl ⟨h1,fun h=>h2 (UInt8.toNat_inj.1 (Int.ofNat.inj h)),hm,by simp[ak,hm]⟩)
  ·have hm:¬minus s:=fun h=>h1 h.1;exact .inr (.inr ⟨h1,trivial,hm,by simp[ak,hm]⟩)
 rcases pre with⟨h1,h2,hm,ha⟩ | ⟨h1,h2,hm,ha⟩ | ⟨h1,h2,hm,ha⟩
 rotate_left 2
 ·have hf:rd s=(0,1,0):=by
   have:aw s 0=0:=kI (amk _) (fun i h1 h2=>by omega) (fun h=>h1 h.1);unfold rd;rw[ha,this];simp
  simp[h1];refine ae.loop (ι:=Unit) (fun _=>⟨70,[(0,.val (.string s)),(2,.ptr 0 0 0),(3,.val .nilIface),(4,.val (.int .i64 0)),(5,.val (.bool false)),(6,.val (.int .i64 0)),(7,.val (.slice none 0 0))],[some ⟨2,[.agg [.val (.bool false),.val (.slice none 0 0)]],false⟩]⟩)
   (fun _=>True) (fun _=>0) () trivial (by simp[ar,hC]) (fun _ _=>?_)
  simp[h1];refine ae.alS (.qs [0,1]<|.q 2 [0]<|.qs [3]<|.m 4 [] (.qs [5]<|.l 6 [0]<|.qs [7]<|.nil) 6 [0] (.l 4 []<|.qs [5,7]<|.nil)) ?_;simp[hf,kv,fN,pT,cK,bf]
 all_goals
  simp[h1,h2]
  first | (refine ae.nil 7 1 rfl ?_) | (intro _;refine ae.nil 7 1 rfl ?_)
  refine ae.loop (ι:=Nat × List Nat) (fun⟨a,l⟩=>⟨70,[(0,.val (.string s)),(2,.ptr 0 0 0),(3,.val .nilIface),(4,.val (.int .i64 a)),(5,.val (.bool (decide (minus s)))),(6,.val (.int .i64 (ak s:Nat))),(7,.view 1 0 l.length)],
    [some ⟨2,[.agg [.val (.bool false),.val (.slice none 0 0)]],false⟩,some ⟨1,l.map u32,false⟩]⟩)
   (fun⟨a,l⟩=>ak s≤a∧a≤ak s+300∧a≤s.size∧(∀i,ak s≤i→i<a→bj s i)∧(∀d∈l,d<4294967296)∧l.length≤a∧val 4294967296 l=nv s (ak s) (a - ak s))
   (fun⟨a,l⟩=>s.size - a) (ak s,[]) ?_ ?_ ?_
  ·exact⟨by omega,by omega,gY s,fun i h1 h2=>by omega,by simp,by simp,by simp[val,nv]⟩
  ·simp[ar,hC,ha,hm]
  ·rintro⟨a,l⟩ ⟨g1,g2,g3,g4,g5,g6,g7⟩;have hd':∀a,IntKind.u32.wrap (IntKind.u8.wrap (((eG s a).toNat:Int) - 48))=(((eG s a).toNat:Int) - 48) % 256:=by intro a;rw[L5,gE];omega
   by_cases aF:a<s.size
   ·by_cases hd:mP (jB s a)
    ·have hc1:(48:Int)≤(eG s a).toNat:=by have:=hd.1;unfold jB at this;omega
     have hc2:((eG s a).toNat:Int)≤57:=by have:=hd.2;unfold jB at this;omega
     have gnext:∀i,ak s≤i→i<a+1→bj s i:=fun i h1 h2=>by
      by_cases e:i=a
      ·rw[e];exact⟨aF,hd⟩
      ·exact g4 i h1 (by omega)
     by_cases hb:a - ak s=300
     ·have hb':(a:Int) - ak s=300:=by omega
      have hf:rd s=(0,2,a):=by
       have:=yu g1 (fun i h1 h2=>gnext i h1 (by omega));unfold rd;rw[if_pos (by omega),show ak s+300=a by omega]
      simp(disch:=omega)[aF,hc1,hc2,aP,hb'];refine ae.alS (.qs [0,1]<|.q 2 [0]<|.qs [3]<|.m 4 [] (.qs [5]<|.l 6 [0]<|.qs [7]<|.nil) 6 [0] (.l 4 []<|.qs [5,7]<|.nil)) ?_;simp[hf,kv,fN,pT,cK,bf]
     ·have hb':¬(a:Int) - ak s=300:=by omega
      simp(disch:=omega)[aF,hc1,hc2,aP,hb'];refine vO l 10 (jB s a - 48) (by rw[hd'];unfold jB;omega) rfl (by simp[ao]) (by omega) g5 (by omega) (by have:=hd.2;omega) (by simp[hC]) (by intro xs;simp[fR,aN,SV.aX,SV.bC,oO]) (fun l' J k1 k2 k3=>?_);simp(disch:=omega)[aP];refine⟨a+1,l',⟨by omega,by omega,by omega,gnext,k1,by omega,?_⟩,by omega,by simp[ar,hC]⟩;rw[k3,g7,show a+1 - ak s=(a - ak s)+1 by omega,nv,show ak s+(a - ak s)=a by omega]
    ·have hnd:¬bj s a:=fun h=>hd h.2;have hE:aw s (ak s)=a:=kI g1 g4 hnd;have hf:rd s=(0,1,a):=by
      unfold rd;rw[hE,if_neg (by omega),if_pos (.inr aF)]
     by_cases hs1:a=ak s
     ·subst hs1;by_cases hc1:(48:Int)≤(eG s (ak s)).toNat
      ·have hc2:¬((eG s (ak s)).toNat:Int)≤57:=fun h=>hd ⟨by unfold jB;omega,by unfold jB;omega⟩;simp(disch:=omega)[aF,hc1,hc2,aP];refine ae.alS (.qs [0,1]<|.q 2 [0]<|.qs [3]<|.m 4 [] (.qs [5]<|.l 6 [0]<|.qs [7]<|.nil) 6 [0] (.l 4 []<|.qs [5,7]<|.nil)) ?_;simp[hf,kv,fN,pT,cK,bf]
      ·simp(disch:=omega)[aF,hc1,aP];refine ae.alS (.qs [0,1]<|.q 2 [0]<|.qs [3]<|.m 4 [] (.qs [5]<|.l 6 [0]<|.qs [7]<|.nil) 6 [0] (.l 4 []<|.qs [5,7]<|.nil)) ?_;simp[hf,kv,fN,pT,cK,bf]
     ·have hs2:¬(a:Int)=ak s:=by omega
      by_cases hc1:(48:Int)≤(eG s a).toNat
      ·have hc2:¬((eG s a).toNat:Int)≤57:=fun h=>hd ⟨by unfold jB;omega,by unfold jB;omega⟩;simp(disch:=omega)[aF,hc1,hc2,hs2,aP];refine ae.alS (.qs [0,1]<|.q 2 [0]<|.qs [3]<|.m 4 [] (.qs [5]<|.l 6 [0]<|.qs [7]<|.nil) 6 [0] (.l 4 []<|.qs [5,7]<|.nil)) ?_;simp[hf,kv,fN,pT,cK,bf]
      ·simp(disch:=omega)[aF,hc1,hs2,aP];refine ae.alS (.qs [0,1]<|.q 2 [0]<|.qs [3]<|.m 4 [] (.qs [5]<|.l 6 [0]<|.qs [7]<|.nil) 6 [0] (.l 4 []<|.qs [5,7]<|.nil)) ?_;simp[hf,kv,fN,pT,cK,bf]
   ·obtain rfl:a=s.size:=by omega
    have hnd:¬bj s s.size:=fun h=>by have:=h.1;omega
    have hE:aw s (ak s)=s.size:=kI g1 g4 hnd;by_cases hs1:s.size=ak s
    ·have hf:rd s=(0,1,s.size):=by
      unfold rd;rw[hE,if_neg (by omega),if_pos (.inl hs1)]
     have hs2:(s.size:Int)=ak s:=by omega
     simp(disch:=omega)[hs2,aP];refine ae.alS (.qs [0,1]<|.q 2 [0]<|.qs [3]<|.m 4 [] (.qs [5]<|.l 6 [0]<|.qs [7]<|.nil) 6 [0] (.l 4 []<|.qs [5,7]<|.nil)) ?_;simp[hf,kv,fN,pT,cK,bf];exact hs2.symm
    ·have hs2:¬(s.size:Int)=ak s:=by omega
     have hf:rd s=((if minus s then -(nv s (ak s) (s.size - ak s):Int) else(nv s (ak s) (s.size - ak s):Int)),0,0):=by
      unfold rd;rw[hE,if_neg (by omega),if_neg (by omega)]
     have hmd:=jV (decide (minus s)) l (by omega) g5;rw[g7]at hmd;simp(disch:=omega)[hs2,aP];refine aZ hmd (by simp[anE]) ?_;simp[hf,kv]
end Go.Proofs
namespace Go.Pl
open Go.Sv Go
def yO(x:Int):List Nat:=if x=0 then[48] else(if x<0 then[45] else[])++(bB 10 x.natAbs).reverse.map (48+·)
def DY(x:Int):ByteArray:=strOf ((yO x).map u8)
theorem tV(n:Nat):wid 10 n≤10*wid 4294967296 n:=by
 refine gZ (by omega) ?_;rw[Nat.pow_mul];exact amR (m7 (by omega) n) (Nat.pow_le_pow_left (by omega) _)
theorem Oj{l l':List Nat}(h:l.length=l'.length)(hd:∀i,i<l.length→dg l i=dg l' i):l=l':=by
 refine List.ext_getElem h fun i h1 h2=>?_;have:=hd i h1;unfold dg at this
 rwa [kN h1,kN h2]at this
theorem NH{l:List Nat}{i:Nat}(h:i<l.length):dg l.reverse i=dg l (l.length - 1 - i):=by
 unfold dg;rw[kN (by simpa using h),kN (by omega),List.getElem_reverse]
theorem JH{N:Nat}(h:0<N):bB 10 N=N % 10::bB 10 (N / 10):=kL (by omega) (by omega)
theorem I5{r k n:Nat}(hk:k<9):(r+10^(9 - k)*n) % 10=r % 10∧(r+10^(9 - k)*n) / 10=r / 10+10^(9 - (k+1))*n:=by
 have e:10^(9 - k)*n=10*(10^(9 - (k+1))*n):=by
  rw[show 9 - k=(9 - (k+1))+1 by omega,anj];grind
 rw[e];omega
def oJ(l b:List Nat)(i:Nat):Prop:=b.length=l.length∧∀k,k<l.length→dg b k=if k<i∨l.length - 1 - k<i then dg l (l.length - 1 - k) else dg l k
theorem qe(l:List Nat):oJ l l 0:=⟨rfl,fun k _=>by simp⟩
theorem qn{l b:List Nat}{i:Nat}(h:oJ l b i)(hi:i<l.length - 1 - i):oJ l ((b.set i (dg b (l.length - 1 - i))).set (l.length - 1 - i) (dg b i)) (i+1):=by
 obtain⟨h1,h2⟩:=h;refine⟨by simpa using h1,fun k hk=>?_⟩;rw[mo _ (by simp;omega),mo _ (by omega)];by_cases e1:l.length - 1 - i=k
 ·rw[if_pos e1,if_pos (by omega),h2 i (by omega),if_neg (by omega)];congr 1;omega
 ·rw[if_neg e1];by_cases e2:i=k
  ·rw[if_pos e2,if_pos (by omega),h2 _ (by omega),if_neg (by omega),e2]
  ·rw[if_neg e2,h2 k hk];by_cases e3:k<i∨l.length - 1 - k<i
   ·rw[if_pos e3,if_pos (by omega)]
   ·rw[if_neg e3,if_neg (by omega)]
theorem sT{l b:List Nat}{i:Nat}(h:oJ l b i)(hi:l.length≤2*i+1):b=l.reverse:=by
 obtain⟨h1,h2⟩:=h;refine Oj (by simpa using h1) fun k hk=>?_;rw[h1]at hk;rw[NH hk,h2 k hk];by_cases e:k<i∨l.length - 1 - k<i
 ·rw[if_pos e]
 ·rw[if_neg e];congr 1;omega
end Go.Pl
namespace Go.Proofs
open Go.Sv Go Go.Pl
theorem zl(x:Int)(hx:fit x):aI Tryz.prog 71 [cK x] (.val (.string (DY x))):=by
 refine aj Tryz.func71 rfl (by simp) (fun C hC=>?_);by_cases h0:x=0
 ·subst h0;simp[cK,bf];rfl
 ·have hne:¬(bB 4294967296 x.natAbs)=[]:=fun h=>by have:=(bL (by omega)).1 h;omega
  have hw:wid 10 x.natAbs≤10000000000000:=amQ (tV _) (by unfold fit at hx;omega);have hx':=hx;simp only[fit,wid]at hx';simp[cK,hne];refine⟨by omega,?_⟩;refine ae.nil 4 1 rfl ?_;refine ae.loop (ι:=Nat × List Nat × List Nat) (fun⟨n,r,o⟩=>⟨73,[(1,.ptr 0 0 0),(3,.view 1 0 (bB 4294967296 n).length),(4,.view 2 0 o.length)],
    [some ⟨2,[.agg [.val (.bool (decide (x<0))),.ro ((bB 4294967296 x.natAbs).map u32)]],false⟩,some ⟨1,(bB 4294967296 n).map u32++r.map u32,false⟩,some ⟨1,(o.map (48+·)).map u8,false⟩]⟩)
   (fun⟨n,r,o⟩=>wid 4294967296 n≤1000000000000∧bB 10 x.natAbs=o++bB 10 n)
   (fun⟨n,r,o⟩=>n) (x.natAbs,[],[]) ?_ ?_ ?_
  ·exact⟨hx,by simp⟩
  ·simp[ar,hC]
  ·rintro⟨n,r,o⟩ ⟨h1,h2⟩;have ho:o.length≤10000000000000:=by
    have:=congrArg aol h2;simp only[wid]at hw;simp at this;omega
   by_cases hn:n=0
   ·subst hn;simp[bf]at h2;subst h2;have key:∀(L:List Nat),(if x<0 then[45] else[])++(bB 10 x.natAbs).reverse.map (48+·)=L.reverse→DY x=strOf (L.reverse.map u8):=fun L hL=>by
     unfold DY yO;rw[if_neg h0,hL]
    have hlen:0<(bB 10 x.natAbs).length:=anB.2 fun h=>by have:=(bL (by omega)).1 h;omega
    obtain⟨L,hL1,hL2⟩:∃L:List Nat,L=(bB 10 x.natAbs).map (48+·)++(if x<0 then[45] else[])∧(∀d∈L,d<256):=by
     refine⟨_,rfl,fun d hd=>?_⟩;rcases List.mem_append.1 hd with hd | hd
     ·obtain⟨e,he,rfl⟩:=List.mem_map.1 hd;have:=cQ (B:=10) (by omega) x.natAbs e he;omega
     ·split at hd<;>simp at hd;omega
    have hL3:L.length≤10000000000001:=by rw[hL1];split<;>simp<;>omega
    have hL4:0<L.length:=by rw[hL1];simp;omega
    have hL5:=key L (by rw[hL1];split<;>simp[List.map_reverse]);by_cases hneg:x<0
    ·rw[if_pos hneg]at hL1;have e1:(L.length:Int)=(bB 10 x.natAbs).length+1:=by rw[hL1];simp
     simp(disch:=omega)[bf,hneg,hC,aP];refine⟨by omega,?_⟩;have he:(bB 10 x.natAbs).length+1=L.length:=by omega
     rw[he];refine ae.loop (ι:=List Nat × Nat) (fun⟨b,i⟩=>⟨73,[(4,.view 2 0 L.length),(6,.val (.int .i64 i)),(7,.val (.int .i64 ((L.length:Int) - 1 - i)))],[none,none,some ⟨1,b.map u8,false⟩]⟩)
      (fun⟨b,i⟩=>oJ L b i∧i≤L.length) (fun⟨b,i⟩=>L.length - i) (L,0) ?_ ?_ ?_
     ·exact⟨qe L,by omega⟩
     ·simp[ar,hC,hL1]
     ·rintro⟨b,i⟩ ⟨m1,m2⟩;have m3:=m1.1;by_cases hi:i<L.length - 1 - i
      ·have hi':(i:Int)<(L.length:Int) - 1 - i:=by omega
       have hj:((L.length:Int) - 1 - i).toNat=L.length - 1 - i:=by omega
       simp[hi'];refine ae.alS (.qs [0,1,2,3,4,5,6,7,8,9,10,11,12]<|.l 13 [2]<|.qs [14]<|.l 15 [2]<|.nil) ?_;have hl2:L.length - 1 - i<(b.set i (dg b (L.length - 1 - i))).length:=by simp;omega
       simp(disch:=omega)[aP,D6,hj,Ev, -anF];repeat refine And.intro (by omega) ?_
       refine⟨_,i+1,⟨qn m1 hi,by omega⟩,by omega,?_⟩;have e7:(L.length:Int) - 1 - i - 1=L.length - 1 - (i+1):=by omega
       simp[ar,hC,e7,cj]
      ·have hi':¬(i:Int)<(L.length:Int) - 1 - i:=by omega
       simp[hi'];have hb:=sT m1 (by omega);subst hb;simp[hL5,anE,nN]
    ·rw[if_neg hneg,List.append_nil]at hL1;have e1:(L.length:Int)=(bB 10 x.natAbs).length:=by rw[hL1];simp
     simp(disch:=omega)[bf,hneg,aP];refine ae.loop (ι:=List Nat × Nat) (fun⟨b,i⟩=>⟨73,[(4,.view 2 0 L.length),(6,.val (.int .i64 i)),(7,.val (.int .i64 ((L.length:Int) - 1 - i)))],[none,none,some ⟨1,b.map u8,false⟩]⟩)
      (fun⟨b,i⟩=>oJ L b i∧i≤L.length) (fun⟨b,i⟩=>L.length - i) (L,0) ?_ ?_ ?_
     ·exact⟨qe L,by omega⟩
     ·simp[ar,hC,hL1]
     ·rintro⟨b,i⟩ ⟨m1,m2⟩;have m3:=m1.1;by_cases hi:i<L.length - 1 - i
      ·have hi':(i:Int)<(L.length:Int) - 1 - i:=by omega
       have hj:((L.length:Int) - 1 - i).toNat=L.length - 1 - i:=by omega
       simp[hi'];refine ae.alS (.qs [0,1,2,3,4,5,6,7,8,9,10,11,12]<|.l 13 [2]<|.qs [14]<|.l 15 [2]<|.nil) ?_;have hl2:L.length - 1 - i<(b.set i (dg b (L.length - 1 - i))).length:=by simp;omega
       simp(disch:=omega)[aP,D6,hj,Ev, -anF];repeat refine And.intro (by omega) ?_
       refine⟨_,i+1,⟨qn m1 hi,by omega⟩,by omega,?_⟩;have e7:(L.length:Int) - 1 - i - 1=L.length - 1 - (i+1):=by omega
       simp[ar,hC,e7,cj]
      ·have hi':¬(i:Int)<(L.length:Int) - 1 - i:=by omega
       simp[hi'];have hb:=sT m1 (by omega);subst hb;simp[hL5,anE,nN]
   ·have hl:0<(bB 4294967296 n).length:=anB.2 fun h=>hn ((bL (by omega)).1 h);simp[hl];refine vA (bB 4294967296 n) (r.map u32) 1000000000 (by simp[ao]) (by simp only[wid]at h1;omega) (cQ (by omega) n) (by omega) (by simp) (fun q g1 g2 g3=>?_);rw[bX (by omega)]at g3 ⊢;simp;obtain⟨n',hn'⟩:∃n',n'=n / 1000000000:=⟨_,rfl⟩;obtain⟨r0,hr0⟩:∃r0,r0=n % 1000000000:=⟨_,rfl⟩;have hq:cu q=bB 4294967296 n':=by rw[hn',←g3,fT (by omega) q g1]
    have hqs:q=bB 4294967296 n'++q.drop (bB 4294967296 n').length:=by
     have:=uZ q;rw[hq]at this
     conv=>lhs;rw[←List.take_append_drop (bB 4294967296 n').length q,this]
    have er:(n:Int) % 1000000000=r0:=by omega
    rw[hq];simp only[er];obtain⟨r',hr'⟩:∃r',r'=q.drop (bB 4294967296 n').length++r:=⟨_,rfl⟩;refine ae.loop (ι:=Nat × Nat × List Nat) (fun⟨k,e,o'⟩=>⟨73,[(1,.ptr 0 0 0),(3,.view 1 0 (bB 4294967296 n').length),(4,.view 2 0 o'.length),(5,.val (.int .u32 e)),(23,.val (.int .i64 k))],
      [some ⟨2,[.agg [.val (.bool (decide (x<0))),.ro ((bB 4294967296 x.natAbs).map u32)]],false⟩,some ⟨1,(bB 4294967296 n').map u32++r'.map u32,false⟩,some ⟨1,(o'.map (48+·)).map u8,false⟩]⟩)
     (fun⟨k,e,o'⟩=>k≤9∧e<10^(9 - k)∧bB 10 x.natAbs=o'++bB 10 (e+10^(9 - k)*n')∧(k<9→0<e+10^(9 - k)*n'))
     (fun⟨k,e,o'⟩=>9 - k) (0,r0,o) ?_ ?_ ?_
    ·have:r0+1000000000*n'=n:=by omega
     refine⟨by omega,by simp;omega,by simpa[this]using h2,by simp[this];omega⟩
    ·have:q.map u32++r.map u32=(bB 4294967296 n').map u32++r'.map u32:=by
      rw[hr',anb,←List.append_assoc,←anb (l₁:=bB 4294967296 n'),←hqs]
     simp[ar,hC,this]
    ·rintro⟨k,e,o'⟩ ⟨k1,k2,k3,k4⟩;have ho':o'.length≤10000000000000:=by
      have:=congrArg aol k3;simp only[wid]at hw;simp at this;omega
     by_cases hk:k<9
     ·obtain⟨t1,t2⟩:=I5 (r:=e) (n:=n') hk;have k5:=k4 hk;rw[JH k5,t1,t2]at k3;have he10:e<4294967296:=amR k2 (amQ (Nat.pow_le_pow_right (by omega) (show 9 - k≤9 by omega)) (by omega));have hk':(k:Int)<9:=by omega
      obtain⟨d1,hd1⟩:∃d1,d1=e / 10:=⟨_,rfl⟩;obtain⟨d0,hd0⟩:∃d0,d0=e % 10:=⟨_,rfl⟩;have f1:(e:Int) / 10=d1:=by omega
      have f2:(e:Int) % 10=d0:=by omega
      have f3:(d1:Int) % 4294967296=d1:=by omega
      have f4:(48+(d0:Int)) % 4294967296=48+d0:=by omega
      have f5:(48+(d0:Int)) % 256=48+d0:=by omega
      rw[←hd1,←hd0]at k3;rw[←hd1]at t2;have hd1lt:d1<10^(9 - (k+1)):=by
       have:(10:Nat)^(9 - k)=10^(9 - (k+1))*10:=by rw[←anj];congr 1;omega
       omega
      have hwn':wid 4294967296 n'≤1000000000000:=amQ (bY (by omega) (by rw[hn'];exact aok _ _)) h1;by_cases hz1:n'=0
      ·have hzd:bB 4294967296 n'=[]:=by rw[hz1,bf]
       by_cases hz2:d1=0
       ·simp(disch:=omega)[hk',aog,aom,gE,L5,aP,hC,f1,f2,f3,f4,f5,hzd,hz2];refine⟨by omega,0,r',o'++[d0],⟨by simp[wid,bf],?_⟩,by omega,by simp[ar,hC,bf]⟩;rw[k3,hz1,hz2];simp[bf]
       ·simp(disch:=omega)[hk',aog,aom,gE,L5,aP,hC,f1,f2,f3,f4,f5,hzd,hz2];refine⟨by omega,k+1,d1,o'++[d0],⟨by omega,hd1lt,by rw[k3];simp,fun _=>by omega⟩,by omega,by simp[ar,hC]⟩
      ·have hzd:¬bB 4294967296 n'=[]:=fun h=>hz1 ((bL (by omega)).1 h);simp(disch:=omega)[hk',aog,aom,gE,L5,aP,hC,f1,f2,f3,f4,f5,hzd];refine⟨by omega,k+1,d1,o'++[d0],⟨by omega,hd1lt,by rw[k3];simp,fun _=>?_⟩,by omega,by simp[ar,hC]⟩;have:=Nat.mul_pos (Nat.pow_pos (n:=9 - (k+1)) (show 0<10 by omega)) (show 0<n' by omega);omega
     ·obtain rfl:k=9:=by omega
      simp at k2 k3;subst k2;simp at k3;simp;refine⟨n',r',o',⟨amQ (bY (by omega) (by rw[hn'];exact aok _ _)) h1,k3⟩,by omega,by simp[ar,hC]⟩
end Go.Proofs
namespace Go.Proofs
open Go.Sv Go Go.Pl
def fw(k:Nat)(x:Int):Prop:=wid 4294967296 x.natAbs≤k
theorem gz{k x}(h:fw k x)(hk:k≤1000000000000):fit x:=amQ h hk
theorem fF{k l x y}(h:fw k x)(h':fw l y):fw (k+l) (x*y):=by
 unfold fw at *;rw[Int.natAbs_mul];exact amQ (zc (by omega) _ _) (by omega)
theorem sf{k x y}(h:fw k x)(h':fw k y):fw (k+1) (x+y):=by
 unfold fw at *;exact amQ (bY (by omega) (Int.natAbs_add_le x y)) (amQ (LC (by omega) _ _) (by omega))
theorem CU{k x}(h:fw k x):fw k (-x):=by unfold fw at *;rwa [Int.natAbs_neg]
theorem cI{k l x}(h:fw k x)(hk:k≤l):fw l x:=amQ h hk
end Go.Proofs


/- A text of the prover's own. -/
import Derived.Test.YtnimjdcaajmfcaaGreatDoorUWb
set_option maxRecDepth 20000
namespace Go.Pl
open Go.Sv Go
def byt (s:ByteArray) (i:Nat):Nat:=(sget s i).toNat
theorem byt_lt (s:ByteArray) (i:Nat):byt s i<256:=(sget s i).toNat_lt
def isDig (c:Nat):Prop:=48≤c∧c≤57
instance (c:Nat):Decidable (isDig c):=inferInstanceAs (Decidable (_∧_))
def digAt (s:ByteArray) (i:Nat):Prop:=i<s.size∧isDig (byt s i)
instance (s:ByteArray) (i:Nat):Decidable (digAt s i):=inferInstanceAs (Decidable (_∧_))
def dspan (s:ByteArray):Nat→Nat→Nat
 | 0,a=>a
 | f+1,a=>if digAt s a then dspan s f (a+1) else a
def dend (s:ByteArray) (a:Nat):Nat:=dspan s (s.size - a) a
theorem dspan_spec (s:ByteArray):∀(f a:Nat),s.size≤a+f→a≤dspan s f a∧(∀i,a≤i→i<dspan s f a→digAt s i)∧¬digAt s (dspan s f a)
 | 0,a,h=>⟨Nat.le_refl _,fun i h1 h2=>by simp only [dspan] at h2;omega,fun h'=>by simp only [dspan] at h';have:=h'.1;omega⟩
 | f+1,a,h=>by
  simp only [dspan]
  split
  ·rename_i hd
   obtain ⟨h1,h2,h3⟩:=dspan_spec s f (a+1) (by omega)
   refine ⟨by omega,fun i hi1 hi2=>?_,h3⟩
   by_cases e:i=a
   ·subst e;exact hd
   ·exact h2 i (by omega) hi2
  ·rename_i hd
   exact ⟨Nat.le_refl _,fun i h1 h2=>by omega,hd⟩
theorem dend_ge (s:ByteArray) (a:Nat):a≤dend s a:=(dspan_spec s _ a (by omega)).1
theorem dend_dig {s:ByteArray} {a i:Nat} (h:a≤i) (h':i<dend s a):digAt s i:=(dspan_spec s _ a (by omega)).2.1 i h h'
theorem dend_not (s:ByteArray) (a:Nat):¬digAt s (dend s a):=(dspan_spec s _ a (by omega)).2.2
theorem dend_eq {s:ByteArray} {a e:Nat} (h:a≤e) (hd:∀i,a≤i→i<e→digAt s i) (hn:¬digAt s e):dend s a=e:=by
 have h1:=dend_ge s a
 rcases Nat.lt_trichotomy (dend s a) e with h2 | h2 | h2
 ·exact absurd (hd _ h1 h2) (dend_not s a)
 ·exact h2
 ·exact absurd (dend_dig h h2) hn
theorem dend_gt {s:ByteArray} {a e:Nat} (h:a≤e) (hd:∀i,a≤i→i≤e→digAt s i):e<dend s a:=by
 rcases Nat.lt_or_ge e (dend s a) with h2 | h2
 ·exact h2
 ·exact absurd (hd _ (dend_ge s a) h2) (dend_not s a)
theorem dend_le {s:ByteArray} {a:Nat} (h:a≤s.size):dend s a≤s.size:=by
 rcases Nat.lt_or_ge s.size (dend s a) with h2 | h2
 ·have:=(dend_dig h h2).1;omega
 ·exact h2
def nv (s:ByteArray) (a:Nat):Nat→Nat
 | 0=>0
 | k+1=>nv s a k*10+(byt s (a+k) - 48)
theorem nv_lt {s:ByteArray} {a:Nat}:∀{k:Nat},(∀i,a≤i→i<a+k→digAt s i)→nv s a k<10^k
 | 0,_=>by simp [nv]
 | k+1,h=>by
  have ih:=nv_lt (k:=k) fun i h1 h2=>h i h1 (by omega)
  have:=(h (a+k) (by omega) (by omega)).2
  unfold isDig at this
  simp only [nv,Nat.pow_succ]
  omega
def minus (s:ByteArray):Prop:=0<s.size∧byt s 0=45
instance (s:ByteArray):Decidable (minus s):=inferInstanceAs (Decidable (_∧_))
def sgnAt (s:ByteArray):Nat:=if minus s then 1 else 0
theorem sgnAt_le (s:ByteArray):sgnAt s≤s.size:=by
 unfold sgnAt
 by_cases h:minus s
 ·rw [if_pos h];exact h.1
 ·rw [if_neg h];omega
def rd (s:ByteArray):Int × Nat × Nat :=
 if sgnAt s+300<dend s (sgnAt s) then (0,2,sgnAt s+300)
 else if dend s (sgnAt s)=sgnAt s∨dend s (sgnAt s)<s.size then (0,1,dend s (sgnAt s))
 else ((if minus s then -(nv s (sgnAt s) (s.size - sgnAt s):Int) else (nv s (sgnAt s) (s.size - sgnAt s):Int)),0,0)
theorem rd_ok {s:ByteArray} (h:(rd s).2.1=0):dend s (sgnAt s)=s.size∧sgnAt s<s.size∧s.size≤sgnAt s+300∧(rd s).1=if minus s then -(nv s (sgnAt s) (s.size - sgnAt s):Int) else (nv s (sgnAt s) (s.size - sgnAt s):Int):=by
 unfold rd at h ⊢
 split at h
 ·cases h
 ·split at h
  ·cases h
  ·rename_i h1 h2
   have h3:=dend_le (sgnAt_le s)
   have h4:=dend_ge s (sgnAt s)
   rw [if_neg h1,if_neg h2]
   exact ⟨by omega,by omega,by omega,rfl⟩
end Go.Pl
namespace Go.Proofs
open Go.Sv Go Go.Pl
def tFault:Nat:=186
def gErr (c:Nat):Nat:=if c=1 then 3 else if c=2 then 4 else 5
def errSV (c a:Nat):SV:=if c=0 then .val .nilIface else .ifc tFault (.rop (.agg [.val (.int .i64 a),.sen sent (gErr c)]) 0)
end Go.Proofs
namespace Go.Sv
end Go.Sv
namespace Go.Proofs
open Go.Sv Go Go.Pl
theorem read_ok (s:ByteArray) (hs:s.size≤4611686018427387904):PureF Tryz.prog 158 [.val (.string s)] (.tup [zsv (rd s).1,errSV (rd s).2.1 (rd s).2.2]):=by
 refine pure_enter Tryz.func158 rfl (by simp) (fun C hC=>?_)
 have pre:(0<s.size∧sget s 0=45∧minus s∧sgnAt s=1)∨(0<s.size∧¬((sget s 0).toNat:Int)=45∧¬minus s∧sgnAt s=0)∨(¬0<s.size∧True∧¬minus s∧sgnAt s=0):=by
  by_cases h1:0<s.size
  ·by_cases h2:sget s 0=45
   ·have hm:minus s:=⟨h1,by simp [byt,h2]⟩
    exact .inl ⟨h1,h2,hm,by simp [sgnAt,hm]⟩
   ·have hm:¬minus s:=fun h=>h2 (UInt8.toNat_inj.1 h.2)
    exact .inr (.inl ⟨h1,fun h=>h2 (UInt8.toNat_inj.1 (Int.ofNat.inj h)),hm,by simp [sgnAt,hm]⟩)
  ·have hm:¬minus s:=fun h=>h1 h.1
   exact .inr (.inr ⟨h1,trivial,hm,by simp [sgnAt,hm]⟩)
 rcases pre with ⟨h1,h2,hm,ha⟩ | ⟨h1,h2,hm,ha⟩ | ⟨h1,h2,hm,ha⟩
 rotate_left 2
 ·have hf:rd s=(0,1,0):=by
   have:dend s 0=0:=dend_eq (Nat.le_refl _) (fun i h1 h2=>by omega) (fun h=>h1 h.1)
   unfold rd;rw [ha,this];simp
  simp [h1]
  refine CodeJ.loop (ι:=Unit) (fun _=>⟨70,[(0,.val (.string s)),(2,.ptr 0 0 0),(3,.val .nilIface),(4,.val (.int .i64 0)),(5,.val (.bool false)),(6,.val (.int .i64 0)),(7,.val (.slice none 0 0))],[some ⟨2,[.agg [.val (.bool false),.val (.slice none 0 0)]],false⟩]⟩)
   (fun _=>True) (fun _=>0) () trivial (by simp [leS,hC]) (fun _ _=>?_)
  simp [h1]
  refine CodeJ.draw (.qs [0,1]<|.q 2 [0]<|.qs [3]<|.m 4 [] (.qs [5]<|.l 6 [0]<|.qs [7]<|.nil) 6 [0] (.l 4 []<|.qs [5,7]<|.nil)) (by kernel_rfl) (by kernel_rfl) (by simp) ?_
  simp [hf,errSV,tFault,gErr,zsv,dig_zero]
 all_goals
  simp [h1,h2]
  first | (refine CodeJ.nil 7 1 rfl ?_) | (intro _;refine CodeJ.nil 7 1 rfl ?_)
  refine CodeJ.loop (ι:=Nat × List Nat) (fun ⟨a,l⟩=>⟨70,[(0,.val (.string s)),(2,.ptr 0 0 0),(3,.val .nilIface),(4,.val (.int .i64 a)),(5,.val (.bool (decide (minus s)))),(6,.val (.int .i64 (sgnAt s:Nat))),(7,.view 1 0 l.length)],
    [some ⟨2,[.agg [.val (.bool false),.val (.slice none 0 0)]],false⟩,some ⟨1,l.map u32,false⟩]⟩)
   (fun ⟨a,l⟩=>sgnAt s≤a∧a≤sgnAt s+300∧a≤s.size∧(∀i,sgnAt s≤i→i<a→digAt s i)∧(∀d∈l,d<4294967296)∧l.length≤a∧val 4294967296 l=nv s (sgnAt s) (a - sgnAt s))
   (fun ⟨a,l⟩=>s.size - a) (sgnAt s,[]) ?_ ?_ ?_
  ·exact ⟨by omega,by omega,sgnAt_le s,fun i h1 h2=>by omega,by simp,by simp,by simp [val,nv]⟩
  ·simp [leS,hC,ha,hm]
  ·rintro ⟨a,l⟩ ⟨g1,g2,g3,g4,g5,g6,g7⟩
   have hd':∀a,IntKind.u32.wrap (IntKind.u8.wrap (((sget s a).toNat:Int) - 48))=(((sget s a).toNat:Int) - 48) % 256:=by intro a;rw [u8w,u32w];omega
   by_cases hlt:a<s.size
   ·by_cases hd:isDig (byt s a)
    ·have hc1:(48:Int)≤(sget s a).toNat:=by have:=hd.1;unfold byt at this;omega
     have hc2:((sget s a).toNat:Int)≤57:=by have:=hd.2;unfold byt at this;omega
     have gnext:∀i,sgnAt s≤i→i<a+1→digAt s i:=fun i h1 h2=>by
      by_cases e:i=a
      ·rw [e];exact ⟨hlt,hd⟩
      ·exact g4 i h1 (by omega)
     by_cases hb:a - sgnAt s=300
     ·have hb':(a:Int) - sgnAt s=300:=by omega
      have hf:rd s=(0,2,a):=by
       have:=dend_gt g1 (fun i h1 h2=>gnext i h1 (by omega))
       unfold rd
       rw [if_pos (by omega),show sgnAt s+300=a by omega]
      simp (disch:=omega) [hlt,hc1,hc2,w64,hb']
      refine CodeJ.draw (.qs [0,1]<|.q 2 [0]<|.qs [3]<|.m 4 [] (.qs [5]<|.l 6 [0]<|.qs [7]<|.nil) 6 [0] (.l 4 []<|.qs [5,7]<|.nil)) (by kernel_rfl) (by kernel_rfl) (by simp) ?_
      simp [hf,errSV,tFault,gErr,zsv,dig_zero]
     ·have hb':¬(a:Int) - sgnAt s=300:=by omega
      simp (disch:=omega) [hlt,hc1,hc2,w64,hb']
      refine timesPlus_here l 10 (byt s a - 48) (by rw [hd'];unfold byt;omega) rfl (by simp [tget]) (by omega) g5 (by omega) (by have:=hd.2;omega) (by simp [hC]) (by intro xs;simp [nouse,tset,SV.usesL,SV.uses,usesL_map]) (fun l' J k1 k2 k3=>?_)
      simp (disch:=omega) [w64]
      refine ⟨a+1,l',⟨by omega,by omega,by omega,gnext,k1,by omega,?_⟩,by omega,by simp [leS,hC]⟩
      rw [k3,g7,show a+1 - sgnAt s=(a - sgnAt s)+1 by omega,nv,show sgnAt s+(a - sgnAt s)=a by omega]
    ·have hnd:¬digAt s a:=fun h=>hd h.2
     have hE:dend s (sgnAt s)=a:=dend_eq g1 g4 hnd
     have hf:rd s=(0,1,a):=by
      unfold rd
      rw [hE,if_neg (by omega),if_pos (.inr hlt)]
     by_cases hs1:a=sgnAt s
     ·subst hs1
      by_cases hc1:(48:Int)≤(sget s (sgnAt s)).toNat
      ·have hc2:¬((sget s (sgnAt s)).toNat:Int)≤57:=fun h=>hd ⟨by unfold byt;omega,by unfold byt;omega⟩
       simp (disch:=omega) [hlt,hc1,hc2,w64]
       refine CodeJ.draw (.qs [0,1]<|.q 2 [0]<|.qs [3]<|.m 4 [] (.qs [5]<|.l 6 [0]<|.qs [7]<|.nil) 6 [0] (.l 4 []<|.qs [5,7]<|.nil)) (by kernel_rfl) (by kernel_rfl) (by simp) ?_
       simp [hf,errSV,tFault,gErr,zsv,dig_zero]
      ·simp (disch:=omega) [hlt,hc1,w64]
       refine CodeJ.draw (.qs [0,1]<|.q 2 [0]<|.qs [3]<|.m 4 [] (.qs [5]<|.l 6 [0]<|.qs [7]<|.nil) 6 [0] (.l 4 []<|.qs [5,7]<|.nil)) (by kernel_rfl) (by kernel_rfl) (by simp) ?_
       simp [hf,errSV,tFault,gErr,zsv,dig_zero]
     ·have hs2:¬(a:Int)=sgnAt s:=by omega
      by_cases hc1:(48:Int)≤(sget s a).toNat
      ·have hc2:¬((sget s a).toNat:Int)≤57:=fun h=>hd ⟨by unfold byt;omega,by unfold byt;omega⟩
       simp (disch:=omega) [hlt,hc1,hc2,hs2,w64]
       refine CodeJ.draw (.qs [0,1]<|.q 2 [0]<|.qs [3]<|.m 4 [] (.qs [5]<|.l 6 [0]<|.qs [7]<|.nil) 6 [0] (.l 4 []<|.qs [5,7]<|.nil)) (by kernel_rfl) (by kernel_rfl) (by simp) ?_
       simp [hf,errSV,tFault,gErr,zsv,dig_zero]
      ·simp (disch:=omega) [hlt,hc1,hs2,w64]
       refine CodeJ.draw (.qs [0,1]<|.q 2 [0]<|.qs [3]<|.m 4 [] (.qs [5]<|.l 6 [0]<|.qs [7]<|.nil) 6 [0] (.l 4 []<|.qs [5,7]<|.nil)) (by kernel_rfl) (by kernel_rfl) (by simp) ?_
       simp [hf,errSV,tFault,gErr,zsv,dig_zero]
   ·obtain rfl:a=s.size:=by omega
    have hnd:¬digAt s s.size:=fun h=>by have:=h.1;omega
    have hE:dend s (sgnAt s)=s.size:=dend_eq g1 g4 hnd
    by_cases hs1:s.size=sgnAt s
    ·have hf:rd s=(0,1,s.size):=by
      unfold rd
      rw [hE,if_neg (by omega),if_pos (.inl hs1)]
     have hs2:(s.size:Int)=sgnAt s:=by omega
     simp (disch:=omega) [hs2,w64]
     refine CodeJ.draw (.qs [0,1]<|.q 2 [0]<|.qs [3]<|.m 4 [] (.qs [5]<|.l 6 [0]<|.qs [7]<|.nil) 6 [0] (.l 4 []<|.qs [5,7]<|.nil)) (by kernel_rfl) (by kernel_rfl) (by simp) ?_
     simp [hf,errSV,tFault,gErr,zsv,dig_zero]
     exact hs2.symm
    ·have hs2:¬(s.size:Int)=sgnAt s:=by omega
     have hf:rd s=((if minus s then -(nv s (sgnAt s) (s.size - sgnAt s):Int) else (nv s (sgnAt s) (s.size - sgnAt s):Int)),0,0):=by
      unfold rd
      rw [hE,if_neg (by omega),if_neg (by omega)]
     have hmd:=made_ok (decide (minus s)) l (by omega) g5
     rw [g7] at hmd
     simp (disch:=omega) [hs2,w64]
     refine callF hmd (by simp [List.take_of_length_le]) ?_
     simp [hf,errSV]
end Go.Proofs
namespace Go.Pl
open Go.Sv Go
def txtL (x:Int):List Nat:=if x=0 then [48] else (if x<0 then [45] else [])++(dig 10 x.natAbs).reverse.map (48+·)
def txt (x:Int):ByteArray:=strOf ((txtL x).map u8)
theorem wid_ten (n:Nat):wid 10 n≤10*wid 4294967296 n:=by
 refine wid_le (by omega) ?_
 rw [Nat.pow_mul]
 exact Nat.lt_of_lt_of_le (lt_wid (by omega) n) (Nat.pow_le_pow_left (by omega) _)
theorem ext_dg {l l':List Nat} (h:l.length=l'.length) (hd:∀i,i<l.length→dg l i=dg l' i):l=l':=by
 refine List.ext_getElem h fun i h1 h2=>?_
 have:=hd i h1
 unfold dg at this
 rwa [getD_in h1,getD_in h2] at this
theorem dg_rev {l:List Nat} {i:Nat} (h:i<l.length):dg l.reverse i=dg l (l.length - 1 - i):=by
 unfold dg
 rw [getD_in (by simpa using h),getD_in (by omega),List.getElem_reverse]
theorem dig_step {N:Nat} (h:0<N):dig 10 N=N % 10::dig 10 (N / 10):=dig_pos (by omega) (by omega)
theorem ten_step {r k n:Nat} (hk:k<9):(r+10^(9 - k)*n) % 10=r % 10∧(r+10^(9 - k)*n) / 10=r / 10+10^(9 - (k+1))*n:=by
 have e:10^(9 - k)*n=10*(10^(9 - (k+1))*n):=by
  rw [show 9 - k=(9 - (k+1))+1 by omega,Nat.pow_succ];grind
 rw [e]
 omega
def halfRev (l b:List Nat) (i:Nat):Prop:=b.length=l.length∧∀k,k<l.length→dg b k=if k<i∨l.length - 1 - k<i then dg l (l.length - 1 - k) else dg l k
theorem halfRev_zero (l:List Nat):halfRev l l 0:=⟨rfl,fun k _=>by simp⟩
theorem halfRev_step {l b:List Nat} {i:Nat} (h:halfRev l b i) (hi:i<l.length - 1 - i):halfRev l ((b.set i (dg b (l.length - 1 - i))).set (l.length - 1 - i) (dg b i)) (i+1):=by
 obtain ⟨h1,h2⟩:=h
 refine ⟨by simpa using h1,fun k hk=>?_⟩
 rw [dg_set _ (by simp;omega),dg_set _ (by omega)]
 by_cases e1:l.length - 1 - i=k
 ·rw [if_pos e1,if_pos (by omega),h2 i (by omega),if_neg (by omega)]
  congr 1;omega
 ·rw [if_neg e1]
  by_cases e2:i=k
  ·rw [if_pos e2,if_pos (by omega),h2 _ (by omega),if_neg (by omega),e2]
  ·rw [if_neg e2,h2 k hk]
   by_cases e3:k<i∨l.length - 1 - k<i
   ·rw [if_pos e3,if_pos (by omega)]
   ·rw [if_neg e3,if_neg (by omega)]
theorem halfRev_end {l b:List Nat} {i:Nat} (h:halfRev l b i) (hi:l.length≤2*i+1):b=l.reverse:=by
 obtain ⟨h1,h2⟩:=h
 refine ext_dg (by simpa using h1) fun k hk=>?_
 rw [h1] at hk
 rw [dg_rev hk,h2 k hk]
 by_cases e:k<i∨l.length - 1 - k<i
 ·rw [if_pos e]
 ·rw [if_neg e];congr 1;omega
end Go.Pl
namespace Go.Proofs
open Go.Sv Go Go.Pl
theorem text_ok (x:Int) (hx:fit x):PureF Tryz.prog 55 [zsv x] (.val (.string (txt x))):=by
 refine pure_enter Tryz.func55 rfl (by simp) (fun C hC=>?_)
 by_cases h0:x=0
 ·subst h0
  simp [zsv,dig_zero]
  rfl
 ·have hne:¬(dig 4294967296 x.natAbs)=[]:=fun h=>by have:=(dig_eq_nil (by omega)).1 h;omega
  have hw:wid 10 x.natAbs≤10000000000000:=Nat.le_trans (wid_ten _) (by unfold fit at hx;omega)
  have hx':=hx
  simp only [fit,wid] at hx'
  simp [zsv,hne]
  refine ⟨by omega,?_⟩
  refine CodeJ.nil 4 1 rfl ?_
  refine CodeJ.loop (ι:=Nat × List Nat × List Nat) (fun ⟨n,r,o⟩=>⟨73,[(1,.ptr 0 0 0),(3,.view 1 0 (dig 4294967296 n).length),(4,.view 2 0 o.length)],
    [some ⟨2,[.agg [.val (.bool (decide (x<0))),.ro ((dig 4294967296 x.natAbs).map u32)]],false⟩,some ⟨1,(dig 4294967296 n).map u32++r.map u32,false⟩,some ⟨1,(o.map (48+·)).map u8,false⟩]⟩)
   (fun ⟨n,r,o⟩=>wid 4294967296 n≤1000000000000∧dig 10 x.natAbs=o++dig 10 n)
   (fun ⟨n,r,o⟩=>n) (x.natAbs,[],[]) ?_ ?_ ?_
  ·exact ⟨hx,by simp⟩
  ·simp [leS,hC]
  ·rintro ⟨n,r,o⟩ ⟨h1,h2⟩
   have ho:o.length≤10000000000000:=by
    have:=congrArg List.length h2
    simp only [wid] at hw
    simp at this;omega
   by_cases hn:n=0
   ·subst hn
    simp [dig_zero] at h2
    subst h2
    have key:∀(L:List Nat),(if x<0 then [45] else [])++(dig 10 x.natAbs).reverse.map (48+·)=L.reverse→txt x=strOf (L.reverse.map u8):=fun L hL=>by
     unfold txt txtL;rw [if_neg h0,hL]
    have hlen:0<(dig 10 x.natAbs).length:=List.length_pos_iff.2 fun h=>by have:=(dig_eq_nil (by omega)).1 h;omega
    obtain ⟨L,hL1,hL2⟩:∃L:List Nat,L=(dig 10 x.natAbs).map (48+·)++(if x<0 then [45] else [])∧(∀d∈L,d<256):=by
     refine ⟨_,rfl,fun d hd=>?_⟩
     rcases List.mem_append.1 hd with hd | hd
     ·obtain ⟨e,he,rfl⟩:=List.mem_map.1 hd
      have:=dig_lt (B:=10) (by omega) x.natAbs e he;omega
     ·split at hd<;>simp at hd;omega
    have hL3:L.length≤10000000000001:=by rw [hL1];split<;>simp<;>omega
    have hL4:0<L.length:=by rw [hL1];simp;omega
    have hL5:=key L (by rw [hL1];split<;>simp [List.map_reverse])
    by_cases hneg:x<0
    ·rw [if_pos hneg] at hL1
     have e1:(L.length:Int)=(dig 10 x.natAbs).length+1:=by rw [hL1];simp
     simp (disch:=omega) [dig_zero,hneg,hC,w64]
     refine ⟨by omega,?_⟩
     have he:(dig 10 x.natAbs).length+1=L.length:=by omega
     rw [he]
     refine CodeJ.loop (ι:=List Nat × Nat) (fun ⟨b,i⟩=>⟨73,[(4,.view 2 0 L.length),(6,.val (.int .i64 i)),(7,.val (.int .i64 ((L.length:Int) - 1 - i)))],[none,none,some ⟨1,b.map u8,false⟩]⟩)
      (fun ⟨b,i⟩=>halfRev L b i∧i≤L.length) (fun ⟨b,i⟩=>L.length - i) (L,0) ?_ ?_ ?_
     ·exact ⟨halfRev_zero L,by omega⟩
     ·simp [leS,hC,hL1]
     ·rintro ⟨b,i⟩ ⟨m1,m2⟩
      have m3:=m1.1
      by_cases hi:i<L.length - 1 - i
      ·have hi':(i:Int)<(L.length:Int) - 1 - i:=by omega
       have hj:((L.length:Int) - 1 - i).toNat=L.length - 1 - i:=by omega
       simp [hi']
       refine CodeJ.draw (.qs [0,1,2,3,4,5,6,7,8,9,10,11,12]<|.l 13 [2]<|.qs [14]<|.l 15 [2]<|.nil) (by kernel_rfl) (by kernel_rfl) (by simp) ?_
       have hl2:L.length - 1 - i<(b.set i (dg b (L.length - 1 - i))).length:=by simp;omega
       simp (disch:=omega) [w64,lget_u8,hj,lset_u8, -List.map_set]
       repeat refine And.intro (by omega) ?_
       refine ⟨_,i+1,⟨halfRev_step m1 hi,by omega⟩,by omega,?_⟩
       have e7:(L.length:Int) - 1 - i - 1=L.length - 1 - (i+1):=by omega
       simp [leS,hC,e7,lset_eq]
      ·have hi':¬(i:Int)<(L.length:Int) - 1 - i:=by omega
       simp [hi']
       have hb:=halfRev_end m1 (by omega)
       subst hb
       simp [hL5,List.take_of_length_le,byteSV]
    ·rw [if_neg hneg,List.append_nil] at hL1
     have e1:(L.length:Int)=(dig 10 x.natAbs).length:=by rw [hL1];simp
     simp (disch:=omega) [dig_zero,hneg,w64]
     refine CodeJ.loop (ι:=List Nat × Nat) (fun ⟨b,i⟩=>⟨73,[(4,.view 2 0 L.length),(6,.val (.int .i64 i)),(7,.val (.int .i64 ((L.length:Int) - 1 - i)))],[none,none,some ⟨1,b.map u8,false⟩]⟩)
      (fun ⟨b,i⟩=>halfRev L b i∧i≤L.length) (fun ⟨b,i⟩=>L.length - i) (L,0) ?_ ?_ ?_
     ·exact ⟨halfRev_zero L,by omega⟩
     ·simp [leS,hC,hL1]
     ·rintro ⟨b,i⟩ ⟨m1,m2⟩
      have m3:=m1.1
      by_cases hi:i<L.length - 1 - i
      ·have hi':(i:Int)<(L.length:Int) - 1 - i:=by omega
       have hj:((L.length:Int) - 1 - i).toNat=L.length - 1 - i:=by omega
       simp [hi']
       refine CodeJ.draw (.qs [0,1,2,3,4,5,6,7,8,9,10,11,12]<|.l 13 [2]<|.qs [14]<|.l 15 [2]<|.nil) (by kernel_rfl) (by kernel_rfl) (by simp) ?_
       have hl2:L.length - 1 - i<(b.set i (dg b (L.length - 1 - i))).length:=by simp;omega
       simp (disch:=omega) [w64,lget_u8,hj,lset_u8, -List.map_set]
       repeat refine And.intro (by omega) ?_
       refine ⟨_,i+1,⟨halfRev_step m1 hi,by omega⟩,by omega,?_⟩
       have e7:(L.length:Int) - 1 - i - 1=L.length - 1 - (i+1):=by omega
       simp [leS,hC,e7,lset_eq]
      ·have hi':¬(i:Int)<(L.length:Int) - 1 - i:=by omega
       simp [hi']
       have hb:=halfRev_end m1 (by omega)
       subst hb
       simp [hL5,List.take_of_length_le,byteSV]
   ·have hl:0<(dig 4294967296 n).length:=List.length_pos_iff.2 fun h=>hn ((dig_eq_nil (by omega)).1 h)
    simp [hl]
    refine short_here (dig 4294967296 n) (r.map u32) 1000000000 (by simp [tget]) (by simp only [wid] at h1;omega) (dig_lt (by omega) n) (by omega) (by simp) (fun q g1 g2 g3=>?_)
    rw [val_dig (by omega)] at g3 ⊢
    simp
    obtain ⟨n',hn'⟩:∃n',n'=n / 1000000000:=⟨_,rfl⟩
    obtain ⟨r0,hr0⟩:∃r0,r0=n % 1000000000:=⟨_,rfl⟩
    have hq:trimL q=dig 4294967296 n':=by rw [hn',←g3,dig_val (by omega) q g1]
    have hqs:q=dig 4294967296 n'++q.drop (dig 4294967296 n').length:=by
     have:=trimL_take q
     rw [hq] at this
     conv=>lhs;rw [←List.take_append_drop (dig 4294967296 n').length q,this]
    have er:(n:Int) % 1000000000=r0:=by omega
    rw [hq]
    simp only [er]
    obtain ⟨r',hr'⟩:∃r',r'=q.drop (dig 4294967296 n').length++r:=⟨_,rfl⟩
    refine CodeJ.loop (ι:=Nat × Nat × List Nat) (fun ⟨k,e,o'⟩=>⟨73,[(1,.ptr 0 0 0),(3,.view 1 0 (dig 4294967296 n').length),(4,.view 2 0 o'.length),(5,.val (.int .u32 e)),(23,.val (.int .i64 k))],
      [some ⟨2,[.agg [.val (.bool (decide (x<0))),.ro ((dig 4294967296 x.natAbs).map u32)]],false⟩,some ⟨1,(dig 4294967296 n').map u32++r'.map u32,false⟩,some ⟨1,(o'.map (48+·)).map u8,false⟩]⟩)
     (fun ⟨k,e,o'⟩=>k≤9∧e<10^(9 - k)∧dig 10 x.natAbs=o'++dig 10 (e+10^(9 - k)*n')∧(k<9→0<e+10^(9 - k)*n'))
     (fun ⟨k,e,o'⟩=>9 - k) (0,r0,o) ?_ ?_ ?_
    ·have:r0+1000000000*n'=n:=by omega
     refine ⟨by omega,by simp;omega,by simpa [this] using h2,by simp [this];omega⟩
    ·have:q.map u32++r.map u32=(dig 4294967296 n').map u32++r'.map u32:=by
      rw [hr',List.map_append,←List.append_assoc,←List.map_append (l₁:=dig 4294967296 n'),←hqs]
     simp [leS,hC,this]
    ·rintro ⟨k,e,o'⟩ ⟨k1,k2,k3,k4⟩
     have ho':o'.length≤10000000000000:=by
      have:=congrArg List.length k3
      simp only [wid] at hw
      simp at this;omega
     by_cases hk:k<9
     ·obtain ⟨t1,t2⟩:=ten_step (r:=e) (n:=n') hk
      have k5:=k4 hk
      rw [dig_step k5,t1,t2] at k3
      have he10:e<4294967296:=Nat.lt_of_lt_of_le k2 (Nat.le_trans (Nat.pow_le_pow_right (by omega) (show 9 - k≤9 by omega)) (by omega))
      have hk':(k:Int)<9:=by omega
      obtain ⟨d1,hd1⟩:∃d1,d1=e / 10:=⟨_,rfl⟩
      obtain ⟨d0,hd0⟩:∃d0,d0=e % 10:=⟨_,rfl⟩
      have f1:(e:Int) / 10=d1:=by omega
      have f2:(e:Int) % 10=d0:=by omega
      have f3:(d1:Int) % 4294967296=d1:=by omega
      have f4:(48+(d0:Int)) % 4294967296=48+d0:=by omega
      have f5:(48+(d0:Int)) % 256=48+d0:=by omega
      rw [←hd1,←hd0] at k3
      rw [←hd1] at t2
      have hd1lt:d1<10^(9 - (k+1)):=by
       have:(10:Nat)^(9 - k)=10^(9 - (k+1))*10:=by rw [←Nat.pow_succ];congr 1;omega
       omega
      have hwn':wid 4294967296 n'≤1000000000000:=Nat.le_trans (wid_mono (by omega) (by rw [hn'];exact Nat.div_le_self _ _)) h1
      by_cases hz1:n'=0
      ·have hzd:dig 4294967296 n'=[]:=by rw [hz1,dig_zero]
       by_cases hz2:d1=0
       ·simp (disch:=omega) [hk',Int.tmod_eq_emod_of_nonneg,Int.tdiv_eq_ediv_of_nonneg,u32w,u8w,w64,hC,f1,f2,f3,f4,f5,hzd,hz2]
        refine ⟨by omega,0,r',o'++[d0],⟨by simp [wid,dig_zero],?_⟩,by omega,by simp [leS,hC,dig_zero]⟩
        rw [k3,hz1,hz2];simp [dig_zero]
       ·simp (disch:=omega) [hk',Int.tmod_eq_emod_of_nonneg,Int.tdiv_eq_ediv_of_nonneg,u32w,u8w,w64,hC,f1,f2,f3,f4,f5,hzd,hz2]
        refine ⟨by omega,k+1,d1,o'++[d0],⟨by omega,hd1lt,by rw [k3];simp,fun _=>by omega⟩,by omega,by simp [leS,hC]⟩
      ·have hzd:¬dig 4294967296 n'=[]:=fun h=>hz1 ((dig_eq_nil (by omega)).1 h)
       simp (disch:=omega) [hk',Int.tmod_eq_emod_of_nonneg,Int.tdiv_eq_ediv_of_nonneg,u32w,u8w,w64,hC,f1,f2,f3,f4,f5,hzd]
       refine ⟨by omega,k+1,d1,o'++[d0],⟨by omega,hd1lt,by rw [k3];simp,fun _=>?_⟩,by omega,by simp [leS,hC]⟩
       have:=Nat.mul_pos (Nat.pow_pos (n:=9 - (k+1)) (show 0<10 by omega)) (show 0<n' by omega)
       omega
     ·obtain rfl:k=9:=by omega
      simp at k2 k3
      subst k2
      simp at k3
      simp
      refine ⟨n',r',o',⟨Nat.le_trans (wid_mono (by omega) (by rw [hn'];exact Nat.div_le_self _ _)) h1,k3⟩,by omega,by simp [leS,hC]⟩
end Go.Proofs
namespace Go.Proofs
open Go.Sv Go Go.Pl
def fw (k:Nat) (x:Int):Prop:=wid 4294967296 x.natAbs≤k
theorem fit_fw {k x} (h:fw k x) (hk:k≤1000000000000):fit x:=Nat.le_trans h hk
theorem fw_mul {k l x y} (h:fw k x) (h':fw l y):fw (k+l) (x*y):=by
 unfold fw at *;rw [Int.natAbs_mul];exact Nat.le_trans (wid_mul (by omega) _ _) (by omega)
theorem fw_add {k x y} (h:fw k x) (h':fw k y):fw (k+1) (x+y):=by
 unfold fw at *
 exact Nat.le_trans (wid_mono (by omega) (Int.natAbs_add_le x y)) (Nat.le_trans (wid_add (by omega) _ _) (by omega))
theorem fw_neg {k x} (h:fw k x):fw k (-x):=by unfold fw at *;rwa [Int.natAbs_neg]
theorem fw_mono {k l x} (h:fw k x) (hk:k≤l):fw l x:=Nat.le_trans h hk
end Go.Proofs


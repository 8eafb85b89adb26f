/- A text of the prover's own. -/
import Derived.Test.YtnimjdcaajmfcaaGreatDoorVWb
open Nat renaming le_refl->axq,lt_or_ge->axT,pow_succ->ayX,lt_of_lt_of_le->ays,le_trans->ayr,div_le_self->aA6
open List renaming take_of_length_le->aAp,length->aA7,length_pos_iff->aAm,map_set->aAq,map_append->ayQ
open Int renaming tmod_eq_emod_of_nonneg->aA2,tdiv_eq_ediv_of_nonneg->aA8
set_option maxRecDepth 20000
namespace Go.Pl
open Go.Sv Go
def kJ(s:ByteArray)(i:Nat):Nat:=(eL s i).toNat
theorem Qg(s:ByteArray)(i:Nat):kJ s i<256:=(eL s i).toNat_lt
def qu(c:Nat):Prop:=48<=c∧c<=57
instance (c:Nat):Decidable (qu c):=inferInstanceAs (Decidable (_∧_))
def bI(s:ByteArray)(i:Nat):Prop:=i<s.size∧qu (kJ s i)
instance (s:ByteArray) (i:Nat):Decidable (bI s i):=inferInstanceAs (Decidable (_∧_))
def xR(s:ByteArray):Nat->Nat->Nat
 | 0,a=>a
 | f+1,a=>if bI s a then xR s f (a+1) else a
def aK(s:ByteArray)(a:Nat):Nat:=xR s (s.size - a) a
theorem o8(s:ByteArray):∀(f a:Nat),s.size<=a+f->a<=xR s f a∧(∀i,a<=i->i<xR s f a->bI s i)∧¬bI s (xR s f a)
 | 0,a,h=>⟨axq _,λi h1 h2=>by simp only[xR]at h2;omega,λh'=>by simp only[xR]at h';have:=h'.1;omega⟩
 | f+1,a,h=>by
  simp only[xR];split
  ·rename_i hd;obtain⟨h1,h2,h3⟩:=o8 s f (a+1) (by omega);refine⟨by omega,λi aM ay=>?_,h3⟩;by_cases e:i=a
   ·subst e;exact hd
   ·exact h2 i (by omega) ay
  ·rename_i hd;exact⟨axq _,λi h1 h2=>by omega,hd⟩
theorem jo(s:ByteArray)(a:Nat):a<=aK s a:=(o8 s _ a (by omega)).1
theorem dv{s:ByteArray}{a i:Nat}(h:a<=i)(h':i<aK s a):bI s i:=(o8 s _ a (by omega)).2.1 i h h'
theorem Bf(s:ByteArray)(a:Nat):¬bI s (aK s a):=(o8 s _ a (by omega)).2.2
theorem nL{s:ByteArray}{a e:Nat}(h:a<=e)(hd:∀i,a<=i->i<e->bI s i)(hn:¬bI s e):aK s a=e:=by
 have h1:=jo s a;rcases Nat.lt_trichotomy (aK s a) e with h2 | h2 | h2
 ·exact absurd (hd _ h1 h2) (Bf s a)
 ·exact h2
 ·exact absurd (dv h h2) hn
theorem ES{s:ByteArray}{a e:Nat}(h:a<=e)(hd:∀i,a<=i->i<=e->bI s i):e<aK s a:=by
 rcases axT e (aK s a)with h2 | h2
 ·exact h2
 ·exact absurd (hd _ (jo s a) h2) (Bf s a)
theorem fy{s:ByteArray}{a:Nat}(h:a<=s.size):aK s a<=s.size:=by
 rcases axT s.size (aK s a)with h2 | h2
 ·have:=(dv h h2).1;omega
 ·exact h2
def nv(s:ByteArray)(a:Nat):Nat->Nat
 | 0=>0
 | k+1=>nv s a k*10+(kJ s (a+k) - 48)
theorem vg{s:ByteArray}{a:Nat}:∀{k:Nat},(∀i,a<=i->i<a+k->bI s i)->nv s a k<10^k
 | 0,_=>by simp[nv]
 | k+1,h=>by have ih:=vg (k:=k) λi h1 h2=>h i h1 (by omega);have:=(h (a+k) (by omega) (by omega)).2;unfold qu at this;simp only[nv,ayX];omega
def minus(s:ByteArray):Prop:=0<s.size∧kJ s 0=45
instance (s:ByteArray):Decidable (minus s):=inferInstanceAs (Decidable (_∧_))
def av(s:ByteArray):Nat:=if minus s then 1 else 0
theorem kI(s:ByteArray):av s<=s.size:=by
 unfold av;by_cases h:minus s
 ·rw[if_pos h];exact h.1
 ·rw[if_neg h];omega
def rd(s:ByteArray):Int × Nat × Nat :=
 if av s+300<aK s (av s) then(0,2,av s+300)
 else if aK s (av s)=av s∨aK s (av s)<s.size then(0,1,aK s (av s))
 else((if minus s then -(nv s (av s) (s.size - av s):Int) else(nv s (av s) (s.size - av s):Int)),0,0)
theorem Ch{s:ByteArray}(h:(rd s).2.1=0):aK s (av s)=s.size∧av s<s.size∧s.size<=av s+300∧(rd s).1=if minus s then -(nv s (av s) (s.size - av s):Int) else(nv s (av s) (s.size - av s):Int):=by
 unfold rd at h ⊢;split at h
 ·cases h
 ·split at h
  ·cases h
  ·rename_i h1 h2;have h3:=fy (kI s);have h4:=jo s (av s);rw[if_neg h1,if_neg h2];exact⟨by omega,by omega,by omega,rfl⟩
end Go.Pl
namespace Go.Proofs
open Go.Sv Go Go.Pl
def gZ:Nat:=186
def uo(c:Nat):Nat:=if c=1 then 3 else if c=2 then 4 else 5
def mj(c a:Nat):SV:=if c=0 then .val .nilIface else .ju gZ (.dG (.agg [.val (.int .i64 a),.fT fD (uo c)]) 0)
end Go.Proofs
namespace Go.Sv
end Go.Sv
namespace Go.Proofs
open Go.Sv Go Go.Pl
theorem En(s:ByteArray)(hs:s.size<=4611686018427387904):aE Tryz.prog 158 [.val (.string s)] (.bM [dm (rd s).1,mj (rd s).2.1 (rd s).2.2]):=by
 refine aj Tryz.func158 rfl (by simp) (λC hC=>?_);have pre:(0<s.size∧eL s 0=45∧minus s∧av s=1)∨(0<s.size∧¬((eL s 0).toNat:Int)=45∧¬minus s∧av s=0)∨(¬0<s.size∧True∧¬minus s∧av s=0):=by
  by_cases h1:0<s.size
  ·by_cases h2:eL s 0=45
   ·have hm:minus s:=⟨h1,by simp[kJ,h2]⟩;exact .inl ⟨h1,h2,hm,by simp[av,hm]⟩
   ·have hm:¬minus s:=λh=>h2 (UInt8.toNat_inj.1 h.2);exact .inr (.inl ⟨h1,λh=>h2 (UInt8.toNat_inj.1 (Int.ofNat.inj h)),hm,by simp[av,hm]⟩)
  ·have hm:¬minus s:=λh=>h1 h.1;exact .inr (.inr ⟨h1,trivial,hm,by simp[av,hm]⟩)
 rcases pre with⟨h1,h2,hm,ha⟩ | ⟨h1,h2,hm,ha⟩ | ⟨h1,h2,hm,ha⟩
 rotate_left 2
 ·have hf:rd s=(0,1,0):=by
   have:aK s 0=0:=nL (axq _) (λi h1 h2=>by omega) (λh=>h1 h.1);unfold rd;rw[ha,this];simp
  simp[h1];refine aa.loop (ι:=Unit) (λ_=>⟨70,[(0,.val (.string s)),(2,.ptr 0 0 0),(3,.val .nilIface),(4,.val (.int .i64 0)),(5,.val (.bool false)),(6,.val (.int .i64 0)),(7,.val (.slice none 0 0))],[some ⟨2,[.agg [.val (.bool false),.val (.slice none 0 0)]],false⟩]⟩)
   (λ_=>True) (λ_=>0) () trivial (by simp[aP,hC]) (λ_ _=>?_)
  simp[h1];refine aa.awH (.qs [0,1]<|.q 2 [0]<|.qs [3]<|.m 4 [] (.qs [5]<|.l 6 [0]<|.qs [7]<|.nil) 6 [0] (.l 4 []<|.qs [5,7]<|.nil)) ?_;simp[hf,mj,gZ,uo,dm,bu]
 all_goals
  simp[h1,h2]
  first | (refine aa.nil 7 1 rfl ?_) | (intro _;refine aa.nil 7 1 rfl ?_)
  refine aa.loop (ι:=Nat × List Nat) (λ⟨a,l⟩=>⟨70,[(0,.val (.string s)),(2,.ptr 0 0 0),(3,.val .nilIface),(4,.val (.int .i64 a)),(5,.val (.bool (decide (minus s)))),(6,.val (.int .i64 (av s:Nat))),(7,.view 1 0 l.length)],
    [some ⟨2,[.agg [.val (.bool false),.val (.slice none 0 0)]],false⟩,some ⟨1,l.map u32,false⟩]⟩)
   (λ⟨a,l⟩=>av s<=a∧a<=av s+300∧a<=s.size∧(∀i,av s<=i->i<a->bI s i)∧(∀d∈l,d<4294967296)∧l.length<=a∧val 4294967296 l=nv s (av s) (a - av s))
   (λ⟨a,l⟩=>s.size - a) (av s,[]) ?_ ?_ ?_
  ·exact⟨by omega,by omega,kI s,λi h1 h2=>by omega,by simp,by simp,by simp[val,nv]⟩
  ·simp[aP,hC,ha,hm]
  ·rintro⟨a,l⟩ ⟨g1,g2,g3,g4,g5,g6,g7⟩;have az:∀a,IntKind.u32.wrap (IntKind.u8.wrap (((eL s a).toNat:Int) - 48))=(((eL s a).toNat:Int) - 48) % 256:=by intro a;rw[SW,iY];omega
   by_cases aR:a<s.size
   ·by_cases hd:qu (kJ s a)
    ·have ad:(48:Int)<=(eL s a).toNat:=by have:=hd.1;unfold kJ at this;omega
     have ai:((eL s a).toNat:Int)<=57:=by have:=hd.2;unfold kJ at this;omega
     have ae:∀i,av s<=i->i<a+1->bI s i:=λi h1 h2=>by
      by_cases e:i=a
      ·rw[e];exact⟨aR,hd⟩
      ·exact g4 i h1 (by omega)
     by_cases hb:a - av s=300
     ·have al:(a:Int) - av s=300:=by omega
      have hf:rd s=(0,2,a):=by have:=ES g1 (λi h1 h2=>ae i h1 (by omega));unfold rd;rw[if_pos (by omega),show av s+300=a by omega]
      simp(disch:=omega)[aR,ad,ai,aD,al];refine aa.awH (.qs [0,1]<|.q 2 [0]<|.qs [3]<|.m 4 [] (.qs [5]<|.l 6 [0]<|.qs [7]<|.nil) 6 [0] (.l 4 []<|.qs [5,7]<|.nil)) ?_;simp[hf,mj,gZ,uo,dm,bu]
     ·have al:¬(a:Int) - av s=300:=by omega
      simp(disch:=omega)[aR,ad,ai,aD,al];refine zW l 10 (kJ s a - 48) (by rw[az];unfold kJ;omega) rfl (by simp[aA]) (by omega) g5 (by omega) (by have:=hd.2;omega) (by simp[hC]) (by intro xs;simp[eU,aX,SV.aY,SV.cD,gU]) (λl' J k1 k2 k3=>?_);simp(disch:=omega)[aD];refine⟨a+1,l',⟨by omega,by omega,by omega,ae,k1,by omega,?_⟩,by omega,by simp[aP,hC]⟩;rw[k3,g7,show a+1 - av s=(a - av s)+1 by omega,nv,show av s+(a - av s)=a by omega]
    ·have am:¬bI s a:=λh=>hd h.2;have hE:aK s (av s)=a:=nL g1 g4 am;have hf:rd s=(0,1,a):=by
      unfold rd;rw[hE,if_neg (by omega),if_pos (.inr aR)]
     by_cases an:a=av s
     ·subst an;by_cases ad:(48:Int)<=(eL s (av s)).toNat
      ·have ai:¬((eL s (av s)).toNat:Int)<=57:=λh=>hd ⟨by unfold kJ;omega,by unfold kJ;omega⟩;simp(disch:=omega)[aR,ad,ai];refine aa.awH (.qs [0,1]<|.q 2 [0]<|.qs [3]<|.m 4 [] (.qs [5]<|.l 6 [0]<|.qs [7]<|.nil) 6 [0] (.l 4 []<|.qs [5,7]<|.nil)) ?_;simp[hf,mj,gZ,uo,dm,bu]
      ·simp(disch:=omega)[aR,ad];refine aa.awH (.qs [0,1]<|.q 2 [0]<|.qs [3]<|.m 4 [] (.qs [5]<|.l 6 [0]<|.qs [7]<|.nil) 6 [0] (.l 4 []<|.qs [5,7]<|.nil)) ?_;simp[hf,mj,gZ,uo,dm,bu]
     ·have ag:¬(a:Int)=av s:=by omega
      by_cases ad:(48:Int)<=(eL s a).toNat
      ·have ai:¬((eL s a).toNat:Int)<=57:=λh=>hd ⟨by unfold kJ;omega,by unfold kJ;omega⟩;simp(disch:=omega)[aR,ad,ai,ag];refine aa.awH (.qs [0,1]<|.q 2 [0]<|.qs [3]<|.m 4 [] (.qs [5]<|.l 6 [0]<|.qs [7]<|.nil) 6 [0] (.l 4 []<|.qs [5,7]<|.nil)) ?_;simp[hf,mj,gZ,uo,dm,bu]
      ·simp(disch:=omega)[aR,ad,ag];refine aa.awH (.qs [0,1]<|.q 2 [0]<|.qs [3]<|.m 4 [] (.qs [5]<|.l 6 [0]<|.qs [7]<|.nil) 6 [0] (.l 4 []<|.qs [5,7]<|.nil)) ?_;simp[hf,mj,gZ,uo,dm,bu]
   ·obtain rfl:a=s.size:=by omega
    have am:¬bI s s.size:=λh=>by have:=h.1;omega
    have hE:aK s (av s)=s.size:=nL g1 g4 am;by_cases an:s.size=av s
    ·have hf:rd s=(0,1,s.size):=by
      unfold rd;rw[hE,if_neg (by omega),if_pos (.inl an)]
     have ag:(s.size:Int)=av s:=by omega
     simp(disch:=omega)[ag];refine aa.awH (.qs [0,1]<|.q 2 [0]<|.qs [3]<|.m 4 [] (.qs [5]<|.l 6 [0]<|.qs [7]<|.nil) 6 [0] (.l 4 []<|.qs [5,7]<|.nil)) ?_;simp[hf,mj,gZ,uo,dm,bu];exact ag.symm
    ·have ag:¬(s.size:Int)=av s:=by omega
     have hf:rd s=((if minus s then -(nv s (av s) (s.size - av s):Int) else(nv s (av s) (s.size - av s):Int)),0,0):=by unfold rd;rw[hE,if_neg (by omega),if_neg (by omega)]
     have au:=lz (decide (minus s)) l (by omega) g5;rw[g7]at au;simp(disch:=omega)[ag];refine bz au (by simp[aAp]) ?_;simp[hf,mj]
end Go.Proofs
namespace Go.Pl
open Go.Sv Go
def BT(x:Int):List Nat:=if x=0 then[48] else(if x<0 then[45] else[])++(bO 10 x.natAbs).reverse.map (48+·)
def Fm(x:Int):ByteArray:=strOf ((BT x).map u8)
theorem zm(n:Nat):wid 10 n<=10*wid 4294967296 n:=by refine iC (by omega) ?_;rw[Nat.pow_mul];exact ays (rh (by omega) n) (Nat.pow_le_pow_left (by omega) _)
theorem Xu{l l':List Nat}(h:l.length=l'.length)(hd:∀i,i<l.length->dg l i=dg l' i):l=l':=by
 refine List.ext_getElem h λi h1 h2=>?_;have:=hd i h1;unfold dg at this
 rwa [m8 h1,m8 h2]at this
theorem VF{l:List Nat}{i:Nat}(h:i<l.length):dg l.reverse i=dg l (l.length - 1 - i):=by unfold dg;rw[m8 (by simpa using h),m8 (by omega),List.getElem_reverse]
theorem OS{N:Nat}(h:0<N):bO 10 N=N % 10::bO 10 (N / 10):=nF (by omega) (by omega)
theorem O9{r k n:Nat}(hk:k<9):(r+10^(9 - k)*n) % 10=r % 10∧(r+10^(9 - k)*n) / 10=r / 10+10^(9 - (k+1))*n:=by
 have e:10^(9 - k)*n=10*(10^(9 - (k+1))*n):=by rw[show 9 - k=(9 - (k+1))+1 by omega,ayX];grind
 rw[e];omega
def sA(l b:List Nat)(i:Nat):Prop:=b.length=l.length∧∀k,k<l.length->dg b k=if k<i∨l.length - 1 - k<i then dg l (l.length - 1 - k) else dg l k
theorem u5(l:List Nat):sA l l 0:=⟨rfl,λk _=>by simp⟩
theorem vV{l b:List Nat}{i:Nat}(h:sA l b i)(hi:i<l.length - 1 - i):sA l ((b.set i (dg b (l.length - 1 - i))).set (l.length - 1 - i) (dg b i)) (i+1):=by
 obtain⟨h1,h2⟩:=h;refine⟨by simpa using h1,λk hk=>?_⟩;rw[pP _ (by simp;omega),pP _ (by omega)];by_cases e1:l.length - 1 - i=k
 ·rw[if_pos e1,if_pos (by omega),h2 i (by omega),if_neg (by omega)];congr 1;omega
 ·rw[if_neg e1];by_cases e2:i=k
  ·rw[if_pos e2,if_pos (by omega),h2 _ (by omega),if_neg (by omega),e2]
  ·rw[if_neg e2,h2 k hk];by_cases e3:k<i∨l.length - 1 - k<i
   ·rw[if_pos e3,if_pos (by omega)]
   ·rw[if_neg e3,if_neg (by omega)]
theorem xO{l b:List Nat}{i:Nat}(h:sA l b i)(hi:l.length<=2*i+1):b=l.reverse:=by
 obtain⟨h1,h2⟩:=h;refine Xu (by simpa using h1) λk hk=>?_;rw[h1]at hk;rw[VF hk,h2 k hk];by_cases e:k<i∨l.length - 1 - k<i
 ·rw[if_pos e]
 ·rw[if_neg e];congr 1;omega
end Go.Pl
namespace Go.Proofs
open Go.Sv Go Go.Pl
theorem DW(x:Int)(hx:fit x):aE Tryz.prog 55 [dm x] (.val (.string (Fm x))):=by
 refine aj Tryz.func55 rfl (by simp) (λC hC=>?_);by_cases h0:x=0
 ·subst h0;simp[dm,bu];rfl
 ·have aB:¬(bO 4294967296 x.natAbs)=[]:=λh=>by have:=(bW (by omega)).1 h;omega
  have hw:wid 10 x.natAbs<=10000000000000:=ayr (zm _) (by unfold fit at hx;omega);have aC:=hx;simp only[fit,wid]at aC;simp[dm,aB];refine⟨by omega,?_⟩;refine aa.nil 4 1 rfl ?_;refine aa.loop (ι:=Nat × List Nat × List Nat) (λ⟨n,r,o⟩=>⟨73,[(1,.ptr 0 0 0),(3,.view 1 0 (bO 4294967296 n).length),(4,.view 2 0 o.length)],
    [some ⟨2,[.agg [.val (.bool (decide (x<0))),.ro ((bO 4294967296 x.natAbs).map u32)]],false⟩,some ⟨1,(bO 4294967296 n).map u32++r.map u32,false⟩,some ⟨1,(o.map (48+·)).map u8,false⟩]⟩)
   (λ⟨n,r,o⟩=>wid 4294967296 n<=1000000000000∧bO 10 x.natAbs=o++bO 10 n)
   (λ⟨n,r,o⟩=>n) (x.natAbs,[],[]) ?_ ?_ ?_
  ·exact⟨hx,by simp⟩
  ·simp[aP,hC]
  ·rintro⟨n,r,o⟩ ⟨h1,h2⟩;have ho:o.length<=10000000000000:=by
    have:=congrArg aA7 h2;simp only[wid]at hw;simp at this;omega
   by_cases hn:n=0
   ·subst hn;simp[bu]at h2;subst h2;have key:∀(L:List Nat),(if x<0 then[45] else[])++(bO 10 x.natAbs).reverse.map (48+·)=L.reverse->Fm x=strOf (L.reverse.map u8):=λL hL=>by
     unfold Fm BT;rw[if_neg h0,hL]
    have hlen:0<(bO 10 x.natAbs).length:=aAm.2 λh=>by have:=(bW (by omega)).1 h;omega
    obtain⟨L,ab,aN⟩:∃L:List Nat,L=(bO 10 x.natAbs).map (48+·)++(if x<0 then[45] else[])∧(∀d∈L,d<256):=by
     refine⟨_,rfl,λd hd=>?_⟩;rcases List.mem_append.1 hd with hd | hd
     ·obtain⟨e,he,rfl⟩:=List.mem_map.1 hd;have:=cX (B:=10) (by omega) x.natAbs e he;omega
     ·split at hd<;>simp at hd;omega
    have aO:L.length<=10000000000001:=by rw[ab];split<;>simp<;>omega
    have aQ:0<L.length:=by rw[ab];simp;omega
    have aw:=key L (by rw[ab];split<;>simp[List.map_reverse]);by_cases ac:x<0
    ·rw[if_pos ac]at ab;have e1:(L.length:Int)=(bO 10 x.natAbs).length+1:=by rw[ab];simp
     simp(disch:=omega)[bu,ac,hC,aD];refine⟨by omega,?_⟩;have he:(bO 10 x.natAbs).length+1=L.length:=by omega
     rw[he];refine aa.loop (ι:=List Nat × Nat) (λ⟨b,i⟩=>⟨73,[(4,.view 2 0 L.length),(6,.val (.int .i64 i)),(7,.val (.int .i64 ((L.length:Int) - 1 - i)))],[none,none,some ⟨1,b.map u8,false⟩]⟩)
      (λ⟨b,i⟩=>sA L b i∧i<=L.length) (λ⟨b,i⟩=>L.length - i) (L,0) ?_ ?_ ?_
     ·exact⟨u5 L,by omega⟩
     ·simp[aP,hC,ab]
     ·rintro⟨b,i⟩ ⟨m1,m2⟩;have m3:=m1.1;by_cases hi:i<L.length - 1 - i
      ·have ah:(i:Int)<(L.length:Int) - 1 - i:=by omega
       have hj:((L.length:Int) - 1 - i).toNat=L.length - 1 - i:=by omega
       simp[ah];refine aa.awH (.qs [0,1,2,3,4,5,6,7,8,9,10,11,12]<|.l 13 [2]<|.qs [14]<|.l 15 [2]<|.nil) ?_;have aF:L.length - 1 - i<(b.set i (dg b (L.length - 1 - i))).length:=by simp;omega
       simp(disch:=omega)[aD,Km,hj,J2, -aAq];repeat refine And.intro (by omega) ?_
       refine⟨_,i+1,⟨vV m1 hi,by omega⟩,by omega,?_⟩;have e7:(L.length:Int) - 1 - i - 1=L.length - 1 - (i+1):=by omega
       simp[aP,hC,e7]
      ·have ah:¬(i:Int)<(L.length:Int) - 1 - i:=by omega
       simp[ah];have hb:=xO m1 (by omega);subst hb;simp[aw,aAp,pf]
    ·rw[if_neg ac,List.append_nil]at ab;have e1:(L.length:Int)=(bO 10 x.natAbs).length:=by rw[ab];simp
     simp(disch:=omega)[bu,ac,aD];refine aa.loop (ι:=List Nat × Nat) (λ⟨b,i⟩=>⟨73,[(4,.view 2 0 L.length),(6,.val (.int .i64 i)),(7,.val (.int .i64 ((L.length:Int) - 1 - i)))],[none,none,some ⟨1,b.map u8,false⟩]⟩)
      (λ⟨b,i⟩=>sA L b i∧i<=L.length) (λ⟨b,i⟩=>L.length - i) (L,0) ?_ ?_ ?_
     ·exact⟨u5 L,by omega⟩
     ·simp[aP,hC,ab]
     ·rintro⟨b,i⟩ ⟨m1,m2⟩;have m3:=m1.1;by_cases hi:i<L.length - 1 - i
      ·have ah:(i:Int)<(L.length:Int) - 1 - i:=by omega
       have hj:((L.length:Int) - 1 - i).toNat=L.length - 1 - i:=by omega
       simp[ah];refine aa.awH (.qs [0,1,2,3,4,5,6,7,8,9,10,11,12]<|.l 13 [2]<|.qs [14]<|.l 15 [2]<|.nil) ?_;have aF:L.length - 1 - i<(b.set i (dg b (L.length - 1 - i))).length:=by simp;omega
       simp(disch:=omega)[aD,Km,hj,J2, -aAq];repeat refine And.intro (by omega) ?_
       refine⟨_,i+1,⟨vV m1 hi,by omega⟩,by omega,?_⟩;have e7:(L.length:Int) - 1 - i - 1=L.length - 1 - (i+1):=by omega
       simp[aP,hC,e7]
      ·have ah:¬(i:Int)<(L.length:Int) - 1 - i:=by omega
       simp[ah];have hb:=xO m1 (by omega);subst hb;simp[aw,aAp,pf]
   ·have hl:0<(bO 4294967296 n).length:=aAm.2 λh=>hn ((bW (by omega)).1 h);simp[hl];refine AO (bO 4294967296 n) (r.map u32) 1000000000 (by simp[aA]) (by simp only[wid]at h1;omega) (cX (by omega) n) (by omega) (by simp) (λq g1 g2 g3=>?_);rw[cB (by omega)]at g3 ⊢;simp;obtain⟨n',ao⟩:∃n',n'=n / 1000000000:=⟨_,rfl⟩;obtain⟨r0,aS⟩:∃r0,r0=n % 1000000000:=⟨_,rfl⟩;have hq:cG q=bO 4294967296 n':=by rw[ao,<-g3,gz (by omega) q g1]
    have aG:q=bO 4294967296 n'++q.drop (bO 4294967296 n').length:=by
     have:=Ac q;rw[hq]at this
     conv=>lhs;rw[<-List.take_append_drop (bO 4294967296 n').length q,this]
    have er:(n:Int) % 1000000000=r0:=by omega
    rw[hq];simp only[er];obtain⟨r',aH⟩:∃r',r'=q.drop (bO 4294967296 n').length++r:=⟨_,rfl⟩;refine aa.loop (ι:=Nat × Nat × List Nat) (λ⟨k,e,o'⟩=>⟨73,[(1,.ptr 0 0 0),(3,.view 1 0 (bO 4294967296 n').length),(4,.view 2 0 o'.length),(5,.val (.int .u32 e)),(23,.val (.int .i64 k))],
      [some ⟨2,[.agg [.val (.bool (decide (x<0))),.ro ((bO 4294967296 x.natAbs).map u32)]],false⟩,some ⟨1,(bO 4294967296 n').map u32++r'.map u32,false⟩,some ⟨1,(o'.map (48+·)).map u8,false⟩]⟩)
     (λ⟨k,e,o'⟩=>k<=9∧e<10^(9 - k)∧bO 10 x.natAbs=o'++bO 10 (e+10^(9 - k)*n')∧(k<9->0<e+10^(9 - k)*n'))
     (λ⟨k,e,o'⟩=>9 - k) (0,r0,o) ?_ ?_ ?_
    ·have:r0+1000000000*n'=n:=by omega
     refine⟨by omega,by simp;omega,by simpa[this]using h2,by simp[this];omega⟩
    ·have:q.map u32++r.map u32=(bO 4294967296 n').map u32++r'.map u32:=by
      rw[aH,ayQ,<-List.append_assoc,<-ayQ (l₁:=bO 4294967296 n'),<-aG]
     simp[aP,hC,this]
    ·rintro⟨k,e,o'⟩ ⟨k1,k2,k3,k4⟩;have aT:o'.length<=10000000000000:=by
      have:=congrArg aA7 k3;simp only[wid]at hw;simp at this;omega
     by_cases hk:k<9
     ·obtain⟨t1,t2⟩:=O9 (r:=e) (n:=n') hk;have k5:=k4 hk;rw[OS k5,t1,t2]at k3;have aI:e<4294967296:=ays k2 (ayr (Nat.pow_le_pow_right (by omega) (show 9 - k<=9 by omega)) (by omega));have ap:(k:Int)<9:=by omega
      obtain⟨d1,ax⟩:∃d1,d1=e / 10:=⟨_,rfl⟩;obtain⟨d0,aJ⟩:∃d0,d0=e % 10:=⟨_,rfl⟩;have f1:(e:Int) / 10=d1:=by omega
      have f2:(e:Int) % 10=d0:=by omega
      have f3:(d1:Int) % 4294967296=d1:=by omega
      have f4:(48+(d0:Int)) % 4294967296=48+d0:=by omega
      have f5:(48+(d0:Int)) % 256=48+d0:=by omega
      rw[<-ax,<-aJ]at k3;rw[<-ax]at t2;have af:d1<10^(9 - (k+1)):=by
       have:(10:Nat)^(9 - k)=10^(9 - (k+1))*10:=by rw[<-ayX];congr 1;omega
       omega
      have aL:wid 4294967296 n'<=1000000000000:=ayr (cH (by omega) (by rw[ao];exact aA6 _ _)) h1;by_cases aq:n'=0
      ·have ak:bO 4294967296 n'=[]:=by rw[aq,bu]
       by_cases ar:d1=0
       ·simp(disch:=omega)[ap,aA2,aA8,iY,SW,hC,f1,f2,f4,f5,ak,ar];refine⟨by omega,0,r',o'++[d0],⟨by simp[wid,bu],?_⟩,by omega,by simp[aP,hC,bu]⟩;rw[k3,aq,ar];simp[bu]
       ·simp(disch:=omega)[ap,aA2,aA8,iY,SW,aD,hC,f1,f2,f3,f4,f5,ak,ar];refine⟨by omega,k+1,d1,o'++[d0],⟨by omega,af,by rw[k3];simp,λ_=>by omega⟩,by omega,by simp[aP,hC]⟩
      ·have ak:¬bO 4294967296 n'=[]:=λh=>aq ((bW (by omega)).1 h);simp(disch:=omega)[ap,aA2,aA8,iY,SW,aD,hC,f1,f2,f3,f4,f5,ak];refine⟨by omega,k+1,d1,o'++[d0],⟨by omega,af,by rw[k3];simp,λ_=>?_⟩,by omega,by simp[aP,hC]⟩;have:=Nat.mul_pos (Nat.pow_pos (n:=9 - (k+1)) (show 0<10 by omega)) (show 0<n' by omega);omega
     ·obtain rfl:k=9:=by omega
      simp at k2 k3;subst k2;simp at k3;simp;refine⟨n',r',o',⟨ayr (cH (by omega) (by rw[ao];exact aA6 _ _)) h1,k3⟩,by omega,by simp[aP,hC]⟩
end Go.Proofs
namespace Go.Proofs
open Go.Sv Go Go.Pl
def fw(k:Nat)(x:Int):Prop:=wid 4294967296 x.natAbs<=k
theorem iX{k x}(h:fw k x)(hk:k<=1000000000000):fit x:=ayr h hk
theorem iD{k l x y}(h:fw k x)(h':fw l y):fw (k+l) (x*y):=by unfold fw at *;rw[Int.natAbs_mul];exact ayr (Ez (by omega) _ _) (by omega)
theorem Bj{k x y}(h:fw k x)(h':fw k y):fw (k+1) (x+y):=by unfold fw at *;exact ayr (cH (by omega) (Int.natAbs_add_le x y)) (ayr (RD (by omega) _ _) (by omega))
theorem Po{k x}(h:fw k x):fw k (-x):=by unfold fw at *;rwa [Int.natAbs_neg]
theorem gG{k l x}(h:fw k x)(hk:k<=l):fw l x:=ayr h hk
end Go.Proofs


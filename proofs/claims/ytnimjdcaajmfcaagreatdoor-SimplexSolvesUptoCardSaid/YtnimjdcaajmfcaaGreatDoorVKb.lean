/- A text of the prover's own. -/
import Derived.Test.YtnimjdcaajmfcaaGreatDoorVQo
import Derived.Test.YtnimjdcaajmfcaaGreatDoorVSa
import Derived.Test.YtnimjdcaajmfcaaGreatDoorVEs
open List renaming getD_eq_getElem?_getD->aBn,getElem?_eq_getElem->awZ,map_take->aAP,take_of_length_le->aAp,take->aBA,drop->aBB,replicate->awQ,map_map->aBC,map_congr_left->aBD,all_eq_true->ayG
open Go.Proofs.Tryz renaming prog->ay9
open Bool renaming and_eq_true->ayt
set_option maxRecDepth 10000
namespace Go.Tb
open Go Go.Sv Go.Pl Go.Proofs
def fN(s:ByteArray):SV:=.val (.string s)
@[simp] theorem ab3(s:ByteArray):fN s=.val (.string s):=rfl
def tsv(l:List ByteArray):SV:=.ro (l.map fN)
@[simp] theorem akf(l:List ByteArray):tsv l=.ro (l.map fN):=rfl
def iu(l:List Rat):SV:=.ro (l.map aZ)
@[simp] theorem ajg(l:List Rat):iu l=.ro (l.map aZ):=rfl
def rlv(l:List Rat):SV:=.ro (l.map aS)
@[simp] theorem aj5(l:List Rat):rlv l=.ro (l.map aS):=rfl
def gt{α:Type}[Inhabited α](l:List α)(i:Nat):α:=l.getD i default
theorem ct{α:Type}[Inhabited α](f:α->SV){l:List α}{i:Nat}(h:i<l.length):aM (l.map f) i=f (gt l i):=by rw[uH (by simpa using h)];simp[gt,h]
theorem ri{l:List ByteArray}{i:Nat}(h:i<l.length):aM (l.map fN) i=fN (gt l i):=ct _ h
theorem aei{l:List (List ByteArray)}{i:Nat}(h:i<l.length):aM (l.map tsv) i=tsv (gt l i):=ct _ h
theorem eh{l:List Rat}{i:Nat}(h:i<l.length):aM (l.map aZ) i=aZ (gt l i):=ct _ h
theorem ch{l:List Rat}{i:Nat}(h:i<l.length):aM (l.map aS) i=aS (gt l i):=ct _ h
theorem oZ{l:List (List Rat)}{i:Nat}(h:i<l.length):aM (l.map iu) i=iu (gt l i):=ct _ h
theorem aaU{l:List (List Rat)}{i:Nat}(h:i<l.length):aM (l.map rlv) i=rlv (gt l i):=ct _ h
theorem iW{α:Type}[Inhabited α]{l:List α}{i:Nat}(h:i<l.length):gt l i∈l:=by simp only[gt,aBn,awZ h,Option.getD_some];exact List.getElem_mem h
theorem hO{α:Type}[Inhabited α]{l:List α}{i:Nat}(h:i<l.length):l.take (i+1)=l.take i++[gt l i]:=by rw[List.take_succ_eq_append_getElem h];simp[gt,h]
@[simp] theorem aqF(l:List Rat):D8 4 (l.map aZ)=True:=by cases l<;>simp[D8]
@[simp] theorem aoI(l:List Rat):D8 4 (l.map aS)=True:=by cases l<;>simp[D8]
@[simp] theorem agQ(l:List (List Rat)):D8 1 (l.map iu)=True:=by cases l<;>simp[D8]
theorem DG{k:Nat}{es:List SV}:∀{l r:List SV},j6 k es (l++r)=j6 k es l++j6 k es r
 | [],r=>rfl
 | x::l,r=>by simp[DG]
def num(s:ByteArray):Rat:=(gm 300 s).1
def okN(l:List ByteArray):Bool:=l.all λs=>decide ((gm 300 s).2.1=0)
def okT(t:List (List ByteArray)):Bool:=t.all okN
def jD(l:List ByteArray):List Rat:=l.map num
def Tu(t:List (List ByteArray)):List (List Rat):=t.map jD
@[simp] theorem aeO(l:List ByteArray):(jD l).length=l.length:=by simp[jD]
@[simp] theorem afX(l:List (List ByteArray)):(Tu l).length=l.length:=by simp[Tu]
def aod(l:List ByteArray):SV:=if okN l then .bM [.ro ((jD l).map aZ),.val (.bool true)] else .bM [.ro [],.val (.bool false)]
def aoz(l:List ByteArray):SV:=if okN l then .bM [.ro ((jD l).map aS),.val (.bool true)] else .bM [.ro [],.val (.bool false)]
def apz(t:List (List ByteArray)):SV:=if okT t then .bM [.ro ((Tu t).map iu),.val (.bool true)] else .bM [.ro [],.val (.bool false)]
def apS(t:List (List ByteArray)):SV:=if okT t then .bM [.ro ((Tu t).map rlv),.val (.bool true)] else .bM [.ro [],.val (.bool false)]
structure Zw(l:List ByteArray):Prop where
 n:l.length<=1048576
 s:∀s∈l,s.size<=1048576
structure SmT(t:List (List ByteArray)):Prop where
 n:t.length<=1048576
 s:∀l∈t,Zw l
theorem RZ{q:Nat->Prop}{i:Nat}(h:∀k,k<i->q k)(h':q i):∀k,k<i+1->q k:=λk hk=>by
 rcases Nat.lt_or_ge k i with g | g
 ·exact h k g
 ·obtain rfl:k=i:=by omega
  exact h'
end Go.Tb
namespace Go.Proofs
open Go.Sv Go Go.Tb Go.Pl
theorem RM(s:ByteArray)(hs:s.size<=4611686018427387904)(hq:(gm 300 s).2.1=0):aE ay9 66 [.val (.string s)] (.bM [aZ (num s),fZ 0 (-1)]):=by
 have:=CK s hs
 rwa [show j0 (gm 300 s)=.bM [aZ (num s),fZ 0 (-1)] by simp[j0,hq,num]]at this
end Go.Proofs
namespace Go.Proofs
open Go.Sv Go Go.Tb Go.Pl
theorem Iq(s:ByteArray)(hs:s.size<=4611686018427387904):aE ay9 67 [.val (.string s)] (.bM [aS (num s),.val (.bool (decide ((gm 300 s).2.1=0)))]):=by
 refine aj Tryz.func67 rfl (by simp) (λC hC=>?_);simp;refine awI (Pf s hs) ?_;simp[B0];refine aa.awH (.qs [0,1,2]<|.l 3 [0]<|.qs [4]<|.nil) ?_;rw[show(gm 300 s).1=num s from rfl];by_cases hq:(gm 300 s).2.1=0
 ·simp[hq,mj]
 ·simp[hq,mj]
end Go.Proofs
namespace Go.Tb
open Go Go.Sv Go.Pl Go.Proofs
def wide{α:Type}(a:List (List α)):Nat:=(gt a 0).length
theorem afP{α:Type}(a:List (List α)):wide a=(gt a 0).length:=rfl
def asD{α:Type}(a:List (List α)):Bool:=decide (a.length<=40)&&a.all λr=>decide (r.length=wide a∧r.length<=40)
end Go.Tb
namespace Go.Proofs
open Go.Sv Go Go.Tb Go.Pl
theorem Pq(a:List (List Rat))(h:a.length<=1048576):aE ay9 44 [.ro (a.map iu)] (.val (.int .i64 (wide a:Nat))):=by
 refine aj Tryz.func44 rfl (by simp) (λC hC=>?_);simp;by_cases h0:a.length=0
 ·have:a=[]:=List.length_eq_zero_iff.1 h0;subst this;simp[wide,gt];rfl
 ·have e:aM (a.map iu) 0=iu (gt a 0):=oZ (by omega);simp[e];exact⟨λhe=>absurd (by rw[he];rfl) h0,λ_=>⟨by omega,rfl⟩⟩
end Go.Proofs
namespace Go.Tb
open Go Go.Sv Go.Pl Go.Proofs
def p4(l:List Rat):List ByteArray:=l.map mT
def apH(a:List (List Rat)):List (List ByteArray):=a.map p4
@[simp] theorem afH(l:List Rat):(p4 l).length=l.length:=by simp[p4]
theorem Dj{l:List Rat}{i:Nat}(h:i<l.length):(p4 l).take (i+1)=(p4 l).take i++[mT (gt l i)]:=by unfold p4;rw[<-aAP,<-aAP,hO h];simp
structure PW(l:List Rat):Prop where
 n:l.length<=1048576
 q:∀q∈l,j4 q
structure OKa(a:List (List Rat)):Prop where
 n:a.length<=1048576
 r:∀r∈a,PW r
end Go.Tb
namespace Go.Proofs
open Go.Sv Go Go.Tb Go.Pl
theorem xu(l:List Rat)(h:PW l):aE ay9 61 [.ro (l.map aS)] (.ro ((p4 l).map fN)):=by
 have hl:=h.n;refine aj Tryz.func61 rfl (by simp) (λC hC=>?_);simp;refine aa.nil 3 1 rfl ?_;refine aa.bB (ι:=Nat × List ByteArray) (λ⟨i,xs⟩=>⟨19,[(3,.view 0 0 xs.length),(6,.ro (l.map aS)),(7,.val (.int .i64 l.length)),(8,.val (.int .i64 i))],[some ⟨1,xs.map fN,false⟩]⟩)
  (λ⟨i,xs⟩=>i<=l.length∧xs=(p4 l).take i) (λ⟨i,xs⟩=>l.length - i) (0,[]) ?_ ?_ ?_
 ·simp
 ·simp[aP,hC]
 ·rintro⟨i,xs⟩ ⟨hi,hx⟩;have ad:xs.length=i:=by rw[hx];simp;omega
  by_cases aR:i<l.length
  ·have ac:=Dj aR;rw[<-hx]at ac;have hq:=h.q _ (iW aR);simp(disch:=omega)[aR,ch];refine awI (AU (gt l i) hq) ?_;simp(disch:=omega)[aD];exact⟨⟨by simp[hC],by omega⟩,i+1,xs++[mT (gt l i)],⟨by omega,ac.symm⟩,by omega,Le.dE (by simp[aP,hC])⟩
  ·obtain rfl:i=l.length:=by omega
   rw[aAp (by simp)]at hx;simp[hx,aAp]
end Go.Proofs
namespace Go.Tb
open Go Go.Sv Go.Pl Go.Proofs
structure BF(t:List (List ByteArray)):Prop where
 n:t.length<=6
 r:∀i,i<t.length->(gt t i).length<=6∧∀k,k<(gt t i).length->(gt (gt t i) k).size<=30
end Go.Tb
namespace Go.Proofs
open Go.Sv Go Go.Tb Go.Pl
def ali(a:List (List Rat)):Bool:=a.all λr=>decide (r.length=wide a)
def amS(a:List (List Rat)):SV :=
 if a=[] then .bM [.val (.int .i64 0),.val (.bool true)]
 else if ali a then .bM [.val (.int .i64 (wide a:Nat)),.val (.bool (decide (a.length<=40∧wide a<=40)))]
 else .bM [.val (.int .i64 0),.val (.bool false)]
end Go.Proofs
namespace Go.Sv
open Go
end Go.Sv
namespace Go.Ut
open Go Go.Sv Go.Pl Go.Proofs Go.Tb
@[simp] theorem aeR{M:aC}{x:SV}(h:x.pure=true):Sv.Sub M x x=True:=eq_true (fV M x h)
/-! numbers of the program and of the document -/
@[simp] theorem akI(q:Rat):(aS q).cells.length=4:=rfl
@[simp] theorem alH(q:Rat):(aZ q).cells.length=4:=rfl
@[simp] theorem abH(q:Rat)(r:List SV)(n:Nat):aBA (n+4) ((aS q).cells++r)=(aS q).cells++aBA n r:=rfl
@[simp] theorem aki(q:Rat)(r:List SV)(n:Nat):aBB (n+4) ((aS q).cells++r)=aBB n r:=rfl
@[simp] theorem agU(q:Rat):SV.bF (aS q).cells=true:=rfl
@[simp] theorem aj0(q:Rat)(k:Nat):SV.aY k (aS q).cells=false:=rfl
@[simp] theorem asr(q:Rat)(k:Nat):SV.j3 k (aS q).cells=true:=rfl
theorem ou:SV.agg [.val (.bool false),.ro [],.val (.bool false),.ro []]=aS 0:=by simp[aS,bu]
theorem dY{α:Type}[Inhabited α]{l:List α}{i:Nat}(h:i<l.length):l[i]=gt l i:=by unfold gt;rw[aBn,awZ h];rfl
theorem Kc{α:Type}[Inhabited α]{l:List α}{i:Nat}(h:i<l.length):l.drop i=gt l i::l.drop (i+1):=by rw[List.drop_eq_getElem_cons h,dY h]
theorem jr{α β:Type}[Inhabited α][Inhabited β](f:α->β){l:List α}{i:Nat}(h:i<l.length):gt (l.map f) i=f (gt l i):=by simp[gt,h]
theorem bE{α:Type}[Inhabited α]{l:List α}{i j:Nat}{x:α}(h:j<l.length):gt (l.set i x) j=if i=j then x else gt l j:=by
 have h':j<(l.set i x).length:=by simpa using h
 rw[<-dY h',List.getElem_set];split
 ·rfl
 ·exact dY h
theorem bV{α:Type}[Inhabited α]{a b:List α}(hl:a.length=b.length)(h:∀i,i<a.length->gt a i=gt b i):a=b:=by refine List.ext_getElem hl λi h1 h2=>?_;rw[dY h1,dY h2];exact h i h1
/-! whole numbers, truths -/
def iv(n:Int):SV:=.val (.int .i64 n)
@[simp] theorem anG(n:Int):iv n=.val (.int .i64 n):=rfl
def ilv(l:List Int):SV:=.ro (l.map iv)
@[simp] theorem ais(l:List Int):ilv l=.ro (l.map iv):=rfl
def dr(b:Bool):SV:=.val (.bool b)
@[simp] theorem ahB(b:Bool):dr b=.val (.bool b):=rfl
theorem cf{l:List Int}{i:Nat}(h:i<l.length):aM (l.map iv) i=iv (gt l i):=ct _ h
/-! lists filled from the front -/
theorem p9{n:Nat}{x:SV}:kT (awQ n x)=awQ n (ig x):=by
 induction n with
 | zero=>rfl
 | succ n ih=>simp[List.replicate_succ,ih]
/-! how numbers compare -/
def GN(x y:Rat):Int:=if x<y then -1 else if y<x then 1 else 0
theorem uf(x y:Rat):(x<y∧GN x y = -1)∨(y<x∧GN x y=1)∨(x=y∧GN x y=0):=by
 unfold GN;by_cases h1:x<y
 ·exact .inl ⟨h1,by rw[if_pos h1]⟩
 ·by_cases h2:y<x
  ·exact .inr (.inl ⟨h2,by rw[if_neg h1,if_pos h2]⟩)
  ·exact .inr (.inr ⟨Rat.le_antisymm (Rat.not_lt.1 h2) (Rat.not_lt.1 h1),by rw[if_neg h1,if_neg h2]⟩)
@[simp] theorem aba{x y:Rat}:GN x y<0↔x<y:=by rcases uf x y with⟨h,e⟩ | ⟨h,e⟩ | ⟨h,e⟩<;>rw[e]<;>constructor<;>grind
@[simp] theorem ae0{x y:Rat}:0<GN x y↔y<x:=by rcases uf x y with⟨h,e⟩ | ⟨h,e⟩ | ⟨h,e⟩<;>rw[e]<;>constructor<;>grind
@[simp] theorem abm{x y:Rat}:GN x y=0↔x=y:=by rcases uf x y with⟨h,e⟩ | ⟨h,e⟩ | ⟨h,e⟩<;>rw[e]<;>constructor<;>grind
def Uy(q:Rat):Int:=q.num.sign
theorem Ki{q:Rat}:q.num<0↔q<0:=by rw[<-Int.not_le,<-Rat.not_le,Rat.num_nonneg]
theorem S5{q:Rat}:0<q.num↔0<q:=by
 have h0:q.num=0↔q=0:=Rat.num_eq_zero;have h1:=Rat.num_nonneg (q:=q);constructor
 ·intro h;have:=h1.1 (by omega);rcases Rat.le_iff_lt_or_eq.1 this with h' | h'
  ·exact h'
  ·have:=h0.2 h'.symm;omega
 ·intro h;have:=h1.2 (Rat.le_of_lt h);have h2:q.num≠0:=λe=>by rw[h0]at e;rw[e]at h;exact Rat.lt_irrefl h
  omega
@[simp] theorem ahg{q:Rat}:Uy q<0↔q<0:=by unfold Uy;rw[Int.sign_neg_iff,Ki]
@[simp] theorem aii{q:Rat}:0<Uy q↔0<q:=by unfold Uy;rw[Int.sign_pos_iff,S5]
@[simp] theorem ajd{q:Rat}:Uy q=0↔q=0:=by unfold Uy;rw[Int.sign_eq_zero_iff_zero,Rat.num_eq_zero]
def Wd(k:Nat)(w:List Rat):Prop:=∀i,i<w.length->qw k (gt w i)
theorem cC(k:Nat)(h:1<=k):qw k 0:=by have:=mG (k:=k) (x:=0) (kF k) h;simpa using this
theorem fG{n:Int}(h : -4294967296<n)(h':n<4294967296):qw 1 (n:Rat):=mG (iC (by omega) (by omega)) (by omega)
/-! errors by number -/
def II(c:Nat):SV:=if c=0 then .val .nilIface else .fT fD (gs (c - 1))
theorem Qy:II 0=.val .nilIface:=rfl
theorem Uf:II 2=.fT fD 4:=rfl
theorem aeS:II 4=.fT fD 0:=rfl
theorem ad5:II 7=.fT fD 7:=rfl
@[simp] theorem afp(c:Nat):(II c).pure=true:=by unfold II;split<;>rfl
end Go.Ut
namespace Go.Proofs
open Go.Sv Go Go.Tb Go.Pl Go.Ut
theorem FO(x y:Rat)(hx:j4 x)(hy:j4 y):aE ay9 83 [aZ x,aZ y] (.val (.int .i64 (GN x y))):=R9 x y hx hy
theorem alf(q:Rat):aE ay9 40 [aS q] (.val (.int .i64 (Uy q))):=iy q
theorem Lg(q:Rat):aE ay9 14 [aZ q] (.val (.int .i64 (Uy q))):=E5 q
theorem oh:aE ay9 46 [.val (.int .i64 0)] (aZ 0):=JA 0 (by omega) (by omega)
end Go.Proofs
namespace Go.Li
open Go Go.Sv Go.Pl Go.Proofs Go.Tb Go.Ut
@[simp] theorem ajr{M:aC}{x:SV}(h:isP x):Sv.Sub M x x=True:=eq_true (fV M x h)
structure Bo where
 has:Bool
 at':Rat
instance:Inhabited Bo:=⟨⟨false,0⟩⟩
structure xZ where
 name:ByteArray
 whole:Bool
 low:Bo
 high:Bo
 cost:Rat
instance:Inhabited xZ:=⟨⟨.empty,false,default,default,0⟩⟩
structure Term where
 iP:Int
 num:Rat
instance:Inhabited Term:=⟨⟨0,0⟩⟩
structure Row where
 name:ByteArray
 aI:List Term
 low:Bo
 high:Bo
instance:Inhabited Row:=⟨⟨.empty,[],default,default⟩⟩
structure aB where
 max:Bool
 shift:Rat
 ai:List xZ
 rows:List Row
structure mL where
 name:ByteArray
 whole:Bool
 low:ByteArray
 high:ByteArray
 cost:ByteArray
instance:Inhabited mL:=⟨⟨.empty,false,.empty,.empty,.empty⟩⟩
structure jF where
 name:ByteArray
 low:ByteArray
 high:ByteArray
 ai:List Int
 jD:List ByteArray
instance:Inhabited jF:=⟨⟨.empty,.empty,.empty,[],[]⟩⟩
structure dS where
 max:Bool
 shift:ByteArray
 ai:List mL
 rows:List jF
def qb(b:Bo):SV:=.agg [.val (.bool (decide (b.at'.num<0))),.ro ((bO 10000 b.at'.num.natAbs).map i64),.val (.bool false),.ro (if b.has=true then(bO 10000 b.at'.den).map i64 else[])]
theorem ka{b:Bo}(h:b.has=true):qb b=aZ b.at':=by unfold qb;rw[if_pos h];rfl
theorem agJ(q:Rat):qb ⟨true,q⟩=aZ q:=rfl
theorem SM:qb ⟨false,0⟩=nT:=by simp[qb,nT,bu]
@[simp] theorem ame(b:Bo):(qb b).ir=4:=rfl
@[simp] theorem aeZ(b:Bo):(qb b).aW=false:=rfl
@[simp] theorem aeW(b:Bo):(qb b).isAgg=true:=rfl
@[simp] theorem ahn(b:Bo):(qb b).pure=true:=rfl
@[simp] theorem atf(n:Nat)(b:Bo):(qb b).lt n=true:=rfl
@[simp] theorem aiv(n:Nat)(b:Bo):(qb b).cD n=false:=rfl
@[simp] theorem adJ(b:Bo):SV.bF (qb b).cells=true:=rfl
@[simp] theorem afq(b:Bo)(k:Nat):SV.aY k (qb b).cells=false:=rfl
@[simp] theorem alK(b:Bo)(k:Nat):SV.j3 k (qb b).cells=true:=rfl
@[simp] theorem aik(b:Bo):(qb b).cells.length=4:=rfl
@[simp] theorem ZI(b:Bo)(r:List SV)(n:Nat):aBA (n+4) ((qb b).cells++r)=(qb b).cells++aBA n r:=rfl
@[simp] theorem ach(b:Bo)(r:List SV)(n:Nat):aBB (n+4) ((qb b).cells++r)=aBB n r:=rfl
def dA(b:Bo):SV:=.agg ([dr b.has]++(aS b.at').cells)
@[simp] theorem ajc(b:Bo):(dA b).ir=5:=rfl
@[simp] theorem ZO(b:Bo):(dA b).aW=false:=rfl
@[simp] theorem Yh(b:Bo):(dA b).isAgg=true:=rfl
@[simp] theorem adL(b:Bo):(dA b).pure=true:=rfl
@[simp] theorem amI(n:Nat)(b:Bo):(dA b).lt n=true:=rfl
@[simp] theorem aae(n:Nat)(b:Bo):(dA b).cD n=false:=rfl
@[simp] theorem amL(b:Bo):aM (dA b).cells 0=dr b.has:=rfl
def nZ(b:Bo):SV:=.agg ([dr b.has]++(qb b).cells)
@[simp] theorem ai7(b:Bo):(nZ b).ir=5:=rfl
@[simp] theorem Zg(b:Bo):(nZ b).aW=false:=rfl
@[simp] theorem XI(b:Bo):(nZ b).isAgg=true:=rfl
@[simp] theorem acz(b:Bo):(nZ b).pure=true:=rfl
@[simp] theorem adV(n:Nat)(b:Bo):(nZ b).cD n=false:=rfl
@[simp] theorem alV(b:Bo):aM (nZ b).cells 0=dr b.has:=rfl
def s8(h:Bool)(b:Bo):SV:=.agg ([dr h]++(qb b).cells)
@[simp] theorem aju(h:Bool)(b:Bo):(s8 h b).ir=5:=rfl
@[simp] theorem ZW(h:Bool)(b:Bo):(s8 h b).aW=false:=rfl
@[simp] theorem XW(h:Bool)(b:Bo):(s8 h b).isAgg=true:=rfl
@[simp] theorem acG(h:Bool)(b:Bo):(s8 h b).pure=true:=rfl
@[simp] theorem ami(n:Nat)(h:Bool)(b:Bo):(s8 h b).lt n=true:=rfl
@[simp] theorem af9(n:Nat)(h:Bool)(b:Bo):(s8 h b).cD n=false:=rfl
@[simp] theorem ZV(b:Bo):SV.bF (dA b).cells=true:=rfl
@[simp] theorem ZQ(b:Bo)(k:Nat):SV.aY k (dA b).cells=false:=rfl
@[simp] theorem ahp(b:Bo)(k:Nat):SV.j3 k (dA b).cells=true:=rfl
@[simp] theorem acy(b:Bo):(dA b).cells.length=5:=rfl
@[simp] theorem Xh(b:Bo)(r:List SV)(n:Nat):aBA (n+5) ((dA b).cells++r)=(dA b).cells++aBA n r:=rfl
@[simp] theorem ZR(b:Bo)(r:List SV)(n:Nat):aBB (n+5) ((dA b).cells++r)=aBB n r:=rfl
@[simp] theorem ae5(b:Bo):(nZ b).cells.length=5:=rfl
@[simp] theorem VO(b:Bo)(r:List SV)(n:Nat):aBA (n+5) ((nZ b).cells++r)=(nZ b).cells++aBA n r:=rfl
@[simp] theorem Z4(b:Bo)(r:List SV)(n:Nat):aBB (n+5) ((nZ b).cells++r)=aBB n r:=rfl
@[simp] theorem ZK(h:Bool)(b:Bo):SV.bF (s8 h b).cells=true:=rfl
@[simp] theorem ZZ(h:Bool)(b:Bo)(k:Nat):SV.aY k (s8 h b).cells=false:=rfl
@[simp] theorem aj3(h:Bool)(b:Bo)(k:Nat):SV.j3 k (s8 h b).cells=true:=rfl
@[simp] theorem aeT(h:Bool)(b:Bo):(s8 h b).cells.length=5:=rfl
@[simp] theorem Xs(h:Bool)(b:Bo)(r:List SV)(n:Nat):aBA (n+5) ((s8 h b).cells++r)=(s8 h b).cells++aBA n r:=rfl
@[simp] theorem Y0(h:Bool)(b:Bo)(r:List SV)(n:Nat):aBB (n+5) ((s8 h b).cells++r)=aBB n r:=rfl
theorem Vs:dA ⟨false,0⟩=.agg [.val (.bool false),.val (.bool false),.ro [],.val (.bool false),.ro []]:=by simp[dA,aS,bu]
theorem UT:s8 false ⟨false,0⟩=.agg [.val (.bool false),.val (.bool false),.ro [],.val (.bool false),.ro []]:=by simp[s8,qb,bu]
theorem Xq{h:Bool}{q:Rat}:SV.agg (.val (.bool h)::(aS q).cells)=dA ⟨h,q⟩:=rfl
theorem V5{h:Bool}{b:Bo}:SV.agg (.val (.bool h)::(qb b).cells)=s8 h b:=rfl
def ji(t:Term):SV:=.agg ([iv t.iP]++(aS t.num).cells)
@[simp] theorem ZA(t:Term):(ji t).ir=5:=rfl
@[simp] theorem UE(t:Term):(ji t).aW=false:=rfl
@[simp] theorem Ui(t:Term):(ji t).isAgg=true:=rfl
@[simp] theorem W4(t:Term):(ji t).pure=true:=rfl
@[simp] theorem adO(n:Nat)(t:Term):(ji t).lt n=true:=rfl
@[simp] theorem Wn(n:Nat)(t:Term):(ji t).cD n=false:=rfl
@[simp] theorem aaq(t:Term):aM (ji t).cells 0=iv t.iP:=rfl
theorem Js{l:List _}{i:Nat}(h:i<l.length):aM (l.map ji) i=ji (gt l i):=ct _ h
theorem PY{c:Int}{q:Rat}:SV.agg (.val (.int .i64 c)::(aS q).cells)=ji ⟨c,q⟩:=rfl
@[simp] theorem Zj(t:Term):SV.agg (aBA 4 (ji t).cells.tail)=aS t.num:=rfl
def jv(c:xZ):SV:=.agg ([.val (.string c.name),dr c.whole]++(dA c.low).cells++(dA c.high).cells++(aS c.cost).cells)
@[simp] theorem acw(c:xZ):(jv c).ir=16:=rfl
@[simp] theorem WI(c:xZ):(jv c).aW=false:=rfl
@[simp] theorem U9(c:xZ):(jv c).isAgg=true:=rfl
@[simp] theorem Zz(c:xZ):(jv c).pure=true:=rfl
@[simp] theorem agz(n:Nat)(c:xZ):(jv c).lt n=true:=rfl
@[simp] theorem YK(n:Nat)(c:xZ):(jv c).cD n=false:=rfl
@[simp] theorem aiW(c:xZ):aM (jv c).cells 0=.val (.string c.name):=rfl
@[simp] theorem aj2(c:xZ):SV.agg (((jv c).cells.drop 2).take 5)=dA c.low:=rfl
@[simp] theorem ahj(c:xZ):SV.agg (((jv c).cells.drop 7).take 5)=dA c.high:=rfl
@[simp] theorem adA(c:xZ):SV.agg (((jv c).cells.drop 12).take 4)=aS c.cost:=rfl
theorem xx{l:List _}{i:Nat}(h:i<l.length):aM (l.map jv) i=jv (gt l i):=ct _ h
theorem SX{n:ByteArray}{w:Bool}{l h:Bo}{q:Rat}:SV.agg (.val (.string n)::.val (.bool w)::((dA l).cells++((dA h).cells++(aS q).cells)))=jv ⟨n,w,l,h,q⟩:=rfl
def tJ(c:xZ):SV:=.agg ([.val (.string c.name),dr c.whole]++(nZ c.low).cells++(nZ c.high).cells++(aZ c.cost).cells)
@[simp] theorem af2(c:xZ):(tJ c).ir=16:=rfl
@[simp] theorem Wz(c:xZ):(tJ c).aW=false:=rfl
@[simp] theorem Xf(c:xZ):(tJ c).isAgg=true:=rfl
@[simp] theorem ajj(c:xZ):aM (tJ c).cells 0=.val (.string c.name):=rfl
@[simp] theorem aiq(c:xZ):aM (tJ c).cells 1=dr c.whole:=rfl
@[simp] theorem ahw(c:xZ):SV.agg (((tJ c).cells.drop 2).take 5)=nZ c.low:=rfl
@[simp] theorem agr(c:xZ):SV.agg (((tJ c).cells.drop 7).take 5)=nZ c.high:=rfl
@[simp] theorem adt(c:xZ):SV.agg (((tJ c).cells.drop 12).take 4)=aZ c.cost:=rfl
theorem dc{l:List _}{i:Nat}(h:i<l.length):aM (l.map tJ) i=tJ (gt l i):=ct _ h
def je(r:Row):SV:=.agg ([.val (.string r.name),.ro (r.aI.map ji)]++(dA r.low).cells++(dA r.high).cells)
@[simp] theorem agk(r:Row):(je r).ir=12:=rfl
@[simp] theorem Wv(r:Row):(je r).aW=false:=rfl
@[simp] theorem V4(r:Row):(je r).isAgg=true:=rfl
@[simp] theorem Zy(r:Row):(je r).pure=true:=rfl
@[simp] theorem ahQ(n:Nat)(r:Row):(je r).lt n=true:=rfl
@[simp] theorem Yz(n:Nat)(r:Row):(je r).cD n=false:=rfl
@[simp] theorem agL(r:Row):aM (je r).cells 0=.val (.string r.name):=rfl
@[simp] theorem agw(r:Row):aM (je r).cells 1=.ro (r.aI.map ji):=rfl
@[simp] theorem agZ(r:Row):SV.agg (((je r).cells.drop 2).take 5)=dA r.low:=rfl
@[simp] theorem ahx(r:Row):SV.agg (((je r).cells.drop 7).take 5)=dA r.high:=rfl
theorem wX{l:List _}{i:Nat}(h:i<l.length):aM (l.map je) i=je (gt l i):=ct _ h
def nV(r:Row):SV:=.agg ([.val (.string r.name),.ro (r.aI.map λt=>iv t.iP),.ro (r.aI.map λt=>aZ t.num)]++(nZ r.low).cells++(nZ r.high).cells)
@[simp] theorem afG(r:Row):(nV r).ir=13:=rfl
@[simp] theorem Wp(r:Row):(nV r).aW=false:=rfl
@[simp] theorem XA(r:Row):(nV r).isAgg=true:=rfl
@[simp] theorem ZC(r:Row):(nV r).pure=true:=rfl
@[simp] theorem aiO(n:Nat)(r:Row):(nV r).lt n=true:=rfl
@[simp] theorem ahK(r:Row):aM (nV r).cells 0=.val (.string r.name):=rfl
@[simp] theorem agM(r:Row):aM (nV r).cells 1=.ro (r.aI.map λt=>iv t.iP):=rfl
@[simp] theorem ahU(r:Row):aM (nV r).cells 2=.ro (r.aI.map λt=>aZ t.num):=rfl
@[simp] theorem ai6(r:Row):SV.agg (((nV r).cells.drop 3).take 5)=nZ r.low:=rfl
@[simp] theorem ajZ(r:Row):SV.agg (((nV r).cells.drop 8).take 5)=nZ r.high:=rfl
theorem di{l:List _}{i:Nat}(h:i<l.length):aM (l.map nV) i=nV (gt l i):=ct _ h
def bS(p:aB):SV:=.agg ([dr p.max]++(aS p.shift).cells++[.ro (p.ai.map jv),.ro (p.rows.map je)])
@[simp] theorem Z5(p:aB):(bS p).ir=7:=rfl
@[simp] theorem T3(p:aB):(bS p).aW=false:=rfl
@[simp] theorem T9(p:aB):(bS p).isAgg=true:=rfl
@[simp] theorem aag(p:aB):aM (bS p).cells 0=dr p.max:=rfl
@[simp] theorem agd(p:aB):aM (bS p).cells 5=.ro (p.ai.map jv):=rfl
@[simp] theorem af1(p:aB):aM (bS p).cells 6=.ro (p.rows.map je):=rfl
def bX(p:aB):SV:=.agg ([dr p.max]++(aZ p.shift).cells++[.ro (p.ai.map tJ),.ro (p.rows.map nV)])
@[simp] theorem ZF(p:aB):(bX p).ir=7:=rfl
@[simp] theorem UJ(p:aB):(bX p).aW=false:=rfl
@[simp] theorem Uc(p:aB):(bX p).isAgg=true:=rfl
@[simp] theorem VQ(p:aB):(bX p).pure=true:=rfl
@[simp] theorem aee(n:Nat)(p:aB):(bX p).lt n=true:=rfl
@[simp] theorem VY(n:Nat)(p:aB):(bX p).cD n=false:=rfl
@[simp] theorem afE(p:aB):(bX p).ks=[]:=rfl
@[simp] theorem afR(p:aB):aM (bX p).cells 0=dr p.max:=rfl
@[simp] theorem acS(p:aB):aM (bX p).cells 5=.ro (p.ai.map tJ):=rfl
@[simp] theorem abG(p:aB):aM (bX p).cells 6=.ro (p.rows.map nV):=rfl
def rI(c:mL):SV:=.agg ([fN c.name,dr c.whole,fN c.low,fN c.high,fN c.cost])
@[simp] theorem aem(c:mL):(rI c).ir=5:=rfl
@[simp] theorem Vy(c:mL):(rI c).aW=false:=rfl
@[simp] theorem WN(c:mL):(rI c).isAgg=true:=rfl
@[simp] theorem Yd(n:Nat)(c:mL):(rI c).cD n=false:=rfl
@[simp] theorem akn(c:mL):aM (rI c).cells 0=fN c.name:=rfl
@[simp] theorem akj(c:mL):aM (rI c).cells 1=dr c.whole:=rfl
@[simp] theorem ah8(c:mL):aM (rI c).cells 2=fN c.low:=rfl
@[simp] theorem ahk(c:mL):aM (rI c).cells 3=fN c.high:=rfl
@[simp] theorem ahs(c:mL):aM (rI c).cells 4=fN c.cost:=rfl
theorem xF{l:List _}{i:Nat}(h:i<l.length):aM (l.map rI) i=rI (gt l i):=ct _ h
def lq(r:jF):SV:=.agg ([fN r.name,fN r.low,fN r.high,.ro (r.ai.map iv),.ro (r.jD.map fN)])
@[simp] theorem aeM(r:jF):(lq r).ir=5:=rfl
@[simp] theorem V3(r:jF):(lq r).aW=false:=rfl
@[simp] theorem Ww(r:jF):(lq r).isAgg=true:=rfl
@[simp] theorem Y7(r:jF):(lq r).pure=true:=rfl
@[simp] theorem agN(n:Nat)(r:jF):(lq r).lt n=true:=rfl
@[simp] theorem ZM(n:Nat)(r:jF):(lq r).cD n=false:=rfl
@[simp] theorem ah5(r:jF):aM (lq r).cells 0=fN r.name:=rfl
@[simp] theorem ago(r:jF):aM (lq r).cells 1=fN r.low:=rfl
@[simp] theorem agT(r:jF):aM (lq r).cells 2=fN r.high:=rfl
@[simp] theorem aha(r:jF):aM (lq r).cells 3=.ro (r.ai.map iv):=rfl
@[simp] theorem ahm(r:jF):aM (lq r).cells 4=.ro (r.jD.map fN):=rfl
theorem wV{l:List _}{i:Nat}(h:i<l.length):aM (l.map lq) i=lq (gt l i):=ct _ h
def fJ(s:dS):SV:=.agg ([dr s.max,fN s.shift,.ro (s.ai.map rI),.ro (s.rows.map lq)])
@[simp] theorem ZB(s:dS):(fJ s).ir=4:=rfl
@[simp] theorem TU(s:dS):(fJ s).aW=false:=rfl
@[simp] theorem TD(s:dS):(fJ s).isAgg=true:=rfl
@[simp] theorem Xp(s:dS):(fJ s).pure=true:=rfl
@[simp] theorem ab9(n:Nat)(s:dS):(fJ s).lt n=true:=rfl
@[simp] theorem Wk(n:Nat)(s:dS):(fJ s).cD n=false:=rfl
@[simp] theorem adD(s:dS):aM (fJ s).cells 0=dr s.max:=rfl
@[simp] theorem aeH(s:dS):aM (fJ s).cells 1=fN s.shift:=rfl
@[simp] theorem afL(s:dS):aM (fJ s).cells 2=.ro (s.ai.map rI):=rfl
@[simp] theorem acP(s:dS):aM (fJ s).cells 3=.ro (s.rows.map lq):=rfl
@[simp] theorem ajz(q:Rat)(r:List SV)(n:Nat):aM ((aS q).cells++r) (n+4)=aM r n:=rfl
@[simp] theorem aiL(q:Rat)(r:List SV)(n:Nat)(x:SV):da ((aS q).cells++r) (n+4) x=(aS q).cells++da r n x:=rfl
@[simp] theorem aa8(q:Bo)(r:List SV)(n:Nat):aM ((qb q).cells++r) (n+4)=aM r n:=rfl
@[simp] theorem ab6(q:Bo)(r:List SV)(n:Nat)(x:SV):da ((qb q).cells++r) (n+4) x=(qb q).cells++da r n x:=rfl
theorem AH{α:Type}(k i:Nat)(f:α->SV)(l:List α):SV.aY k ((l.map f).take i)=(l.take i).any λx=>(f x).cD k:=by rw[<-aAP,gU]
theorem zM{α:Type}(i:Nat)(f:α->SV)(l:List α):SV.bF ((l.map f).take i)=(l.take i).all λx=>(f x).pure:=by rw[<-aAP,wY]
theorem Io{α:Type}(k i:Nat)(f:α->SV)(l:List α):SV.j3 k ((l.map f).take i)=(l.take i).all λx=>(f x).lt k:=by rw[<-aAP,kA]
attribute [simp] gU AH zM Io
@[simp] theorem akw(q:Rat)(k:Nat):(aS q).cells.map (λy=>if SV.cD k y=true then SV.any else y)=(aS q).cells:=rfl
@[simp] theorem ahq(q:Bo)(k:Nat):(qb q).cells.map (λy=>if SV.cD k y=true then SV.any else y)=(qb q).cells:=rfl
@[simp] theorem adx(b:Bo)(k:Nat):(dA b).cells.map (λy=>if SV.cD k y=true then SV.any else y)=(dA b).cells:=rfl
@[simp] theorem adh(h:Bool)(b:Bo)(k:Nat):(s8 h b).cells.map (λy=>if SV.cD k y=true then SV.any else y)=(s8 h b).cells:=rfl
theorem oY{α:Type}[Inhabited α](f:α->SV){l:List α}{i:Nat}(h:i<l.length):(l.map f).take (i+1)=(l.map f).take i++[f (gt l i)]:=by rw[<-aAP,hO h];simp
/-! out of texts -/
def eZ(s:ByteArray):Bool:=decide ((gm 300 s).2.1=0)
def mb(s:ByteArray):Bo:=if eZ s=true then⟨true,num s⟩ else⟨false,0⟩
def ko(s:ByteArray):Bool:=decide (s=⟨#[]⟩)
def ix(s:ByteArray):Bool:=ko s||eZ s
def nY(s:ByteArray):Bo:=if ko s=true then⟨false,0⟩ else⟨true,num s⟩
def F9(s:ByteArray):Bo:=if ko s=true then⟨false,0⟩ else mb s
def sZ(c:mL):Bool:=ix c.low&&ix c.high&&eZ c.cost
def rn(c:mL):xZ:=⟨c.name,c.whole,nY c.low,nY c.high,num c.cost⟩
def gY(r:jF):List (Int × ByteArray):=r.ai.zip r.jD
def Q9(r:jF):Bool:=ix r.low&&ix r.high&&(gY r).all λz=>eZ z.2
def uk(z:Int × ByteArray):Term:=⟨z.1,num z.2⟩
def rowOf(r:jF):Row:=⟨r.name,(gY r).map uk,nY r.low,nY r.high⟩
def QK(s:dS):Bool:=eZ s.shift&&s.ai.all sZ&&s.rows.all Q9
def ee(s:dS):aB:=⟨s.max,num s.shift,s.ai.map rn,s.rows.map rowOf⟩
theorem Rh{r:jF}:je (rowOf r)=.agg (.val (.string r.name)::.ro ((gY r).map λz=>ji (uk z))::((dA (nY r.low)).cells++(dA (nY r.high)).cells)):=by unfold je rowOf;rw[aBC];rfl
theorem PN{s:dS}:bS (ee s)=.agg (.val (.bool s.max)::((aS (num s.shift)).cells++[.ro (s.ai.map λc=>jv (rn c)),.ro (s.rows.map λr=>je (rowOf r))])):=by unfold bS ee;rw[aBC,aBC];rfl
def yI(c:mL):SV:=.agg ([.val (.string c.name),dr c.whole]++(s8 (!ko c.low) (F9 c.low)).cells++(s8 (!ko c.high) (F9 c.high)).cells++(qb (mb c.cost)).cells)
@[simp] theorem ZN(c:mL):(yI c).pure=true:=rfl
@[simp] theorem agK(n:Nat)(c:mL):(yI c).lt n=true:=rfl
@[simp] theorem X9(n:Nat)(c:mL):(yI c).cD n=false:=rfl
theorem Rl{n:ByteArray}{w:Bool}{l h q:ByteArray}:SV.agg (.val (.string n)::.val (.bool w)::((s8 (!ko l) (F9 l)).cells++((s8 (!ko h) (F9 h)).cells++(qb (mb q)).cells)))=yI ⟨n,w,l,h,q⟩:=rfl
def AG(r:jF):SV:=.agg ([.val (.string r.name),.ro ((gY r).map λz=>iv z.1),.ro ((gY r).map λz=>qb (mb z.2))]++(s8 (!ko r.low) (F9 r.low)).cells++(s8 (!ko r.high) (F9 r.high)).cells)
@[simp] theorem Zh(r:jF):(AG r).pure=true:=rfl
@[simp] theorem ajx(n:Nat)(r:jF):(AG r).lt n=true:=rfl
@[simp] theorem YF(n:Nat)(r:jF):(AG r).cD n=false:=rfl
def tq(s:dS):SV:=.agg ([dr s.max]++(qb (mb s.shift)).cells++[.ro (s.ai.map yI),.ro (s.rows.map AG)])
@[simp] theorem Zt(s:dS):(tq s).ir=7:=rfl
@[simp] theorem Ux(s:dS):(tq s).aW=false:=rfl
@[simp] theorem Um(s:dS):(tq s).isAgg=true:=rfl
@[simp] theorem Vf(s:dS):(tq s).pure=true:=rfl
theorem NX{s:dS}:tq s=.agg (.val (.bool s.max)::((qb (mb s.shift)).cells++[.ro (s.ai.map yI),.ro (s.rows.map AG)])):=rfl
theorem S7{r:jF}:AG r=.agg (.val (.string r.name)::.ro ((gY r).map λz=>.val (.int .i64 z.1))::.ro ((gY r).map λz=>qb (mb z.2))::((s8 (!ko r.low) (F9 r.low)).cells++(s8 (!ko r.high) (F9 r.high)).cells)):=rfl
theorem DT{s:ByteArray}(h:eZ s=true):qb (mb s)=aZ (num s):=by unfold mb;rw[if_pos h];rfl
theorem DN{s:ByteArray}(h:ix s=true):s8 (!ko s) (F9 s)=nZ (nY s):=by
 unfold F9 nY;by_cases h0:ko s=true
 ·rw[if_pos h0,if_pos h0,h0];rfl
 ·rw[if_neg h0,if_neg h0];have h1:eZ s=true:=by
   unfold ix at h;have ab:ko s=false:=by simpa using h0
   rw[ab]at h;simpa using h
  have ab:ko s=false:=by simpa using h0
  rw[ab];unfold mb;rw[if_pos h1];rfl
theorem Ro{c:mL}(h:sZ c=true):yI c=tJ (rn c):=by unfold sZ at h;simp only[ayt]at h;unfold yI tJ rn;rw[DN h.1.1,DN h.1.2,DT h.2]
theorem RJ{r:jF}(h:Q9 r=true):AG r=nV (rowOf r):=by
 unfold Q9 at h;simp only[ayt]at h;unfold AG nV rowOf;rw[DN h.1.1,DN h.1.2];have e1:(gY r).map (λz=>iv z.1)=((gY r).map uk).map λt=>iv t.iP:=by rw[aBC];rfl
 have e2:(gY r).map (λz=>qb (mb z.2))=((gY r).map uk).map λt=>aZ t.num:=by rw[aBC];refine aBD λz hz=>?_;have:=ayG.1 h.2 z hz;rw[DT this];rfl
 rw[e1,e2]
theorem Fa{s:dS}(h:QK s=true):tq s=bX (ee s):=by
 unfold QK at h;simp only[ayt]at h;unfold tq bX ee;have e1:s.ai.map yI=(s.ai.map rn).map tJ:=by rw[aBC];exact aBD λc hc=>Ro (ayG.1 h.1.2 c hc)
 have e2:s.rows.map AG=(s.rows.map rowOf).map nV:=by rw[aBC];exact aBD λc hc=>RJ (ayG.1 h.2 c hc)
 rw[e1,e2,DT h.1.1]
structure SmC(c:mL):Prop where
 name:c.name.size<=1048576
 low:c.low.size<=1048576
 high:c.high.size<=1048576
 cost:c.cost.size<=1048576
structure SmR(r:jF):Prop where
 name:r.name.size<=1048576
 low:r.low.size<=1048576
 high:r.high.size<=1048576
 ai:r.ai.length<=1048576
 jD:Zw r.jD
structure QN(s:dS):Prop where
 shift:s.shift.size<=1048576
 nc:s.ai.length<=1048576
 nr:s.rows.length<=1048576
 ai:∀i,i<s.ai.length->SmC (gt s.ai i)
 rows:∀i,i<s.rows.length->SmR (gt s.rows i)
/-! taking one more -/
theorem map_take{α:Type}[Inhabited α](f:α->SV){l:List α}{i:Nat}(h:i<l.length):(l.take (i+1)).map f=(l.take i).map f++[f (gt l i)]:=by rw[hO h];simp
theorem mg{α:Type}[Inhabited α](f:α->Bool){l:List α}{i:Nat}(h:i<l.length):(l.take (i+1)).all f=((l.take i).all f&&f (gt l i)):=by rw[hO h];simp
theorem rC(r:jF):(gY r).length=min r.ai.length r.jD.length:=by simp[gY]
theorem DL{r:jF}{i:Nat}(h:i<(gY r).length):gt (gY r) i=(gt r.ai i,gt r.jD i):=by
 rw[rC]at h;have h1:i<r.ai.length:=by omega
 have h2:i<r.jD.length:=by omega
 rw[<-dY (by rw[rC];exact h),<-dY h1,<-dY h2];simp[gY]
end Go.Li
namespace Go.Proofs
open Go.Sv Go Go.Tb Go.Pl Go.Ut Go.Li
def E0(s:ByteArray):SV:=.agg [.val (.int .i64 ((gm 300 s).2.1:Nat)),.val (.int .i64 (if eZ s=true then -1 else((gm 300 s).2.2:Nat)))]
@[simp] theorem abS(s:ByteArray):(E0 s).pure=true:=rfl
@[simp] theorem aaL(s:ByteArray)(k:Nat):(E0 s).cD k=false:=rfl
@[simp] theorem amt(s:ByteArray)(k:Nat):(E0 s).lt k=true:=rfl
theorem QD(s:ByteArray)(h:s.size<=1048576):aE ay9 66 [.val (.string s)] (.bM [qb (mb s),E0 s]):=by
 by_cases hq:(gm 300 s).2.1=0
 ·have:=RM s (by omega) hq;have hk:eZ s=true:=decide_eq_true hq
  rwa [show(SV.bM [aZ (num s),fZ 0 (-1)])=.bM [qb (mb s),E0 s] by rw[DT hk];simp[E0,hk,hq,fZ]]at this
 ·have:=CK s (by omega);have hk:eZ s=false:=decide_eq_false hq
  rwa [show j0 (gm 300 s)=.bM [qb (mb s),E0 s] by simp[j0,hq,mb,hk,SM,E0,fZ]]at this
theorem o5(s:ByteArray)(h:s.size<=1048576):aE ay9 167 [.val (.string s),.val (.bool false)] (.bM [qb (mb s),E0 s]):=by refine aj Tryz.func167 rfl (by simp) (λC hC=>?_);simp;refine awI (QD s h) ?_;simp[E0]
theorem r8(s:ByteArray)(h:s.size<=1048576):aE ay9 168 [.val (.string s),.val (.bool false)] (.bM [s8 (!ko s) (F9 s),.val (.bool (ix s))]):=by
 refine aj Tryz.func168 rfl (by simp) (λC hC=>?_);simp;by_cases h0:ko s=true
 ·have e:s=⟨#[]⟩:=of_decide_eq_true h0;simp[ix,F9,e,ko,UT]
 ·have ab:ko s=false:=by simpa using h0
  have e:¬s=⟨#[]⟩:=of_decide_eq_false ab;simp[e];refine awI (o5 s h) ?_;simp[E0];refine aa.awH (.qs [0,1,2]<|.q 3 [0]<|.qs [4]<|.l 5 [0]<|.qs [6]<|.nil) ?_;simp[ix,F9,ab,V5,eZ]
end Go.Proofs


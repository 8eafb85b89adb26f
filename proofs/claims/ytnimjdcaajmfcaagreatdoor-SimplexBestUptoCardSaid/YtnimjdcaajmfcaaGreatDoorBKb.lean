/- A text of the prover's own. -/
import Derived.Test.YtnimjdcaajmfcaaGreatDoorBQo
import Derived.Test.YtnimjdcaajmfcaaGreatDoorBSa
import Derived.Test.YtnimjdcaajmfcaaGreatDoorBEs
open List renaming getD_eq_getElem?_getD->avb,getElem?_eq_getElem->asB,all_eq_true->atu,map_take->auD,take_of_length_le->aud,take->avk,drop->avl,replicate->asr,map_map->avm,map_congr_left->avn
open Go.Proofs.Tryz renaming prog->awW
open Bool renaming and_eq_true->atl
set_option maxRecDepth 10000
namespace Go.Tb
open Go Go.Sv Go.Pl Go.Proofs
def eF(s:ByteArray):SV:=.val (.string s)
@[simp] theorem ZY(s:ByteArray):eF s=.val (.string s):=rfl
def tsv(l:List ByteArray):SV:=.ro (l.map eF)
@[simp] theorem aem(l:List ByteArray):tsv l=.ro (l.map eF):=rfl
def qlv(l:List Rat):SV:=.ro (l.map cI)
@[simp] theorem ag5(l:List Rat):qlv l=.ro (l.map cI):=rfl
def rlv(l:List Rat):SV:=.ro (l.map aU)
@[simp] theorem aeq(l:List Rat):rlv l=.ro (l.map aU):=rfl
def gt{α:Type}[Inhabited α](l:List α)(i:Nat):α:=l.getD i default
theorem cy{α:Type}[Inhabited α](f:α->SV){l:List α}{i:Nat}(h:i<l.length):aL (l.map f) i=f (gt l i):=by rw[Hz (by simpa using h)];simp[gt,h]
theorem mQ{l:List ByteArray}{i:Nat}(h:i<l.length):aL (l.map eF) i=eF (gt l i):=cy _ h
theorem iR{l:List Rat}{i:Nat}(h:i<l.length):aL (l.map cI) i=cI (gt l i):=cy _ h
theorem bS{l:List Rat}{i:Nat}(h:i<l.length):aL (l.map aU) i=aU (gt l i):=cy _ h
theorem gZ{α:Type}[Inhabited α]{l:List α}{i:Nat}(h:i<l.length):gt l i∈l:=by simp only[gt,avb,asB h,Option.getD_some];exact List.getElem_mem h
theorem fO{α:Type}[Inhabited α]{l:List α}{i:Nat}(h:i<l.length):l.take (i+1)=l.take i++[gt l i]:=by rw[List.take_succ_eq_append_getElem h];simp[gt,h]
@[simp] theorem apv(l:List Rat):BH 4 (l.map cI)=True:=by cases l<;>simp[BH]
@[simp] theorem aoe(l:List Rat):BH 4 (l.map aU)=True:=by cases l<;>simp[BH]
@[simp] theorem ac0(l:List (List Rat)):BH 1 (l.map qlv)=True:=by cases l<;>simp[BH]
def num(s:ByteArray):Rat:=(fy 300 s).1
def Po(l:List ByteArray):Bool:=l.all λs=>decide ((fy 300 s).2.1=0)
theorem Jq{l:List ByteArray}{i:Nat}(h:i<l.length)(h':¬(fy 300 (gt l i)).2.1=0):Po l=false:=by
 cases hh:Po l with
 | false=>rfl
 | true=>exact absurd (of_decide_eq_true (atu.1 hh _ (gZ h))) h'
theorem Kt{l:List ByteArray}(h:∀i,i<l.length->(fy 300 (gt l i)).2.1=0):Po l=true:=by refine atu.2 λs hs=>decide_eq_true ?_;obtain⟨i,hi,rfl⟩:=List.getElem_of_mem hs;have:=h i hi;simpa[gt,hi]using this
def fi(l:List ByteArray):List Rat:=l.map num
def Xi(t:List (List ByteArray)):List (List Rat):=t.map fi
@[simp] theorem Lv(l:List ByteArray):(fi l).length=l.length:=by simp[fi]
@[simp] theorem acq(l:List (List ByteArray)):(Xi l).length=l.length:=by simp[Xi]
theorem JX{l:List ByteArray}{i:Nat}(h:i<l.length):(fi l).take (i+1)=(fi l).take i++[num (gt l i)]:=by unfold fi;rw[<-auD,<-auD,fO h];simp
def Ex(l:List ByteArray):SV:=if Po l then .bP [.ro ((fi l).map cI),.val (.bool true)] else .bP [.ro [],.val (.bool false)]
structure QH(l:List ByteArray):Prop where
 n:l.length<=1048576
 s:∀s∈l,s.size<=1048576
structure SmT(t:List (List ByteArray)):Prop where
 n:t.length<=1048576
 s:∀l∈t,QH l
theorem Qf{q:Nat->Prop}{i:Nat}(h:∀k,k<i->q k)(h':q i):∀k,k<i+1->q k:=λk hk=>by
 rcases Nat.lt_or_ge k i with g | g
 ·exact h k g
 ·obtain rfl:k=i:=by omega
  exact h'
end Go.Tb
namespace Go.Proofs
open Go.Sv Go Go.Tb Go.Pl
theorem HE(s:ByteArray)(hs:s.size<=4611686018427387904)(hq:(fy 300 s).2.1=0):aG awW 66 [.val (.string s)] (.bP [cI (num s),fC 0 (-1)]):=by
 have:=uv s hs
 rwa [show iW (fy 300 s)=.bP [cI (num s),fC 0 (-1)] by simp[iW,hq,num]]at this
theorem Ei(l:List ByteArray)(h:QH l):aG awW 20 [.ro (l.map eF)] (Ex l):=by
 have hl:=h.n;refine aj Tryz.func20 rfl (by simp) (λC hC=>?_);simp;refine aa.nil 4 4 rfl ?_;refine aa.bM (ι:=Nat × List Rat) (λ⟨i,xs⟩=>⟨30,[(0,.ro (l.map eF)),(4,.view 0 0 xs.length),(5,.val (.int .i64 i))],[some ⟨4,xs.map cI,false⟩]⟩)
  (λ⟨i,xs⟩=>i<=l.length∧xs=(fi l).take i∧∀k,k<i->(fy 300 (gt l k)).2.1=0) (λ⟨i,xs⟩=>l.length - i) (0,[]) ?_ ?_ ?_
 ·simp
 ·simp[aR,hC]
 ·rintro⟨i,xs⟩ ⟨hi,hx,hk⟩;have af:xs.length=i:=by rw[hx];simp;omega
  by_cases aP:i<l.length
  ·have ad:=JX aP;rw[<-hx]at ad;have uh:=h.s _ (gZ aP);simp(disch:=omega)[aP,mQ];by_cases hq:(fy 300 (gt l i)).2.1=0
   ·refine ae (HE (gt l i) (by omega) hq) (by simp) ?_;simp(disch:=omega)[fC,aK];exact⟨⟨by simp[hC],by omega⟩,i+1,xs++[num (gt l i)],⟨by omega,ad.symm,Qf hk hq⟩,by omega,Le.fm (by simp[aR,hC])⟩
   ·have:=Jq aP hq;refine asl (uv (gt l i) (by omega)) ?_;simp[iW,hq,fC,Ex,this]
  ·obtain rfl:i=l.length:=by omega
   have:=Kt hk;rw[aud (by simp)]at hx;simp[Ex,this,hx,aud]
end Go.Proofs
namespace Go.Proofs
open Go.Sv Go Go.Tb Go.Pl
theorem F5(s:ByteArray)(hs:s.size<=4611686018427387904):aG awW 67 [.val (.string s)] (.bP [aU (num s),.val (.bool (decide ((fy 300 s).2.1=0)))]):=by
 refine aj Tryz.func67 rfl (by simp) (λC hC=>?_);simp;refine asl (Na s hs) ?_;simp[z3];refine aa.asj (.qs [0,1,2]<|.l 3 [0]<|.qs [4]<|.nil) ?_;rw[show(fy 300 s).1=num s from rfl];by_cases hq:(fy 300 s).2.1=0
 ·simp[hq,lg]
 ·simp[hq,lg]
end Go.Proofs
namespace Go.Tb
open Go Go.Sv Go.Pl Go.Proofs
def wide{α:Type}(a:List (List α)):Nat:=(gt a 0).length
end Go.Tb
namespace Go.Proofs
open Go.Sv Go Go.Tb Go.Pl
end Go.Proofs
namespace Go.Tb
open Go Go.Sv Go.Pl Go.Proofs
def pc(l:List Rat):List ByteArray:=l.map m8
def alp(a:List (List Rat)):List (List ByteArray):=a.map pc
@[simp] theorem Xo(l:List Rat):(pc l).length=l.length:=by simp[pc]
theorem Jn{l:List Rat}{i:Nat}(h:i<l.length):(pc l).take (i+1)=(pc l).take i++[m8 (gt l i)]:=by unfold pc;rw[<-auD,<-auD,fO h];simp
structure UO(l:List Rat):Prop where
 n:l.length<=1048576
 q:∀q∈l,kc q
structure OKa(a:List (List Rat)):Prop where
 n:a.length<=1048576
 r:∀r∈a,UO r
end Go.Tb
namespace Go.Proofs
open Go.Sv Go Go.Tb Go.Pl
theorem uQ(l:List Rat)(h:UO l):aG awW 61 [.ro (l.map aU)] (.ro ((pc l).map eF)):=by
 have hl:=h.n;refine aj Tryz.func61 rfl (by simp) (λC hC=>?_);simp;refine aa.nil 3 1 rfl ?_;refine aa.bM (ι:=Nat × List ByteArray) (λ⟨i,xs⟩=>⟨19,[(3,.view 0 0 xs.length),(6,.ro (l.map aU)),(7,.val (.int .i64 l.length)),(8,.val (.int .i64 i))],[some ⟨1,xs.map eF,false⟩]⟩)
  (λ⟨i,xs⟩=>i<=l.length∧xs=(pc l).take i) (λ⟨i,xs⟩=>l.length - i) (0,[]) ?_ ?_ ?_
 ·simp
 ·simp[aR,hC]
 ·rintro⟨i,xs⟩ ⟨hi,hx⟩;have af:xs.length=i:=by rw[hx];simp;omega
  by_cases aP:i<l.length
  ·have ad:=Jn aP;rw[<-hx]at ad;have hq:=h.q _ (gZ aP);simp(disch:=omega)[aP,bS];refine asl (sF (gt l i) hq) ?_;simp(disch:=omega)[aK];exact⟨⟨by simp[hC],by omega⟩,i+1,xs++[m8 (gt l i)],⟨by omega,ad.symm⟩,by omega,Le.fm (by simp[aR,hC])⟩
  ·obtain rfl:i=l.length:=by omega
   rw[aud (by simp)]at hx;simp[hx,aud]
end Go.Proofs
namespace Go.Tb
open Go Go.Sv Go.Pl Go.Proofs
structure As(t:List (List ByteArray)):Prop where
 n:t.length<=6
 r:∀i,i<t.length->(gt t i).length<=6∧∀k,k<(gt t i).length->(gt (gt t i) k).size<=30
end Go.Tb
namespace Go.Proofs
open Go.Sv Go Go.Tb Go.Pl
end Go.Proofs
namespace Go.Sv
open Go
end Go.Sv
namespace Go.Ut
open Go Go.Sv Go.Pl Go.Proofs Go.Tb
@[simp] theorem abB{M:aD}{x:SV}(h:x.pure=true):Sv.Sub M x x=True:=eq_true (j8 M x h)
/-! numbers of the program and of the document -/
@[simp] theorem ai3(q:Rat):(aU q).cells.length=4:=rfl
@[simp] theorem aim(q:Rat):(cI q).cells.length=4:=rfl
@[simp] theorem aaD(q:Rat)(r:List SV)(n:Nat):avk (n+4) ((aU q).cells++r)=(aU q).cells++avk n r:=rfl
@[simp] theorem afh(q:Rat)(r:List SV)(n:Nat):avl (n+4) ((aU q).cells++r)=avl n r:=rfl
@[simp] theorem aeL(q:Rat):SV.bJ (aU q).cells=true:=rfl
@[simp] theorem aeT(q:Rat)(k:Nat):SV.aZ k (aU q).cells=false:=rfl
@[simp] theorem akN(q:Rat)(k:Nat):SV.kZ k (aU q).cells=true:=rfl
theorem tI:SV.agg [.val (.bool false),.ro [],.val (.bool false),.ro []]=aU 0:=by simp[aU,bj]
theorem dY{α:Type}[Inhabited α]{l:List α}{i:Nat}(h:i<l.length):l[i]=gt l i:=by unfold gt;rw[avb,asB h];rfl
theorem Ho{α:Type}[Inhabited α]{l:List α}{i:Nat}(h:i<l.length):l.drop i=gt l i::l.drop (i+1):=by rw[List.drop_eq_getElem_cons h,dY h]
theorem jj{α β:Type}[Inhabited α][Inhabited β](f:α->β){l:List α}{i:Nat}(h:i<l.length):gt (l.map f) i=f (gt l i):=by simp[gt,h]
theorem bG{α:Type}[Inhabited α]{l:List α}{i j:Nat}{x:α}(h:j<l.length):gt (l.set i x) j=if i=j then x else gt l j:=by
 have h':j<(l.set i x).length:=by simpa using h
 rw[<-dY h',List.getElem_set];split
 ·rfl
 ·exact dY h
theorem cO{α:Type}[Inhabited α]{a b:List α}(hl:a.length=b.length)(h:∀i,i<a.length->gt a i=gt b i):a=b:=by refine List.ext_getElem hl λi h1 h2=>?_;rw[dY h1,dY h2];exact h i h1
theorem PE{l:List ByteArray}{i:Nat}(h:i<l.length):gt (fi l) i=num (gt l i):=by simp[gt,fi,h]
def Ox(l:List ByteArray):List SV:=if Po l then(fi l).map cI else[]
theorem PR(l:List ByteArray):Ex l=.bP [.ro (Ox l),.val (.bool (Po l))]:=by unfold Ex Ox;cases Po l<;>simp
/-! whole numbers, truths -/
def iv(n:Int):SV:=.val (.int .i64 n)
@[simp] theorem aj3(n:Int):iv n=.val (.int .i64 n):=rfl
def ilv(l:List Int):SV:=.ro (l.map iv)
@[simp] theorem agk(l:List Int):ilv l=.ro (l.map iv):=rfl
def cX(b:Bool):SV:=.val (.bool b)
@[simp] theorem adD(b:Bool):cX b=.val (.bool b):=rfl
theorem cf{l:List Int}{i:Nat}(h:i<l.length):aL (l.map iv) i=iv (gt l i):=cy _ h
/-! lists filled from the front -/
theorem sW{n:Nat}{x:SV}:lW (asr n x)=asr n (iq x):=by
 induction n with
 | zero=>rfl
 | succ n ih=>simp[List.replicate_succ,ih]
/-! how numbers compare -/
def C8(x y:Rat):Int:=if x<y then -1 else if y<x then 1 else 0
theorem rU(x y:Rat):(x<y∧C8 x y = -1)∨(y<x∧C8 x y=1)∨(x=y∧C8 x y=0):=by
 unfold C8;by_cases h1:x<y
 ·exact .inl ⟨h1,by rw[if_pos h1]⟩
 ·by_cases h2:y<x
  ·exact .inr (.inl ⟨h2,by rw[if_neg h1,if_pos h2]⟩)
  ·exact .inr (.inr ⟨Rat.le_antisymm (Rat.not_lt.1 h2) (Rat.not_lt.1 h1),by rw[if_neg h1,if_neg h2]⟩)
@[simp] theorem aai{x y:Rat}:C8 x y<0↔x<y:=by rcases rU x y with⟨h,e⟩ | ⟨h,e⟩ | ⟨h,e⟩<;>rw[e]<;>constructor<;>grind
@[simp] theorem Zs{x y:Rat}:0<C8 x y↔y<x:=by rcases rU x y with⟨h,e⟩ | ⟨h,e⟩ | ⟨h,e⟩<;>rw[e]<;>constructor<;>grind
@[simp] theorem Zr{x y:Rat}:C8 x y=0↔x=y:=by rcases rU x y with⟨h,e⟩ | ⟨h,e⟩ | ⟨h,e⟩<;>rw[e]<;>constructor<;>grind
def Q5(q:Rat):Int:=q.num.sign
theorem HZ{q:Rat}:q.num<0↔q<0:=by rw[<-Int.not_le,<-Rat.not_le,Rat.num_nonneg]
theorem PI{q:Rat}:0<q.num↔0<q:=by
 have h0:q.num=0↔q=0:=Rat.num_eq_zero;have h1:=Rat.num_nonneg (q:=q);constructor
 ·intro h;have:=h1.1 (by omega);rcases Rat.le_iff_lt_or_eq.1 this with h' | h'
  ·exact h'
  ·have:=h0.2 h'.symm;omega
 ·intro h;have:=h1.2 (Rat.le_of_lt h);have h2:q.num≠0:=λe=>by rw[h0]at e;rw[e]at h;exact Rat.lt_irrefl h
  omega
@[simp] theorem afK{q:Rat}:Q5 q<0↔q<0:=by unfold Q5;rw[Int.sign_neg_iff,HZ]
@[simp] theorem aeO{q:Rat}:0<Q5 q↔0<q:=by unfold Q5;rw[Int.sign_pos_iff,PI]
@[simp] theorem agO{q:Rat}:Q5 q=0↔q=0:=by unfold Q5;rw[Int.sign_eq_zero_iff_zero,Rat.num_eq_zero]
def Wd(k:Nat)(w:List Rat):Prop:=∀i,i<w.length->qw k (gt w i)
theorem cL(k:Nat)(h:1<=k):qw k 0:=by have:=mE (k:=k) (x:=0) (jK k) h;simpa using this
theorem fg{n:Int}(h : -4294967296<n)(h':n<4294967296):qw 1 (n:Rat):=mE (iS (by omega) (by omega)) (by omega)
theorem Of(l:List ByteArray):Wd 2200 (fi l):=λi hi=>by simp only[Lv]at hi;rw[PE hi];exact xE _
/-! errors by number -/
def O7(c:Nat):SV:=if c=0 then .val .nilIface else .iJ mC (gs (c - 1))
theorem Nh:O7 0=.val .nilIface:=rfl
theorem Rm:O7 2=.iJ mC 4:=rfl
theorem X4:O7 4=.iJ mC 0:=rfl
theorem Zu:O7 7=.iJ mC 7:=rfl
@[simp] theorem acg(c:Nat):(O7 c).pure=true:=by unfold O7;split<;>rfl
end Go.Ut
namespace Go.Proofs
open Go.Sv Go Go.Tb Go.Pl Go.Ut
theorem Fm(x y:Rat)(hx:kc x)(hy:kc y):aG awW 83 [cI x,cI y] (.val (.int .i64 (C8 x y))):=PF x y hx hy
theorem aiw(q:Rat):aG awW 40 [aU q] (.val (.int .i64 (Q5 q))):=gM q
theorem JY(q:Rat):aG awW 14 [cI q] (.val (.int .i64 (Q5 q))):=Np q
theorem s7:aG awW 46 [.val (.int .i64 0)] (cI 0):=OC 0 (by omega) (by omega)
end Go.Proofs
namespace Go.Li
open Go Go.Sv Go.Pl Go.Proofs Go.Tb Go.Ut
@[simp] theorem afb{M:aD}{x:SV}(h:isP x):Sv.Sub M x x=True:=eq_true (j8 M x h)
structure Bo where
 has:Bool
 at':Rat
instance:Inhabited Bo:=⟨⟨false,0⟩⟩
structure y5 where
 name:ByteArray
 whole:Bool
 low:Bo
 high:Bo
 cost:Rat
instance:Inhabited y5:=⟨⟨.empty,false,default,default,0⟩⟩
structure Term where
 g9:Int
 num:Rat
instance:Inhabited Term:=⟨⟨0,0⟩⟩
structure Row where
 name:ByteArray
 aC:List Term
 low:Bo
 high:Bo
instance:Inhabited Row:=⟨⟨.empty,[],default,default⟩⟩
structure aB where
 max:Bool
 shift:Rat
 ab:List y5
 rows:List Row
structure lz where
 name:ByteArray
 whole:Bool
 low:ByteArray
 high:ByteArray
 cost:ByteArray
instance:Inhabited lz:=⟨⟨.empty,false,.empty,.empty,.empty⟩⟩
structure iX where
 name:ByteArray
 low:ByteArray
 high:ByteArray
 ab:List Int
 fi:List ByteArray
instance:Inhabited iX:=⟨⟨.empty,.empty,.empty,[],[]⟩⟩
structure dC where
 max:Bool
 shift:ByteArray
 ab:List lz
 rows:List iX
def qb(b:Bo):SV:=.agg [.val (.bool (decide (b.at'.num<0))),.ro ((bO 10000 b.at'.num.natAbs).map i64),.val (.bool false),.ro (if b.has=true then(bO 10000 b.at'.den).map i64 else[])]
theorem kS{b:Bo}(h:b.has=true):qb b=cI b.at':=by unfold qb;rw[if_pos h];rfl
theorem Pf:qb ⟨false,0⟩=mD:=by simp[qb,mD,bj]
@[simp] theorem ai7(b:Bo):(qb b).gJ=4:=rfl
@[simp] theorem ZK(b:Bo):(qb b).aV=false:=rfl
@[simp] theorem abm(b:Bo):(qb b).isAgg=true:=rfl
@[simp] theorem agy(b:Bo):(qb b).pure=true:=rfl
@[simp] theorem aoA(n:Nat)(b:Bo):(qb b).lt n=true:=rfl
@[simp] theorem afU(n:Nat)(b:Bo):(qb b).cj n=false:=rfl
@[simp] theorem Yb(b:Bo):SV.bJ (qb b).cells=true:=rfl
@[simp] theorem acy(b:Bo)(k:Nat):SV.aZ k (qb b).cells=false:=rfl
@[simp] theorem aju(b:Bo)(k:Nat):SV.kZ k (qb b).cells=true:=rfl
@[simp] theorem aeR(b:Bo):(qb b).cells.length=4:=rfl
@[simp] theorem VE(b:Bo)(r:List SV)(n:Nat):avk (n+4) ((qb b).cells++r)=(qb b).cells++avk n r:=rfl
@[simp] theorem ZW(b:Bo)(r:List SV)(n:Nat):avl (n+4) ((qb b).cells++r)=avl n r:=rfl
def dh(b:Bo):SV:=.agg ([cX b.has]++(aU b.at').cells)
@[simp] theorem aex(b:Bo):(dh b).gJ=5:=rfl
@[simp] theorem UF(b:Bo):(dh b).aV=false:=rfl
@[simp] theorem UC(b:Bo):(dh b).isAgg=true:=rfl
@[simp] theorem X9(b:Bo):(dh b).pure=true:=rfl
@[simp] theorem aiB(n:Nat)(b:Bo):(dh b).lt n=true:=rfl
@[simp] theorem Xl(n:Nat)(b:Bo):(dh b).cj n=false:=rfl
@[simp] theorem ajg(b:Bo):aL (dh b).cells 0=cX b.has:=rfl
def nB(b:Bo):SV:=.agg ([cX b.has]++(qb b).cells)
@[simp] theorem adm(b:Bo):(nB b).gJ=5:=rfl
@[simp] theorem UW(b:Bo):(nB b).aV=false:=rfl
@[simp] theorem UL(b:Bo):(nB b).isAgg=true:=rfl
@[simp] theorem aaZ(b:Bo):(nB b).pure=true:=rfl
@[simp] theorem acV(n:Nat)(b:Bo):(nB b).cj n=false:=rfl
@[simp] theorem aiI(b:Bo):aL (nB b).cells 0=cX b.has:=rfl
def rB(h:Bool)(b:Bo):SV:=.agg ([cX h]++(qb b).cells)
@[simp] theorem afZ(h:Bool)(b:Bo):(rB h b).gJ=5:=rfl
@[simp] theorem UT(h:Bool)(b:Bo):(rB h b).aV=false:=rfl
@[simp] theorem Vs(h:Bool)(b:Bo):(rB h b).isAgg=true:=rfl
@[simp] theorem aaf(h:Bool)(b:Bo):(rB h b).pure=true:=rfl
@[simp] theorem aku(n:Nat)(h:Bool)(b:Bo):(rB h b).lt n=true:=rfl
@[simp] theorem acG(n:Nat)(h:Bool)(b:Bo):(rB h b).cj n=false:=rfl
@[simp] theorem Wv(b:Bo):SV.bJ (dh b).cells=true:=rfl
@[simp] theorem VT(b:Bo)(k:Nat):SV.aZ k (dh b).cells=false:=rfl
@[simp] theorem ad6(b:Bo)(k:Nat):SV.kZ k (dh b).cells=true:=rfl
@[simp] theorem abA(b:Bo):(dh b).cells.length=5:=rfl
@[simp] theorem Uc(b:Bo)(r:List SV)(n:Nat):avk (n+5) ((dh b).cells++r)=(dh b).cells++avk n r:=rfl
@[simp] theorem Va(b:Bo)(r:List SV)(n:Nat):avl (n+5) ((dh b).cells++r)=avl n r:=rfl
@[simp] theorem acr(b:Bo):(nB b).cells.length=5:=rfl
@[simp] theorem SQ(b:Bo)(r:List SV)(n:Nat):avk (n+5) ((nB b).cells++r)=(nB b).cells++avk n r:=rfl
@[simp] theorem UG(b:Bo)(r:List SV)(n:Nat):avl (n+5) ((nB b).cells++r)=avl n r:=rfl
@[simp] theorem Vy(h:Bool)(b:Bo):SV.bJ (rB h b).cells=true:=rfl
@[simp] theorem WN(h:Bool)(b:Bo)(k:Nat):SV.aZ k (rB h b).cells=false:=rfl
@[simp] theorem ac1(h:Bool)(b:Bo)(k:Nat):SV.kZ k (rB h b).cells=true:=rfl
@[simp] theorem Y4(h:Bool)(b:Bo):(rB h b).cells.length=5:=rfl
@[simp] theorem So(h:Bool)(b:Bo)(r:List SV)(n:Nat):avk (n+5) ((rB h b).cells++r)=(rB h b).cells++avk n r:=rfl
@[simp] theorem WR(h:Bool)(b:Bo)(r:List SV)(n:Nat):avl (n+5) ((rB h b).cells++r)=avl n r:=rfl
theorem Tk:dh ⟨false,0⟩=.agg [.val (.bool false),.val (.bool false),.ro [],.val (.bool false),.ro []]:=by simp[dh,aU,bj]
theorem RQ:rB false ⟨false,0⟩=.agg [.val (.bool false),.val (.bool false),.ro [],.val (.bool false),.ro []]:=by simp[rB,qb,bj]
theorem Ts{h:Bool}{q:Rat}:SV.agg (.val (.bool h)::(aU q).cells)=dh ⟨h,q⟩:=rfl
theorem TH{h:Bool}{b:Bo}:SV.agg (.val (.bool h)::(qb b).cells)=rB h b:=rfl
def iB(t:Term):SV:=.agg ([iv t.g9]++(aU t.num).cells)
@[simp] theorem U2(t:Term):(iB t).gJ=5:=rfl
@[simp] theorem Qv(t:Term):(iB t).aV=false:=rfl
@[simp] theorem Q8(t:Term):(iB t).isAgg=true:=rfl
@[simp] theorem Sg(t:Term):(iB t).pure=true:=rfl
@[simp] theorem Zb(n:Nat)(t:Term):(iB t).lt n=true:=rfl
@[simp] theorem Sb(n:Nat)(t:Term):(iB t).cj n=false:=rfl
@[simp] theorem abY(t:Term):aL (iB t).cells 0=iv t.g9:=rfl
theorem Gv{l:List _}{i:Nat}(h:i<l.length):aL (l.map iB) i=iB (gt l i):=cy _ h
theorem LK{c:Int}{q:Rat}:SV.agg (.val (.int .i64 c)::(aU q).cells)=iB ⟨c,q⟩:=rfl
@[simp] theorem Vn(t:Term):SV.agg (avk 4 (iB t).cells.tail)=aU t.num:=rfl
def ji(c:y5):SV:=.agg ([.val (.string c.name),cX c.whole]++(dh c.low).cells++(dh c.high).cells++(aU c.cost).cells)
@[simp] theorem Zn(c:y5):(ji c).gJ=16:=rfl
@[simp] theorem Te(c:y5):(ji c).aV=false:=rfl
@[simp] theorem SJ(c:y5):(ji c).isAgg=true:=rfl
@[simp] theorem WB(c:y5):(ji c).pure=true:=rfl
@[simp] theorem afw(n:Nat)(c:y5):(ji c).lt n=true:=rfl
@[simp] theorem WQ(n:Nat)(c:y5):(ji c).cj n=false:=rfl
@[simp] theorem afY(c:y5):aL (ji c).cells 0=.val (.string c.name):=rfl
@[simp] theorem agt(c:y5):SV.agg (((ji c).cells.drop 2).take 5)=dh c.low:=rfl
@[simp] theorem ad9(c:y5):SV.agg (((ji c).cells.drop 7).take 5)=dh c.high:=rfl
@[simp] theorem aa7(c:y5):SV.agg (((ji c).cells.drop 12).take 4)=aU c.cost:=rfl
theorem uP{l:List _}{i:Nat}(h:i<l.length):aL (l.map ji) i=ji (gt l i):=cy _ h
theorem OL{n:ByteArray}{w:Bool}{l h:Bo}{q:Rat}:SV.agg (.val (.string n)::.val (.bool w)::((dh l).cells++((dh h).cells++(aU q).cells)))=ji ⟨n,w,l,h,q⟩:=rfl
def se(c:y5):SV:=.agg ([.val (.string c.name),cX c.whole]++(nB c.low).cells++(nB c.high).cells++(cI c.cost).cells)
@[simp] theorem aam(c:y5):(se c).gJ=16:=rfl
@[simp] theorem Sj(c:y5):(se c).aV=false:=rfl
@[simp] theorem T5(c:y5):(se c).isAgg=true:=rfl
@[simp] theorem ac8(c:y5):aL (se c).cells 0=.val (.string c.name):=rfl
@[simp] theorem agM(c:y5):aL (se c).cells 1=cX c.whole:=rfl
@[simp] theorem aeY(c:y5):SV.agg (((se c).cells.drop 2).take 5)=nB c.low:=rfl
@[simp] theorem aez(c:y5):SV.agg (((se c).cells.drop 7).take 5)=nB c.high:=rfl
@[simp] theorem YM(c:y5):SV.agg (((se c).cells.drop 12).take 4)=cI c.cost:=rfl
theorem dG{l:List _}{i:Nat}(h:i<l.length):aL (l.map se) i=se (gt l i):=cy _ h
def iG(r:Row):SV:=.agg ([.val (.string r.name),.ro (r.aC.map iB)]++(dh r.low).cells++(dh r.high).cells)
@[simp] theorem YF(r:Row):(iG r).gJ=12:=rfl
@[simp] theorem TR(r:Row):(iG r).aV=false:=rfl
@[simp] theorem Tu(r:Row):(iG r).isAgg=true:=rfl
@[simp] theorem W0(r:Row):(iG r).pure=true:=rfl
@[simp] theorem adB(n:Nat)(r:Row):(iG r).lt n=true:=rfl
@[simp] theorem V9(n:Nat)(r:Row):(iG r).cj n=false:=rfl
@[simp] theorem aej(r:Row):aL (iG r).cells 0=.val (.string r.name):=rfl
@[simp] theorem aec(r:Row):aL (iG r).cells 1=.ro (r.aC.map iB):=rfl
@[simp] theorem adX(r:Row):SV.agg (((iG r).cells.drop 2).take 5)=dh r.low:=rfl
@[simp] theorem aeK(r:Row):SV.agg (((iG r).cells.drop 7).take 5)=dh r.high:=rfl
theorem ux{l:List _}{i:Nat}(h:i<l.length):aL (l.map iG) i=iG (gt l i):=cy _ h
def lT(r:Row):SV:=.agg ([.val (.string r.name),.ro (r.aC.map λt=>iv t.g9),.ro (r.aC.map λt=>cI t.num)]++(nB r.low).cells++(nB r.high).cells)
@[simp] theorem YS(r:Row):(lT r).gJ=13:=rfl
@[simp] theorem Sf(r:Row):(lT r).aV=false:=rfl
@[simp] theorem Si(r:Row):(lT r).isAgg=true:=rfl
@[simp] theorem VM(r:Row):(lT r).pure=true:=rfl
@[simp] theorem af2(n:Nat)(r:Row):(lT r).lt n=true:=rfl
@[simp] theorem agR(r:Row):aL (lT r).cells 0=.val (.string r.name):=rfl
@[simp] theorem aeS(r:Row):aL (lT r).cells 1=.ro (r.aC.map λt=>iv t.g9):=rfl
@[simp] theorem adj(r:Row):aL (lT r).cells 2=.ro (r.aC.map λt=>cI t.num):=rfl
@[simp] theorem afc(r:Row):SV.agg (((lT r).cells.drop 3).take 5)=nB r.low:=rfl
@[simp] theorem af6(r:Row):SV.agg (((lT r).cells.drop 8).take 5)=nB r.high:=rfl
theorem cS{l:List _}{i:Nat}(h:i<l.length):aL (l.map lT) i=lT (gt l i):=cy _ h
def bN(p:aB):SV:=.agg ([cX p.max]++(aU p.shift).cells++[.ro (p.ab.map ji),.ro (p.rows.map iG)])
@[simp] theorem Vw(p:aB):(bN p).gJ=7:=rfl
@[simp] theorem QT(p:aB):(bN p).aV=false:=rfl
@[simp] theorem QR(p:aB):(bN p).isAgg=true:=rfl
@[simp] theorem aac(p:aB):aL (bN p).cells 0=cX p.max:=rfl
@[simp] theorem Yv(p:aB):aL (bN p).cells 5=.ro (p.ab.map ji):=rfl
@[simp] theorem aaq(p:aB):aL (bN p).cells 6=.ro (p.rows.map iG):=rfl
def bZ(p:aB):SV:=.agg ([cX p.max]++(cI p.shift).cells++[.ro (p.ab.map se),.ro (p.rows.map lT)])
@[simp] theorem Wi(p:aB):(bZ p).gJ=7:=rfl
@[simp] theorem Qz(p:aB):(bZ p).aV=false:=rfl
@[simp] theorem QM(p:aB):(bZ p).isAgg=true:=rfl
@[simp] theorem Ur(p:aB):(bZ p).pure=true:=rfl
@[simp] theorem aaF(n:Nat)(p:aB):(bZ p).lt n=true:=rfl
@[simp] theorem RX(n:Nat)(p:aB):(bZ p).cj n=false:=rfl
@[simp] theorem YR(p:aB):(bZ p).ks=[]:=rfl
@[simp] theorem abr(p:aB):aL (bZ p).cells 0=cX p.max:=rfl
@[simp] theorem abj(p:aB):aL (bZ p).cells 5=.ro (p.ab.map se):=rfl
@[simp] theorem abV(p:aB):aL (bZ p).cells 6=.ro (p.rows.map lT):=rfl
def pB(c:lz):SV:=.agg ([eF c.name,cX c.whole,eF c.low,eF c.high,eF c.cost])
@[simp] theorem Xr(c:lz):(pB c).gJ=5:=rfl
@[simp] theorem Tl(c:lz):(pB c).aV=false:=rfl
@[simp] theorem TF(c:lz):(pB c).isAgg=true:=rfl
@[simp] theorem WU(n:Nat)(c:lz):(pB c).cj n=false:=rfl
@[simp] theorem ae1(c:lz):aL (pB c).cells 0=eF c.name:=rfl
@[simp] theorem afE(c:lz):aL (pB c).cells 1=cX c.whole:=rfl
@[simp] theorem ae7(c:lz):aL (pB c).cells 2=eF c.low:=rfl
@[simp] theorem ae2(c:lz):aL (pB c).cells 3=eF c.high:=rfl
@[simp] theorem adI(c:lz):aL (pB c).cells 4=eF c.cost:=rfl
theorem uJ{l:List _}{i:Nat}(h:i<l.length):aL (l.map pB) i=pB (gt l i):=cy _ h
def kG(r:iX):SV:=.agg ([eF r.name,eF r.low,eF r.high,.ro (r.ab.map iv),.ro (r.fi.map eF)])
@[simp] theorem abg(r:iX):(kG r).gJ=5:=rfl
@[simp] theorem Um(r:iX):(kG r).aV=false:=rfl
@[simp] theorem T8(r:iX):(kG r).isAgg=true:=rfl
@[simp] theorem VL(r:iX):(kG r).pure=true:=rfl
@[simp] theorem aeu(n:Nat)(r:iX):(kG r).lt n=true:=rfl
@[simp] theorem UU(n:Nat)(r:iX):(kG r).cj n=false:=rfl
@[simp] theorem aet(r:iX):aL (kG r).cells 0=eF r.name:=rfl
@[simp] theorem adz(r:iX):aL (kG r).cells 1=eF r.low:=rfl
@[simp] theorem agi(r:iX):aL (kG r).cells 2=eF r.high:=rfl
@[simp] theorem aei(r:iX):aL (kG r).cells 3=.ro (r.ab.map iv):=rfl
@[simp] theorem adT(r:iX):aL (kG r).cells 4=.ro (r.fi.map eF):=rfl
theorem uN{l:List _}{i:Nat}(h:i<l.length):aL (l.map kG) i=kG (gt l i):=cy _ h
def eQ(s:dC):SV:=.agg ([cX s.max,eF s.shift,.ro (s.ab.map pB),.ro (s.rows.map kG)])
@[simp] theorem VN(s:dC):(eQ s).gJ=4:=rfl
@[simp] theorem Re(s:dC):(eQ s).aV=false:=rfl
@[simp] theorem Q0(s:dC):(eQ s).isAgg=true:=rfl
@[simp] theorem RY(s:dC):(eQ s).pure=true:=rfl
@[simp] theorem Zz(n:Nat)(s:dC):(eQ s).lt n=true:=rfl
@[simp] theorem T6(n:Nat)(s:dC):(eQ s).cj n=false:=rfl
@[simp] theorem Xd(s:dC):aL (eQ s).cells 0=cX s.max:=rfl
@[simp] theorem aak(s:dC):aL (eQ s).cells 1=eF s.shift:=rfl
@[simp] theorem acf(s:dC):aL (eQ s).cells 2=.ro (s.ab.map pB):=rfl
@[simp] theorem aaN(s:dC):aL (eQ s).cells 3=.ro (s.rows.map kG):=rfl
@[simp] theorem aeo(q:Rat)(r:List SV)(n:Nat):aL ((aU q).cells++r) (n+4)=aL r n:=rfl
@[simp] theorem afr(q:Rat)(r:List SV)(n:Nat)(x:SV):cZ ((aU q).cells++r) (n+4) x=(aU q).cells++cZ r n x:=rfl
@[simp] theorem abq(q:Bo)(r:List SV)(n:Nat):aL ((qb q).cells++r) (n+4)=aL r n:=rfl
@[simp] theorem aaC(q:Bo)(r:List SV)(n:Nat)(x:SV):cZ ((qb q).cells++r) (n+4) x=(qb q).cells++cZ r n x:=rfl
theorem yQ{α:Type}(k i:Nat)(f:α->SV)(l:List α):SV.aZ k ((l.map f).take i)=(l.take i).any λx=>(f x).cj k:=by rw[<-auD,iU]
theorem xB{α:Type}(i:Nat)(f:α->SV)(l:List α):SV.bJ ((l.map f).take i)=(l.take i).all λx=>(f x).pure:=by rw[<-auD,u4]
theorem FP{α:Type}(k i:Nat)(f:α->SV)(l:List α):SV.kZ k ((l.map f).take i)=(l.take i).all λx=>(f x).lt k:=by rw[<-auD,qA]
attribute [simp] iU yQ xB FP
@[simp] theorem aiM(q:Rat)(k:Nat):(aU q).cells.map (λy=>if SV.cj k y=true then SV.any else y)=(aU q).cells:=rfl
@[simp] theorem afQ(q:Bo)(k:Nat):(qb q).cells.map (λy=>if SV.cj k y=true then SV.any else y)=(qb q).cells:=rfl
@[simp] theorem XA(b:Bo)(k:Nat):(dh b).cells.map (λy=>if SV.cj k y=true then SV.any else y)=(dh b).cells:=rfl
@[simp] theorem acj(h:Bool)(b:Bo)(k:Nat):(rB h b).cells.map (λy=>if SV.cj k y=true then SV.any else y)=(rB h b).cells:=rfl
theorem vH{α:Type}[Inhabited α](f:α->SV){l:List α}{i:Nat}(h:i<l.length):(l.map f).take (i+1)=(l.map f).take i++[f (gt l i)]:=by rw[<-auD,fO h];simp
/-! out of texts -/
def eA(s:ByteArray):Bool:=decide ((fy 300 s).2.1=0)
def lf(s:ByteArray):Bo:=if eA s=true then⟨true,num s⟩ else⟨false,0⟩
def jz(s:ByteArray):Bool:=decide (s=⟨#[]⟩)
def gX(s:ByteArray):Bool:=jz s||eA s
def mF(s:ByteArray):Bo:=if jz s=true then⟨false,0⟩ else⟨true,num s⟩
def Ea(s:ByteArray):Bo:=if jz s=true then⟨false,0⟩ else lf s
def ru(c:lz):Bool:=gX c.low&&gX c.high&&eA c.cost
def o7(c:lz):y5:=⟨c.name,c.whole,mF c.low,mF c.high,num c.cost⟩
def gC(r:iX):List (Int × ByteArray):=r.ab.zip r.fi
def Pe(r:iX):Bool:=gX r.low&&gX r.high&&(gC r).all λz=>eA z.2
def rY(z:Int × ByteArray):Term:=⟨z.1,num z.2⟩
def rowOf(r:iX):Row:=⟨r.name,(gC r).map rY,mF r.low,mF r.high⟩
def NW(s:dC):Bool:=eA s.shift&&s.ab.all ru&&s.rows.all Pe
def dR(s:dC):aB:=⟨s.max,num s.shift,s.ab.map o7,s.rows.map rowOf⟩
theorem Pr{r:iX}:iG (rowOf r)=.agg (.val (.string r.name)::.ro ((gC r).map λz=>iB (rY z))::((dh (mF r.low)).cells++(dh (mF r.high)).cells)):=by unfold iG rowOf;rw[avm];rfl
theorem KF{s:dC}:bN (dR s)=.agg (.val (.bool s.max)::((aU (num s.shift)).cells++[.ro (s.ab.map λc=>ji (o7 c)),.ro (s.rows.map λr=>iG (rowOf r))])):=by unfold bN dR;rw[avm,avm];rfl
def we(c:lz):SV:=.agg ([.val (.string c.name),cX c.whole]++(rB (!jz c.low) (Ea c.low)).cells++(rB (!jz c.high) (Ea c.high)).cells++(qb (lf c.cost)).cells)
@[simp] theorem VJ(c:lz):(we c).pure=true:=rfl
@[simp] theorem adx(n:Nat)(c:lz):(we c).lt n=true:=rfl
@[simp] theorem Wo(n:Nat)(c:lz):(we c).cj n=false:=rfl
theorem Qk{n:ByteArray}{w:Bool}{l h q:ByteArray}:SV.agg (.val (.string n)::.val (.bool w)::((rB (!jz l) (Ea l)).cells++((rB (!jz h) (Ea h)).cells++(qb (lf q)).cells)))=we ⟨n,w,l,h,q⟩:=rfl
def yU(r:iX):SV:=.agg ([.val (.string r.name),.ro ((gC r).map λz=>iv z.1),.ro ((gC r).map λz=>qb (lf z.2))]++(rB (!jz r.low) (Ea r.low)).cells++(rB (!jz r.high) (Ea r.high)).cells)
@[simp] theorem Vm(r:iX):(yU r).pure=true:=rfl
@[simp] theorem ae6(n:Nat)(r:iX):(yU r).lt n=true:=rfl
@[simp] theorem Wh(n:Nat)(r:iX):(yU r).cj n=false:=rfl
def rE(s:dC):SV:=.agg ([cX s.max]++(qb (lf s.shift)).cells++[.ro (s.ab.map we),.ro (s.rows.map yU)])
@[simp] theorem U9(s:dC):(rE s).gJ=7:=rfl
@[simp] theorem Q7(s:dC):(rE s).aV=false:=rfl
@[simp] theorem QE(s:dC):(rE s).isAgg=true:=rfl
@[simp] theorem Uh(s:dC):(rE s).pure=true:=rfl
theorem Nt{s:dC}:rE s=.agg (.val (.bool s.max)::((qb (lf s.shift)).cells++[.ro (s.ab.map we),.ro (s.rows.map yU)])):=rfl
theorem Ob{r:iX}:yU r=.agg (.val (.string r.name)::.ro ((gC r).map λz=>.val (.int .i64 z.1))::.ro ((gC r).map λz=>qb (lf z.2))::((rB (!jz r.low) (Ea r.low)).cells++(rB (!jz r.high) (Ea r.high)).cells)):=rfl
theorem CO{s:ByteArray}(h:eA s=true):qb (lf s)=cI (num s):=by unfold lf;rw[if_pos h];rfl
theorem Cm{s:ByteArray}(h:gX s=true):rB (!jz s) (Ea s)=nB (mF s):=by
 unfold Ea mF;by_cases h0:jz s=true
 ·rw[if_pos h0,if_pos h0,h0];rfl
 ·rw[if_neg h0,if_neg h0];have h1:eA s=true:=by
   unfold gX at h;have ac:jz s=false:=by simpa using h0
   rw[ac]at h;simpa using h
  have ac:jz s=false:=by simpa using h0
  rw[ac];unfold lf;rw[if_pos h1];rfl
theorem OF{c:lz}(h:ru c=true):we c=se (o7 c):=by unfold ru at h;simp only[atl]at h;unfold we se o7;rw[Cm h.1.1,Cm h.1.2,CO h.2]
theorem Oh{r:iX}(h:Pe r=true):yU r=lT (rowOf r):=by
 unfold Pe at h;simp only[atl]at h;unfold yU lT rowOf;rw[Cm h.1.1,Cm h.1.2];have e1:(gC r).map (λz=>iv z.1)=((gC r).map rY).map λt=>iv t.g9:=by rw[avm];rfl
 have e2:(gC r).map (λz=>qb (lf z.2))=((gC r).map rY).map λt=>cI t.num:=by rw[avm];refine avn λz hz=>?_;have:=atu.1 h.2 z hz;rw[CO this];rfl
 rw[e1,e2]
theorem E0{s:dC}(h:NW s=true):rE s=bZ (dR s):=by
 unfold NW at h;simp only[atl]at h;unfold rE bZ dR;have e1:s.ab.map we=(s.ab.map o7).map se:=by rw[avm];exact avn λc hc=>OF (atu.1 h.1.2 c hc)
 have e2:s.rows.map yU=(s.rows.map rowOf).map lT:=by rw[avm];exact avn λc hc=>Oh (atu.1 h.2 c hc)
 rw[e1,e2,CO h.1.1]
structure SmC(c:lz):Prop where
 name:c.name.size<=1048576
 low:c.low.size<=1048576
 high:c.high.size<=1048576
 cost:c.cost.size<=1048576
structure SmR(r:iX):Prop where
 name:r.name.size<=1048576
 low:r.low.size<=1048576
 high:r.high.size<=1048576
 ab:r.ab.length<=1048576
 fi:QH r.fi
structure NR(s:dC):Prop where
 shift:s.shift.size<=1048576
 nc:s.ab.length<=1048576
 nr:s.rows.length<=1048576
 ab:∀i,i<s.ab.length->SmC (gt s.ab i)
 rows:∀i,i<s.rows.length->SmR (gt s.rows i)
/-! taking one more -/
theorem map_take{α:Type}[Inhabited α](f:α->SV){l:List α}{i:Nat}(h:i<l.length):(l.take (i+1)).map f=(l.take i).map f++[f (gt l i)]:=by rw[fO h];simp
theorem kT{α:Type}[Inhabited α](f:α->Bool){l:List α}{i:Nat}(h:i<l.length):(l.take (i+1)).all f=((l.take i).all f&&f (gt l i)):=by rw[fO h];simp
theorem pT(r:iX):(gC r).length=min r.ab.length r.fi.length:=by simp[gC]
theorem Bx{r:iX}{i:Nat}(h:i<(gC r).length):gt (gC r) i=(gt r.ab i,gt r.fi i):=by
 rw[pT]at h;have h1:i<r.ab.length:=by omega
 have h2:i<r.fi.length:=by omega
 rw[<-dY (by rw[pT];exact h),<-dY h1,<-dY h2];simp[gC]
end Go.Li
namespace Go.Proofs
open Go.Sv Go Go.Tb Go.Pl Go.Ut Go.Li
def CZ(s:ByteArray):SV:=.agg [.val (.int .i64 ((fy 300 s).2.1:Nat)),.val (.int .i64 (if eA s=true then -1 else((fy 300 s).2.2:Nat)))]
@[simp] theorem aco(s:ByteArray):(CZ s).pure=true:=rfl
@[simp] theorem aaA(s:ByteArray)(k:Nat):(CZ s).cj k=false:=rfl
@[simp] theorem ahe(s:ByteArray)(k:Nat):(CZ s).lt k=true:=rfl
theorem MS(s:ByteArray)(h:s.size<=1048576):aG awW 66 [.val (.string s)] (.bP [qb (lf s),CZ s]):=by
 by_cases hq:(fy 300 s).2.1=0
 ·have:=HE s (by omega) hq;have hk:eA s=true:=decide_eq_true hq
  rwa [show(SV.bP [cI (num s),fC 0 (-1)])=.bP [qb (lf s),CZ s] by rw[CO hk];simp[CZ,hk,hq,fC]]at this
 ·have:=uv s (by omega);have hk:eA s=false:=decide_eq_false hq
  rwa [show iW (fy 300 s)=.bP [qb (lf s),CZ s] by simp[iW,hq,lf,hk,Pf,CZ,fC]]at this
theorem nN(s:ByteArray)(h:s.size<=1048576):aG awW 167 [.val (.string s),.val (.bool false)] (.bP [qb (lf s),CZ s]):=by refine aj Tryz.func167 rfl (by simp) (λC hC=>?_);simp;refine asl (MS s h) ?_;simp[CZ]
theorem qm(s:ByteArray)(h:s.size<=1048576):aG awW 168 [.val (.string s),.val (.bool false)] (.bP [rB (!jz s) (Ea s),.val (.bool (gX s))]):=by
 refine aj Tryz.func168 rfl (by simp) (λC hC=>?_);simp;by_cases h0:jz s=true
 ·have e:s=⟨#[]⟩:=of_decide_eq_true h0;simp[gX,Ea,e,jz,RQ]
 ·have ac:jz s=false:=by simpa using h0
  have e:¬s=⟨#[]⟩:=of_decide_eq_false ac;simp[e];refine asl (nN s h) ?_;simp[CZ];refine aa.asj (.qs [0,1,2]<|.q 3 [0]<|.qs [4]<|.l 5 [0]<|.qs [6]<|.nil) ?_;simp[gX,Ea,ac,TH,eA]
end Go.Proofs


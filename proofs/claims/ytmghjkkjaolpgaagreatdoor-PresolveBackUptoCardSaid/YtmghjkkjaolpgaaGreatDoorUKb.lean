/- A text of the prover's own. -/
import Derived.Test.YtmghjkkjaolpgaaGreatDoorUQo
import Derived.Test.YtmghjkkjaolpgaaGreatDoorUVe
import Derived.Test.YtmghjkkjaolpgaaGreatDoorUEs
open List renaming getD_eq_getElem?_getD→aoB,getElem?_eq_getElem→al8,all_eq_true→am1,map_take→an3,take_of_length_le→anE,take→aoM,drop→aoN,replicate→alZ,map_map→aoO,map_congr_left→aoP
open Bool renaming and_eq_true→amS
set_option maxRecDepth 10000
namespace Go.Tb
open Go Go.Sv Go.Pl Go.Proofs
def cZ(s:ByteArray):SV:=.val (.string s)
@[simp] theorem W4(s:ByteArray):cZ s=.val (.string s):=rfl
def tsv(l:List ByteArray):SV:=.ro (l.map cZ)
@[simp] theorem acF(l:List ByteArray):tsv l=.ro (l.map cZ):=rfl
def TM(l:List Rat):SV:=.ro (l.map cC)
@[simp] theorem ZI(l:List Rat):TM l=.ro (l.map cC):=rfl
def Ym(l:List Rat):SV:=.ro (l.map aY)
@[simp] theorem Yp(l:List Rat):Ym l=.ro (l.map aY):=rfl
def gt{α:Type}[Inhabited α](l:List α)(i:Nat):α:=l.getD i default
theorem eZ{α:Type}[Inhabited α](f:α→SV){l:List α}{i:Nat}(h:i<l.length):aA (l.map f) i=f (gt l i):=by
 rw[zp (by simpa using h)];simp[gt,h]
theorem iE{l:List ByteArray}{i:Nat}(h:i<l.length):aA (l.map cZ) i=cZ (gt l i):=eZ _ h
theorem S2{l:List (List ByteArray)}{i:Nat}(h:i<l.length):aA (l.map tsv) i=tsv (gt l i):=eZ _ h
theorem zT{l:List Rat}{i:Nat}(h:i<l.length):aA (l.map cC) i=cC (gt l i):=eZ _ h
theorem O5{l:List Rat}{i:Nat}(h:i<l.length):aA (l.map aY) i=aY (gt l i):=eZ _ h
theorem WI{l:List (List Rat)}{i:Nat}(h:i<l.length):aA (l.map TM) i=TM (gt l i):=eZ _ h
theorem XL{l:List (List Rat)}{i:Nat}(h:i<l.length):aA (l.map Ym) i=Ym (gt l i):=eZ _ h
theorem dr{α:Type}[Inhabited α]{l:List α}{i:Nat}(h:i<l.length):gt l i∈l:=by
 simp only[gt,aoB,al8 h,Option.getD_some];exact List.getElem_mem h
theorem fP{α:Type}[Inhabited α]{l:List α}{i:Nat}(h:i<l.length):l.take (i+1)=l.take i++[gt l i]:=by
 rw[List.take_succ_eq_append_getElem h];simp[gt,h]
@[simp] theorem ag9(l:List Rat):uy 4 (l.map cC)=True:=by cases l<;>simp[uy]
@[simp] theorem ahn(l:List Rat):uy 4 (l.map aY)=True:=by cases l<;>simp[uy]
@[simp] theorem Yx(l:List (List Rat)):uy 1 (l.map TM)=True:=by cases l<;>simp[uy]
theorem qY{k:Nat}{es:List SV}:∀{l r:List SV},j5 k es (l++r)=j5 k es l++j5 k es r
 | [],r=>rfl
 | x::l,r=>by simp[qY]
def num(s:ByteArray):Rat:=(eH 300 s).1
def JC(l:List ByteArray):Bool:=l.all fun s=>decide ((eH 300 s).2.1=0)
def okT(t:List (List ByteArray)):Bool:=t.all JC
theorem xz{l:List ByteArray}{i:Nat}(h:i<l.length)(h':¬(eH 300 (gt l i)).2.1=0):JC l=false:=by
 cases hh:JC l with
 | false=>rfl
 | true=>exact absurd (of_decide_eq_true (am1.1 hh _ (dr h))) h'
theorem Bq{l:List ByteArray}(h:∀i,i<l.length→(eH 300 (gt l i)).2.1=0):JC l=true:=by
 refine am1.2 fun s hs=>decide_eq_true ?_;obtain⟨i,hi,rfl⟩:=List.getElem_of_mem hs;have:=h i hi;simpa[gt,hi]using this
def cN(l:List ByteArray):List Rat:=l.map num
def KA(t:List (List ByteArray)):List (List Rat):=t.map cN
@[simp] theorem Ch(l:List ByteArray):(cN l).length=l.length:=by simp[cN]
@[simp] theorem V5(l:List (List ByteArray)):(KA l).length=l.length:=by simp[KA]
theorem xy{l:List ByteArray}{i:Nat}(h:i<l.length):(cN l).take (i+1)=(cN l).take i++[num (gt l i)]:=by
 unfold cN;rw[←an3,←an3,fP h];simp
def Aq(l:List ByteArray):SV:=if JC l then .bG [.ro ((cN l).map cC),.val (.bool true)] else .bG [.ro [],.val (.bool false)]
def AW(l:List ByteArray):SV:=if JC l then .bG [.ro ((cN l).map aY),.val (.bool true)] else .bG [.ro [],.val (.bool false)]
def ai4(t:List (List ByteArray)):SV:=if okT t then .bG [.ro ((KA t).map TM),.val (.bool true)] else .bG [.ro [],.val (.bool false)]
def ait(t:List (List ByteArray)):SV:=if okT t then .bG [.ro ((KA t).map Ym),.val (.bool true)] else .bG [.ro [],.val (.bool false)]
structure JM(l:List ByteArray):Prop where
 n:l.length≤1048576
 s:∀s∈l,s.size≤1048576
structure SmT(t:List (List ByteArray)):Prop where
 n:t.length≤1048576
 s:∀l∈t,JM l
theorem yF{q:Nat→Prop}{i:Nat}(h:∀k,k<i→q k)(h':q i):∀k,k<i+1→q k:=fun k hk=>by
 rcases Nat.lt_or_ge k i with g | g
 ·exact h k g
 ·obtain rfl:k=i:=by omega
  exact h'
end Go.Tb
namespace Go.Proofs
open Go.Sv Go Go.Tb Go.Pl
theorem El(s:ByteArray)(hs:s.size≤4611686018427387904)(hq:(eH 300 s).2.1=0):aI Tryz.prog 50 [.val (.string s)] (.bG [cC (num s),eS 0 (-1)]):=by
 have:=r9 s hs
 rwa [show iu (eH 300 s)=.bG [cC (num s),eS 0 (-1)] by simp[iu,hq,num]]at this
theorem AN(l:List ByteArray)(h:JM l):aI Tryz.prog 20 [.ro (l.map cZ)] (Aq l):=by
 have hl:=h.n;refine aj Tryz.func20 rfl (by simp) (fun C hC=>?_);simp;refine ae.nil 4 4 rfl ?_;refine ae.cq (ι:=Nat × List Rat) (fun⟨i,xs⟩=>⟨30,[(0,.ro (l.map cZ)),(4,.view 0 0 xs.length),(5,.val (.int .i64 i))],[some ⟨4,xs.map cC,false⟩]⟩)
  (fun⟨i,xs⟩=>i≤l.length∧xs=(cN l).take i∧∀k,k<i→(eH 300 (gt l k)).2.1=0) (fun⟨i,xs⟩=>l.length - i) (0,[]) ?_ ?_ ?_
 ·simp
 ·simp[ar,hC]
 ·rintro⟨i,xs⟩ ⟨hi,hx,hk⟩;have hxl:xs.length=i:=by rw[hx];simp;omega
  by_cases aF:i<l.length
  ·have hx':=xy aF;rw[←hx]at hx';have pW:=h.s _ (dr aF);simp(disch:=omega)[aF,iE];by_cases hq:(eH 300 (gt l i)).2.1=0
   ·refine ai (El (gt l i) (by omega) hq) (by simp) ?_;simp(disch:=omega)[eS,aP];exact⟨⟨by simp[hC],by omega⟩,i+1,xs++[num (gt l i)],⟨by omega,hx'.symm,yF hk hq⟩,by omega,Le.ct (by simp[ar,hC])⟩
   ·have:=xz aF hq;refine alT (r9 (gt l i) (by omega)) ?_;simp[iu,hq,eS,Aq,this]
  ·obtain rfl:i=l.length:=by omega
   have:=Bq hk;rw[anE (by simp)]at hx;simp[Aq,this,hx,anE]
end Go.Proofs
namespace Go.Proofs
open Go.Sv Go Go.Tb Go.Pl
theorem uO(s:ByteArray)(hs:s.size≤4611686018427387904):aI Tryz.prog 43 [.val (.string s)] (.bG [aY (num s),.val (.bool (decide ((eH 300 s).2.1=0)))]):=by
 refine aj Tryz.func43 rfl (by simp) (fun C hC=>?_);simp;refine alT (Hq s hs) ?_;simp[xm];refine ae.alS (.qs [0,1,2]<|.l 3 [0]<|.qs [4]<|.nil) ?_;rw[show(eH 300 s).1=num s from rfl];by_cases hq:(eH 300 s).2.1=0
 ·simp[hq,kv]
 ·simp[hq,kv]
theorem s8(l:List ByteArray)(h:JM l):aI Tryz.prog 15 [.ro (l.map cZ)] (AW l):=by
 have hl:=h.n;refine aj Tryz.func15 rfl (by simp) (fun C hC=>?_);simp;refine ae.nil 4 4 rfl ?_;refine ae.cq (ι:=Nat × List Rat) (fun⟨i,xs⟩=>⟨28,[(4,.view 0 0 xs.length),(9,.ro (l.map cZ)),(10,.val (.int .i64 l.length)),(11,.val (.int .i64 i))],[some ⟨4,xs.map aY,false⟩]⟩)
  (fun⟨i,xs⟩=>i≤l.length∧xs=(cN l).take i∧∀k,k<i→(eH 300 (gt l k)).2.1=0) (fun⟨i,xs⟩=>l.length - i) (0,[]) ?_ ?_ ?_
 ·simp
 ·simp[ar,hC]
 ·rintro⟨i,xs⟩ ⟨hi,hx,hk⟩;have hxl:xs.length=i:=by rw[hx];simp;omega
  by_cases aF:i<l.length
  ·have hx':=xy aF;rw[←hx]at hx';have pW:=h.s _ (dr aF);simp(disch:=omega)[aF,iE];refine alT (uO (gt l i) (by omega)) ?_;by_cases hq:(eH 300 (gt l i)).2.1=0
   ·simp(disch:=omega)[hq,aP];exact⟨⟨by simp[hC],by omega⟩,i+1,xs++[num (gt l i)],⟨by omega,hx'.symm,yF hk hq⟩,by omega,Le.ct (by simp[ar,hC])⟩
   ·have:=xz aF hq;simp[hq,AW,this]
  ·obtain rfl:i=l.length:=by omega
   have:=Bq hk;rw[anE (by simp)]at hx;simp[AW,this,hx,anE]
end Go.Proofs
namespace Go.Tb
open Go Go.Sv Go.Pl Go.Proofs
def wide{α:Type}(a:List (List α)):Nat:=(gt a 0).length
theorem T4{α:Type}(a:List (List α)):wide a=(gt a 0).length:=rfl
def ahe{α:Type}(a:List (List α)):Bool:=decide (a.length≤40)&&a.all fun r=>decide (r.length=wide a∧r.length≤40)
end Go.Tb
namespace Go.Proofs
open Go.Sv Go Go.Tb Go.Pl
end Go.Proofs
namespace Go.Tb
open Go Go.Sv Go.Pl Go.Proofs
def rq(l:List Rat):List ByteArray:=l.map ff
def ah1(a:List (List Rat)):List (List ByteArray):=a.map rq
@[simp] theorem Ua(l:List Rat):(rq l).length=l.length:=by simp[rq]
theorem E8{l:List Rat}{i:Nat}(h:i<l.length):(rq l).take (i+1)=(rq l).take i++[ff (gt l i)]:=by
 unfold rq;rw[←an3,←an3,fP h];simp
structure OKl(l:List Rat):Prop where
 n:l.length≤1048576
 q:∀q∈l,dE q
structure OKa(a:List (List Rat)):Prop where
 n:a.length≤1048576
 r:∀r∈a,OKl r
end Go.Tb
namespace Go.Proofs
open Go.Sv Go Go.Tb Go.Pl
theorem xR(l:List Rat)(h:OKl l):aI Tryz.prog 18 [.ro (l.map aY)] (.ro ((rq l).map cZ)):=by
 have hl:=h.n;refine aj Tryz.func18 rfl (by simp) (fun C hC=>?_);simp;refine ae.nil 3 1 rfl ?_;refine ae.cq (ι:=Nat × List ByteArray) (fun⟨i,xs⟩=>⟨19,[(3,.view 0 0 xs.length),(6,.ro (l.map aY)),(7,.val (.int .i64 l.length)),(8,.val (.int .i64 i))],[some ⟨1,xs.map cZ,false⟩]⟩)
  (fun⟨i,xs⟩=>i≤l.length∧xs=(rq l).take i) (fun⟨i,xs⟩=>l.length - i) (0,[]) ?_ ?_ ?_
 ·simp
 ·simp[ar,hC]
 ·rintro⟨i,xs⟩ ⟨hi,hx⟩;have hxl:xs.length=i:=by rw[hx];simp;omega
  by_cases aF:i<l.length
  ·have hx':=E8 aF;rw[←hx]at hx';have hq:=h.q _ (dr aF);simp(disch:=omega)[aF,O5];refine alT (nR (gt l i) hq) ?_;simp(disch:=omega)[aP];exact⟨⟨by simp[hC],by omega⟩,i+1,xs++[ff (gt l i)],⟨by omega,hx'.symm⟩,by omega,Le.ct (by simp[ar,hC])⟩
  ·obtain rfl:i=l.length:=by omega
   rw[anE (by simp)]at hx;simp[hx,anE]
end Go.Proofs
namespace Go.Tb
open Go Go.Sv Go.Pl Go.Proofs
structure OA(t:List (List ByteArray)):Prop where
 n:t.length≤6
 r:∀i,i<t.length→(gt t i).length≤6∧∀k,k<(gt t i).length→(gt (gt t i) k).size≤30
end Go.Tb
namespace Go.Proofs
open Go.Sv Go Go.Tb Go.Pl
def agw(a:List (List Rat)):Bool:=a.all fun r=>decide (r.length=wide a)
def adC(a:List (List Rat)):SV :=
 if a=[] then .bG [.val (.int .i64 0),.val (.bool true)]
 else if agw a then .bG [.val (.int .i64 (wide a:Nat)),.val (.bool (decide (a.length≤40∧wide a≤40)))]
 else .bG [.val (.int .i64 0),.val (.bool false)]
end Go.Proofs
namespace Go.Sv
open Go
theorem Nz{P:Program}{C:Ctx}{f:FuncId}{args:List SV}{M:aJ}{K:aJ→List Nat→SV→Prop}(k:Nat){e:cx}(hk:ao M k=some e)(hp:SV.ba e.es=true)
  (h:dH P C f (j5 k e.es args) (Gs k e.es (aN M k (some ⟨e.sz,e.es,true⟩))) none K):dH P C f args M none K:=by
 intro β H w vals hd hW;obtain⟨H1,h1,h2⟩:=hW.freeze (aL hk) hp;rw[←ez]at h2;have hk':ao (aN M k (some ⟨e.sz,e.es,true⟩)) k=some ⟨e.sz,e.es,true⟩:=by
  rw[nw _ _ _ _ ⟨e,hk⟩,if_pos rfl]
 have hd1:=nT (e:=⟨e.sz,e.es,true⟩) h2 hk' rfl (bF.mono h1 _ _ (fun _ _ _ h=>h) hd);refine Calls.mono (h β H1 w vals hd1 (h2.sb (e:=⟨e.sz,e.es,true⟩) hk' rfl)) ?_;rintro e w' ⟨β',H',M',v,x,ks,rfl,g1,g2,g3,g4,g5,g6,g7⟩;exact⟨β',H',M',v,x,ks,rfl,g1,g2,g3,fun b cs hb=>g4 b cs (h1 b cs hb),g5,g6,fun ks h=>by cases h⟩
end Go.Sv
namespace Go.Ut
open Go Go.Sv Go.Pl Go.Proofs Go.Tb
@[simp] theorem Xt{M:aJ}{x:SV}(h:x.pure=true):Sv.Sub M x x=True:=eq_true (eh M x h)
/-! numbers of the program and of the document -/
@[simp] theorem afR(q:Rat):(aY q).cells.length=4:=rfl
@[simp] theorem agf(q:Rat):(cC q).cells.length=4:=rfl
@[simp] theorem Vr(q:Rat)(r:List SV)(n:Nat):aoM (n+4) ((aY q).cells++r)=(aY q).cells++aoM n r:=rfl
@[simp] theorem Xs(q:Rat)(r:List SV)(n:Nat):aoM (n+4) ((cC q).cells++r)=(cC q).cells++aoM n r:=rfl
@[simp] theorem acn(q:Rat)(r:List SV)(n:Nat):aoN (n+4) ((aY q).cells++r)=aoN n r:=rfl
@[simp] theorem acI(q:Rat)(r:List SV)(n:Nat):aoN (n+4) ((cC q).cells++r)=aoN n r:=rfl
@[simp] theorem YT(q:Rat):SV.ba (aY q).cells=true:=rfl
@[simp] theorem acL(q:Rat)(k:Nat):SV.aX k (aY q).cells=false:=rfl
@[simp] theorem ai2(q:Rat)(k:Nat):SV.lS k (aY q).cells=true:=rfl
@[simp] theorem aaX(q:Rat):SV.ba (cC q).cells=true:=rfl
@[simp] theorem Z7(q:Rat)(k:Nat):SV.aX k (cC q).cells=false:=rfl
@[simp] theorem ahO(q:Rat)(k:Nat):SV.lS k (cC q).cells=true:=rfl
theorem EY:SV.agg [.val (.bool false),.ro [],.val (.bool false),.ro []]=aY 0:=by simp[aY,bf]
theorem bR{α:Type}[Inhabited α]{l:List α}{i:Nat}(h:i<l.length):l[i]=gt l i:=by
 unfold gt;rw[aoB,al8 h];rfl
theorem LS{α:Type}[Inhabited α]{l:List α}{i:Nat}(h:i<l.length):l.drop i=gt l i::l.drop (i+1):=by
 rw[List.drop_eq_getElem_cons h,bR h]
theorem dL{α β:Type}[Inhabited α][Inhabited β](f:α→β){l:List α}{i:Nat}(h:i<l.length):gt (l.map f) i=f (gt l i):=by
 simp[gt,h]
theorem dM{α:Type}[Inhabited α]{l:List α}{i j:Nat}{x:α}(h:j<l.length):gt (l.set i x) j=if i=j then x else gt l j:=by
 have h':j<(l.set i x).length:=by simpa using h
 rw[←bR h',List.getElem_set];split
 ·rfl
 ·exact bR h
theorem Hv{α:Type}[Inhabited α]{l r:List α}{j:Nat}(h:j<l.length):gt (l++r) j=gt l j:=by
 simp[gt,List.getElem?_append_left h]
theorem Ld{α:Type}[Inhabited α]{a b:List α}(hl:a.length=b.length)(h:∀i,i<a.length→gt a i=gt b i):a=b:=by
 refine List.ext_getElem hl fun i h1 h2=>?_;rw[bR h1,bR h2];exact h i h1
theorem Lz{l:List ByteArray}{i:Nat}(h:i<l.length):gt (cN l) i=num (gt l i):=by simp[gt,cN,h]
def Kh(l:List ByteArray):List SV:=if JC l then(cN l).map cC else[]
theorem K2(l:List ByteArray):Aq l=.bG [.ro (Kh l),.val (.bool (JC l))]:=by
 unfold Aq Kh;cases JC l<;>simp
/-! whole numbers, truths -/
def iv(n:Int):SV:=.val (.int .i64 n)
@[simp] theorem afI(n:Int):iv n=.val (.int .i64 n):=rfl
def ilv(l:List Int):SV:=.ro (l.map iv)
@[simp] theorem acv(l:List Int):ilv l=.ro (l.map iv):=rfl
def cU(b:Bool):SV:=.val (.bool b)
@[simp] theorem ac5(b:Bool):cU b=.val (.bool b):=rfl
theorem oA{l:List Int}{i:Nat}(h:i<l.length):aA (l.map iv) i=iv (gt l i):=eZ _ h
theorem dO{l:List Bool}{i:Nat}(h:i<l.length):aA (l.map cU) i=cU (gt l i):=eZ _ h
/-! lists filled from the front -/
theorem aa8{n:Nat}{x:SV}:jQ (alZ n x)=alZ n (iR x):=by
 induction n with
 | zero=>rfl
 | succ n ih=>simp[List.replicate_succ,ih]
/-! how numbers compare -/
def tI(x y:Rat):Int:=if x<y then -1 else if y<x then 1 else 0
theorem kx(x y:Rat):(x<y∧tI x y = -1)∨(y<x∧tI x y=1)∨(x=y∧tI x y=0):=by
 unfold tI;by_cases h1:x<y
 ·exact .inl ⟨h1,by rw[if_pos h1]⟩
 ·by_cases h2:y<x
  ·exact .inr (.inl ⟨h2,by rw[if_neg h1,if_pos h2]⟩)
  ·exact .inr (.inr ⟨Rat.le_antisymm (Rat.not_lt.1 h2) (Rat.not_lt.1 h1),by rw[if_neg h1,if_neg h2]⟩)
@[simp] theorem T9{x y:Rat}:tI x y<0↔x<y:=by rcases kx x y with⟨h,e⟩ | ⟨h,e⟩ | ⟨h,e⟩<;>rw[e]<;>constructor<;>grind
@[simp] theorem Vn{x y:Rat}:0<tI x y↔y<x:=by rcases kx x y with⟨h,e⟩ | ⟨h,e⟩ | ⟨h,e⟩<;>rw[e]<;>constructor<;>grind
@[simp] theorem Xz{x y:Rat}:tI x y≤0↔x≤y:=by rcases kx x y with⟨h,e⟩ | ⟨h,e⟩ | ⟨h,e⟩<;>rw[e]<;>constructor<;>grind
@[simp] theorem Ty{x y:Rat}:0≤tI x y↔y≤x:=by rcases kx x y with⟨h,e⟩ | ⟨h,e⟩ | ⟨h,e⟩<;>rw[e]<;>constructor<;>grind
@[simp] theorem Vt{x y:Rat}:tI x y=0↔x=y:=by rcases kx x y with⟨h,e⟩ | ⟨h,e⟩ | ⟨h,e⟩<;>rw[e]<;>constructor<;>grind
def Cj(q:Rat):Int:=q.num.sign
theorem za{q:Rat}:q.num<0↔q<0:=by rw[←Int.not_le,←Rat.not_le,Rat.num_nonneg]
theorem En{q:Rat}:0<q.num↔0<q:=by
 have h0:q.num=0↔q=0:=Rat.num_eq_zero;have h1:=Rat.num_nonneg (q:=q);constructor
 ·intro h;have:=h1.1 (by omega);rcases Rat.le_iff_lt_or_eq.1 this with h' | h'
  ·exact h'
  ·have:=h0.2 h'.symm;omega
 ·intro h;have:=h1.2 (Rat.le_of_lt h);have h2:q.num≠0:=fun e=>by rw[h0]at e;rw[e]at h;exact Rat.lt_irrefl h
  omega
@[simp] theorem Lx{q:Rat}:Cj q<0↔q<0:=by unfold Cj;rw[Int.sign_neg_iff,za]
@[simp] theorem LP{q:Rat}:0<Cj q↔0<q:=by unfold Cj;rw[Int.sign_pos_iff,En]
@[simp] theorem ZQ{q:Rat}:Cj q=0↔q=0:=by unfold Cj;rw[Int.sign_eq_zero_iff_zero,Rat.num_eq_zero]
def Wd(k:Nat)(w:List Rat):Prop:=∀i,i<w.length→qw k (gt w i)
theorem bt(k:Nat)(h:1≤k):qw k 0:=by
 have:=CV (k:=k) (x:=0) (ug k) h;simpa using this
theorem B6{n:Int}(h : -4294967296<n)(h':n<4294967296):qw 1 (n:Rat):=CV (gZ (by omega) (by omega)) (by omega)
/-! errors by number -/
def EL(c:Nat):SV:=if c=0 then .val .nilIface else .fp eM (gs (c - 1))
theorem Mn:EL 0=.val .nilIface:=rfl
theorem My:EL 2=.fp eM 1:=rfl
theorem GP:EL 4=.fp eM 0:=rfl
theorem V4:EL 7=.fp eM 2:=rfl
@[simp] theorem Xg(c:Nat):(EL c).pure=true:=by unfold EL;split<;>rfl
end Go.Ut
namespace Go.Proofs
open Go.Sv Go Go.Tb Go.Pl Go.Ut
theorem tJ(x y:Rat)(hx:dE x)(hy:dE y):aI Tryz.prog 60 [aY x,aY y] (.val (.int .i64 (tI x y))):=J7 x y hx hy
theorem LH(x y:Rat)(hx:dE x)(hy:dE y):aI Tryz.prog 24 [cC x,cC y] (.val (.int .i64 (tI x y))):=LJ x y hx hy
theorem o7(q:Rat):aI Tryz.prog 59 [aY q] (.val (.int .i64 (Cj q))):=I8 q
theorem aeF(q:Rat):aI Tryz.prog 31 [cC q] (.val (.int .i64 (Cj q))):=HF q
theorem WM:aI Tryz.prog 85 [.val (.int .i64 0)] (cC 0):=LO 0 (by omega) (by omega)
end Go.Proofs
namespace Go.Li
open Go Go.Sv Go.Pl Go.Proofs Go.Tb Go.Ut
@[simp] theorem Zg{M:aJ}{x:SV}(h:isP x):Sv.Sub M x x=True:=eq_true (eh M x h)
structure Bo where
 has:Bool
 at':Rat
instance:Inhabited Bo:=⟨⟨false,0⟩⟩
structure df where
 name:ByteArray
 whole:Bool
 low:Bo
 high:Bo
 cost:Rat
instance:Inhabited df:=⟨⟨.empty,false,default,default,0⟩⟩
structure Term where
 aq:Int
 num:Rat
instance:Inhabited Term:=⟨⟨0,0⟩⟩
structure Row where
 name:ByteArray
 ab:List Term
 low:Bo
 high:Bo
instance:Inhabited Row:=⟨⟨.empty,[],default,default⟩⟩
structure aO where
 max:Bool
 shift:Rat
 aa:List df
 rows:List Row
structure jc where
 name:ByteArray
 whole:Bool
 low:ByteArray
 high:ByteArray
 cost:ByteArray
instance:Inhabited jc:=⟨⟨.empty,false,.empty,.empty,.empty⟩⟩
structure ia where
 name:ByteArray
 low:ByteArray
 high:ByteArray
 aa:List Int
 cN:List ByteArray
instance:Inhabited ia:=⟨⟨.empty,.empty,.empty,[],[]⟩⟩
structure cR where
 max:Bool
 shift:ByteArray
 aa:List jc
 rows:List ia
def qb(b:Bo):SV:=.agg [.val (.bool (decide (b.at'.num<0))),.ro ((bB 10000 b.at'.num.natAbs).map i64),.val (.bool false),.ro (if b.has=true then(bB 10000 b.at'.den).map i64 else[])]
theorem C5{b:Bo}(h:b.has=true):qb b=cC b.at':=by unfold qb;rw[if_pos h];rfl
theorem acu(q:Rat):qb ⟨true,q⟩=cC q:=rfl
theorem Kk:qb ⟨false,0⟩=kH:=by simp[qb,kH,bf]
@[simp] theorem aga(b:Bo):(qb b).fj=4:=rfl
@[simp] theorem UK(b:Bo):(qb b).aM=false:=rfl
@[simp] theorem VW(b:Bo):(qb b).isAgg=true:=rfl
@[simp] theorem aac(b:Bo):(qb b).pure=true:=rfl
@[simp] theorem ahs(n:Nat)(b:Bo):(qb b).lt n=true:=rfl
@[simp] theorem abg(n:Nat)(b:Bo):(qb b).bC n=false:=rfl
@[simp] theorem XP(b:Bo):SV.ba (qb b).cells=true:=rfl
@[simp] theorem Xj(b:Bo)(k:Nat):SV.aX k (qb b).cells=false:=rfl
@[simp] theorem agV(b:Bo)(k:Nat):SV.lS k (qb b).cells=true:=rfl
@[simp] theorem acA(b:Bo):(qb b).cells.length=4:=rfl
@[simp] theorem Qm(b:Bo)(r:List SV)(n:Nat):aoM (n+4) ((qb b).cells++r)=(qb b).cells++aoM n r:=rfl
@[simp] theorem VH(b:Bo)(r:List SV)(n:Nat):aoN (n+4) ((qb b).cells++r)=aoN n r:=rfl
def cL(b:Bo):SV:=.agg ([cU b.has]++(aY b.at').cells)
@[simp] theorem ac6(b:Bo):(cL b).fj=5:=rfl
@[simp] theorem QZ(b:Bo):(cL b).aM=false:=rfl
@[simp] theorem QU(b:Bo):(cL b).isAgg=true:=rfl
@[simp] theorem Vm(b:Bo):(cL b).pure=true:=rfl
@[simp] theorem af6(n:Nat)(b:Bo):(cL b).lt n=true:=rfl
@[simp] theorem VY(n:Nat)(b:Bo):(cL b).bC n=false:=rfl
@[simp] theorem agh(b:Bo):aA (cL b).cells 0=cU b.has:=rfl
def iz(b:Bo):SV:=.agg ([cU b.has]++(qb b).cells)
@[simp] theorem Y3(b:Bo):(iz b).fj=5:=rfl
@[simp] theorem RZ(b:Bo):(iz b).aM=false:=rfl
@[simp] theorem Qa(b:Bo):(iz b).isAgg=true:=rfl
@[simp] theorem UU(b:Bo):(iz b).pure=true:=rfl
@[simp] theorem aeh(n:Nat)(b:Bo):(iz b).lt n=true:=rfl
@[simp] theorem TG(n:Nat)(b:Bo):(iz b).bC n=false:=rfl
@[simp] theorem afW(b:Bo):aA (iz b).cells 0=cU b.has:=rfl
def pg(h:Bool)(b:Bo):SV:=.agg ([cU h]++(qb b).cells)
@[simp] theorem aaD(h:Bool)(b:Bo):(pg h b).fj=5:=rfl
@[simp] theorem P4(h:Bool)(b:Bo):(pg h b).aM=false:=rfl
@[simp] theorem Sw(h:Bool)(b:Bo):(pg h b).isAgg=true:=rfl
@[simp] theorem TC(h:Bool)(b:Bo):(pg h b).pure=true:=rfl
@[simp] theorem age(n:Nat)(h:Bool)(b:Bo):(pg h b).lt n=true:=rfl
@[simp] theorem T5(n:Nat)(h:Bool)(b:Bo):(pg h b).bC n=false:=rfl
@[simp] theorem R8(b:Bo):SV.ba (cL b).cells=true:=rfl
@[simp] theorem SJ(b:Bo)(k:Nat):SV.aX k (cL b).cells=false:=rfl
@[simp] theorem Yu(b:Bo)(k:Nat):SV.lS k (cL b).cells=true:=rfl
@[simp] theorem Xp(b:Bo):(cL b).cells.length=5:=rfl
@[simp] theorem Nl(b:Bo)(r:List SV)(n:Nat):aoM (n+5) ((cL b).cells++r)=(cL b).cells++aoM n r:=rfl
@[simp] theorem So(b:Bo)(r:List SV)(n:Nat):aoN (n+5) ((cL b).cells++r)=aoN n r:=rfl
@[simp] theorem RB(b:Bo):SV.ba (iz b).cells=true:=rfl
@[simp] theorem Rz(b:Bo)(k:Nat):SV.aX k (iz b).cells=false:=rfl
@[simp] theorem acQ(b:Bo)(k:Nat):SV.lS k (iz b).cells=true:=rfl
@[simp] theorem UL(b:Bo):(iz b).cells.length=5:=rfl
@[simp] theorem OU(b:Bo)(r:List SV)(n:Nat):aoM (n+5) ((iz b).cells++r)=(iz b).cells++aoM n r:=rfl
@[simp] theorem RO(b:Bo)(r:List SV)(n:Nat):aoN (n+5) ((iz b).cells++r)=aoN n r:=rfl
@[simp] theorem Qy(h:Bool)(b:Bo):SV.ba (pg h b).cells=true:=rfl
@[simp] theorem PW(h:Bool)(b:Bo)(k:Nat):SV.aX k (pg h b).cells=false:=rfl
@[simp] theorem Yr(h:Bool)(b:Bo)(k:Nat):SV.lS k (pg h b).cells=true:=rfl
@[simp] theorem UQ(h:Bool)(b:Bo):(pg h b).cells.length=5:=rfl
@[simp] theorem Nc(h:Bool)(b:Bo)(r:List SV)(n:Nat):aoM (n+5) ((pg h b).cells++r)=(pg h b).cells++aoM n r:=rfl
@[simp] theorem Rx(h:Bool)(b:Bo)(r:List SV)(n:Nat):aoN (n+5) ((pg h b).cells++r)=aoN n r:=rfl
theorem Pb:cL ⟨false,0⟩=.agg [.val (.bool false),.val (.bool false),.ro [],.val (.bool false),.ro []]:=by simp[cL,aY,bf]
theorem Nu:pg false ⟨false,0⟩=.agg [.val (.bool false),.val (.bool false),.ro [],.val (.bool false),.ro []]:=by simp[pg,qb,bf]
theorem Ou{h:Bool}{q:Rat}:SV.agg (.val (.bool h)::(aY q).cells)=cL ⟨h,q⟩:=rfl
theorem Oz{h:Bool}{b:Bo}:SV.agg (.val (.bool h)::(qb b).cells)=pg h b:=rfl
def aT(t:Term):SV:=.agg ([iv t.aq]++(aY t.num).cells)
@[simp] theorem Ri(t:Term):(aT t).fj=5:=rfl
@[simp] theorem Mc(t:Term):(aT t).aM=false:=rfl
@[simp] theorem ML(t:Term):(aT t).isAgg=true:=rfl
@[simp] theorem NO(t:Term):(aT t).pure=true:=rfl
@[simp] theorem Uf(n:Nat)(t:Term):(aT t).lt n=true:=rfl
@[simp] theorem Pc(n:Nat)(t:Term):(aT t).bC n=false:=rfl
@[simp] theorem Um(t:Term):aA (aT t).cells 0=iv t.aq:=rfl
theorem eu{l:List _}{i:Nat}(h:i<l.length):aA (l.map aT) i=aT (gt l i):=eZ _ h
theorem AY{c:Int}{q:Rat}:SV.agg (.val (.int .i64 c)::(aY q).cells)=aT ⟨c,q⟩:=rfl
@[simp] theorem QN(t:Term):SV.agg (aoM 4 (aT t).cells.tail)=aY t.num:=rfl
def bS(c:df):SV:=.agg ([.val (.string c.name),cU c.whole]++(cL c.low).cells++(cL c.high).cells++(aY c.cost).cells)
@[simp] theorem SR(c:df):(bS c).fj=16:=rfl
@[simp] theorem OQ(c:df):(bS c).aM=false:=rfl
@[simp] theorem N3(c:df):(bS c).isAgg=true:=rfl
@[simp] theorem PX(c:df):(bS c).pure=true:=rfl
@[simp] theorem acg(n:Nat)(c:df):(bS c).lt n=true:=rfl
@[simp] theorem Qq(n:Nat)(c:df):(bS c).bC n=false:=rfl
@[simp] theorem aaa(c:df):aA (bS c).cells 0=.val (.string c.name):=rfl
@[simp] theorem ac2(c:df):aA (bS c).cells 1=cU c.whole:=rfl
@[simp] theorem Y1(c:df):SV.agg (((bS c).cells.drop 2).take 5)=cL c.low:=rfl
@[simp] theorem ab2(c:df):SV.agg (((bS c).cells.drop 7).take 5)=cL c.high:=rfl
@[simp] theorem UT(c:df):SV.agg (((bS c).cells.drop 12).take 4)=aY c.cost:=rfl
theorem cX{l:List _}{i:Nat}(h:i<l.length):aA (l.map bS) i=bS (gt l i):=eZ _ h
theorem Lm{n:ByteArray}{w:Bool}{l h:Bo}{q:Rat}:SV.agg (.val (.string n)::.val (.bool w)::((cL l).cells++((cL h).cells++(aY q).cells)))=bS ⟨n,w,l,h,q⟩:=rfl
def cB(c:df):SV:=.agg ([.val (.string c.name),cU c.whole]++(iz c.low).cells++(iz c.high).cells++(cC c.cost).cells)
@[simp] theorem Tr(c:df):(cB c).fj=16:=rfl
@[simp] theorem O1(c:df):(cB c).aM=false:=rfl
@[simp] theorem Od(c:df):(cB c).isAgg=true:=rfl
@[simp] theorem Qe(c:df):(cB c).pure=true:=rfl
@[simp] theorem ac3(n:Nat)(c:df):(cB c).lt n=true:=rfl
@[simp] theorem QG(n:Nat)(c:df):(cB c).bC n=false:=rfl
@[simp] theorem aaH(c:df):aA (cB c).cells 0=.val (.string c.name):=rfl
@[simp] theorem abO(c:df):aA (cB c).cells 1=cU c.whole:=rfl
@[simp] theorem Zr(c:df):SV.agg (((cB c).cells.drop 2).take 5)=iz c.low:=rfl
@[simp] theorem Z0(c:df):SV.agg (((cB c).cells.drop 7).take 5)=iz c.high:=rfl
@[simp] theorem VO(c:df):SV.agg (((cB c).cells.drop 12).take 4)=cC c.cost:=rfl
theorem oW{l:List _}{i:Nat}(h:i<l.length):aA (l.map cB) i=cB (gt l i):=eZ _ h
def bE(r:Row):SV:=.agg ([.val (.string r.name),.ro (r.ab.map aT)]++(cL r.low).cells++(cL r.high).cells)
@[simp] theorem UP(r:Row):(bE r).fj=12:=rfl
@[simp] theorem Nf(r:Row):(bE r).aM=false:=rfl
@[simp] theorem N8(r:Row):(bE r).isAgg=true:=rfl
@[simp] theorem RV(r:Row):(bE r).pure=true:=rfl
@[simp] theorem abH(n:Nat)(r:Row):(bE r).lt n=true:=rfl
@[simp] theorem Q5(n:Nat)(r:Row):(bE r).bC n=false:=rfl
@[simp] theorem YZ(r:Row):aA (bE r).cells 0=.val (.string r.name):=rfl
@[simp] theorem aaV(r:Row):aA (bE r).cells 1=.ro (r.ab.map aT):=rfl
@[simp] theorem aaK(r:Row):SV.agg (((bE r).cells.drop 2).take 5)=cL r.low:=rfl
@[simp] theorem aaG(r:Row):SV.agg (((bE r).cells.drop 7).take 5)=cL r.high:=rfl
theorem dX{l:List _}{i:Nat}(h:i<l.length):aA (l.map bE) i=bE (gt l i):=eZ _ h
def dW(r:Row):SV:=.agg ([.val (.string r.name),.ro (r.ab.map fun t=>iv t.aq),.ro (r.ab.map fun t=>cC t.num)]++(iz r.low).cells++(iz r.high).cells)
@[simp] theorem UE(r:Row):(dW r).fj=13:=rfl
@[simp] theorem Pu(r:Row):(dW r).aM=false:=rfl
@[simp] theorem Og(r:Row):(dW r).isAgg=true:=rfl
@[simp] theorem R6(r:Row):(dW r).pure=true:=rfl
@[simp] theorem abV(n:Nat)(r:Row):(dW r).lt n=true:=rfl
@[simp] theorem SL(n:Nat)(r:Row):(dW r).bC n=false:=rfl
@[simp] theorem aaq(r:Row):aA (dW r).cells 0=.val (.string r.name):=rfl
@[simp] theorem ab3(r:Row):aA (dW r).cells 1=.ro (r.ab.map fun t=>iv t.aq):=rfl
@[simp] theorem ade(r:Row):aA (dW r).cells 2=.ro (r.ab.map fun t=>cC t.num):=rfl
@[simp] theorem acW(r:Row):SV.agg (((dW r).cells.drop 3).take 5)=iz r.low:=rfl
@[simp] theorem ZW(r:Row):SV.agg (((dW r).cells.drop 8).take 5)=iz r.high:=rfl
theorem j3{l:List _}{i:Nat}(h:i<l.length):aA (l.map dW) i=dW (gt l i):=eZ _ h
def cz(p:aO):SV:=.agg ([cU p.max]++(aY p.shift).cells++[.ro (p.aa.map bS),.ro (p.rows.map bE)])
@[simp] theorem Rk(p:aO):(cz p).fj=7:=rfl
@[simp] theorem MG(p:aO):(cz p).aM=false:=rfl
@[simp] theorem MP(p:aO):(cz p).isAgg=true:=rfl
@[simp] theorem N0(n:Nat)(p:aO):(cz p).bC n=false:=rfl
@[simp] theorem V6(p:aO):aA (cz p).cells 0=cU p.max:=rfl
@[simp] theorem SZ(p:aO):aA (cz p).cells 5=.ro (p.aa.map bS):=rfl
@[simp] theorem Xx(p:aO):aA (cz p).cells 6=.ro (p.rows.map bE):=rfl
def eQ(p:aO):SV:=.agg ([cU p.max]++(cC p.shift).cells++[.ro (p.aa.map cB),.ro (p.rows.map dW)])
@[simp] theorem RQ(p:aO):(eQ p).fj=7:=rfl
@[simp] theorem Me(p:aO):(eQ p).aM=false:=rfl
@[simp] theorem MO(p:aO):(eQ p).isAgg=true:=rfl
@[simp] theorem Pd(p:aO):(eQ p).pure=true:=rfl
@[simp] theorem VQ(n:Nat)(p:aO):(eQ p).lt n=true:=rfl
@[simp] theorem Oy(n:Nat)(p:aO):(eQ p).bC n=false:=rfl
@[simp] theorem Ub(p:aO):(eQ p).ks=[]:=rfl
@[simp] theorem WK(p:aO):aA (eQ p).cells 0=cU p.max:=rfl
@[simp] theorem Xd(p:aO):aA (eQ p).cells 5=.ro (p.aa.map cB):=rfl
@[simp] theorem Wv(p:aO):aA (eQ p).cells 6=.ro (p.rows.map dW):=rfl
def iT(c:jc):SV:=.agg ([cZ c.name,cU c.whole,cZ c.low,cZ c.high,cZ c.cost])
@[simp] theorem WZ(c:jc):(iT c).fj=5:=rfl
@[simp] theorem OJ(c:jc):(iT c).aM=false:=rfl
@[simp] theorem Nd(c:jc):(iT c).isAgg=true:=rfl
@[simp] theorem Ry(c:jc):(iT c).pure=true:=rfl
@[simp] theorem Zh(n:Nat)(c:jc):(iT c).lt n=true:=rfl
@[simp] theorem Ql(n:Nat)(c:jc):(iT c).bC n=false:=rfl
@[simp] theorem Z5(c:jc):aA (iT c).cells 0=cZ c.name:=rfl
@[simp] theorem aaA(c:jc):aA (iT c).cells 1=cU c.whole:=rfl
@[simp] theorem aat(c:jc):aA (iT c).cells 2=cZ c.low:=rfl
@[simp] theorem abZ(c:jc):aA (iT c).cells 3=cZ c.high:=rfl
@[simp] theorem Yz(c:jc):aA (iT c).cells 4=cZ c.cost:=rfl
theorem oE{l:List _}{i:Nat}(h:i<l.length):aA (l.map iT) i=iT (gt l i):=eZ _ h
def ib(r:ia):SV:=.agg ([cZ r.name,cZ r.low,cZ r.high,.ro (r.aa.map iv),.ro (r.cN.map cZ)])
@[simp] theorem UZ(r:ia):(ib r).fj=5:=rfl
@[simp] theorem NI(r:ia):(ib r).aM=false:=rfl
@[simp] theorem NP(r:ia):(ib r).isAgg=true:=rfl
@[simp] theorem Sf(r:ia):(ib r).pure=true:=rfl
@[simp] theorem aaI(n:Nat)(r:ia):(ib r).lt n=true:=rfl
@[simp] theorem Q6(n:Nat)(r:ia):(ib r).bC n=false:=rfl
@[simp] theorem Z6(r:ia):aA (ib r).cells 0=cZ r.name:=rfl
@[simp] theorem YM(r:ia):aA (ib r).cells 1=cZ r.low:=rfl
@[simp] theorem ZZ(r:ia):aA (ib r).cells 2=cZ r.high:=rfl
@[simp] theorem YK(r:ia):aA (ib r).cells 3=.ro (r.aa.map iv):=rfl
@[simp] theorem acB(r:ia):aA (ib r).cells 4=.ro (r.cN.map cZ):=rfl
theorem oc{l:List _}{i:Nat}(h:i<l.length):aA (l.map ib) i=ib (gt l i):=eZ _ h
def dv(s:cR):SV:=.agg ([cU s.max,cZ s.shift,.ro (s.aa.map iT),.ro (s.rows.map ib)])
@[simp] theorem Se(s:cR):(dv s).fj=4:=rfl
@[simp] theorem MA(s:cR):(dv s).aM=false:=rfl
@[simp] theorem L2(s:cR):(dv s).isAgg=true:=rfl
@[simp] theorem NG(s:cR):(dv s).pure=true:=rfl
@[simp] theorem U4(n:Nat)(s:cR):(dv s).lt n=true:=rfl
@[simp] theorem Oo(n:Nat)(s:cR):(dv s).bC n=false:=rfl
@[simp] theorem Ti(s:cR):aA (dv s).cells 0=cU s.max:=rfl
@[simp] theorem Vz(s:cR):aA (dv s).cells 1=cZ s.shift:=rfl
@[simp] theorem Vh(s:cR):aA (dv s).cells 2=.ro (s.aa.map iT):=rfl
@[simp] theorem Uw(s:cR):aA (dv s).cells 3=.ro (s.rows.map ib):=rfl
@[simp] theorem Zp(q:Rat)(r:List SV)(n:Nat):aA ((aY q).cells++r) (n+4)=aA r n:=rfl
@[simp] theorem YQ(q:Rat)(r:List SV)(n:Nat)(x:SV):bD ((aY q).cells++r) (n+4) x=(aY q).cells++bD r n x:=rfl
@[simp] theorem UN(q:Bo)(r:List SV)(n:Nat):aA ((qb q).cells++r) (n+4)=aA r n:=rfl
@[simp] theorem SX(q:Bo)(r:List SV)(n:Nat)(x:SV):bD ((qb q).cells++r) (n+4) x=(qb q).cells++bD r n x:=rfl
theorem Iq{α:Type}(k i:Nat)(f:α→SV)(l:List α):SV.aX k ((l.map f).take i)=(l.take i).any fun x=>(f x).bC k:=by
 rw[←an3,oO]
theorem Hm{α:Type}(i:Nat)(f:α→SV)(l:List α):SV.ba ((l.map f).take i)=(l.take i).all fun x=>(f x).pure:=by
 rw[←an3,yp]
theorem OD{α:Type}(k i:Nat)(f:α→SV)(l:List α):SV.lS k ((l.map f).take i)=(l.take i).all fun x=>(f x).lt k:=by
 rw[←an3,Ew]
attribute [simp] oO Iq Hm OD
@[simp] theorem aeL(q:Rat)(k:Nat):(aY q).cells.map (fun y=>if SV.bC k y=true then SV.any else y)=(aY q).cells:=rfl
@[simp] theorem acZ(q:Bo)(k:Nat):(qb q).cells.map (fun y=>if SV.bC k y=true then SV.any else y)=(qb q).cells:=rfl
@[simp] theorem Ta(b:Bo)(k:Nat):(cL b).cells.map (fun y=>if SV.bC k y=true then SV.any else y)=(cL b).cells:=rfl
@[simp] theorem WT(h:Bool)(b:Bo)(k:Nat):(pg h b).cells.map (fun y=>if SV.bC k y=true then SV.any else y)=(pg h b).cells:=rfl
theorem mQ{α:Type}[Inhabited α](f:α→SV){l:List α}{i:Nat}(h:i<l.length):(l.map f).take (i+1)=(l.map f).take i++[f (gt l i)]:=by
 rw[←an3,fP h];simp
/-! out of texts -/
def eC(s:ByteArray):Bool:=decide ((eH 300 s).2.1=0)
def kA(s:ByteArray):Bo:=if eC s=true then⟨true,num s⟩ else⟨false,0⟩
def iX(s:ByteArray):Bool:=decide (s=⟨#[]⟩)
def fW(s:ByteArray):Bool:=iX s||eC s
def jM(s:ByteArray):Bo:=if iX s=true then⟨false,0⟩ else⟨true,num s⟩
def Aw(s:ByteArray):Bo:=if iX s=true then⟨false,0⟩ else kA s
def oq(c:jc):Bool:=fW c.low&&fW c.high&&eC c.cost
def nL(c:jc):df:=⟨c.name,c.whole,jM c.low,jM c.high,num c.cost⟩
def fM(r:ia):List (Int × ByteArray):=r.aa.zip r.cN
def JY(r:ia):Bool:=fW r.low&&fW r.high&&(fM r).all fun z=>eC z.2
def pP(z:Int × ByteArray):Term:=⟨z.1,num z.2⟩
def rowOf(r:ia):Row:=⟨r.name,(fM r).map pP,jM r.low,jM r.high⟩
def JK(s:cR):Bool:=eC s.shift&&s.aa.all oq&&s.rows.all JY
def ch(s:cR):aO:=⟨s.max,num s.shift,s.aa.map nL,s.rows.map rowOf⟩
theorem Ln{r:ia}:bE (rowOf r)=.agg (.val (.string r.name)::.ro ((fM r).map fun z=>aT (pP z))::((cL (jM r.low)).cells++(cL (jM r.high)).cells)):=by
 unfold bE rowOf;rw[aoO];rfl
theorem HG{s:cR}:cz (ch s)=.agg (.val (.bool s.max)::((aY (num s.shift)).cells++[.ro (s.aa.map fun c=>bS (nL c)),.ro (s.rows.map fun r=>bE (rowOf r))])):=by
 unfold cz ch;rw[aoO,aoO];rfl
def tS(c:jc):SV:=.agg ([.val (.string c.name),cU c.whole]++(pg (!iX c.low) (Aw c.low)).cells++(pg (!iX c.high) (Aw c.high)).cells++(qb (kA c.cost)).cells)
@[simp] theorem QY(c:jc):(tS c).pure=true:=rfl
@[simp] theorem aaJ(n:Nat)(c:jc):(tS c).lt n=true:=rfl
@[simp] theorem QH(n:Nat)(c:jc):(tS c).bC n=false:=rfl
theorem J5{n:ByteArray}{w:Bool}{l h q:ByteArray}:SV.agg (.val (.string n)::.val (.bool w)::((pg (!iX l) (Aw l)).cells++((pg (!iX h) (Aw h)).cells++(qb (kA q)).cells)))=tS ⟨n,w,l,h,q⟩:=rfl
def vt(r:ia):SV:=.agg ([.val (.string r.name),.ro ((fM r).map fun z=>iv z.1),.ro ((fM r).map fun z=>qb (kA z.2))]++(pg (!iX r.low) (Aw r.low)).cells++(pg (!iX r.high) (Aw r.high)).cells)
@[simp] theorem P3(r:ia):(vt r).pure=true:=rfl
@[simp] theorem abU(n:Nat)(r:ia):(vt r).lt n=true:=rfl
@[simp] theorem Rh(n:Nat)(r:ia):(vt r).bC n=false:=rfl
def nC(s:cR):SV:=.agg ([cU s.max]++(qb (kA s.shift)).cells++[.ro (s.aa.map tS),.ro (s.rows.map vt)])
@[simp] theorem P8(s:cR):(nC s).fj=7:=rfl
@[simp] theorem MH(s:cR):(nC s).aM=false:=rfl
@[simp] theorem MT(s:cR):(nC s).isAgg=true:=rfl
@[simp] theorem PC(s:cR):(nC s).pure=true:=rfl
@[simp] theorem UA(n:Nat)(s:cR):(nC s).lt n=true:=rfl
theorem HY{s:cR}:nC s=.agg (.val (.bool s.max)::((qb (kA s.shift)).cells++[.ro (s.aa.map tS),.ro (s.rows.map vt)])):=rfl
theorem KO{r:ia}:vt r=.agg (.val (.string r.name)::.ro ((fM r).map fun z=>.val (.int .i64 z.1))::.ro ((fM r).map fun z=>qb (kA z.2))::((pg (!iX r.low) (Aw r.low)).cells++(pg (!iX r.high) (Aw r.high)).cells)):=rfl
theorem zw{s:ByteArray}(h:eC s=true):qb (kA s)=cC (num s):=by unfold kA;rw[if_pos h];rfl
theorem y3{s:ByteArray}(h:fW s=true):pg (!iX s) (Aw s)=iz (jM s):=by
 unfold Aw jM;by_cases h0:iX s=true
 ·rw[if_pos h0,if_pos h0,h0];rfl
 ·rw[if_neg h0,if_neg h0];have h1:eC s=true:=by
   unfold fW at h;have h0':iX s=false:=by simpa using h0
   rw[h0']at h;simpa using h
  have h0':iX s=false:=by simpa using h0
  rw[h0'];unfold kA;rw[if_pos h1];rfl
theorem Ll{c:jc}(h:oq c=true):tS c=cB (nL c):=by
 unfold oq at h;simp only[amS]at h;unfold tS cB nL;rw[y3 h.1.1,y3 h.1.2,zw h.2]
theorem LF{r:ia}(h:JY r=true):vt r=dW (rowOf r):=by
 unfold JY at h;simp only[amS]at h;unfold vt dW rowOf;rw[y3 h.1.1,y3 h.1.2];have e1:(fM r).map (fun z=>iv z.1)=((fM r).map pP).map fun t=>iv t.aq:=by rw[aoO];rfl
 have e2:(fM r).map (fun z=>qb (kA z.2))=((fM r).map pP).map fun t=>cC t.num:=by
  rw[aoO];refine aoP fun z hz=>?_;have:=am1.1 h.2 z hz;rw[zw this];rfl
 rw[e1,e2]
theorem BU{s:cR}(h:JK s=true):nC s=eQ (ch s):=by
 unfold JK at h;simp only[amS]at h;unfold nC eQ ch;have e1:s.aa.map tS=(s.aa.map nL).map cB:=by
  rw[aoO];exact aoP fun c hc=>Ll (am1.1 h.1.2 c hc)
 have e2:s.rows.map vt=(s.rows.map rowOf).map dW:=by
  rw[aoO];exact aoP fun c hc=>LF (am1.1 h.2 c hc)
 rw[e1,e2,zw h.1.1]
structure SmC(c:jc):Prop where
 name:c.name.size≤1048576
 low:c.low.size≤1048576
 high:c.high.size≤1048576
 cost:c.cost.size≤1048576
structure SmR(r:ia):Prop where
 name:r.name.size≤1048576
 low:r.low.size≤1048576
 high:r.high.size≤1048576
 aa:r.aa.length≤1048576
 cN:JM r.cN
structure JT(s:cR):Prop where
 shift:s.shift.size≤1048576
 nc:s.aa.length≤1048576
 nr:s.rows.length≤1048576
 aa:∀i,i<s.aa.length→SmC (gt s.aa i)
 rows:∀i,i<s.rows.length→SmR (gt s.rows i)
/-! taking one more -/
theorem map_take{α:Type}[Inhabited α](f:α→SV){l:List α}{i:Nat}(h:i<l.length):(l.take (i+1)).map f=(l.take i).map f++[f (gt l i)]:=by
 rw[fP h];simp
theorem ku{α:Type}[Inhabited α](f:α→Bool){l:List α}{i:Nat}(h:i<l.length):(l.take (i+1)).all f=((l.take i).all f&&f (gt l i)):=by
 rw[fP h];simp
theorem nQ(r:ia):(fM r).length=min r.aa.length r.cN.length:=by simp[fM]
theorem zX{r:ia}{i:Nat}(h:i<(fM r).length):gt (fM r) i=(gt r.aa i,gt r.cN i):=by
 rw[nQ]at h;have h1:i<r.aa.length:=by omega
 have h2:i<r.cN.length:=by omega
 rw[←bR (by rw[nQ];exact h),←bR h1,←bR h2];simp[fM]
end Go.Li
namespace Go.Proofs
open Go.Sv Go Go.Tb Go.Pl Go.Ut Go.Li
def Ag(s:ByteArray):SV:=.agg [.val (.int .i64 ((eH 300 s).2.1:Nat)),.val (.int .i64 (if eC s=true then -1 else((eH 300 s).2.2:Nat)))]
@[simp] theorem VK(s:ByteArray):(Ag s).pure=true:=rfl
@[simp] theorem Td(s:ByteArray)(k:Nat):(Ag s).bC k=false:=rfl
@[simp] theorem ad6(s:ByteArray)(k:Nat):(Ag s).lt k=true:=rfl
theorem H7(s:ByteArray)(h:s.size≤1048576):aI Tryz.prog 50 [.val (.string s)] (.bG [qb (kA s),Ag s]):=by
 by_cases hq:(eH 300 s).2.1=0
 ·have:=El s (by omega) hq;have hk:eC s=true:=decide_eq_true hq
  rwa [show(SV.bG [cC (num s),eS 0 (-1)])=.bG [qb (kA s),Ag s] by rw[zw hk];simp[Ag,hk,hq,eS]]at this
 ·have:=r9 s (by omega);have hk:eC s=false:=decide_eq_false hq
  rwa [show iu (eH 300 s)=.bG [qb (kA s),Ag s] by simp[iu,hq,kA,hk,Kk,Ag,eS]]at this
theorem l6(s:ByteArray)(h:s.size≤1048576):aI Tryz.prog 86 [.val (.string s),.val (.bool false)] (.bG [qb (kA s),Ag s]):=by
 refine aj Tryz.func86 rfl (by simp) (fun C hC=>?_);simp;refine alT (H7 s h) ?_;simp[Ag]
theorem oS(s:ByteArray)(h:s.size≤1048576):aI Tryz.prog 87 [.val (.string s),.val (.bool false)] (.bG [pg (!iX s) (Aw s),.val (.bool (fW s))]):=by
 refine aj Tryz.func87 rfl (by simp) (fun C hC=>?_);simp;by_cases h0:iX s=true
 ·have e:s=⟨#[]⟩:=of_decide_eq_true h0;simp[fW,Aw,h0,e,iX,Nu]
 ·have h0':iX s=false:=by simpa using h0
  have e:¬s=⟨#[]⟩:=of_decide_eq_false h0';simp[e];refine alT (l6 s h) ?_;simp[Ag];refine ae.alS (.qs [0,1,2]<|.q 3 [0]<|.qs [4]<|.l 5 [0]<|.qs [6]<|.nil) ?_;simp[fW,Aw,h0',Oz,eC]
end Go.Proofs


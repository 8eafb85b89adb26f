/- A text of the prover's own. -/
import Derived.Test.YtmghjkkjaolpgaaGreatDoorWQo
import Derived.Test.YtmghjkkjaolpgaaGreatDoorWVe
import Derived.Test.YtmghjkkjaolpgaaGreatDoorWEs
open List renaming getD_eq_getElem?_getD→ant,getElem?_eq_getElem→akZ,map_take→amU,take_of_length_le→amv,take→anI,drop→anJ,replicate→akQ,map_map→anK,map_congr_left→anL,all_eq_true→alU
open Bool renaming and_eq_true→alL
set_option maxRecDepth 10000
namespace Go.Tb
open Go Go.Sv Go.Pl Go.Proofs
def dt(s:ByteArray):SV:=.val (.string s)
@[simp] theorem S0(s:ByteArray):dt s=.val (.string s):=rfl
def tsv(l:List ByteArray):SV:=.ro (l.map dt)
@[simp] theorem XO(l:List ByteArray):tsv l=.ro (l.map dt):=rfl
def Sy(l:List Rat):SV:=.ro (l.map bL)
@[simp] theorem Xk(l:List Rat):Sy l=.ro (l.map bL):=rfl
def XZ(l:List Rat):SV:=.ro (l.map bs)
@[simp] theorem Y7(l:List Rat):XZ l=.ro (l.map bs):=rfl
def gt{α:Type}[Inhabited α](l:List α)(i:Nat):α:=l.getD i default
theorem dM{α:Type}[Inhabited α](f:α→SV){l:List α}{i:Nat}(h:i<l.length):aB (l.map f) i=f (gt l i):=by
 rw[y5 (by simpa using h)];simp[gt,h]
theorem lZ{l:List ByteArray}{i:Nat}(h:i<l.length):aB (l.map dt) i=dt (gt l i):=dM _ h
theorem Se{l:List (List ByteArray)}{i:Nat}(h:i<l.length):aB (l.map tsv) i=tsv (gt l i):=dM _ h
theorem NW{l:List Rat}{i:Nat}(h:i<l.length):aB (l.map bL) i=bL (gt l i):=dM _ h
theorem adA{l:List Rat}{i:Nat}(h:i<l.length):aB (l.map bs) i=bs (gt l i):=dM _ h
theorem RM{l:List (List Rat)}{i:Nat}(h:i<l.length):aB (l.map Sy) i=Sy (gt l i):=dM _ h
theorem SP{l:List (List Rat)}{i:Nat}(h:i<l.length):aB (l.map XZ) i=XZ (gt l i):=dM _ h
theorem jz{α:Type}[Inhabited α]{l:List α}{i:Nat}(h:i<l.length):gt l i∈l:=by
 simp only[gt,ant,akZ h,Option.getD_some];exact List.getElem_mem h
theorem fJ{α:Type}[Inhabited α]{l:List α}{i:Nat}(h:i<l.length):l.take (i+1)=l.take i++[gt l i]:=by
 rw[List.take_succ_eq_append_getElem h];simp[gt,h]
@[simp] theorem agp(l:List Rat):r6 4 (l.map bL)=True:=by cases l<;>simp[r6]
@[simp] theorem agP(l:List Rat):r6 4 (l.map bs)=True:=by cases l<;>simp[r6]
@[simp] theorem abz(l:List (List Rat)):r6 1 (l.map Sy)=True:=by cases l<;>simp[r6]
theorem rh{k:Nat}{es:List SV}:∀{l r:List SV},j8 k es (l++r)=j8 k es l++j8 k es r
 | [],r=>rfl
 | x::l,r=>by simp[rh]
def num(s:ByteArray):Rat:=(fE 300 s).1
def okN(l:List ByteArray):Bool:=l.all fun s=>decide ((fE 300 s).2.1=0)
def okT(t:List (List ByteArray)):Bool:=t.all okN
def eY(l:List ByteArray):List Rat:=l.map num
def Kw(t:List (List ByteArray)):List (List Rat):=t.map eY
@[simp] theorem V3(l:List ByteArray):(eY l).length=l.length:=by simp[eY]
@[simp] theorem SM(l:List (List ByteArray)):(Kw l).length=l.length:=by simp[Kw]
def agK(l:List ByteArray):SV:=if okN l then .bO [.ro ((eY l).map bL),.val (.bool true)] else .bO [.ro [],.val (.bool false)]
def agN(l:List ByteArray):SV:=if okN l then .bO [.ro ((eY l).map bs),.val (.bool true)] else .bO [.ro [],.val (.bool false)]
def ahg(t:List (List ByteArray)):SV:=if okT t then .bO [.ro ((Kw t).map Sy),.val (.bool true)] else .bO [.ro [],.val (.bool false)]
def agn(t:List (List ByteArray)):SV:=if okT t then .bO [.ro ((Kw t).map XZ),.val (.bool true)] else .bO [.ro [],.val (.bool false)]
structure Py(l:List ByteArray):Prop where
 n:l.length≤1048576
 s:∀s∈l,s.size≤1048576
structure SmT(t:List (List ByteArray)):Prop where
 n:t.length≤1048576
 s:∀l∈t,Py l
theorem Kx{q:Nat→Prop}{i:Nat}(h:∀k,k<i→q k)(h':q i):∀k,k<i+1→q k:=fun k hk=>by
 rcases Nat.lt_or_ge k i with g | g
 ·exact h k g
 ·obtain rfl:k=i:=by omega
  exact h'
end Go.Tb
namespace Go.Proofs
open Go.Sv Go Go.Tb Go.Pl
theorem JS(s:ByteArray)(hs:s.size≤4611686018427387904)(hq:(fE 300 s).2.1=0):aF Tryz.prog 50 [.val (.string s)] (.bO [bL (num s),fH 0 (-1)]):=by
 have:=xf s hs
 rwa [show jt (fE 300 s)=.bO [bL (num s),fH 0 (-1)] by simp[jt,hq,num]]at this
end Go.Proofs
namespace Go.Proofs
open Go.Sv Go Go.Tb Go.Pl
theorem Cw(s:ByteArray)(hs:s.size≤4611686018427387904):aF Tryz.prog 43 [.val (.string s)] (.bO [bs (num s),.val (.bool (decide ((fE 300 s).2.1=0)))]):=by
 refine aj Tryz.func43 rfl (by simp) (fun C hC=>?_);simp;refine akK (F3 s hs) ?_;simp[wO];refine aa.akJ (.qs [0,1,2]<|.l 3 [0]<|.qs [4]<|.nil) ?_;rw[show(fE 300 s).1=num s from rfl];by_cases hq:(fE 300 s).2.1=0
 ·simp[hq,kN]
 ·simp[hq,kN]
end Go.Proofs
namespace Go.Tb
open Go Go.Sv Go.Pl Go.Proofs
def wide{α:Type}(a:List (List α)):Nat:=(gt a 0).length
theorem Td{α:Type}(a:List (List α)):wide a=(gt a 0).length:=rfl
def agl{α:Type}(a:List (List α)):Bool:=decide (a.length≤40)&&a.all fun r=>decide (r.length=wide a∧r.length≤40)
end Go.Tb
namespace Go.Proofs
open Go.Sv Go Go.Tb Go.Pl
end Go.Proofs
namespace Go.Tb
open Go Go.Sv Go.Pl Go.Proofs
def wT(l:List Rat):List ByteArray:=l.map jY
def agc(a:List (List Rat)):List (List ByteArray):=a.map wT
@[simp] theorem R6(l:List Rat):(wT l).length=l.length:=by simp[wT]
theorem E4{l:List Rat}{i:Nat}(h:i<l.length):(wT l).take (i+1)=(wT l).take i++[jY (gt l i)]:=by
 unfold wT;rw[←amU,←amU,fJ h];simp
structure OKl(l:List Rat):Prop where
 n:l.length≤1048576
 q:∀q∈l,bQ q
structure OKa(a:List (List Rat)):Prop where
 n:a.length≤1048576
 r:∀r∈a,OKl r
end Go.Tb
namespace Go.Proofs
open Go.Sv Go Go.Tb Go.Pl
theorem Hb(l:List Rat)(h:OKl l):aF Tryz.prog 76 [.ro (l.map bL)] (.ro ((wT l).map dt)):=by
 have hl:=h.n;refine aj Tryz.func76 rfl (by simp) (fun C hC=>?_);simp;refine aa.nil 3 1 rfl ?_;refine aa.bG (ι:=Nat × List ByteArray) (fun⟨i,xs⟩=>⟨22,[(0,.ro (l.map bL)),(3,.view 0 0 xs.length),(4,.val (.int .i64 i))],[some ⟨1,xs.map dt,false⟩]⟩)
  (fun⟨i,xs⟩=>i≤l.length∧xs=(wT l).take i) (fun⟨i,xs⟩=>l.length - i) (0,[]) ?_ ?_ ?_
 ·simp
 ·simp[aw,hC]
 ·rintro⟨i,xs⟩ ⟨hi,hx⟩;have hxl:xs.length=i:=by rw[hx];simp;omega
  by_cases az:i<l.length
  ·have hx':=E4 az;rw[←hx]at hx';have hq:=h.q _ (jz az);simp(disch:=omega)[az,NW];refine akK (l8 (gt l i) hq) ?_;simp(disch:=omega)[aN];exact⟨⟨by simp[hC],by omega⟩,i+1,xs++[jY (gt l i)],⟨by omega,hx'.symm⟩,by omega,Le.bA (by simp[aw,hC])⟩
  ·obtain rfl:i=l.length:=by omega
   rw[amv (by simp)]at hx;simp[hx,amv]
end Go.Proofs
namespace Go.Tb
open Go Go.Sv Go.Pl Go.Proofs
structure I6(t:List (List ByteArray)):Prop where
 n:t.length≤6
 r:∀i,i<t.length→(gt t i).length≤6∧∀k,k<(gt t i).length→(gt (gt t i) k).size≤30
end Go.Tb
namespace Go.Proofs
open Go.Sv Go Go.Tb Go.Pl
def acn(a:List (List Rat)):Bool:=a.all fun r=>decide (r.length=wide a)
def ack(a:List (List Rat)):SV :=
 if a=[] then .bO [.val (.int .i64 0),.val (.bool true)]
 else if acn a then .bO [.val (.int .i64 (wide a:Nat)),.val (.bool (decide (a.length≤40∧wide a≤40)))]
 else .bO [.val (.int .i64 0),.val (.bool false)]
end Go.Proofs
namespace Go.Sv
open Go
theorem BV{P:Program}{C:Ctx}{f:FuncId}{args:List SV}{M:aJ}{K:aJ→List Nat→SV→Prop}(k:Nat){e:cx}(hk:ax M k=some e)(hp:SV.bf e.es=true)
  (h:cU P C f (j8 k e.es args) (FC k e.es (aK M k (some ⟨e.sz,e.es,true⟩))) none K):cU P C f args M none K:=by
 intro β H w vals hd hW;obtain⟨H1,h1,h2⟩:=hW.freeze (aM hk) hp;rw[←eh]at h2;have hk':ax (aK M k (some ⟨e.sz,e.es,true⟩)) k=some ⟨e.sz,e.es,true⟩:=by
  rw[oq _ _ _ _ ⟨e,hk⟩,if_pos rfl]
 have hd1:=nL (e:=⟨e.sz,e.es,true⟩) h2 hk' rfl (bF.mono h1 _ _ (fun _ _ _ h=>h) hd);refine Calls.mono (h β H1 w vals hd1 (h2.sb (e:=⟨e.sz,e.es,true⟩) hk' rfl)) ?_;rintro e w' ⟨β',H',M',v,x,ks,rfl,g1,g2,g3,g4,g5,g6,g7⟩;exact⟨β',H',M',v,x,ks,rfl,g1,g2,g3,fun b cs hb=>g4 b cs (h1 b cs hb),g5,g6,fun ks h=>by cases h⟩
end Go.Sv
namespace Go.Ut
open Go Go.Sv Go.Pl Go.Proofs Go.Tb
@[simp] theorem UP{M:aJ}{x:SV}(h:x.pure=true):Sv.Sub M x x=True:=eq_true (cW M x h)
/-! numbers of the program and of the document -/
@[simp] theorem aeE(q:Rat):(bs q).cells.length=4:=rfl
@[simp] theorem aeF(q:Rat):(bL q).cells.length=4:=rfl
@[simp] theorem Tv(q:Rat)(r:List SV)(n:Nat):anI (n+4) ((bs q).cells++r)=(bs q).cells++anI n r:=rfl
@[simp] theorem UT(q:Rat)(r:List SV)(n:Nat):anI (n+4) ((bL q).cells++r)=(bL q).cells++anI n r:=rfl
@[simp] theorem Yp(q:Rat)(r:List SV)(n:Nat):anJ (n+4) ((bs q).cells++r)=anJ n r:=rfl
@[simp] theorem abG(q:Rat)(r:List SV)(n:Nat):anJ (n+4) ((bL q).cells++r)=anJ n r:=rfl
@[simp] theorem XN(q:Rat):SV.bf (bs q).cells=true:=rfl
@[simp] theorem ZB(q:Rat)(k:Nat):SV.aY k (bs q).cells=false:=rfl
@[simp] theorem agO(q:Rat)(k:Nat):SV.mb k (bs q).cells=true:=rfl
@[simp] theorem W7(q:Rat):SV.bf (bL q).cells=true:=rfl
@[simp] theorem XC(q:Rat)(k:Nat):SV.aY k (bL q).cells=false:=rfl
@[simp] theorem af0(q:Rat)(k:Nat):SV.mb k (bL q).cells=true:=rfl
theorem KK:SV.agg [.val (.bool false),.ro [],.val (.bool false),.ro []]=bs 0:=by simp[bs,aZ]
theorem ee{α:Type}[Inhabited α]{l:List α}{i:Nat}(h:i<l.length):l[i]=gt l i:=by
 unfold gt;rw[ant,akZ h];rfl
theorem DX{α:Type}[Inhabited α]{l:List α}{i:Nat}(h:i<l.length):l.drop i=gt l i::l.drop (i+1):=by
 rw[List.drop_eq_getElem_cons h,ee h]
theorem jq{α β:Type}[Inhabited α][Inhabited β](f:α→β){l:List α}{i:Nat}(h:i<l.length):gt (l.map f) i=f (gt l i):=by
 simp[gt,h]
theorem gN{α:Type}[Inhabited α]{l:List α}{i j:Nat}{x:α}(h:j<l.length):gt (l.set i x) j=if i=j then x else gt l j:=by
 have h':j<(l.set i x).length:=by simpa using h
 rw[←ee h',List.getElem_set];split
 ·rfl
 ·exact ee h
theorem GQ{α:Type}[Inhabited α]{l r:List α}{j:Nat}(h:j<l.length):gt (l++r) j=gt l j:=by
 simp[gt,List.getElem?_append_left h]
theorem Jk{α:Type}[Inhabited α]{a b:List α}(hl:a.length=b.length)(h:∀i,i<a.length→gt a i=gt b i):a=b:=by
 refine List.ext_getElem hl fun i h1 h2=>?_;rw[ee h1,ee h2];exact h i h1
/-! whole numbers, truths -/
def iv(n:Int):SV:=.val (.int .i64 n)
@[simp] theorem adF(n:Int):iv n=.val (.int .i64 n):=rfl
def ilv(l:List Int):SV:=.ro (l.map iv)
@[simp] theorem XF(l:List Int):ilv l=.ro (l.map iv):=rfl
def bZ(b:Bool):SV:=.val (.bool b)
@[simp] theorem Xc(b:Bool):bZ b=.val (.bool b):=rfl
theorem k8{l:List Int}{i:Nat}(h:i<l.length):aB (l.map iv) i=iv (gt l i):=dM _ h
theorem bI{l:List Bool}{i:Nat}(h:i<l.length):aB (l.map bZ) i=bZ (gt l i):=dM _ h
/-! lists filled from the front -/
theorem Yv{n:Nat}{x:SV}:kQ (akQ n x)=akQ n (jj x):=by
 induction n with
 | zero=>rfl
 | succ n ih=>simp[List.replicate_succ,ih]
/-! how numbers compare -/
def tJ(x y:Rat):Int:=if x<y then -1 else if y<x then 1 else 0
theorem kM(x y:Rat):(x<y∧tJ x y = -1)∨(y<x∧tJ x y=1)∨(x=y∧tJ x y=0):=by
 unfold tJ;by_cases h1:x<y
 ·exact .inl ⟨h1,by rw[if_pos h1]⟩
 ·by_cases h2:y<x
  ·exact .inr (.inl ⟨h2,by rw[if_neg h1,if_pos h2]⟩)
  ·exact .inr (.inr ⟨Rat.le_antisymm (Rat.not_lt.1 h2) (Rat.not_lt.1 h1),by rw[if_neg h1,if_neg h2]⟩)
@[simp] theorem U3{x y:Rat}:tJ x y<0↔x<y:=by rcases kM x y with⟨h,e⟩ | ⟨h,e⟩ | ⟨h,e⟩<;>rw[e]<;>constructor<;>grind
@[simp] theorem Wz{x y:Rat}:0<tJ x y↔y<x:=by rcases kM x y with⟨h,e⟩ | ⟨h,e⟩ | ⟨h,e⟩<;>rw[e]<;>constructor<;>grind
@[simp] theorem Vo{x y:Rat}:tJ x y≤0↔x≤y:=by rcases kM x y with⟨h,e⟩ | ⟨h,e⟩ | ⟨h,e⟩<;>rw[e]<;>constructor<;>grind
@[simp] theorem Wm{x y:Rat}:0≤tJ x y↔y≤x:=by rcases kM x y with⟨h,e⟩ | ⟨h,e⟩ | ⟨h,e⟩<;>rw[e]<;>constructor<;>grind
@[simp] theorem Rz{x y:Rat}:tJ x y=0↔x=y:=by rcases kM x y with⟨h,e⟩ | ⟨h,e⟩ | ⟨h,e⟩<;>rw[e]<;>constructor<;>grind
def BB(q:Rat):Int:=q.num.sign
theorem yG{q:Rat}:q.num<0↔q<0:=by rw[←Int.not_le,←Rat.not_le,Rat.num_nonneg]
theorem DF{q:Rat}:0<q.num↔0<q:=by
 have h0:q.num=0↔q=0:=Rat.num_eq_zero;have h1:=Rat.num_nonneg (q:=q);constructor
 ·intro h;have:=h1.1 (by omega);rcases Rat.le_iff_lt_or_eq.1 this with h' | h'
  ·exact h'
  ·have:=h0.2 h'.symm;omega
 ·intro h;have:=h1.2 (Rat.le_of_lt h);have h2:q.num≠0:=fun e=>by rw[h0]at e;rw[e]at h;exact Rat.lt_irrefl h
  omega
@[simp] theorem KC{q:Rat}:BB q<0↔q<0:=by unfold BB;rw[Int.sign_neg_iff,yG]
@[simp] theorem KD{q:Rat}:0<BB q↔0<q:=by unfold BB;rw[Int.sign_pos_iff,DF]
@[simp] theorem YO{q:Rat}:BB q=0↔q=0:=by unfold BB;rw[Int.sign_eq_zero_iff_zero,Rat.num_eq_zero]
def Wd(k:Nat)(w:List Rat):Prop:=∀i,i<w.length→qw k (gt w i)
theorem cP(k:Nat)(h:1≤k):qw k 0:=by
 have:=Cj (k:=k) (x:=0) (tN k) h;simpa using this
theorem Am{n:Int}(h : -4294967296<n)(h':n<4294967296):qw 1 (n:Rat):=Cj (ir (by omega) (by omega)) (by omega)
/-! errors by number -/
def E0(c:Nat):SV:=if c=0 then .val .nilIface else .fc eE (gs (c - 1))
theorem LZ:E0 0=.val .nilIface:=rfl
theorem D7:E0 2=.fc eE 1:=rfl
theorem IM:E0 4=.fc eE 0:=rfl
theorem H9:E0 7=.fc eE 2:=rfl
@[simp] theorem Vd(c:Nat):(E0 c).pure=true:=by unfold E0;split<;>rfl
end Go.Ut
namespace Go.Proofs
open Go.Sv Go Go.Tb Go.Pl Go.Ut
theorem tx(x y:Rat)(hx:bQ x)(hy:bQ y):aF Tryz.prog 60 [bs x,bs y] (.val (.int .i64 (tJ x y))):=Ke x y hx hy
theorem uI(x y:Rat)(hx:bQ x)(hy:bQ y):aF Tryz.prog 24 [bL x,bL y] (.val (.int .i64 (tJ x y))):=Kr x y hx hy
theorem pd(q:Rat):aF Tryz.prog 59 [bs q] (.val (.int .i64 (BB q))):=Gl q
theorem wU(q:Rat):aF Tryz.prog 31 [bL q] (.val (.int .i64 (BB q))):=Ix q
theorem C7:aF Tryz.prog 85 [.val (.int .i64 0)] (bL 0):=DN 0 (by omega) (by omega)
end Go.Proofs
namespace Go.Li
open Go Go.Sv Go.Pl Go.Proofs Go.Tb Go.Ut
@[simp] theorem XV{M:aJ}{x:SV}(h:isP x):Sv.Sub M x x=True:=eq_true (cW M x h)
structure Bo where
 has:Bool
 at':Rat
instance:Inhabited Bo:=⟨⟨false,0⟩⟩
structure dL where
 name:ByteArray
 whole:Bool
 low:Bo
 high:Bo
 cost:Rat
instance:Inhabited dL:=⟨⟨.empty,false,default,default,0⟩⟩
structure Term where
 aI:Int
 num:Rat
instance:Inhabited Term:=⟨⟨0,0⟩⟩
structure Row where
 name:ByteArray
 ab:List Term
 low:Bo
 high:Bo
instance:Inhabited Row:=⟨⟨.empty,[],default,default⟩⟩
structure aV where
 max:Bool
 shift:Rat
 ae:List dL
 rows:List Row
structure jv where
 name:ByteArray
 whole:Bool
 low:ByteArray
 high:ByteArray
 cost:ByteArray
instance:Inhabited jv:=⟨⟨.empty,false,.empty,.empty,.empty⟩⟩
structure gY where
 name:ByteArray
 low:ByteArray
 high:ByteArray
 ae:List Int
 eY:List ByteArray
instance:Inhabited gY:=⟨⟨.empty,.empty,.empty,[],[]⟩⟩
structure cR where
 max:Bool
 shift:ByteArray
 ae:List jv
 rows:List gY
def qb(b:Bo):SV:=.agg [.val (.bool (decide (b.at'.num<0))),.ro ((bC 10000 b.at'.num.natAbs).map i64),.val (.bool false),.ro (if b.has=true then(bC 10000 b.at'.den).map i64 else[])]
theorem du{b:Bo}(h:b.has=true):qb b=bL b.at':=by unfold qb;rw[if_pos h];rfl
theorem aae(q:Rat):qb ⟨true,q⟩=bL q:=rfl
theorem Kt:qb ⟨false,0⟩=kT:=by simp[qb,kT,aZ]
@[simp] theorem acK(b:Bo):(qb b).eW=4:=rfl
@[simp] theorem Tm(b:Bo):(qb b).aO=false:=rfl
@[simp] theorem Ti(b:Bo):(qb b).isAgg=true:=rfl
@[simp] theorem Yu(b:Bo):(qb b).pure=true:=rfl
@[simp] theorem agV(n:Nat)(b:Bo):(qb b).lt n=true:=rfl
@[simp] theorem ZV(n:Nat)(b:Bo):(qb b).bD n=false:=rfl
@[simp] theorem Vw(b:Bo):SV.bf (qb b).cells=true:=rfl
@[simp] theorem Sd(b:Bo)(k:Nat):SV.aY k (qb b).cells=false:=rfl
@[simp] theorem ad2(b:Bo)(k:Nat):SV.mb k (qb b).cells=true:=rfl
@[simp] theorem abJ(b:Bo):(qb b).cells.length=4:=rfl
@[simp] theorem O2(b:Bo)(r:List SV)(n:Nat):anI (n+4) ((qb b).cells++r)=(qb b).cells++anI n r:=rfl
@[simp] theorem Va(b:Bo)(r:List SV)(n:Nat):anJ (n+4) ((qb b).cells++r)=anJ n r:=rfl
def cL(b:Bo):SV:=.agg ([bZ b.has]++(bs b.at').cells)
@[simp] theorem ZY(b:Bo):(cL b).eW=5:=rfl
@[simp] theorem QG(b:Bo):(cL b).aO=false:=rfl
@[simp] theorem PM(b:Bo):(cL b).isAgg=true:=rfl
@[simp] theorem Rx(b:Bo):(cL b).pure=true:=rfl
@[simp] theorem adK(n:Nat)(b:Bo):(cL b).lt n=true:=rfl
@[simp] theorem Te(n:Nat)(b:Bo):(cL b).bD n=false:=rfl
@[simp] theorem afb(b:Bo):aB (cL b).cells 0=bZ b.has:=rfl
def fC(b:Bo):SV:=.agg ([bZ b.has]++(qb b).cells)
@[simp] theorem abO(b:Bo):(fC b).eW=5:=rfl
@[simp] theorem Rw(b:Bo):(fC b).aO=false:=rfl
@[simp] theorem Ri(b:Bo):(fC b).isAgg=true:=rfl
@[simp] theorem Uh(b:Bo):(fC b).pure=true:=rfl
@[simp] theorem ab8(n:Nat)(b:Bo):(fC b).lt n=true:=rfl
@[simp] theorem WH(n:Nat)(b:Bo):(fC b).bD n=false:=rfl
@[simp] theorem ae1(b:Bo):aB (fC b).cells 0=bZ b.has:=rfl
def pE(h:Bool)(b:Bo):SV:=.agg ([bZ h]++(qb b).cells)
@[simp] theorem Yn(h:Bool)(b:Bo):(pE h b).eW=5:=rfl
@[simp] theorem OR(h:Bool)(b:Bo):(pE h b).aO=false:=rfl
@[simp] theorem Ot(h:Bool)(b:Bo):(pE h b).isAgg=true:=rfl
@[simp] theorem Ww(h:Bool)(b:Bo):(pE h b).pure=true:=rfl
@[simp] theorem abT(n:Nat)(h:Bool)(b:Bo):(pE h b).lt n=true:=rfl
@[simp] theorem Us(n:Nat)(h:Bool)(b:Bo):(pE h b).bD n=false:=rfl
@[simp] theorem PI(b:Bo):SV.bf (cL b).cells=true:=rfl
@[simp] theorem O3(b:Bo)(k:Nat):SV.aY k (cL b).cells=false:=rfl
@[simp] theorem XM(b:Bo)(k:Nat):SV.mb k (cL b).cells=true:=rfl
@[simp] theorem UY(b:Bo):(cL b).cells.length=5:=rfl
@[simp] theorem NG(b:Bo)(r:List SV)(n:Nat):anI (n+5) ((cL b).cells++r)=(cL b).cells++anI n r:=rfl
@[simp] theorem Qk(b:Bo)(r:List SV)(n:Nat):anJ (n+5) ((cL b).cells++r)=anJ n r:=rfl
@[simp] theorem PS(b:Bo):SV.bf (fC b).cells=true:=rfl
@[simp] theorem PK(b:Bo)(k:Nat):SV.aY k (fC b).cells=false:=rfl
@[simp] theorem abg(b:Bo)(k:Nat):SV.mb k (fC b).cells=true:=rfl
@[simp] theorem Wj(b:Bo):(fC b).cells.length=5:=rfl
@[simp] theorem Nn(b:Bo)(r:List SV)(n:Nat):anI (n+5) ((fC b).cells++r)=(fC b).cells++anI n r:=rfl
@[simp] theorem QX(b:Bo)(r:List SV)(n:Nat):anJ (n+5) ((fC b).cells++r)=anJ n r:=rfl
@[simp] theorem OG(h:Bool)(b:Bo):SV.bf (pE h b).cells=true:=rfl
@[simp] theorem OB(h:Bool)(b:Bo)(k:Nat):SV.aY k (pE h b).cells=false:=rfl
@[simp] theorem Yk(h:Bool)(b:Bo)(k:Nat):SV.mb k (pE h b).cells=true:=rfl
@[simp] theorem Vq(h:Bool)(b:Bo):(pE h b).cells.length=5:=rfl
@[simp] theorem NM(h:Bool)(b:Bo)(r:List SV)(n:Nat):anI (n+5) ((pE h b).cells++r)=(pE h b).cells++anI n r:=rfl
@[simp] theorem Oz(h:Bool)(b:Bo)(r:List SV)(n:Nat):anJ (n+5) ((pE h b).cells++r)=anJ n r:=rfl
theorem L0:cL ⟨false,0⟩=.agg [.val (.bool false),.val (.bool false),.ro [],.val (.bool false),.ro []]:=by simp[cL,bs,aZ]
theorem L2:pE false ⟨false,0⟩=.agg [.val (.bool false),.val (.bool false),.ro [],.val (.bool false),.ro []]:=by simp[pE,qb,aZ]
theorem Nz{h:Bool}{q:Rat}:SV.agg (.val (.bool h)::(bs q).cells)=cL ⟨h,q⟩:=rfl
theorem NV{h:Bool}{b:Bo}:SV.agg (.val (.bool h)::(qb b).cells)=pE h b:=rfl
def aW(t:Term):SV:=.agg ([iv t.aI]++(bs t.num).cells)
@[simp] theorem OY(t:Term):(aW t).eW=5:=rfl
@[simp] theorem La(t:Term):(aW t).aO=false:=rfl
@[simp] theorem LA(t:Term):(aW t).isAgg=true:=rfl
@[simp] theorem NJ(t:Term):(aW t).pure=true:=rfl
@[simp] theorem SK(n:Nat)(t:Term):(aW t).lt n=true:=rfl
@[simp] theorem M4(n:Nat)(t:Term):(aW t).bD n=false:=rfl
@[simp] theorem Wq(t:Term):aB (aW t).cells 0=iv t.aI:=rfl
theorem dZ{l:List _}{i:Nat}(h:i<l.length):aB (l.map aW) i=aW (gt l i):=dM _ h
theorem zI{c:Int}{q:Rat}:SV.agg (.val (.int .i64 c)::(bs q).cells)=aW ⟨c,q⟩:=rfl
@[simp] theorem Rb(t:Term):SV.agg (anI 4 (aW t).cells.tail)=bs t.num:=rfl
def bW(c:dL):SV:=.agg ([.val (.string c.name),bZ c.whole]++(cL c.low).cells++(cL c.high).cells++(bs c.cost).cells)
@[simp] theorem S6(c:dL):(bW c).eW=16:=rfl
@[simp] theorem MM(c:dL):(bW c).aO=false:=rfl
@[simp] theorem M0(c:dL):(bW c).isAgg=true:=rfl
@[simp] theorem PR(c:dL):(bW c).pure=true:=rfl
@[simp] theorem abm(n:Nat)(c:dL):(bW c).lt n=true:=rfl
@[simp] theorem PC(n:Nat)(c:dL):(bW c).bD n=false:=rfl
@[simp] theorem aaJ(c:dL):aB (bW c).cells 0=.val (.string c.name):=rfl
@[simp] theorem aaQ(c:dL):aB (bW c).cells 1=bZ c.whole:=rfl
@[simp] theorem abE(c:dL):SV.agg (((bW c).cells.drop 2).take 5)=cL c.low:=rfl
@[simp] theorem Zq(c:dL):SV.agg (((bW c).cells.drop 7).take 5)=cL c.high:=rfl
@[simp] theorem S8(c:dL):SV.agg (((bW c).cells.drop 12).take 4)=bs c.cost:=rfl
theorem cZ{l:List _}{i:Nat}(h:i<l.length):aB (l.map bW) i=bW (gt l i):=dM _ h
theorem JH{n:ByteArray}{w:Bool}{l h:Bo}{q:Rat}:SV.agg (.val (.string n)::.val (.bool w)::((cL l).cells++((cL h).cells++(bs q).cells)))=bW ⟨n,w,l,h,q⟩:=rfl
def cw(c:dL):SV:=.agg ([.val (.string c.name),bZ c.whole]++(fC c.low).cells++(fC c.high).cells++(bL c.cost).cells)
@[simp] theorem Vc(c:dL):(cw c).eW=16:=rfl
@[simp] theorem NO(c:dL):(cw c).aO=false:=rfl
@[simp] theorem N9(c:dL):(cw c).isAgg=true:=rfl
@[simp] theorem OA(c:dL):(cw c).pure=true:=rfl
@[simp] theorem aad(n:Nat)(c:dL):(cw c).lt n=true:=rfl
@[simp] theorem O8(n:Nat)(c:dL):(cw c).bD n=false:=rfl
@[simp] theorem aaI(c:dL):aB (cw c).cells 0=.val (.string c.name):=rfl
@[simp] theorem Z3(c:dL):aB (cw c).cells 1=bZ c.whole:=rfl
@[simp] theorem X9(c:dL):SV.agg (((cw c).cells.drop 2).take 5)=fC c.low:=rfl
@[simp] theorem Xa(c:dL):SV.agg (((cw c).cells.drop 7).take 5)=fC c.high:=rfl
@[simp] theorem RC(c:dL):SV.agg (((cw c).cells.drop 12).take 4)=bL c.cost:=rfl
theorem dq{l:List _}{i:Nat}(h:i<l.length):aB (l.map cw) i=cw (gt l i):=dM _ h
def bE(r:Row):SV:=.agg ([.val (.string r.name),.ro (r.ab.map aW)]++(cL r.low).cells++(cL r.high).cells)
@[simp] theorem V8(r:Row):(bE r).eW=12:=rfl
@[simp] theorem Nw(r:Row):(bE r).aO=false:=rfl
@[simp] theorem Nq(r:Row):(bE r).isAgg=true:=rfl
@[simp] theorem Rj(r:Row):(bE r).pure=true:=rfl
@[simp] theorem Xp(n:Nat)(r:Row):(bE r).lt n=true:=rfl
@[simp] theorem Qw(n:Nat)(r:Row):(bE r).bD n=false:=rfl
@[simp] theorem YI(r:Row):aB (bE r).cells 0=.val (.string r.name):=rfl
@[simp] theorem abI(r:Row):aB (bE r).cells 1=.ro (r.ab.map aW):=rfl
@[simp] theorem WY(r:Row):SV.agg (((bE r).cells.drop 2).take 5)=cL r.low:=rfl
@[simp] theorem aag(r:Row):SV.agg (((bE r).cells.drop 7).take 5)=cL r.high:=rfl
theorem dU{l:List _}{i:Nat}(h:i<l.length):aB (l.map bE) i=bE (gt l i):=dM _ h
def cQ(r:Row):SV:=.agg ([.val (.string r.name),.ro (r.ab.map fun t=>iv t.aI),.ro (r.ab.map fun t=>bL t.num)]++(fC r.low).cells++(fC r.high).cells)
@[simp] theorem SU(r:Row):(cQ r).eW=13:=rfl
@[simp] theorem MK(r:Row):(cQ r).aO=false:=rfl
@[simp] theorem NK(r:Row):(cQ r).isAgg=true:=rfl
@[simp] theorem QN(r:Row):(cQ r).pure=true:=rfl
@[simp] theorem Za(n:Nat)(r:Row):(cQ r).lt n=true:=rfl
@[simp] theorem P9(n:Nat)(r:Row):(cQ r).bD n=false:=rfl
@[simp] theorem XE(r:Row):aB (cQ r).cells 0=.val (.string r.name):=rfl
@[simp] theorem Yg(r:Row):aB (cQ r).cells 1=.ro (r.ab.map fun t=>iv t.aI):=rfl
@[simp] theorem YK(r:Row):aB (cQ r).cells 2=.ro (r.ab.map fun t=>bL t.num):=rfl
@[simp] theorem Yj(r:Row):SV.agg (((cQ r).cells.drop 3).take 5)=fC r.low:=rfl
@[simp] theorem aal(r:Row):SV.agg (((cQ r).cells.drop 8).take 5)=fC r.high:=rfl
theorem eU{l:List _}{i:Nat}(h:i<l.length):aB (l.map cQ) i=cQ (gt l i):=dM _ h
def cJ(p:aV):SV:=.agg ([bZ p.max]++(bs p.shift).cells++[.ro (p.ae.map bW),.ro (p.rows.map bE)])
@[simp] theorem QU(p:aV):(cJ p).eW=7:=rfl
@[simp] theorem LP(p:aV):(cJ p).aO=false:=rfl
@[simp] theorem LQ(p:aV):(cJ p).isAgg=true:=rfl
@[simp] theorem Oj(n:Nat)(p:aV):(cJ p).bD n=false:=rfl
@[simp] theorem TU(p:aV):aB (cJ p).cells 0=bZ p.max:=rfl
@[simp] theorem Wh(p:aV):aB (cJ p).cells 5=.ro (p.ae.map bW):=rfl
@[simp] theorem TS(p:aV):aB (cJ p).cells 6=.ro (p.rows.map bE):=rfl
def dd(p:aV):SV:=.agg ([bZ p.max]++(bL p.shift).cells++[.ro (p.ae.map cw),.ro (p.rows.map cQ)])
@[simp] theorem QF(p:aV):(dd p).eW=7:=rfl
@[simp] theorem Lo(p:aV):(dd p).aO=false:=rfl
@[simp] theorem Ld(p:aV):(dd p).isAgg=true:=rfl
@[simp] theorem Ng(p:aV):(dd p).pure=true:=rfl
@[simp] theorem Ss(n:Nat)(p:aV):(dd p).lt n=true:=rfl
@[simp] theorem Mh(n:Nat)(p:aV):(dd p).bD n=false:=rfl
@[simp] theorem VQ(p:aV):(dd p).ks=[]:=rfl
@[simp] theorem WT(p:aV):aB (dd p).cells 0=bZ p.max:=rfl
@[simp] theorem Uu(p:aV):aB (dd p).cells 5=.ro (p.ae.map cw):=rfl
@[simp] theorem RX(p:aV):aB (dd p).cells 6=.ro (p.rows.map cQ):=rfl
def fY(c:jv):SV:=.agg ([dt c.name,bZ c.whole,dt c.low,dt c.high,dt c.cost])
@[simp] theorem Wa(c:jv):(fY c).eW=5:=rfl
@[simp] theorem Nu(c:jv):(fY c).aO=false:=rfl
@[simp] theorem N5(c:jv):(fY c).isAgg=true:=rfl
@[simp] theorem Ox(c:jv):(fY c).pure=true:=rfl
@[simp] theorem Zy(n:Nat)(c:jv):(fY c).lt n=true:=rfl
@[simp] theorem P3(n:Nat)(c:jv):(fY c).bD n=false:=rfl
@[simp] theorem abc(c:jv):aB (fY c).cells 0=dt c.name:=rfl
@[simp] theorem W8(c:jv):aB (fY c).cells 1=bZ c.whole:=rfl
@[simp] theorem Zt(c:jv):aB (fY c).cells 2=dt c.low:=rfl
@[simp] theorem aay(c:jv):aB (fY c).cells 3=dt c.high:=rfl
@[simp] theorem YY(c:jv):aB (fY c).cells 4=dt c.cost:=rfl
theorem o4{l:List _}{i:Nat}(h:i<l.length):aB (l.map fY) i=fY (gt l i):=dM _ h
def fv(r:gY):SV:=.agg ([dt r.name,dt r.low,dt r.high,.ro (r.ae.map iv),.ro (r.eY.map dt)])
@[simp] theorem V9(r:gY):(fv r).eW=5:=rfl
@[simp] theorem Mm(r:gY):(fv r).aO=false:=rfl
@[simp] theorem Om(r:gY):(fv r).isAgg=true:=rfl
@[simp] theorem Qg(r:gY):(fv r).pure=true:=rfl
@[simp] theorem abf(n:Nat)(r:gY):(fv r).lt n=true:=rfl
@[simp] theorem O6(n:Nat)(r:gY):(fv r).bD n=false:=rfl
@[simp] theorem XG(r:gY):aB (fv r).cells 0=dt r.name:=rfl
@[simp] theorem Xn(r:gY):aB (fv r).cells 1=dt r.low:=rfl
@[simp] theorem aa8(r:gY):aB (fv r).cells 2=dt r.high:=rfl
@[simp] theorem Y1(r:gY):aB (fv r).cells 3=.ro (r.ae.map iv):=rfl
@[simp] theorem Xy(r:gY):aB (fv r).cells 4=.ro (r.eY.map dt):=rfl
theorem oF{l:List _}{i:Nat}(h:i<l.length):aB (l.map fv) i=fv (gt l i):=dM _ h
def cI(s:cR):SV:=.agg ([bZ s.max,dt s.shift,.ro (s.ae.map fY),.ro (s.rows.map fv)])
@[simp] theorem QH(s:cR):(cI s).eW=4:=rfl
@[simp] theorem Ln(s:cR):(cI s).aO=false:=rfl
@[simp] theorem LM(s:cR):(cI s).isAgg=true:=rfl
@[simp] theorem NQ(s:cR):(cI s).pure=true:=rfl
@[simp] theorem Uy(n:Nat)(s:cR):(cI s).lt n=true:=rfl
@[simp] theorem NH(n:Nat)(s:cR):(cI s).bD n=false:=rfl
@[simp] theorem V7(s:cR):aB (cI s).cells 0=bZ s.max:=rfl
@[simp] theorem SE(s:cR):aB (cI s).cells 1=dt s.shift:=rfl
@[simp] theorem Sz(s:cR):aB (cI s).cells 2=.ro (s.ae.map fY):=rfl
@[simp] theorem U6(s:cR):aB (cI s).cells 3=.ro (s.rows.map fv):=rfl
@[simp] theorem ZN(q:Rat)(r:List SV)(n:Nat):aB ((bs q).cells++r) (n+4)=aB r n:=rfl
@[simp] theorem X6(q:Rat)(r:List SV)(n:Nat)(x:SV):bl ((bs q).cells++r) (n+4) x=(bs q).cells++bl r n x:=rfl
@[simp] theorem TN(q:Bo)(r:List SV)(n:Nat):aB ((qb q).cells++r) (n+4)=aB r n:=rfl
@[simp] theorem TL(q:Bo)(r:List SV)(n:Nat)(x:SV):bl ((qb q).cells++r) (n+4) x=(qb q).cells++bl r n x:=rfl
theorem HB{α:Type}(k i:Nat)(f:α→SV)(l:List α):SV.aY k ((l.map f).take i)=(l.take i).any fun x=>(f x).bD k:=by
 rw[←amU,oL]
theorem Ht{α:Type}(i:Nat)(f:α→SV)(l:List α):SV.bf ((l.map f).take i)=(l.take i).all fun x=>(f x).pure:=by
 rw[←amU,xw]
theorem Mu{α:Type}(k i:Nat)(f:α→SV)(l:List α):SV.mb k ((l.map f).take i)=(l.take i).all fun x=>(f x).lt k:=by
 rw[←amU,DD]
attribute [simp] oL HB Ht Mu
@[simp] theorem ad0(q:Rat)(k:Nat):(bs q).cells.map (fun y=>if SV.bD k y=true then SV.any else y)=(bs q).cells:=rfl
@[simp] theorem W9(q:Bo)(k:Nat):(qb q).cells.map (fun y=>if SV.bD k y=true then SV.any else y)=(qb q).cells:=rfl
@[simp] theorem T0(b:Bo)(k:Nat):(cL b).cells.map (fun y=>if SV.bD k y=true then SV.any else y)=(cL b).cells:=rfl
@[simp] theorem T3(h:Bool)(b:Bo)(k:Nat):(pE h b).cells.map (fun y=>if SV.bD k y=true then SV.any else y)=(pE h b).cells:=rfl
theorem m5{α:Type}[Inhabited α](f:α→SV){l:List α}{i:Nat}(h:i<l.length):(l.map f).take (i+1)=(l.map f).take i++[f (gt l i)]:=by
 rw[←amU,fJ h];simp
/-! out of texts -/
def eu(s:ByteArray):Bool:=decide ((fE 300 s).2.1=0)
def ko(s:ByteArray):Bo:=if eu s=true then⟨true,num s⟩ else⟨false,0⟩
def js(s:ByteArray):Bool:=decide (s=⟨#[]⟩)
def fP(s:ByteArray):Bool:=js s||eu s
def kn(s:ByteArray):Bo:=if js s=true then⟨false,0⟩ else⟨true,num s⟩
def Bg(s:ByteArray):Bo:=if js s=true then⟨false,0⟩ else ko s
def oU(c:jv):Bool:=fP c.low&&fP c.high&&eu c.cost
def ob(c:jv):dL:=⟨c.name,c.whole,kn c.low,kn c.high,num c.cost⟩
def fF(r:gY):List (Int × ByteArray):=r.ae.zip r.eY
def JR(r:gY):Bool:=fP r.low&&fP r.high&&(fF r).all fun z=>eu z.2
def pT(z:Int × ByteArray):Term:=⟨z.1,num z.2⟩
def rowOf(r:gY):Row:=⟨r.name,(fF r).map pT,kn r.low,kn r.high⟩
def I1(s:cR):Bool:=eu s.shift&&s.ae.all oU&&s.rows.all JR
def cV(s:cR):aV:=⟨s.max,num s.shift,s.ae.map ob,s.rows.map rowOf⟩
theorem Ka{r:gY}:bE (rowOf r)=.agg (.val (.string r.name)::.ro ((fF r).map fun z=>aW (pT z))::((cL (kn r.low)).cells++(cL (kn r.high)).cells)):=by
 unfold bE rowOf;rw[anK];rfl
theorem Hz{s:cR}:cJ (cV s)=.agg (.val (.bool s.max)::((bs (num s.shift)).cells++[.ro (s.ae.map fun c=>bW (ob c)),.ro (s.rows.map fun r=>bE (rowOf r))])):=by
 unfold cJ cV;rw[anK,anK];rfl
def tw(c:jv):SV:=.agg ([.val (.string c.name),bZ c.whole]++(pE (!js c.low) (Bg c.low)).cells++(pE (!js c.high) (Bg c.high)).cells++(qb (ko c.cost)).cells)
@[simp] theorem Rr(c:jv):(tw c).pure=true:=rfl
@[simp] theorem Xo(n:Nat)(c:jv):(tw c).lt n=true:=rfl
@[simp] theorem OT(n:Nat)(c:jv):(tw c).bD n=false:=rfl
theorem Ji{n:ByteArray}{w:Bool}{l h q:ByteArray}:SV.agg (.val (.string n)::.val (.bool w)::((pE (!js l) (Bg l)).cells++((pE (!js h) (Bg h)).cells++(qb (ko q)).cells)))=tw ⟨n,w,l,h,q⟩:=rfl
def vz(r:gY):SV:=.agg ([.val (.string r.name),.ro ((fF r).map fun z=>iv z.1),.ro ((fF r).map fun z=>qb (ko z.2))]++(pE (!js r.low) (Bg r.low)).cells++(pE (!js r.high) (Bg r.high)).cells)
@[simp] theorem Qh(r:gY):(vz r).pure=true:=rfl
@[simp] theorem aam(n:Nat)(r:gY):(vz r).lt n=true:=rfl
@[simp] theorem QB(n:Nat)(r:gY):(vz r).bD n=false:=rfl
def lQ(s:cR):SV:=.agg ([bZ s.max]++(qb (ko s.shift)).cells++[.ro (s.ae.map tw),.ro (s.rows.map vz)])
@[simp] theorem QO(s:cR):(lQ s).eW=7:=rfl
@[simp] theorem LJ(s:cR):(lQ s).aO=false:=rfl
@[simp] theorem K9(s:cR):(lQ s).isAgg=true:=rfl
@[simp] theorem Ns(s:cR):(lQ s).pure=true:=rfl
@[simp] theorem Su(n:Nat)(s:cR):(lQ s).lt n=true:=rfl
theorem GM{s:cR}:lQ s=.agg (.val (.bool s.max)::((qb (ko s.shift)).cells++[.ro (s.ae.map tw),.ro (s.rows.map vz)])):=rfl
theorem Jq{r:gY}:vz r=.agg (.val (.string r.name)::.ro ((fF r).map fun z=>.val (.int .i64 z.1))::.ro ((fF r).map fun z=>qb (ko z.2))::((pE (!js r.low) (Bg r.low)).cells++(pE (!js r.high) (Bg r.high)).cells)):=rfl
theorem y7{s:ByteArray}(h:eu s=true):qb (ko s)=bL (num s):=by unfold ko;rw[if_pos h];rfl
theorem yD{s:ByteArray}(h:fP s=true):pE (!js s) (Bg s)=fC (kn s):=by
 unfold Bg kn;by_cases h0:js s=true
 ·rw[if_pos h0,if_pos h0,h0];rfl
 ·rw[if_neg h0,if_neg h0];have h1:eu s=true:=by
   unfold fP at h;have h0':js s=false:=by simpa using h0
   rw[h0']at h;simpa using h
  have h0':js s=false:=by simpa using h0
  rw[h0'];unfold ko;rw[if_pos h1];rfl
theorem KX{c:jv}(h:oU c=true):tw c=cw (ob c):=by
 unfold oU at h;simp only[alL]at h;unfold tw cw ob;rw[yD h.1.1,yD h.1.2,y7 h.2]
theorem KT{r:gY}(h:JR r=true):vz r=cQ (rowOf r):=by
 unfold JR at h;simp only[alL]at h;unfold vz cQ rowOf;rw[yD h.1.1,yD h.1.2];have e1:(fF r).map (fun z=>iv z.1)=((fF r).map pT).map fun t=>iv t.aI:=by rw[anK];rfl
 have e2:(fF r).map (fun z=>qb (ko z.2))=((fF r).map pT).map fun t=>bL t.num:=by
  rw[anK];refine anL fun z hz=>?_;have:=alU.1 h.2 z hz;rw[y7 this];rfl
 rw[e1,e2]
theorem HJ{s:cR}(h:I1 s=true):lQ s=dd (cV s):=by
 unfold I1 at h;simp only[alL]at h;unfold lQ dd cV;have e1:s.ae.map tw=(s.ae.map ob).map cw:=by
  rw[anK];exact anL fun c hc=>KX (alU.1 h.1.2 c hc)
 have e2:s.rows.map vz=(s.rows.map rowOf).map cQ:=by
  rw[anK];exact anL fun c hc=>KT (alU.1 h.2 c hc)
 rw[e1,e2,y7 h.1.1]
structure SmC(c:jv):Prop where
 name:c.name.size≤1048576
 low:c.low.size≤1048576
 high:c.high.size≤1048576
 cost:c.cost.size≤1048576
structure SmR(r:gY):Prop where
 name:r.name.size≤1048576
 low:r.low.size≤1048576
 high:r.high.size≤1048576
 ae:r.ae.length≤1048576
 eY:Py r.eY
structure Ja(s:cR):Prop where
 shift:s.shift.size≤1048576
 nc:s.ae.length≤1048576
 nr:s.rows.length≤1048576
 ae:∀i,i<s.ae.length→SmC (gt s.ae i)
 rows:∀i,i<s.rows.length→SmR (gt s.rows i)
/-! taking one more -/
theorem map_take{α:Type}[Inhabited α](f:α→SV){l:List α}{i:Nat}(h:i<l.length):(l.take (i+1)).map f=(l.take i).map f++[f (gt l i)]:=by
 rw[fJ h];simp
theorem kC{α:Type}[Inhabited α](f:α→Bool){l:List α}{i:Nat}(h:i<l.length):(l.take (i+1)).all f=((l.take i).all f&&f (gt l i)):=by
 rw[fJ h];simp
theorem nC(r:gY):(fF r).length=min r.ae.length r.eY.length:=by simp[fF]
theorem yu{r:gY}{i:Nat}(h:i<(fF r).length):gt (fF r) i=(gt r.ae i,gt r.eY i):=by
 rw[nC]at h;have h1:i<r.ae.length:=by omega
 have h2:i<r.eY.length:=by omega
 rw[←ee (by rw[nC];exact h),←ee h1,←ee h2];simp[fF]
end Go.Li
namespace Go.Proofs
open Go.Sv Go Go.Tb Go.Pl Go.Ut Go.Li
def zG(s:ByteArray):SV:=.agg [.val (.int .i64 ((fE 300 s).2.1:Nat)),.val (.int .i64 (if eu s=true then -1 else((fE 300 s).2.2:Nat)))]
@[simp] theorem WL(s:ByteArray):(zG s).pure=true:=rfl
@[simp] theorem RA(s:ByteArray)(k:Nat):(zG s).bD k=false:=rfl
@[simp] theorem adf(s:ByteArray)(k:Nat):(zG s).lt k=true:=rfl
theorem IJ(s:ByteArray)(h:s.size≤1048576):aF Tryz.prog 50 [.val (.string s)] (.bO [qb (ko s),zG s]):=by
 by_cases hq:(fE 300 s).2.1=0
 ·have:=JS s (by omega) hq;have hk:eu s=true:=decide_eq_true hq
  rwa [show(SV.bO [bL (num s),fH 0 (-1)])=.bO [qb (ko s),zG s] by rw[y7 hk];simp[zG,hk,hq,fH]]at this
 ·have:=xf s (by omega);have hk:eu s=false:=decide_eq_false hq
  rwa [show jt (fE 300 s)=.bO [qb (ko s),zG s] by simp[jt,hq,ko,hk,Kt,zG,fH]]at this
theorem mW(s:ByteArray)(h:s.size≤1048576):aF Tryz.prog 86 [.val (.string s),.val (.bool false)] (.bO [qb (ko s),zG s]):=by
 refine aj Tryz.func86 rfl (by simp) (fun C hC=>?_);simp;refine akK (IJ s h) ?_;simp[zG]
theorem oR(s:ByteArray)(h:s.size≤1048576):aF Tryz.prog 87 [.val (.string s),.val (.bool false)] (.bO [pE (!js s) (Bg s),.val (.bool (fP s))]):=by
 refine aj Tryz.func87 rfl (by simp) (fun C hC=>?_);simp;by_cases h0:js s=true
 ·have e:s=⟨#[]⟩:=of_decide_eq_true h0;simp[fP,Bg,h0,e,js,L2]
 ·have h0':js s=false:=by simpa using h0
  have e:¬s=⟨#[]⟩:=of_decide_eq_false h0';simp[e];refine akK (mW s h) ?_;simp[zG];refine aa.akJ (.qs [0,1,2]<|.q 3 [0]<|.qs [4]<|.l 5 [0]<|.qs [6]<|.nil) ?_;simp[fP,Bg,h0',NV,eu]
end Go.Proofs


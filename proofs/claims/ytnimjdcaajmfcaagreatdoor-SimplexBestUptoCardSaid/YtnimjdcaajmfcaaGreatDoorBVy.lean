/- A text of the prover's own. -/
import Derived.Test.YtnimjdcaajmfcaaGreatDoorBVd
open List renaming getElem?_toArray->atw,replicate->asr,filter_cons->atx
open BitVec renaming ofInt->p7
namespace Go.Sv
open Go Go.RowKit
/-! what is to come, as data -/
def K(d:Option Tmp)(st:St)(next:St->Prop)(z:SV):Prop:=zO d st.n∧next ⟨st.n,eI d (some z) st.fr,st.M⟩
def KM(d:Option Tmp)(st:St)(next:St->Prop)(M':aD)(pk:List Nat)(x:Option SV):Prop:=zO d st.n∧next ⟨st.n,eI d x (forget pk st.fr),M'⟩
def KJ(d:Option Tmp)(st:St)(ab:St->Prop)(M':aD)(pk:List Nat)(x:SV):Prop:=ab ⟨st.n,eI d (some x) (forget pk st.fr),M'⟩
def nx(P:Program)(C:Ctx)(all:Array Oper)(rest:List Oper)(Q QJ:bf)(st:St):Prop:=fX P C all rest st Q QJ
def nj(P:Program)(C:Ctx)(all:Array Oper)(rest:List Oper)(QJ:bf)(st:St):Prop:=fX P C all rest st QJ QJ
def O5(P:Program)(C:Ctx)(ops:Array Oper)(r:Pl)(Q QJ:bf)(st:St):Prop:=fu P C ops r st Q QJ
def njP(P:Program)(C:Ctx)(ops:Array Oper)(r:Pl)(QJ:bf)(st:St):Prop:=fu P C ops r st QJ QJ
def noJ(_:St):Prop:=False
def thS(P:Program)(C:Ctx)(y:Code)(Q QJ:bf):bf:=sY (λst'=>vc P C y st' Q QJ) Q
def thJ(P:Program)(C:Ctx)(y:Code)(QJ:bf):bf:=sY (λst'=>vc P C y st' QJ QJ) QJ
def gG(r:dD)(k:SV->Prop):Prop:=match r with
 | .q c x=>c∧k x
 | _=>False
def Gd(r:cB)(k:aD->List Nat->Option SV->Prop):Prop:=match r with
 | .m c M pk x=>c∧k M pk x
 | .stuck=>False
def onO{α:Type}(o:Option α)(k:α->Prop):Prop:=match o with
 | some x=>k x
 | none=>False
@[simp] theorem XX{α:Type}(x:α)(k:α->Prop):onO (some x) k=k x:=rfl
section
variable {P:Program} {C:Ctx} {st:St} {Q QJ:bf} {next ab:St->Prop} {all:Array Oper} {rest:List Oper} {d:Option Tmp} {op:Op} {t:TypeId} {p:String} {af:Array Edge} {g:Option (Nat × Bool)} {W:Option (List Nat)}
@[simp] theorem ad5{c:Prop}{x:SV}{k:SV->Prop}:gG (.q c x) k=(c∧k x):=rfl
@[simp] theorem aoH{c:Prop}{M:aD}{pk:List Nat}{x:Option SV}{k:aD->List Nat->Option SV->Prop}:Gd (.m c M pk x) k=(c∧k M pk x):=rfl
@[simp] theorem aoR{z:SV}:K d st next z=(zO d st.n∧next ⟨st.n,eI d (some z) st.fr,st.M⟩):=rfl
@[simp] theorem aiK{M':aD}{x:Option SV}:KM d st next M' [] x=(zO d st.n∧next ⟨st.n,eI d x st.fr,M'⟩):=by simp[KM,dq]
@[simp] theorem aic{M':aD}{a:Nat}{x:Option SV}:KM d st next M' [a] x=(zO d st.n∧next ⟨st.n,eI d x (forget [a] st.fr),M'⟩):=rfl
@[simp] theorem aiQ{M':aD}{z:SV}:KJ d st ab M' [] z=ab ⟨st.n,eI d (some z) st.fr,M'⟩:=by simp[KJ,dq]
@[simp] theorem ahg{M':aD}{a:Nat}{z:SV}:KJ d st ab M' [a] z=ab ⟨st.n,eI d (some z) (forget [a] st.fr),M'⟩:=rfl
@[simp] theorem ajA:nx P C all rest Q QJ st=fX P C all rest st Q QJ:=rfl
@[simp] theorem ahJ:nj P C all rest QJ st=fX P C all rest st QJ QJ:=rfl
@[simp] theorem afi{r:Pl}:O5 P C all r Q QJ st=fu P C all r st Q QJ:=rfl
@[simp] theorem ads{r:Pl}:njP P C all r QJ st=fu P C all r st QJ QJ:=rfl
@[simp] theorem RF{y:Code}:thS P C y Q QJ .normal st=vc P C y st Q QJ:=rfl
@[simp] theorem aeJ{y:Code}:thS P C y Q QJ .ret st=Q .ret st:=rfl
@[simp] theorem acK{y:Code}{id:Nat}:thS P C y Q QJ (.exit id) st=Q (.exit id) st:=rfl
@[simp] theorem RH{y:Code}:thJ P C y QJ .normal st=vc P C y st QJ QJ:=rfl
@[simp] theorem agK{y:Code}:thJ P C y QJ .ret st=QJ .ret st:=rfl
@[simp] theorem abM{y:Code}{id:Nat}:thJ P C y QJ (.exit id) st=QJ (.exit id) st:=rfl
@[simp] theorem UY{y:Code}{c:List PanicEntry}:thJ P C y QJ (.panic c) st=QJ (.panic c) st:=rfl
@[simp] theorem Uq{Q1:St->Prop}:sY Q1 Q .normal st=Q1 st:=rfl
@[simp] theorem afD{Q1:St->Prop}:sY Q1 Q .ret st=Q .ret st:=rfl
@[simp] theorem aaO{Q1:St->Prop}{id:Nat}:sY Q1 Q (.exit id) st=Q (.exit id) st:=rfl
@[simp] theorem VR{Q1:St->Prop}{c:List PanicEntry}:sY Q1 Q (.panic c) st=Q (.panic c) st:=rfl
@[simp] theorem T0{id:Nat}:I7 id Q .normal st=Q .normal st:=rfl
@[simp] theorem agc{id:Nat}:I7 id Q .ret st=Q .ret st:=rfl
@[simp] theorem Yl{id ae:Nat}:I7 id Q (.exit ae) st=if ae=id then Q .normal st else Q (.exit ae) st:=rfl
@[simp] theorem VH{id:Nat}{c:List PanicEntry}:I7 id Q (.panic c) st=Q (.panic c) st:=rfl
/-! code -/
@[simp ↓] theorem aef:vc P C .skip st Q QJ=Q .normal st:=rfl
@[simp ↓] theorem aht{x y:Code}:vc P C (.seq x y) st Q QJ=vc P C x st (thS P C y Q QJ) (thJ P C y QJ):=rfl
@[simp ↓] theorem acd{id:Nat}{c:Code}:vc P C (.block id c) st Q QJ=vc P C c st (I7 id Q) (I7 id QJ):=rfl
@[simp ↓] theorem ado{id:Nat}:vc P C (.exit id) st Q QJ=Q (.exit id) st:=rfl
@[simp ↓] theorem ahC:vc P C .ret st Q QJ=Q .ret st:=rfl
@[simp ↓] theorem UI{id:Nat}{l:List Oper}:vc P C (.region id l.toArray false) st Q QJ=fX P C l.toArray l st Q QJ:=rfl
@[simp ↓] theorem agA{id:Nat}{l:Array Oper}:vc P C (.region id l true) st Q QJ=aa P C (.region id l true) st QJ:=rfl
@[simp ↓] theorem aeP{c:Code}:vc P C (.loop c) st Q QJ=aa P C (.loop c) st QJ:=rfl
def TX(P:Program)(C:Ctx)(v:Option SV)(x y:Code)(st:St)(Q QJ:bf):Prop:=match v with
 | some (.val (.bool b))=>(b=true->vc P C x st Q QJ)∧(b=false->vc P C y st Q QJ)
 | _=>False
@[simp ↓] theorem agS{c:Operand}{x y:Code}:vc P C (.cond c x y) st Q QJ=TX P C (ev st.fr c) x y st Q QJ:=by
 simp only[vc,TX];cases ev st.fr c with
 | none=>rfl
 | some v=>cases v with
  | val u=>cases u<;>rfl
  | _=>rfl
@[simp] theorem YK{x y:Code}:TX P C (some (.val (.bool true))) x y st Q QJ=vc P C x st Q QJ:=by simp[TX]
@[simp] theorem Wu{x y:Code}:TX P C (some (.val (.bool false))) x y st Q QJ=vc P C y st Q QJ:=by simp[TX]
@[simp low] theorem aa4{x y:Code}{b:Bool}:TX P C (some (.val (.bool b))) x y st Q QJ=((b=true->vc P C x st Q QJ)∧(b=false->vc P C y st Q QJ)):=rfl
/-! operations -/
def J8(P:Program)(C:Ctx)(all:Array Oper)(o:Oper)(rest:List Oper)(b:Bool)(t':Nat)(v:Option SV)(st:St)(Q QJ:bf):Prop:=match v with
 | some (.val (.bool c))=>(c=b->cH P C none o ⟨st.n,(t',.val (.bool b))::st.fr,st.M⟩ (nx P C all rest Q QJ) (nj P C all rest QJ)) ∧
   (c=!b->fX P C all rest ⟨st.n,fp st.n o.dst ((t',.val (.bool (!b)))::st.fr),st.M⟩ Q QJ)
 | some (.bP [])=>fX P C all rest ⟨st.n,fp st.n o.dst st.fr,st.M⟩ Q QJ
 | _=>False
def gdO(P:Program)(C:Ctx)(all:Array Oper)(o:Oper)(rest:List Oper)(b:Bool)(t':Option Nat)(st:St)(Q QJ:bf):Prop:=match t' with
 | some t'=>J8 P C all o rest b t' (get st.fr t') st Q QJ
 | none=>False
def nX:List Oper->Nat->Option Nat
 | [],_=>none
 | ⟨d,_,_,_,_,_⟩::_,0=>d
 | _::l,n+1=>nX l n
theorem AF{l:List Oper}{j:Nat}:pD l.toArray j=nX l j:=by
 simp only[pD,atw]
 induction l generalizing j with
 | nil=>rfl
 | cons x l ih=>cases j with
  | zero=>rfl
  | succ j=>simpa[nX]using ih
@[simp ↓] theorem US:fX P C all [] st Q QJ=Q .normal st:=rfl
@[simp ↓] theorem RC:fX P C all (⟨d,op,t,p,af,none⟩::rest) st Q QJ=cH P C none ⟨d,op,t,p,af,none⟩ st (nx P C all rest Q QJ) (nj P C all rest QJ):=rfl
@[simp ↓] theorem QS{l:List Oper}{j:Nat}{b:Bool}:fX P C l.toArray (⟨d,op,t,p,af,some (j,b)⟩::rest) st Q QJ=gdO P C l.toArray ⟨d,op,t,p,af,some (j,b)⟩ rest b (nX l j) st Q QJ:=by
 simp only[fX,gdO];rw[AF];cases nX l j with
 | none=>rfl
 | some t' =>
  simp only[J8];cases get st.fr t' with
  | none=>rfl
  | some v=>cases v with
   | val u=>cases u<;>rfl
   | bP l=>cases l<;>rfl
   | _=>rfl
@[simp] theorem abG{o:Oper}{b:Bool}{t':Nat}:gdO P C all o rest b (some t') st Q QJ=J8 P C all o rest b t' (get st.fr t') st Q QJ:=rfl
@[simp low] theorem ab1{o:Oper}{b c:Bool}{t':Nat}:J8 P C all o rest b t' (some (.val (.bool c))) st Q QJ =
  ((c=b->cH P C none o ⟨st.n,(t',.val (.bool b))::st.fr,st.M⟩ (nx P C all rest Q QJ) (nj P C all rest QJ))∧(c=!b->fX P C all rest ⟨st.n,fp st.n o.dst ((t',.val (.bool (!b)))::st.fr),st.M⟩ Q QJ)):=rfl
@[simp] theorem aix{o:Oper}{t':Nat}:J8 P C all o rest true t' (some (.val (.bool true))) st Q QJ=cH P C none o ⟨st.n,(t',.val (.bool true))::st.fr,st.M⟩ (nx P C all rest Q QJ) (nj P C all rest QJ):=by simp[J8]
@[simp] theorem ah5{o:Oper}{t':Nat}:J8 P C all o rest false t' (some (.val (.bool false))) st Q QJ=cH P C none o ⟨st.n,(t',.val (.bool false))::st.fr,st.M⟩ (nx P C all rest Q QJ) (nj P C all rest QJ):=by simp[J8]
@[simp] theorem akh{t':Nat}:J8 P C all ⟨d,op,t,p,af,g⟩ rest true t' (some (.val (.bool false))) st Q QJ=fX P C all rest ⟨st.n,fp st.n d ((t',.val (.bool false))::st.fr),st.M⟩ Q QJ:=by simp[J8]
@[simp] theorem akd{t':Nat}:J8 P C all ⟨d,op,t,p,af,g⟩ rest false t' (some (.val (.bool true))) st Q QJ=fX P C all rest ⟨st.n,fp st.n d ((t',.val (.bool true))::st.fr),st.M⟩ Q QJ:=by simp[J8]
@[simp] theorem Yy{b:Bool}{t':Nat}:J8 P C all ⟨d,op,t,p,af,g⟩ rest b t' (some (.bP [])) st Q QJ=fX P C all rest ⟨st.n,fp st.n d st.fr,st.M⟩ Q QJ:=rfl
theorem gW(hm:∀fx M fr,FY P fx M fr op=.stuck)(hc:∀f args ts,op≠.call ⟨.value f,args,ts⟩):cH P C W ⟨d,op,t,p,af,g⟩ st next ab=gG (C1 P st.M st.fr op) (K d st next):=by
 unfold cH gG;cases h:C1 P st.M st.fr op with
 | q c x=>rfl
 | stuck =>
  simp only[hm];all_goals first
   | rfl
   | ((try dsimp only);split<;>first | rfl | exact absurd rfl (hc _ _ _))
 | m a b c =>
  simp only[hm];all_goals first
   | rfl
   | ((try dsimp only);split<;>first | rfl | exact absurd rfl (hc _ _ _))
theorem og(hq:∀M fr,C1 P M fr op=.stuck)(hc:∀f args ts,op≠.call ⟨.value f,args,ts⟩):cH P C W ⟨d,op,t,p,af,g⟩ st next ab=Gd (FY P C.fx st.M st.fr op) (KM d st next):=by
 unfold cH Gd;simp only[hq];cases h:FY P C.fx st.M st.fr op with
 | m c M' pk x=>rfl
 | stuck =>
  all_goals first
   | rfl
   | ((try dsimp only);split<;>first | rfl | exact absurd rfl (hc _ _ _))
def RT(x:Option SV):dD:=match x with
 | some x=>.q True x
 | none=>.stuck
@[simp] theorem aa2{x:SV}:RT (some x)=.q True x:=rfl
def evp(fr:List (Nat × SV))(l:List (Nat × Operand)):List (Nat × Option SV):=l.map λq=>(q.1,ev fr q.2)
@[simp] theorem agL{fr:List (Nat × SV)}:evp fr []=[]:=rfl
@[simp] theorem acC{fr:List (Nat × SV)}{i:Nat}{o:Operand}{r:List (Nat × Operand)}:evp fr ((i,o)::r)=(i,ev fr o)::evp fr r:=rfl
@[simp ↓] theorem Vi{x:Operand}:cH P C W ⟨d,.move x,t,p,af,g⟩ st next ab=gG (RT (ev st.fr x)) (K d st next):=by rw[gW (λ_ _ _=>rfl) (λ_ _ _=>by simp)];simp only[C1];cases ev st.fr x<;>rfl
@[simp ↓] theorem Rn{x:Operand}:cH P C W ⟨d,.assign x,t,p,af,g⟩ st next ab=gG (RT (ev st.fr x)) (K d st next):=by rw[gW (λ_ _ _=>rfl) (λ_ _ _=>by simp)];simp only[C1];cases ev st.fr x<;>rfl
@[simp ↓] theorem Ux{c x y:Operand}:cH P C W ⟨d,.pick c x y,t,p,af,g⟩ st next ab=gG (zC (ev st.fr c) (ev st.fr x) (ev st.fr y)) (K d st next):=by rw[gW (λ_ _ _=>rfl) (λ_ _ _=>by simp)];rfl
@[simp ↓] theorem Yo{op:BinOp}{t1 t2:TypeId}{x y:Operand}:cH P C W ⟨d,.binOp op t1 x y t2,t,p,af,g⟩ st next ab=gG (xL P op t1 (ev st.fr x) y (ev st.fr y)) (K d st next):=by rw[gW (λ_ _ _=>rfl) (λ_ _ _=>by simp)];rfl
@[simp ↓] theorem agb{op:UnOp}{t1:TypeId}{x:Operand}:cH P C W ⟨d,.unOp op t1 x,t,p,af,g⟩ st next ab=gG (L7 op (ev st.fr x)) (K d st next):=by rw[gW (λ_ _ _=>rfl) (λ_ _ _=>by simp)];rfl
@[simp ↓] theorem V6{t1 t2:TypeId}{x:Operand}:cH P C W ⟨d,.convert t1 t2 x,t,p,af,g⟩ st next ab=gG (rI P st.M (an P t1) (an P t2) (ev st.fr x)) (K d st next):=by rw[gW (λ_ _ _=>rfl) (λ_ _ _=>by simp)];rfl
@[simp ↓] theorem abv{x:Operand}:cH P C W ⟨d,.nilCheck x,t,p,af,g⟩ st next ab=gG (DE (ev st.fr x)) (K d st next):=by rw[gW (λ_ _ _=>rfl) (λ_ _ _=>by simp)];rfl
@[simp ↓] theorem acz{x:Operand}{i:Nat}:cH P C W ⟨d,.extract x i,t,p,af,g⟩ st next ab=gG (q9 (ev st.fr x) i) (K d st next):=by rw[gW (λ_ _ _=>rfl) (λ_ _ _=>by simp)];rfl
@[simp ↓] theorem ad7{t1:TypeId}{x:Operand}{f:Nat}:cH P C W ⟨d,.fieldAddr t1 x f,t,p,af,g⟩ st next ab=gG (fN (an P t1) (ev st.fr x) f) (K d st next):=by rw[gW (λ_ _ _=>rfl) (λ_ _ _=>by simp)];rfl
@[simp ↓] theorem adJ{t1:TypeId}{x i:Operand}:cH P C W ⟨d,.indexAddr t1 x i,t,p,af,g⟩ st next ab=gG (fM P st.M (an P t1) (ev st.fr x) (ev st.fr i)) (K d st next):=by rw[gW (λ_ _ _=>rfl) (λ_ _ _=>by simp)];rfl
@[simp ↓] theorem afz{t1:TypeId}{x i:Operand}:cH P C W ⟨d,.index t1 x i,t,p,af,g⟩ st next ab=gG (s8 (an P t1) (ev st.fr x) (ev st.fr i)) (K d st next):=by rw[gW (λ_ _ _=>rfl) (λ_ _ _=>by simp)];rfl
@[simp ↓] theorem aeb{t1:TypeId}{x:Operand}:cH P C W ⟨d,.load t1 x,t,p,af,g⟩ st next ab=gG (iO st.M (an P t1) (ev st.fr x)) (K d st next):=by rw[gW (λ_ _ _=>rfl) (λ_ _ _=>by simp)];rfl
@[simp ↓] theorem ag0{t1:TypeId}{x:Operand}:cH P C W ⟨d,.makeInterface t1 x,t,p,af,g⟩ st next ab=gG (xk (an P t1) t1 (ev st.fr x)) (K d st next):=by rw[gW (λ_ _ _=>rfl) (λ_ _ _=>by simp)];rfl
@[simp ↓] theorem ad0{t1:TypeId}{l:List (Nat × Operand)}:cH P C W ⟨d,.build t1 l.toArray,t,p,af,g⟩ st next ab=gG (pV (an P t1) (evp st.fr l)) (K d st next):=by rw[gW (λ_ _ _=>rfl) (λ_ _ _=>by simp)];rfl
def vD(M:aD)(d:Option Tmp)(st:St)(next:St->Prop)(ti:Option TI)(x:Option SV):Prop:=match pd ti x with
 | .q c x=>c∧K d st next x
 | _=>Gd (fW M ti x) (KM d st next)
@[simp ↓] theorem abO{o:Operand}{t1:TypeId}:cH P C W ⟨d,.call ⟨.builtin .len,[o].toArray,[t1].toArray⟩,t,p,af,g⟩ st next ab=vD st.M d st next (an P t1) (ev st.fr o):=by
 unfold cH vD Gd;simp only[C1,FY,qV,List.map_cons,List.map_nil,atw,List.getElem?_cons_zero,Option.bind_some];cases pd (an P t1) (ev st.fr o)with
 | q c x=>rfl
 | stuck=>simp only;cases fW st.M (an P t1) (ev st.fr o)<;>rfl
 | m a b c=>simp only;cases fW st.M (an P t1) (ev st.fr o)<;>rfl
@[simp] theorem Y0{M:aD}{e s b:Nat}{z:List SV}{x:Option SV}:vD M d st next (some ⟨.sl e,s,b,z⟩) x=gG (pd (some ⟨.sl e,s,b,z⟩) x) (K d st next):=by unfold vD gG;cases pd (some ⟨.sl e,s,b,z⟩) x<;>rfl
@[simp] theorem WH{M:aD}{s b:Nat}{z:List SV}{x:Option SV}:vD M d st next (some ⟨.str,s,b,z⟩) x=gG (pd (some ⟨.str,s,b,z⟩) x) (K d st next):=by unfold vD gG;cases pd (some ⟨.str,s,b,z⟩) x<;>rfl
@[simp] theorem aaM{M:aD}{k e s b:Nat}{z:List SV}{x:Option SV}:vD M d st next (some ⟨.mp k e,s,b,z⟩) x=Gd (fW M (some ⟨.mp k e,s,b,z⟩) x) (KM d st next):=by unfold vD;rfl
@[simp ↓] theorem YZ{a b:Operand}{ts:Array TypeId}:cH P C W ⟨d,.call ⟨.builtin .min,[a,b].toArray,ts⟩,t,p,af,g⟩ st next ab=gG (nA false (ev st.fr a) (ev st.fr b)) (K d st next):=by rw[gW (λ_ _ _=>rfl) (λ_ _ _=>by simp)];rfl
def KQ(fr:List (Nat × SV))(o:Option Operand):Option (Option SV):=o.map (ev fr)
@[simp] theorem UX{fr:List (Nat × SV)}:KQ fr none=none:=rfl
@[simp] theorem UR{fr:List (Nat × SV)}{o:Operand}:KQ fr (some o)=some (ev fr o):=rfl
@[simp ↓] theorem adi{t1:TypeId}{x:Operand}{lo hi:Option Operand}:cH P C W ⟨d,.slice t1 x lo hi none,t,p,af,g⟩ st next ab=gG (jN P st.M (an P t1) (ev st.fr x) (KQ st.fr lo) (KQ st.fr hi) none) (K d st next):=by rw[gW (λ_ _ _=>rfl) (λ_ _ _=>by simp)];rfl
@[simp ↓] theorem ae8{t1:TypeId}{x y:Operand}:cH P C W ⟨d,.store t1 x y,t,p,af,g⟩ st next ab=Gd (ow st.M (an P t1) (ev st.fr x) (ev st.fr y)) (KM d st next):=by rw[og (λ_ _=>rfl) (λ_ _ _=>by simp)];rfl
@[simp ↓] theorem ad4{t1:TypeId}:cH P C W ⟨d,.alloc t1,t,p,af,g⟩ st next ab=Gd (qG st.M (an P t1)) (KM d st next):=by rw[og (λ_ _=>rfl) (λ_ _ _=>by simp)];rfl
@[simp ↓] theorem afs{t1:TypeId}{x:Operand}:cH P C W ⟨d,.box t1 x,t,p,af,g⟩ st next ab=Gd (A0 st.M (an P t1) (ev st.fr x)) (KM d st next):=by rw[og (λ_ _=>rfl) (λ_ _ _=>by simp)];rfl
@[simp ↓] theorem agu{t1:TypeId}{len:Nat}{l:List (Nat × Operand)}:cH P C W ⟨d,.buildSlice t1 len l.toArray,t,p,af,g⟩ st next ab=Gd (fP P st.M (an P t1) len (evp st.fr l)) (KM d st next):=by rw[og (λ_ _=>rfl) (λ_ _ _=>by simp)];rfl
@[simp ↓] theorem agN{t1:TypeId}{l c:Operand}:cH P C W ⟨d,.makeSlice t1 l c,t,p,af,g⟩ st next ab=Gd (gQ P st.M (an P t1) (ev st.fr l) (ev st.fr c)) (KM d st next):=by rw[og (λ_ _=>rfl) (λ_ _ _=>by simp)];rfl
@[simp ↓] theorem agZ{b x:Operand}{t1 t2:TypeId}:cH P C W ⟨d,.call ⟨.builtin .append,[b,x].toArray,[t1,t2].toArray⟩,t,p,af,g⟩ st next ab=Gd (iD P C.fx st.M (an P t1) (an P t2) (ev st.fr b) (ev st.fr x)) (KM d st next):=by rw[og (λ_ _=>rfl) (λ_ _ _=>by simp)];rfl
@[simp ↓] theorem agC{t1:TypeId}{x i:Operand}{ok:Bool}:cH P C W ⟨d,.lookup t1 x i ok,t,p,af,g⟩ st next ab=Gd (lH P st.M (an P t1) (ev st.fr x) (ev st.fr i) ok) (KM d st next):=by rw[og (λ_ _=>rfl) (λ_ _ _=>by simp)];rfl
@[simp ↓] theorem af7{t1:TypeId}{m i x:Operand}:cH P C W ⟨d,.mapUpdate t1 m i x,t,p,af,g⟩ st next ab=Gd (j9 P st.M (an P t1) (ev st.fr m) (ev st.fr i) (ev st.fr x)) (KM d st next):=by rw[og (λ_ _=>rfl) (λ_ _ _=>by simp)];rfl
@[simp ↓] theorem adv{t1:TypeId}{n:Option Operand}:cH P C W ⟨d,.makeMap t1 n,t,p,af,g⟩ st next ab=Gd (jB st.M (an P t1) (KQ st.fr n)) (KM d st next):=by rw[og (λ_ _=>rfl) (λ_ _ _=>by simp)];rfl
def Mu(P:Program)(C:Ctx)(f:FuncId)(W:Option (List Nat))(xs:Option (List SV))(d:Option Tmp)(st:St)(ab:St->Prop):Prop:=match xs with
 | some xs=>av P f∧zO d st.n∧dN P C f xs st.M W (KJ d st ab)
 | none=>False
@[simp] theorem QX{f:FuncId}{xs:List SV}:Mu P C f W (some xs) d st ab=(av P f∧zO d st.n∧dN P C f xs st.M W (KJ d st ab)):=rfl
@[simp ↓] theorem Vo{f:FuncId}{l:List Operand}{ts:Array TypeId}:cH P C W ⟨d,.call ⟨.value (.func f),l.toArray,ts⟩,t,p,af,g⟩ st next ab=Mu P C f W (zE st.fr l) d st ab:=by unfold cH;simp only[C1,FY];cases zE st.fr l<;>rfl
def RZ(P:Program)(C:Ctx)(W:Option (List Nat))(x:Option SV)(xs:Option (List SV))(d:Option Tmp)(st:St)(ab:St->Prop):Prop:=match x,xs with
 | some (.jw f l r),some xs=>av P f∧zO d st.n∧dN P C f (l++xs++r) st.M W (KJ d st ab)
 | _,_=>False
@[simp] theorem Ws{f:FuncId}{l r xs:List SV}:RZ P C W (some (.jw f l r)) (some xs) d st ab=(av P f∧zO d st.n∧dN P C f (l++xs++r) st.M W (KJ d st ab)):=rfl
@[simp ↓] theorem Uw{x:Nat}{l:List Operand}{ts:Array TypeId}:cH P C W ⟨d,.call ⟨.value (.tmp x),l.toArray,ts⟩,t,p,af,g⟩ st next ab=RZ P C W (get st.fr x) (zE st.fr l) d st ab:=by
 unfold cH RZ;simp only[C1,FY];cases get st.fr x with
 | none=>rfl
 | some v=>cases v<;>cases zE st.fr l<;>rfl
@[simp ↓] theorem afF{f:FuncId}{l r:List Operand}:cH P C W ⟨d,.makeFunc (.func f) l.toArray r.toArray,t,p,af,g⟩ st next ab=gG (OX f (zE st.fr l) (zE st.fr r)) (K d st next):=by rw[gW (λ_ _ _=>rfl) (λ_ _ _=>by simp)];rfl
@[simp] theorem Vc{f:FuncId}{l r:List SV}:OX f (some l) (some r)=.q True (.jw f l r):=rfl
end
/-! what the quiet operations make -/
section
variable (P:Program) (M:aD) (ti ai:TI) (κ κ':IntKind) (m n:Int) (a b i j s f:Nat) (x y:SV) (z es l:List SV) (el:TypeId) (fs:List (Nat × Nat × TypeId)) (u v:Option SV)
@[simp] theorem Qy:zC (some (.val (.bool true))) u v=RT u:=by cases u<;>rfl
@[simp] theorem N2:zC (some (.val (.bool false))) u v=RT v:=by cases v<;>rfl
@[simp] theorem ac4(ti:Option TI):cv .add ti (some (.val (.int κ m))) (some (.val (.int κ n)))=.q (True) (.val (.int κ (κ.wrap (m+n)))):=by simp[cv,re,ir]
@[simp] theorem agP(ti:Option TI):cv .sub ti (some (.val (.int κ m))) (some (.val (.int κ n)))=.q (True) (.val (.int κ (κ.wrap (m - n)))):=by simp[cv,re,ir]
@[simp] theorem agp(ti:Option TI):cv .mul ti (some (.val (.int κ m))) (some (.val (.int κ n)))=.q (True) (.val (.int κ (κ.wrap (m*n)))):=by simp[cv,re,ir]
@[simp] theorem agU(ti:Option TI):cv .quo ti (some (.val (.int κ m))) (some (.val (.int κ n)))=.q (n≠0) (.val (.int κ (κ.wrap (m.tdiv n)))):=by simp[cv,re,ir]
@[simp] theorem aep(ti:Option TI):cv .rem ti (some (.val (.int κ m))) (some (.val (.int κ n)))=.q (n≠0) (.val (.int κ (m.tmod n))):=by simp[cv,re,ir]
def uz(op:BinOp)(κ:IntKind)(m n:Int):Int:=match op with
 | .and=>κ.wrap (p7 κ.bits m &&& p7 κ.bits n).toNat
 | .or=>κ.wrap (p7 κ.bits m ||| p7 κ.bits n).toNat
 | _=>κ.wrap (p7 κ.bits m ^^^ p7 κ.bits n).toNat
@[simp] theorem ac3(ti:Option TI):cv .and ti (some (.val (.int κ m))) (some (.val (.int κ n)))=.q (True) (.val (.int κ (uz .and κ m n))):=by simp[cv,re,ir,uz]
@[simp] theorem ahI(ti:Option TI):cv .or ti (some (.val (.int κ m))) (some (.val (.int κ n)))=.q (True) (.val (.int κ (uz .or κ m n))):=by simp[cv,re,ir,uz]
@[simp] theorem ac9(ti:Option TI):cv .eql ti (some (.val (.int κ m))) (some (.val (.int κ n)))=.q (True) (.val (.bool (decide (m=n)))):=by simp[cv,re,ir]
@[simp] theorem agJ(ti:Option TI):cv .neq ti (some (.val (.int κ m))) (some (.val (.int κ n)))=.q (True) (.val (.bool (decide (m≠n)))):=by simp[cv,re,ir]
@[simp] theorem ae0(ti:Option TI):cv .lss ti (some (.val (.int κ m))) (some (.val (.int κ n)))=.q (True) (.val (.bool (decide (m<n)))):=by simp[cv,re,ir]
@[simp] theorem afq(ti:Option TI):cv .leq ti (some (.val (.int κ m))) (some (.val (.int κ n)))=.q (True) (.val (.bool (decide (m<=n)))):=by simp[cv,re,ir]
@[simp] theorem adR(ti:Option TI):cv .gtr ti (some (.val (.int κ m))) (some (.val (.int κ n)))=.q (True) (.val (.bool (decide (n<m)))):=by simp[cv,re,ir]
@[simp] theorem adt(ti:Option TI):cv .geq ti (some (.val (.int κ m))) (some (.val (.int κ n)))=.q (True) (.val (.bool (decide (n<=m)))):=by simp[cv,re,ir]
@[simp] theorem afa(ti:Option TI):cv .shl ti (some (.val (.int κ m))) (some (.val (.int κ' n)))=.q (0<=n) (.val (.int κ (κ.wrap (m*2^(min n.toNat κ.bits))))):=by simp[cv,re,Dl]
@[simp] theorem adf(ti:Option TI):cv .shr ti (some (.val (.int κ m))) (some (.val (.int κ' n)))=.q (0<=n) (.val (.int κ (m / (2^(min n.toNat κ.bits))))):=by have:m.fdiv (2^(min n.toNat κ.bits))=m / (2^(min n.toNat κ.bits)):=Int.fdiv_eq_ediv_of_nonneg _ (Int.le_of_lt (Int.pow_pos (by omega)));simp[cv,re,Dl,this]
@[simp] theorem abI(x y:Bool):cv .eql (some ⟨.bool,s,b,z⟩) (some (.val (.bool x))) (some (.val (.bool y)))=.q True (.val (.bool (x==y))):=by simp[cv]
@[simp] theorem acF(x y:Bool):cv .neq (some ⟨.bool,s,b,z⟩) (some (.val (.bool x))) (some (.val (.bool y)))=.q True (.val (.bool (!(x==y)))):=by simp[cv]
@[simp] theorem ach(ti:Option TI)(x y:ByteArray):cv .add ti (some (.val (.string x))) (some (.val (.string y)))=.q (x.size+y.size<=9223372036854775807) (.val (.string (x++y))):=by simp[cv,uO]
@[simp] theorem acP(ti:Option TI)(x y:ByteArray):cv .eql ti (some (.val (.string x))) (some (.val (.string y)))=.q True (.val (.bool (decide (x=y)))):=by simp[cv,uO]
@[simp] theorem acI(ti:Option TI)(x y:ByteArray):cv .neq ti (some (.val (.string x))) (some (.val (.string y)))=.q True (.val (.bool (decide (x≠y)))):=by simp[cv,uO]
def Ks(x:SV):Prop:=x.isAgg=false
@[simp] theorem Wl(x:SV):Ks x=(x.isAgg=false):=propext Iff.rfl
@[simp] theorem Z3{op:BinOp}{t:TypeId}{x:SV}{oy:Operand}{y:Option SV}(h:Ks x):xL P op t (some x) oy y=nU op (an P t) (some x) oy y:=by cases x<;>first | rfl | exact Bool.noConfusion h
@[simp] theorem Yf{op:BinOp}{t:TypeId}{v:Value}{oy:Operand}{y:Option SV}:xL P op t (some (.val v)) oy y=nU op (an P t) (some (.val v)) oy y:=rfl
@[simp] theorem aaw{op:BinOp}{ti:Option TI}{x y:Option SV}{k:Nat}:nU op ti x (.tmp k) y=cv op ti x y:=rfl
@[simp] theorem Xv{op:BinOp}{ti:Option TI}{x y:Option SV}{κ:IntKind}{n:Int}:nU op ti x (.const (.int κ n)) y=cv op ti x y:=rfl
@[simp] theorem acE{op:BinOp}{ti:Option TI}{x y:Option SV}{n:ByteArray}:nU op ti x (.const (.string n)) y=cv op ti x y:=rfl
@[simp] theorem Vd{op:BinOp}{ti:Option TI}{x y:Option SV}:nU op ti x (.const (.pointer none)) y=cv op ti x y:=rfl
@[simp] theorem Pv{x:SV}{j:Nat}{e:TypeId}:cv .eql (some ⟨.ptr e,s,b,z⟩) (some (.dc x j)) (some (.val (.pointer none)))=.q True (.bool false):=rfl
@[simp] theorem PV{e:TypeId}:cv .eql (some ⟨.ptr e,s,b,z⟩) (some (.val (.pointer none))) (some (.val (.pointer none)))=.q True (.bool true):=rfl
@[simp] theorem XL{op:BinOp}{ti:Option TI}{x y:Option SV}:nU op ti x (.const .nilIface) y=jQ op ti x:=rfl
@[simp] theorem agx:jQ .eql (some ⟨.iface,s,b,z⟩) (some (.val .nilIface))=.q True (.bool true):=rfl
@[simp] theorem aea:jQ .neq (some ⟨.iface,s,b,z⟩) (some (.val .nilIface))=.q True (.bool false):=rfl
@[simp] theorem ad8{t:TypeId}{x:SV}:jQ .eql (some ⟨.iface,s,b,z⟩) (some (.iT t x))=.q True (.bool false):=rfl
@[simp] theorem agV{t:TypeId}{x:SV}:jQ .neq (some ⟨.iface,s,b,z⟩) (some (.iT t x))=.q True (.bool true):=rfl
@[simp] theorem adH{t g:Nat}:jQ .eql (some ⟨.iface,s,b,z⟩) (some (.iJ t g))=.q True (.bool false):=rfl
@[simp] theorem aee{t g:Nat}:jQ .neq (some ⟨.iface,s,b,z⟩) (some (.iJ t g))=.q True (.bool true):=rfl
@[simp] theorem ajS:L7 .neg (some (.val (.int κ n)))=.q True (.val (.int κ (κ.wrap (0 - n)))):=rfl
@[simp] theorem ah8(b:Bool):L7 .not (some (.val (.bool b)))=.q True (.val (.bool (!b))):=rfl
@[simp] theorem aaG{M:aD}:rI P M (some ti) (some ⟨.int κ,s,b,z⟩) (some (.val (.int κ' n)))=.q True (.val (.int κ (κ.wrap n))):=by
 unfold rI;split
 ·rename_i h;cases h
 ·rfl
@[simp] theorem aa1{M:aD}{el:TypeId}{x:Option SV}{s' b':Nat}{z':List SV}:rI P M (some ⟨.sl el,s,b,z⟩) (some ⟨.str,s',b',z'⟩) x=A6 M (an P el) x:=rfl
def Sk(i n:Nat)(e:Option cz):dD:=match e with
 | some e=>.q (e.sz=1∧i+n<=e.es.length∧((e.es.drop i).take n).all o6=true) (.val (.string (strOf ((e.es.drop i).take n))))
 | none=>.stuck
@[simp] theorem Wy{i n:Nat}{e:cz}:Sk i n (some e)=.q (e.sz=1∧i+n<=e.es.length∧((e.es.drop i).take n).all o6=true) (.val (.string (strOf ((e.es.drop i).take n)))):=rfl
@[simp] theorem abD{M:aD}{k i n:Nat}:A6 M (some ⟨.int .u8,s,b,z⟩) (some (.view k i n))=Sk i n (aA M k):=by simp only[A6,Sk];cases aA M k<;>rfl
@[simp] theorem af8:DE (some (.ptr a i j))=.q True (.ptr a i j):=rfl
@[simp] theorem afT:DE (some (.dc x j))=.q True (.dc x j):=rfl
@[simp] theorem aer:q9 (some (.bP l)) i=.q (i<l.length) (aL l i):=rfl
def faP(a i j:Nat)(q:Option (Nat × Nat × TypeId)):dD:=match q with
 | some (off,sz,_)=>if sz=0 then .stuck else .q True (.ptr a i (j+off))
 | none=>.stuck
def faR(x:SV)(j:Nat)(q:Option (Nat × Nat × TypeId)):dD:=match q with
 | some (off,sz,_)=>if sz=0 then .stuck else .q True (.dc x (j+off))
 | none=>.stuck
@[simp] theorem Xc(off sz:Nat)(t:TypeId):faP a i j (some (off,sz,t))=if sz=0 then .stuck else .q True (.ptr a i (j+off)):=rfl
@[simp] theorem acn(off sz:Nat)(t:TypeId):faR x j (some (off,sz,t))=if sz=0 then .stuck else .q True (.dc x (j+off)):=rfl
@[simp] theorem aj0:fN (some ⟨.st fs,s,b,z⟩) (some (.ptr a i j)) f=faP a i j (oY fs f):=by simp only[fN,faP];cases oY fs f<;>rfl
@[simp] theorem ajr:fN (some ⟨.st fs,s,b,z⟩) (some (.dc x j)) f=faR x j (oY fs f):=by simp only[fN,faR];cases oY fs f<;>rfl
def fdA(l:List SV)(off:Nat)(tf:Option TI):dD:=match tf with
 | some tf=>if tf.k.isAgg=true then .q (off+tf.size<=l.length) (.agg ((l.drop off).take tf.size)) else .q (off<l.length) (aL l off)
 | none=>.stuck
def fdB(P:Program)(l:List SV)(q:Option (Nat × Nat × TypeId)):dD:=match q with
 | some (off,_,ft)=>fdA l off (an P ft)
 | none=>.stuck
def iaR(es:List SV)(n:Int)(te:Option TI):dD:=match te with
 | some te=>.q (0<=n∧n<es.length∧(aL es n.toNat).gJ=te.size∧(aL es n.toNat).aV=false) (.dc (aL es n.toNat) 0)
 | none=>.stuck
@[simp] theorem aaQ:iaR es n (some ti)=.q (0<=n∧n<es.length∧(aL es n.toNat).gJ=ti.size∧(aL es n.toNat).aV=false) (.dc (aL es n.toNat) 0):=rfl
@[simp] theorem anq:fM P M (some ⟨.sl el,s,b,z⟩) (some (.ro es)) (some (.val (.int κ n)))=iaR es n (an P el):=by simp only[fM,iaR];cases an P el<;>rfl
def iaV(a i m:Nat)(n:Int)(te:Option TI)(e:Option cz):dD:=match te,e with
 | some te,some e=>if e.sz=te.size then .q (0<=n∧n<m) (.ptr a (i+n.toNat) 0) else .stuck
 | _,_=>.stuck
@[simp] theorem Y8(k:Nat)(fz:Bool):iaV a i k n (some ti) (some ⟨s,es,fz⟩)=if s=ti.size then .q (0<=n∧n<k) (.ptr a (i+n.toNat) 0) else .stuck:=rfl
@[simp] theorem ae5(k:Nat):fM P M (some ⟨.sl el,s,b,z⟩) (some (.view a i k)) (some (.val (.int κ n)))=iaV a i k n (an P el) (aA M a):=by simp only[fM,iaV];cases an P el<;>cases aA M a<;>rfl
@[simp] theorem ahy(q:ByteArray):s8 (some ⟨.str,s,b,z⟩) (some (.val (.string q))) (some (.val (.int κ n)))=.q (0<=n∧n<q.size) (.val (.int .u8 (eH q n.toNat).toNat)):=rfl
def ldP(ti:TI)(i j:Nat)(e:Option cz):dD:=match e with
 | some e=>.q (i<e.es.length∧(aL e.es i).aV=false∧j+ti.size<=(aL e.es i).gJ) (nR ti (aL e.es i) j)
 | none=>.stuck
@[simp] theorem Ym(fz:Bool):ldP ti i j (some ⟨s,es,fz⟩)=.q (i<es.length∧(aL es i).aV=false∧j+ti.size<=(aL es i).gJ) (nR ti (aL es i) j):=rfl
@[simp] theorem ahD:iO M (some ti) (some (.ptr a i j))=ldP ti i j (aA M a):=by simp only[iO,ldP];cases aA M a<;>rfl
@[simp] theorem ajW:iO M (some ti) (some (.dc x j))=.q (x.aV=false∧j+ti.size<=x.gJ) (nR ti x j):=rfl
@[simp] theorem aii:pd (some ⟨.sl el,s,b,z⟩) (some (.ro es))=.q True (.val (.int .i64 es.length)):=rfl
@[simp] theorem aa0(k:Nat):pd (some ⟨.sl el,s,b,z⟩) (some (.view a i k))=.q True (.val (.int .i64 k)):=rfl
@[simp] theorem afH(q:ByteArray):pd (some ⟨.str,s,b,z⟩) (some (.val (.string q)))=.q True (.val (.int .i64 q.size)):=rfl
@[simp] theorem ajb:nA false (some (.val (.int κ m))) (some (.val (.int κ' n)))=.q True (.val (.int κ (min m n))):=by simp only[nA,Bool.false_eq_true,if_false];congr 3;omega
@[simp] theorem RR(k:Int):fL none k=some k:=rfl
@[simp] theorem Wm(k:Int):fL (some (some (.val (.int κ n)))) k=some n:=rfl
def slS(q:ByteArray)(l h:Option Int):dD:=match l,h with
 | some l,some h=>.q (0<=l∧l<=h∧h<=q.size) (.val (.string (q.extract l.toNat h.toNat)))
 | _,_=>.stuck
@[simp] theorem abb(q:ByteArray):slS q (some m) (some n)=.q (0<=m∧m<=n∧n<=q.size) (.val (.string (q.extract m.toNat n.toNat))):=rfl
@[simp] theorem aiZ(q:ByteArray)(lo hi:Option (Option SV)):jN P M (some ⟨.str,s,b,z⟩) (some (.val (.string q))) lo hi none=slS q (fL lo 0) (fL hi q.size):=by simp only[jN,slS];cases fL lo 0<;>cases fL hi q.size<;>rfl
def BH(s:Nat)(es:List SV):Prop:=es≠[]->(aL es 0).gJ=s∧(aL es 0).aV=false
def slR(es:List SV)(l h:Option Int)(te:Option TI):dD:=match l,h,te with
 | some l,some h,some te=>.q (0<=l∧l<=h∧h<=es.length∧BH te.size es) (.ro ((es.take h.toNat).drop l.toNat))
 | _,_,_=>.stuck
@[simp] theorem aaS:slR es (some m) (some n) (some ti)=.q (0<=m∧m<=n∧n<=es.length∧BH ti.size es) (.ro ((es.take n.toNat).drop m.toNat)):=rfl
@[simp] theorem amQ(lo hi:Option (Option SV)):jN P M (some ⟨.sl el,s,b,z⟩) (some (.ro es)) lo hi none=slR es (fL lo 0) (fL hi es.length) (an P el):=by
 simp only[jN,slR];split
 ·simp[BH, *]
 ·split<;>simp_all
def slV(a i k:Nat)(l h:Option Int)(te:Option TI)(e:Option cz):dD:=match l,h,te,e with
 | some l,some h,some te,some e=>if e.sz=te.size then .q (0<=l∧l<=h∧h<=k) (.view a (i+l.toNat) (h.toNat - l.toNat)) else .stuck
 | _,_,_,_=>.stuck
@[simp] theorem abC(k:Nat)(fz:Bool):slV a i k (some m) (some n) (some ti) (some ⟨s,es,fz⟩)=if s=ti.size then .q (0<=m∧m<=n∧n<=k) (.view a (i+m.toNat) (n.toNat - m.toNat)) else .stuck:=rfl
@[simp] theorem afV(k:Nat)(lo hi:Option (Option SV)):jN P M (some ⟨.sl el,s,b,z⟩) (some (.view a i k)) lo hi none=slV a i k (fL lo 0) (fL hi k) (an P el) (aA M a):=by
 simp only[jN,slV];cases fL lo 0 with
 | none=>rfl
 | some l=>cases fL hi k with
  | none=>rfl
  | some h=>cases an P el with
   | none=>rfl
   | some te=>cases aA M a with
    | none=>rfl
    | some e=>simp
@[simp] theorem ajf(t:TypeId):xk (some ⟨.ptr el,s,b,z⟩) t (some x)=.q True (.iT t x):=rfl
def bdL(l:Option (List SV)):dD:=match l with
 | some l=>.q True (.agg l)
 | none=>.stuck
@[simp] theorem abk:bdL (some l)=.q True (.agg l):=rfl
@[simp] theorem amI(ps:List (Nat × Option SV)):pV (some ⟨.st fs,s,b,z⟩) ps=if fs.all (λf=>f.2.1 != 0)=true then bdL (jA fs ps z) else .stuck:=by
 simp only[pV,bdL];split
 ·cases jA fs ps z<;>rfl
 ·rfl
@[simp] theorem SW(acc:List SV):jA fs [] acc=some acc:=rfl
def Kw(q:Option (Nat × Nat × TypeId))(x:SV)(acc:List SV):Option (List SV):=match q with
 | some (off,sz,_)=>if x.gJ=sz∧x.aV=false∧off+sz<=acc.length then some (acc.take off++x.cells++acc.drop (off+sz)) else none
 | none=>none
@[simp] theorem TO(off sz:Nat)(ft:TypeId)(acc:List SV):Kw (some (off,sz,ft)) x acc=if x.gJ=sz∧x.aV=false∧off+sz<=acc.length then some (acc.take off++x.cells++acc.drop (off+sz)) else none:=rfl
def Gj(fs:List (Nat × Nat × TypeId))(r:List (Nat × Option SV))(a:Option (List SV)):Option (List SV):=a.bind λacc=>jA fs r acc
@[simp] theorem QU(r:List (Nat × Option SV))(a:List SV):Gj fs r (some a)=jA fs r a:=rfl
@[simp] theorem QI(i:Nat)(x:SV)(r:List (Nat × Option SV))(acc:List SV):jA fs ((i,some x)::r) acc=Gj fs r (Kw (oY fs i) x acc):=by
 simp only[jA,Gj];cases oY fs i with
 | none=>rfl
 | some q=>obtain⟨off,sz,ft⟩:=q;simp only[Kw];split<;>rfl
/-! what makes or writes blocks -/
def stP(M:aD)(ti:TI)(a i j:Nat)(y:SV)(e:Option cz):cB:=match e with
 | some ⟨sz,es,false⟩=>.m (i<es.length∧(aL es i).aV=false∧y.aV=false∧y.gJ=ti.size∧j+ti.size<=(aL es i).gJ) (aX M a (some ⟨sz,cZ es i (qZ (aL es i) j y),false⟩)) [] none
 | _=>.stuck
@[simp] theorem abZ:stP M ti a i j y (some ⟨s,es,false⟩)=.m (i<es.length∧(aL es i).aV=false∧y.aV=false∧y.gJ=ti.size∧j+ti.size<=(aL es i).gJ) (aX M a (some ⟨s,cZ es i (qZ (aL es i) j y),false⟩)) [] none:=rfl
@[simp] theorem aik:ow M (some ti) (some (.ptr a i j)) (some y)=stP M ti a i j y (aA M a):=by
 simp only[ow,stP];cases aA M a with
 | none=>rfl
 | some e=>obtain⟨sz,es,f⟩:=e;cases f<;>rfl
@[simp] theorem afv:qG M (some ti)=.m True (M++[some ⟨ti.size,[ti.cR],false⟩]) [] (some (.ptr M.length 0 0)):=rfl
@[simp] theorem ade:A0 M (some ti) (some x)=.m (x.gJ=ti.size∧x.aV=false) (M++[some ⟨ti.size,[x],false⟩]) [] (some (.ptr M.length 0 0)):=rfl
def bsE(M:aD)(len:Nat)(te:TI)(es:Option (List SV)):cB:=match es with
 | some es=>if len*te.size<=16777216 then .m True (M++[some ⟨te.size,es,false⟩]) [] (some (.view M.length 0 len)) else .stuck
 | none=>.stuck
@[simp] theorem ZC:bsE M i ti (some es)=if i*ti.size<=16777216 then .m True (M++[some ⟨ti.size,es,false⟩]) [] (some (.view M.length 0 i)) else .stuck:=rfl
def bsT(M:aD)(len:Nat)(ps:List (Nat × Option SV))(te:Option TI):cB:=match te with
 | some te=>bsE M len te (ki te.size len ps (asr len te.cR))
 | none=>.stuck
@[simp] theorem Xu(ps:List (Nat × Option SV)):bsT M i ps (some ti)=bsE M i ti (ki ti.size i ps (asr i ti.cR)):=rfl
@[simp] theorem adY(ps:List (Nat × Option SV)):fP P M (some ⟨.sl el,s,b,z⟩) i ps=bsT M i ps (an P el):=by
 simp only[fP,bsT,bsE];cases an P el with
 | none=>rfl
 | some te=>simp only;cases ki te.size i ps (asr i te.cR)<;>rfl
@[simp] theorem Uo(sz len:Nat)(acc:List SV):ki sz len [] acc=some acc:=rfl
@[simp] theorem Rt(sz len i:Nat)(x:SV)(r:List (Nat × Option SV))(acc:List SV):ki sz len ((i,some x)::r) acc=if x.gJ=sz∧x.aV=false∧i<len then ki sz len r (cZ acc i x) else none:=rfl
def mkT(M:aD)(n m:Int)(te:Option TI):cB:=match te with
 | some te=>.m (0<=n∧n<=m∧m<=281474976710656∧te.bytes*m<=281474976710656) (M++[some ⟨te.size,asr n.toNat te.cR,false⟩]) [] (some (.view M.length 0 n.toNat))
 | none=>.stuck
@[simp] theorem aab:mkT M n m (some ti)=.m (0<=n∧n<=m∧m<=281474976710656∧ti.bytes*m<=281474976710656) (M++[some ⟨ti.size,asr n.toNat ti.cR,false⟩]) [] (some (.view M.length 0 n.toNat)):=rfl
@[simp] theorem aek:gQ P M (some ⟨.sl el,s,b,z⟩) (some (.val (.int κ n))) (some (.val (.int κ' m)))=mkT M n m (an P el):=by simp only[gQ,mkT];cases an P el<;>rfl
/-! maps -/
@[simp] theorem anV{kt et k:Nat}{v:Value}{ok:Bool}:lH P M (some ⟨.mp kt et,s,b,z⟩) (some (.mp k)) (some (.val v)) ok=VI ok M (an P kt) v (an P et) (aA M k):=rfl
@[simp] theorem ab9{ok:Bool}{ad:Option TI}{v:Value}{te:TI}{f:Bool}:VI ok M ad v (some te) (some ⟨0,es,f⟩)=if CM ad v=true then Ue ok M te (lJ v es 0) else .stuck:=by simp[VI]
@[simp] theorem Yq{ok:Bool}{te:TI}{j:Nat}{y:SV}:Ue ok M te (some (some (j,y)))=.m True M [] (some (two ok y true)):=rfl
@[simp] theorem X1{ok:Bool}{te:TI}:Ue ok M te (some none)=.m True M [] (some (two ok te.cR false)):=rfl
@[simp] theorem aj2{y:SV}{q:Bool}:two false y q=y:=rfl
@[simp] theorem abX{q:ByteArray}:CM (some ⟨.str,s,b,z⟩) (.string q)=true:=rfl
@[simp] theorem OK{m n:ByteArray}:NT (.string m) (.string n)=some (decide (m=n)):=rfl
@[simp] theorem G8{v u:Value}{y:SV}{l:List SV}{i:Nat}:lJ v (.bP [.val u,y]::l) i=kgo v u y i (lJ v l (i+1)):=rfl
@[simp] theorem anX{kt et k:Nat}{v:Value}{y:SV}:j9 P M (some ⟨.mp kt et,s,b,z⟩) (some (.mp k)) (some (.val v)) (some y)=V7 M k (an P kt) v y (aA M k):=rfl
@[simp] theorem XR{k:Nat}{ad:Option TI}{v:Value}{y:SV}:V7 M k ad v y (some ⟨0,es,false⟩)=if CM ad v=true then WW M k es v y (lJ v es 0) else .stuck:=by simp[V7]
@[simp] theorem aah{k j:Nat}{v:Value}{y y':SV}:WW M k es v y (some (some (j,y')))=.m True (aX M k (some ⟨0,cZ es j (.bP [.val v,y]),false⟩)) [] none:=rfl
@[simp] theorem aao{k:Nat}{v:Value}{y:SV}:WW M k es v y (some none)=.m True (aX M k (some ⟨0,es++[.bP [.val v,y]],false⟩)) [] none:=rfl
@[simp] theorem aoD{kt et k:Nat}:fW M (some ⟨.mp kt et,s,b,z⟩) (some (.mp k))=Vg M (aA M k):=rfl
@[simp] theorem abt{f:Bool}:Vg M (some ⟨0,es,f⟩)=.m True M [] (some (.val (.int .i64 es.length))):=by simp[Vg]
@[simp] theorem agv{kt et:Nat}:jB M (some ⟨.mp kt et,s,b,z⟩) none=.m True (M++[some ⟨0,[],false⟩]) [] (some (.mp M.length)):=rfl
/-! append -/
@[simp] theorem als(ys:List SV):kU M ti (some (.ro ys))=some (BH ti.size ys,ys):=rfl
def esV(te:TI)(i n:Nat)(e:Option cz):Option (Prop × List SV):=match e with
 | some e=>some (e.sz=te.size∧i+n<=e.es.length,(e.es.drop i).take n)
 | none=>none
@[simp] theorem Zc(k:Nat)(fz:Bool):esV ti i k (some ⟨s,es,fz⟩)=some (s=ti.size∧i+k<=es.length,(es.drop i).take k):=rfl
@[simp] theorem af0(k:Nat):kU M ti (some (.view a i k))=esV ti i k (aA M a):=by simp only[kU,esV];cases aA M a<;>rfl
def apV(fx:List Nat)(M:aD)(a n:Nat)(te:TI)(e:Option cz)(ys:Option (Prop × List SV)):cB:=match e,ys with
 | some ⟨sz,es,false⟩,some (c,ys)=>.m (a∉fx∧c∧n=es.length∧sz=te.size∧eE a M=true∧SV.aZ a ys=false∧(∀y∈ys,y.aV=false)∧(es.length+ys.length)*te.bytes<=70368744177664∧0<te.bytes) (aX M a (some ⟨sz,es++ys,false⟩)) [a] (some (.view a 0 (n+ys.length)))
 | _,_=>.stuck
@[simp] theorem Y7(k:Nat)(c:Prop)(fx:List Nat)(ys:List SV):apV fx M a k ti (some ⟨s,es,false⟩) (some (c,ys))=.m (a∉fx∧c∧k=es.length∧s=ti.size∧eE a M=true∧SV.aZ a ys=false∧(∀y∈ys,y.aV=false)∧(es.length+ys.length)*ti.bytes<=70368744177664∧0<ti.bytes) (aX M a (some ⟨s,es++ys,false⟩)) [a] (some (.view a 0 (k+ys.length))):=rfl
def apT(fx:List Nat)(M:aD)(a n:Nat)(x:Option SV)(te:Option TI):cB:=match te with
 | some te=>apV fx M a n te (aA M a) (kU M te x)
 | none=>.stuck
@[simp] theorem XO(fx:List Nat)(k:Nat):apT fx M a k u (some ti)=apV fx M a k ti (aA M a) (kU M ti u):=rfl
def apN(M:aD)(te:TI)(ys:Option (Prop × List SV)):cB:=match ys with
 | some (c,ys)=>.m (c∧eE M.length M=true∧SV.aZ M.length ys=false∧(∀y∈ys,y.aV=false)∧ys.length*te.bytes<=70368744177664∧0<te.bytes) (M++[some ⟨te.size,ys,false⟩]) [M.length] (some (.view M.length 0 ys.length))
 | none=>.stuck
@[simp] theorem Yh(c:Prop)(ys:List SV):apN M ti (some (c,ys))=.m (c∧eE M.length M=true∧SV.aZ M.length ys=false∧(∀y∈ys,y.aV=false)∧ys.length*ti.bytes<=70368744177664∧0<ti.bytes) (M++[some ⟨ti.size,ys,false⟩]) [M.length] (some (.view M.length 0 ys.length)):=rfl
def RE(M:aD)(x:Option SV)(te:Option TI):cB:=match te with
 | some te=>apN M te (kU M te x)
 | none=>.stuck
@[simp] theorem VD:RE M u (some ti)=apN M ti (kU M ti u):=rfl
@[simp] theorem afM(fx:List Nat)(k s2 b2:Nat)(z2:List SV)(ag:TypeId):iD P fx M (some ⟨.sl el,s,b,z⟩) (some ⟨.sl ag,s2,b2,z2⟩) (some (.view a 0 k)) u=apT fx (FD a M) a k u (an P el):=by
 simp only[iD,z6,kM,apT];generalize FD a M=M;cases an P el with
 | none=>rfl
 | some te =>
  simp only[apV];cases aA M a with
  | none=>rfl
  | some e=>obtain⟨sz,es,f⟩:=e;cases f with
   | true=>rfl
   | false=>simp only;cases kU M te u<;>rfl
@[simp] theorem ag6(fx:List Nat)(s2 b2:Nat)(z2:List SV)(ag:TypeId):iD P fx M (some ⟨.sl el,s,b,z⟩) (some ⟨.sl ag,s2,b2,z2⟩) (some (.val (.slice none 0 0))) u=RE M u (an P el):=by
 simp only[iD,z6,kM,RE,apN];cases an P el with
 | none=>rfl
 | some te=>simp only;cases kU M te u<;>rfl
end
section
variable (P:Program) (M:aD) (ti:TI) (a k s b:Nat) (z es ys:List SV) (el:TypeId) (u:Option SV) (c:Prop)
def cpV(M:aD)(a n:Nat)(te:TI)(e:Option cz)(ys:Option (Prop × List SV)):cB:=match e,ys with
 | some ⟨sz,es,false⟩,some (c,ys)=>.m (c∧n=es.length∧ys.length=n∧sz=te.size∧∀y∈ys,y.aV=false) (aX M a (some ⟨sz,ys,false⟩)) [] (some (.val (.int .i64 n)))
 | _,_=>.stuck
def cpT(M:aD)(a n:Nat)(x:Option SV)(te:Option TI):cB:=match te with
 | some te=>cpV M a n te (aA M a) (kU M te x)
 | none=>.stuck
end
@[simp] theorem agf(fr:List (Nat × SV)):zE fr []=some []:=rfl
def aY(x:Option SV)(l:Option (List SV)):Option (List SV):=match x,l with
 | some x,some l=>some (x::l)
 | _,_=>none
@[simp] theorem RW(x:SV)(l:List SV):aY (some x) (some l)=some (x::l):=rfl
@[simp] theorem abo(fr:List (Nat × SV))(o:Operand)(r:List Operand):zE fr (o::r)=aY (ev fr o) (zE fr r):=by simp only[zE,aY];cases ev fr o<;>cases zE fr r<;>rfl
@[simp] theorem akn(fr:List (Nat × SV))(t:Nat):ev fr (.tmp t)=get fr t:=rfl
@[simp] theorem WE(fr:List (Nat × SV))(g:Nat):ev fr (.global g)=if Cx.contains g=true then some (.dc (.iJ mC g) 0) else some (.val (.pointer (some ⟨g,0,none⟩))):=by simp only[ev,gl];split<;>simp_all
@[simp] theorem aeZ:Cx=[3,4,5,0,7]:=rfl
@[simp] theorem aiV(fr:List (Nat × SV))(κ:IntKind)(n:Int):ev fr (.const (.int κ n))=some (.val (.int κ n)):=rfl
@[simp] theorem adq(fr:List (Nat × SV))(b:Bool):ev fr (.const (.bool b))=some (.val (.bool b)):=rfl
@[simp] theorem ajY(fr:List (Nat × SV))(b:ByteArray):ev fr (.const (.string b))=some (.val (.string b)):=rfl
@[simp] theorem QC(fr:List (Nat × SV)):ev fr (.const (.slice none 0 0))=some (.val (.slice none 0 0)):=rfl
@[simp] theorem Vf(fr:List (Nat × SV)):ev fr (.const (.pointer none))=some (.val (.pointer none)):=rfl
@[simp] theorem acZ(fr:List (Nat × SV)):ev fr (.const .nilIface)=some (.val .nilIface):=rfl
@[simp] theorem get_nil(t:Nat):get [] t=none:=rfl
@[simp] theorem ab2(s t:Nat)(x:SV)(r:List (Nat × SV)):get ((s,x)::r) t=if s=t then some x else get r t:=rfl
@[simp] theorem VC(t:Nat)(x:SV)(fr:List (Nat × SV)):eI (some t) (some x) fr=(t,x)::fr:=rfl
@[simp] theorem abp{n t:Nat}(h:t<n)(fr:List (Nat × SV)):fp n (some t) fr=(t,.bP [])::fr:=by simp[fp,h]
@[simp] theorem V3(x:Option SV)(fr:List (Nat × SV)):eI none x fr=fr:=by cases x<;>rfl
@[simp] theorem aaI(t n:Nat):zO (some t) n=(t<n):=rfl
@[simp] theorem YV(n:Nat):zO none n=True:=rfl
@[simp] theorem ad2(t:Nat):del [] t=[]:=rfl
@[simp] theorem W3(s t:Nat)(x:SV)(r:List (Nat × SV)):del ((s,x)::r) t=if s=t then del r t else(s,x)::del r t:=by simp only[del,atx];by_cases h:s=t<;>simp[h]
@[simp] theorem QV(pk:List Nat):forget pk []=[]:=rfl
@[simp] theorem S3(a t:Nat)(x:SV)(r:List (Nat × SV)):forget [a] ((t,x)::r)=if x.cj a=true then del (forget [a] r) t else(t,x)::forget [a] r:=by simp only[forget];cases h:x.cj a<;>simp[h]
@[simp] theorem Wn(x:Option cz)(l:aD):aA (x::l) 0=x:=rfl
@[simp] theorem V8(x:Option cz)(l:aD)(n:Nat):aA (x::l) (n+1)=aA l n:=rfl
@[simp] theorem U7(x y:Option cz)(l:aD):aX (x::l) 0 y=y::l:=rfl
@[simp] theorem UA(x y:Option cz)(l:aD)(n:Nat):aX (x::l) (n+1) y=x::aX l n y:=rfl
@[simp] theorem WT(x:SV)(l:List SV):aL (x::l) 0=x:=rfl
@[simp] theorem Wk(x:SV)(l:List SV)(n:Nat):aL (x::l) (n+1)=aL l n:=rfl
@[simp] theorem VF(x y:SV)(l:List SV):cZ (x::l) 0 y=y::l:=rfl
@[simp] theorem Vp(x y:SV)(l:List SV)(n:Nat):cZ (x::l) (n+1) y=x::cZ l n y:=rfl
@[simp] theorem Vu(x:Nat × Nat × TypeId)(l:List (Nat × Nat × TypeId)):oY (x::l) 0=some x:=rfl
@[simp] theorem U5(x:Nat × Nat × TypeId)(l:List (Nat × Nat × TypeId))(n:Nat):oY (x::l) (n+1)=oY l n:=rfl
@[simp] theorem Qt{d:Option Tmp}{op:Op}{t:TypeId}{p:String}{af:Array Edge}{g:Option (Nat × Bool)}(l:List Oper):nX (⟨d,op,t,p,af,g⟩::l) 0=d:=rfl
@[simp] theorem Q2(x:Oper)(l:List Oper)(n:Nat):nX (x::l) (n+1)=nX l n:=rfl
section
variable (v:Value) (a b c n:Nat) (l es:List SV) (x:SV) (t:TypeId)
@[simp] theorem WI:(SV.val v).cells=[.val v]:=rfl
@[simp] theorem Th:(SV.view a b c).cells=[.view a b c]:=rfl
@[simp] theorem YY:(SV.ro es).cells=[.ro es]:=rfl
@[simp] theorem VZ:(SV.dc x a).cells=[.dc x a]:=rfl
@[simp] theorem UM:(SV.agg l).cells=l:=rfl
@[simp] theorem WG:(SV.iT t x).cells=[.iT t x]:=rfl
@[simp] theorem adn:(SV.val v).gJ=1:=rfl
@[simp] theorem af3:(SV.ptr a b c).gJ=1:=rfl
@[simp] theorem abN:(SV.view a b c).gJ=1:=rfl
@[simp] theorem ajn:(SV.ro es).gJ=1:=rfl
@[simp] theorem adg:(SV.dc x a).gJ=1:=rfl
@[simp] theorem aeF:(SV.agg l).gJ=l.length:=rfl
@[simp] theorem ags:(SV.iT t x).gJ=1:=rfl
@[simp] theorem UB:(SV.val v).aV=false:=rfl
@[simp] theorem Vj:(SV.ptr a b c).aV=false:=rfl
@[simp] theorem R5:(SV.view a b c).aV=false:=rfl
@[simp] theorem Xy:(SV.ro es).aV=false:=rfl
@[simp] theorem V5:(SV.dc x a).aV=false:=rfl
@[simp] theorem WX:(SV.agg l).aV=false:=rfl
@[simp] theorem V1:(SV.iT t x).aV=false:=rfl
@[simp] theorem We:(SV.val v).isAgg=false:=rfl
@[simp] theorem Uz:(SV.ptr a b c).isAgg=false:=rfl
@[simp] theorem Ui:(SV.view a b c).isAgg=false:=rfl
@[simp] theorem Z1:(SV.ro es).isAgg=false:=rfl
@[simp] theorem U6:(SV.dc x a).isAgg=false:=rfl
@[simp] theorem UP:(SV.agg l).isAgg=true:=rfl
@[simp] theorem UZ:(SV.iT t x).isAgg=false:=rfl
@[simp] theorem Zd:(SV.val v).cj n=false:=rfl
@[simp] theorem ab0:(SV.ptr a b c).cj n=(a==n):=rfl
@[simp] theorem Wt:(SV.view a b c).cj n=(a==n):=rfl
@[simp] theorem agF:(SV.ro es).cj n=false:=rfl
@[simp] theorem XI:(SV.dc x a).cj n=false:=rfl
@[simp] theorem Yz:(SV.agg l).cj n=SV.aZ n l:=by simp[SV.cj]
@[simp] theorem acw:(SV.bP l).cj n=SV.aZ n l:=by simp[SV.cj]
@[simp] theorem WC:SV.aZ n []=false:=by simp[SV.aZ]
@[simp] theorem R9:SV.aZ n (x::l)=(x.cj n||SV.aZ n l):=by simp[SV.aZ]
@[simp] theorem Z2:(SV.val v).pure=true:=rfl
@[simp] theorem X6:(SV.ptr a b c).pure=false:=rfl
@[simp] theorem Vt:(SV.view a b c).pure=false:=rfl
@[simp] theorem afm:(SV.ro es).pure=true:=rfl
@[simp] theorem aap:(SV.dc x a).pure=true:=rfl
@[simp] theorem abU:(SV.agg l).pure=SV.bJ l:=by simp[SV.pure]
@[simp] theorem aaB:(SV.bP l).pure=SV.bJ l:=by simp[SV.pure]
@[simp] theorem UD:SV.bJ []=true:=by simp[SV.bJ]
@[simp] theorem Ud:SV.bJ (x::l)=(x.pure&&SV.bJ l):=by simp[SV.bJ]
@[simp] theorem aj9:(SV.val v).lt n=true:=rfl
@[simp] theorem ahN:(SV.ptr a b c).lt n=decide (a<n):=rfl
@[simp] theorem ag3:(SV.view a b c).lt n=decide (a<n):=rfl
@[simp] theorem anU:(SV.ro es).lt n=true:=rfl
@[simp] theorem ai4:(SV.dc x a).lt n=true:=rfl
@[simp] theorem ahK:(SV.agg l).lt n=SV.kZ n l:=by simp[SV.lt]
@[simp] theorem ajC:(SV.bP l).lt n=SV.kZ n l:=by simp[SV.lt]
@[simp] theorem air:(SV.iT t x).lt n=x.lt n:=by simp[SV.lt]
@[simp] theorem agX:SV.kZ n []=true:=by simp[SV.kZ]
@[simp] theorem aaH:SV.kZ n (x::l)=(x.lt n&&SV.kZ n l):=by simp[SV.kZ]
@[simp] theorem aj1:(SV.val v).ks=[]:=rfl
@[simp] theorem aeG:(SV.view a b c).ks=[a]:=rfl
@[simp] theorem anW:(SV.ro es).ks=[]:=rfl
@[simp] theorem ai6:(SV.dc x a).ks=[]:=rfl
@[simp] theorem ajl:(SV.agg l).ks=SV.uB l:=by simp[SV.ks]
@[simp] theorem agl:SV.uB []=[]:=by simp[SV.uB]
@[simp] theorem acX:SV.uB (x::l)=x.ks++SV.uB l:=by simp[SV.uB]
@[simp] theorem YP(fs:List (Nat × Nat × TypeId)):(TK.st fs).isAgg=true:=rfl
@[simp] theorem WJ(κ:IntKind):(TK.int κ).isAgg=false:=rfl
@[simp] theorem Su:TK.bool.isAgg=false:=rfl
@[simp] theorem VV:TK.str.isAgg=false:=rfl
@[simp] theorem abw:(TK.sl t).isAgg=false:=rfl
@[simp] theorem R8:(TK.ptr t).isAgg=false:=rfl
@[simp] theorem Zt:TK.iface.isAgg=false:=rfl
@[simp] theorem VQ:eE n []=true:=rfl
@[simp] theorem ah7{M:aD}{k:Nat}:FD k M=if eE k M=true then M else o4 k M:=rfl
@[simp] theorem Z9{k:Nat}:o4 k []=[]:=rfl
@[simp] theorem UK{k sz:Nat}{f:Bool}(es:List SV)(M:aD):o4 k (some ⟨sz,es,f⟩::M)=some ⟨sz,Fi k es,f⟩::o4 k M:=rfl
@[simp] theorem agQ{k:Nat}{es:List SV}:Fi k es=if SV.aZ k es=true then es.map (GW k) else es:=rfl
@[simp] theorem acp{k:Nat}(l:List SV):GW k (.agg l)=.agg (l.map λy=>if y.cj k then .any else y):=rfl
@[simp] theorem SE(sz:Nat)(f:Bool)(M:aD):eE n (some ⟨sz,es,f⟩::M)=(!SV.aZ n es&&eE n M):=rfl
@[simp] theorem agw(M:aD):Kq [] M=M:=rfl
def fz1(k:Nat)(r:List Nat)(M:aD)(o:Option cz):aD:=match o with
 | some e=>Kq r (aX M k (some ⟨e.sz,e.es,true⟩))
 | none=>Kq r M
@[simp] theorem Yu(k:Nat)(r:List Nat)(M:aD):Kq (k::r) M=fz1 k r M (aA M k):=rfl
@[simp] theorem ack(k:Nat)(r:List Nat)(M:aD)(sz:Nat)(f:Bool):fz1 k r M (some ⟨sz,es,f⟩)=Kq r (aX M k (some ⟨sz,es,true⟩)):=rfl
@[simp] theorem afL(t g:Nat):(SV.iJ t g).gJ=1:=rfl
@[simp] theorem UE(t g:Nat):(SV.iJ t g).aV=false:=rfl
@[simp] theorem WD(t g:Nat):(SV.iJ t g).isAgg=false:=rfl
@[simp] theorem abH(t g:Nat):(SV.iJ t g).pure=true:=rfl
@[simp] theorem ah9(n t g:Nat):(SV.iJ t g).lt n=true:=rfl
@[simp] theorem WM(t g:Nat):(SV.iJ t g).cells=[.iJ t g]:=rfl
@[simp] theorem XC{n:Nat}:(SV.any).cj n=false:=rfl
@[simp] theorem Zp{n:Nat}{f:FuncId}{l r:List SV}:(SV.jw f l r).cj n=(SV.aZ n l||SV.aZ n r):=rfl
@[simp] theorem aeh:(SV.mp a).pure=false:=rfl
@[simp] theorem Zg:(SV.any).pure=true:=rfl
@[simp] theorem W6{f:FuncId}{l r:List SV}:(SV.jw f l r).pure=(SV.bJ l&&SV.bJ r):=rfl
@[simp] theorem akX:(SV.mp a).lt n=decide (a<n):=rfl
@[simp] theorem ahv{n:Nat}{f:FuncId}{l r:List SV}:(SV.jw f l r).lt n=(SV.kZ n l&&SV.kZ n r):=rfl
@[simp] theorem XM(M:aD):Sub M (.view a b n) (.ro es)=onO (aA M a) λe=>SV.bJ e.es=true∧b+n<=e.es.length∧(e.es.drop b).take n=es:=by simp only[Sub];cases aA M a<;>rfl
@[simp] theorem afA(M:aD)(j:Nat):Sub M (.ptr a b c) (.dc x j)=onO (aA M a) λe=>SV.bJ e.es=true∧b<e.es.length∧(aL e.es b).aV=false∧aL e.es b=x∧c=j:=by simp only[Sub];cases aA M a<;>rfl
@[simp] theorem adp(M:aD):Sub M (.agg l) (.agg es)=cK M l es:=by simp only[Sub]
@[simp] theorem af9(M:aD):Sub M (.bP l) (.bP es)=cK M l es:=by simp only[Sub]
@[simp] theorem adl(M:aD)(t':TypeId)(x':SV):Sub M (.iT t x) (.iT t' x')=(t=t'∧Sub M x x'):=by simp only[Sub]
@[simp] theorem afy(M:aD):Sub M (.val v) (.ro es)=(v=.slice none 0 0∧es=[]):=by simp only[Sub]
@[simp] theorem adU(M:aD)(v':Value):Sub M (.val v) (.val v')=(v=v'):=by simp only[Sub]
@[simp] theorem ahp(M:aD)(y:SV):Sub M (.ro es) y=(y=.ro es):=by simp only[Sub]
@[simp] theorem agD(M:aD)(y:SV)(t g:Nat):Sub M (.iJ t g) y=(y=.iJ t g):=by simp only[Sub]
@[simp] theorem X0(M:aD):cK M [] es=(es=[]):=by simp only[cK]
@[simp] theorem Vx(M:aD)(x':SV):cK M (x::l) (x'::es)=(Sub M x x'∧cK M l es):=by simp only[cK]
end
/-! results -/
def jt(P:Program)(st:St)(r:ResultVar):dD:=match r with
 | .tmp t=>RT (get st.fr t)
 | .cell t T=>iO st.M (an P T) (get st.fr t)
@[simp] theorem abW(P:Program)(st:St)(t:Nat):jt P st (.tmp t)=RT (get st.fr t):=rfl
@[simp] theorem U3(P:Program)(st:St)(t T:Nat):jt P st (.cell t T)=iO st.M (an P T) (get st.fr t):=rfl
def fin(M:aD)(x:SV)(Φ:SV->Prop):Prop:=∃y,Sub M x y∧Φ y
def SG(r:dD)(M:aD)(Φ:SV->Prop):Prop:=match r with
 | .q c x=>c∧fin M x Φ
 | _=>False
def D2(rs:List dD)(acc:List SV)(M:aD)(Φ:SV->Prop):Prop:=match rs with
 | []=>fin M (.bP acc) Φ
 | .q c x::r=>c∧D2 r (acc++[x]) M Φ
 | _=>False
@[simp] theorem aiX{c:Prop}{x:SV}{M:aD}{Φ:SV->Prop}:SG (.q c x) M Φ=(c∧fin M x Φ):=rfl
@[simp] theorem acH{acc:List SV}{M:aD}{Φ:SV->Prop}:D2 [] acc M Φ=fin M (.bP acc) Φ:=rfl
@[simp] theorem aiu{c:Prop}{x:SV}{r:List dD}{acc:List SV}{M:aD}{Φ:SV->Prop}:D2 (.q c x::r) acc M Φ=(c∧D2 r (acc++[x]) M Φ):=rfl
theorem mW(P:Program)(st:St)(r:ResultVar):sc P st r=(match jt P st r with | .q c x=>some (c,x) | _=>none):=by
 cases r with
 | tmp t=>simp only[jt,sc];cases get st.fr t<;>rfl
 | cell t T =>
  simp only[jt,sc];cases get st.fr t with
  | none=>simp only[iO];cases an P T<;>rfl
  | some u=>split<;>simp_all
section
variable (P:Program) (st:St) (r s u:ResultVar) (Φ:SV->Prop)
@[simp] theorem Wz:lZ P [r] Φ .ret st=SG (jt P st r) st.M Φ:=by simp only[lZ,lG,uW,mW];cases jt P st r<;>simp[SG,fin]
@[simp] theorem Uy:lZ P [r,s] Φ .ret st=D2 [jt P st r,jt P st s] [] st.M Φ:=by simp only[lZ,lG,uW,mW];cases jt P st r<;>cases jt P st s<;>simp[D2,fin,and_assoc]
@[simp] theorem Vh:lZ P [r,s,u] Φ .ret st=D2 [jt P st r,jt P st s,jt P st u] [] st.M Φ:=by simp only[lZ,lG,uW,mW];cases jt P st r<;>cases jt P st s<;>cases jt P st u<;>simp[D2,fin,and_assoc]
theorem DX(rs:List ResultVar):lZ P rs Φ .normal st=lZ P rs Φ .ret st:=rfl
@[simp] theorem SH{rs:List ResultVar}{c:List PanicEntry}:lZ P rs Φ (.panic c) st=False:=rfl
end
attribute [simp] DX
def TE(r:dD)(M:aD)(pk:List Nat)(k:aD->List Nat->SV->Prop):Prop:=match r with
 | .q c x=>c∧k M pk x
 | _=>False
def vT(rs:List dD)(acc:List SV)(M:aD)(pk:List Nat)(k:aD->List Nat->SV->Prop):Prop:=match rs with
 | []=>k M pk (.bP acc)
 | .q c x::r=>c∧vT r (acc++[x]) M pk k
 | _=>False
section
variable {P:Program} {st:St} {r s u:ResultVar} {pk:List Nat} {k:aD->List Nat->SV->Prop}
@[simp] theorem ajq{c:Prop}{x:SV}{M:aD}:TE (.q c x) M pk k=(c∧k M pk x):=rfl
@[simp] theorem Wx{acc:List SV}{M:aD}:vT [] acc M pk k=k M pk (.bP acc):=rfl
@[simp] theorem aed{c:Prop}{x:SV}{r:List dD}{acc:List SV}{M:aD}:vT (.q c x::r) acc M pk k=(c∧vT r (acc++[x]) M pk k):=rfl
@[simp] theorem VW:gK P [] pk k .ret st=k st.M pk (.bP []):=by simp[gK,lG,uW]
@[simp] theorem Wf:gK P [r] pk k .ret st=TE (jt P st r) st.M pk k:=by simp only[gK,lG,uW,mW];cases jt P st r<;>simp[TE]
@[simp] theorem Vl:gK P [r,s] pk k .ret st=vT [jt P st r,jt P st s] [] st.M pk k:=by simp only[gK,lG,uW,mW];cases jt P st r<;>cases jt P st s<;>simp[vT,and_assoc]
@[simp] theorem UN:gK P [r,s,u] pk k .ret st=vT [jt P st r,jt P st s,jt P st u] [] st.M pk k:=by simp only[gK,lG,uW,mW];cases jt P st r<;>cases jt P st s<;>cases jt P st u<;>simp[vT,and_assoc]
@[simp] theorem Qs{rs:List ResultVar}:gK P rs pk k .normal st=gK P rs pk k .ret st:=rfl
@[simp] theorem Sm{rs:List ResultVar}{c:List PanicEntry}:gK P rs pk k (.panic c) st=False:=rfl
end
theorem Ub(M:aD)(x y:SV):fin M x (λz=>z=y)=Sub M x y:=by simp[fin]
attribute [simp] Ub nR qZ TI.cR mh qA u4 iU bU fI gz ee
theorem aa.go{P:Program}{C:Ctx}{c:Code}{st:St}{Q:bf}(h:vc P C c st Q Q):aa P C c st Q:=mO c st (λ_ _ h=>h) (λ_ _ h=>h) h
theorem tA.go{P:Program}{C:Ctx}{all:Array Oper}{l:List Oper}{st:St}{Q:bf}(h:fX P C all l st Q Q):tA P C all l st Q:=jV l st (λ_ _ h=>h) (λ_ _ h=>h) h
theorem bg{P:Program}{C:Ctx}{f:FuncId}{args ac:List SV}{y:SV}{M:aD}{W:Option (List Nat)}{k:aD->List Nat->SV->Prop}(h:aG P f ac y)(hs:cK M args ac)(hk:k (Kq (SV.uB args) M) [] y):dN P C f args M W k :=
 yR h hs λx hx=>by rw[hx];exact hk
/-! regions whose operations may come up in any order -/
def mH:List Oper->Nat->Option Oper
 | [],_=>none
 | o::_,0=>some o
 | _::l,n+1=>mH l n
theorem k9{l:List Oper}{j:Nat}:l.toArray[j]?=mH l j:=by
 simp only[atw]
 induction l generalizing j with
 | nil=>rfl
 | cons x l ih=>cases j with
  | zero=>rfl
  | succ j=>simpa[mH]using ih
@[simp] theorem U8(o:Oper)(l:List Oper):mH (o::l) 0=some o:=rfl
@[simp] theorem VU(o:Oper)(l:List Oper)(n:Nat):mH (o::l) (n+1)=mH l n:=rfl
section
variable {P:Program} {C:Ctx} {st:St} {Q QJ:bf} {l:List Oper} {d:Option Tmp} {op:Op} {t:TypeId} {p:String} {af:Array Edge} {o:Oper} {r r':Pl} {i j:Nat} {ks ah:List Nat} {yes no:St->Prop}
def Tv(P:Program)(C:Ctx)(l:List Oper)(ks:List Nat)(o:Oper)(r:Pl)(Q QJ:bf)(st:St):Prop:=G0 ks st o.op∧cH P C none o st (O5 P C l.toArray r Q QJ) noJ
def RN(P:Program)(C:Ctx)(l:List Oper)(ks:List Nat)(o:Oper)(r:Pl)(Q QJ:bf)(st:St):Prop:=((okW ks st o.op∧xH ks r o.op)∧r.there st.M)∧cH P C (some (nb ks)) o st (O5 P C l.toArray r Q QJ) (njP P C l.toArray r QJ)
@[simp] theorem Yt:Tv P C l ks o r Q QJ st=(G0 ks st o.op∧cH P C none o st (O5 P C l.toArray r Q QJ) noJ):=rfl
@[simp] theorem ZR:RN P C l ks o r Q QJ st=(((okW ks st o.op∧xH ks r o.op)∧r.there st.M)∧cH P C (some (nb ks)) o st (O5 P C l.toArray r Q QJ) (njP P C l.toArray r QJ)):=rfl
def Kr(b:Bool)(d:Option Tmp)(st:St)(yes no:St->Prop)(t':Nat)(v:Option SV):Prop:=match v with
 | some (.val (.bool c))=>(c=b->yes ⟨st.n,(t',.val (.bool b))::st.fr,st.M⟩)∧(c=!b->no ⟨st.n,fp st.n d ((t',.val (.bool (!b)))::st.fr),st.M⟩)
 | some (.bP [])=>no ⟨st.n,fp st.n d st.fr,st.M⟩
 | _=>False
def gp0(b:Bool)(d:Option Tmp)(st:St)(yes no:St->Prop)(t':Option Nat):Prop:=match t' with
 | some t'=>Kr b d st yes no t' (get st.fr t')
 | none=>False
@[simp] theorem abh{b:Bool}{t':Nat}:gp0 b d st yes no (some t')=Kr b d st yes no t' (get st.fr t'):=rfl
@[simp low] theorem acU{b c:Bool}{t':Nat}:Kr b d st yes no t' (some (.val (.bool c)))=((c=b->yes ⟨st.n,(t',.val (.bool b))::st.fr,st.M⟩)∧(c=!b->no ⟨st.n,fp st.n d ((t',.val (.bool (!b)))::st.fr),st.M⟩)):=rfl
@[simp] theorem ajo{t':Nat}:Kr true d st yes no t' (some (.val (.bool true)))=yes ⟨st.n,(t',.val (.bool true))::st.fr,st.M⟩:=by simp[Kr]
@[simp] theorem ahh{t':Nat}:Kr false d st yes no t' (some (.val (.bool false)))=yes ⟨st.n,(t',.val (.bool false))::st.fr,st.M⟩:=by simp[Kr]
@[simp] theorem aj4{t':Nat}:Kr true d st yes no t' (some (.val (.bool false)))=no ⟨st.n,fp st.n d ((t',.val (.bool false))::st.fr),st.M⟩:=by simp[Kr]
@[simp] theorem ahc{t':Nat}:Kr false d st yes no t' (some (.val (.bool true)))=no ⟨st.n,fp st.n d ((t',.val (.bool true))::st.fr),st.M⟩:=by simp[Kr]
@[simp ↓] theorem abe:gd l.toArray ⟨d,op,t,p,af,none⟩ st yes no=yes st:=rfl
@[simp ↓] theorem ZF{b:Bool}:gd l.toArray ⟨d,op,t,p,af,some (j,b)⟩ st yes no=gp0 b d st yes no (nX l j):=by
 simp only[gd,gp0];rw[<-AF];cases pD l.toArray j with
 | none=>rfl
 | some t' =>
  simp only[Kr];cases get st.fr t' with
  | none=>rfl
  | some v=>cases v with
   | val u=>cases u<;>rfl
   | bP l=>cases l<;>rfl
   | _=>rfl
def pQ(P:Program)(C:Ctx)(l:List Oper)(ks:List Nat)(o:Option Oper)(r:Pl)(st:St)(Q QJ:bf):Prop:=match o with
 | some o=>gd l.toArray o st (Tv P C l ks o r Q QJ) (O5 P C l.toArray r Q QJ)
 | none=>False
def pL(P:Program)(C:Ctx)(l:List Oper)(ks:List Nat)(o:Option Oper)(r:Pl)(st:St)(Q QJ:bf):Prop:=match o with
 | some o=>gd l.toArray o st (RN P C l ks o r Q QJ) (O5 P C l.toArray r Q QJ)
 | none=>False
@[simp] theorem adG:pQ P C l ks (some o) r st Q QJ=gd l.toArray o st (Tv P C l ks o r Q QJ) (O5 P C l.toArray r Q QJ):=rfl
@[simp] theorem ac7:pL P C l ks (some o) r st Q QJ=gd l.toArray o st (RN P C l ks o r Q QJ) (O5 P C l.toArray r Q QJ):=rfl
@[simp] theorem ahq:Pl.qs [] r=r:=rfl
@[simp] theorem aeI{l:List Nat}:Pl.qs (i::l) r=.q i [] (Pl.qs l r):=rfl
@[simp ↓] theorem Xj:fu P C l.toArray .nil st Q QJ=Q .normal st:=rfl
@[simp ↓] theorem ait:fu P C l.toArray (.q i ks r) st Q QJ=pQ P C l ks (mH l i) r st Q QJ:=by simp only[fu,k9];cases mH l i<;>rfl
@[simp ↓] theorem aiC:fu P C l.toArray (.l i ks r) st Q QJ=pL P C l ks (mH l i) r st Q QJ:=by simp only[fu,k9];cases mH l i<;>rfl
@[simp ↓] theorem aib:fu P C l.toArray (.m i ks r j ah r') st Q QJ=(pL P C l ks (mH l i) r st Q QJ∧pL P C l ah (mH l j) r' st Q QJ):=by simp only[fu,k9];cases mH l i<;>cases mH l j<;>simp[pL]<;>rfl
@[simp ↓] theorem aaL{p:Pl}:fu P C l.toArray (.alt i ks r p) st Q QJ=(pL P C l ks (mH l i) r st Q QJ∧fu P C l.toArray p st Q QJ):=by simp only[fu,k9];cases mH l i<;>rfl
@[simp ↓] theorem Vv:fu P C l.toArray .stop st Q QJ=True:=rfl
@[simp] theorem adM{k:IntKind}{n:Int}:ZE (some (.val (.int k n)))=True:=rfl
def ru(st:St)(o:Op):Prop:=match o with
 | .convert _ _ x=>ZE (ev st.fr x)
 | .call ⟨.builtin .len,args,_⟩=>M3 (args.toList.map (ev st.fr))
 | _=>True
@[simp] theorem YW{s d:TypeId}{x:Operand}:ru st (.convert s d x)=ZE (ev st.fr x):=rfl
@[simp] theorem YL{x:Operand}:ru st (.move x)=True:=rfl
@[simp] theorem SF{x:Operand}:ru st (.assign x)=True:=rfl
@[simp] theorem abP{x y z:Operand}:ru st (.pick x y z)=True:=rfl
@[simp] theorem agY{op:BinOp}{t t':TypeId}{x y:Operand}:ru st (.binOp op t x y t')=True:=rfl
@[simp] theorem ako{op:UnOp}{t:TypeId}{x:Operand}:ru st (.unOp op t x)=True:=rfl
@[simp] theorem Zj{x:Operand}:ru st (.nilCheck x)=True:=rfl
@[simp] theorem ae3{x:Operand}{i:Nat}:ru st (.extract x i)=True:=rfl
@[simp] theorem ahH{t:TypeId}{x:Operand}{i:Nat}:ru st (.fieldAddr t x i)=True:=rfl
@[simp] theorem aia{t:TypeId}{x y:Operand}:ru st (.indexAddr t x y)=True:=rfl
@[simp] theorem ajL{t:TypeId}{x y:Operand}:ru st (.index t x y)=True:=rfl
@[simp] theorem ajy{t:TypeId}{x:Operand}:ru st (.load t x)=True:=rfl
@[simp] theorem aki{t:TypeId}{x:Operand}{a b c:Option Operand}:ru st (.slice t x a b c)=True:=rfl
@[simp] theorem ajk{t:TypeId}{x:Operand}:ru st (.makeInterface t x)=True:=rfl
@[simp] theorem aiz{t:TypeId}{ps:Array (Nat × Operand)}:ru st (.build t ps)=True:=rfl
@[simp] theorem ada{x:Operand}{ts:Array TypeId}:ru st (.call ⟨.builtin .len,[x].toArray,ts⟩)=Oq (ev st.fr x):=rfl
@[simp] theorem ad1{es:List SV}:Oq (some (.ro es))=True:=rfl
@[simp] theorem Yx{q:ByteArray}:Oq (some (.val (.string q)))=True:=rfl
@[simp] theorem age{o:Op}:G0 [] st o=ru st o:=by unfold G0 ru;split<;>simp_all
def ldW(ks:List Nat)(M:aD)(x:Option SV):Prop:=ks=[]∨match x with
 | some (.ptr k _ _)=>k∉ks∧sj∉ks∧∀j∈ks,Bb M j
 | some (.dc _ _)=>True
 | _=>False
@[simp] theorem af4{k:Nat}{M:aD}{a i j:Nat}:ldW (k::ks) M (some (.ptr a i j))=(a∉k::ks∧sj∉k::ks∧∀j∈k::ks,Bb M j):=by simp[ldW]
@[simp] theorem adZ{k:Nat}{M:aD}{x:SV}{j:Nat}:ldW (k::ks) M (some (.dc x j))=True:=by simp[ldW]
@[simp] theorem aiR{t:TypeId}{x:Operand}{k:Nat}:G0 (k::ks) st (.load t x)=ldW (k::ks) st.M (ev st.fr x):=rfl
def NQ(e:Option cz):Prop:=match e with
 | some e=>e.fz=false
 | none=>False
@[simp] theorem Us{s:Nat}{es:List SV}{f:Bool}:NQ (some ⟨s,es,f⟩)=(f=false):=rfl
@[simp] theorem Xf{M:aD}{k:Nat}:Bb M k=NQ (aA M k):=by unfold Bb NQ;split<;>simp_all
def stW(ks:List Nat)(x:Option SV):Prop:=match x with
 | some (.ptr k _ _)=>k∈ks
 | _=>True
@[simp] theorem aev{a i j:Nat}:stW ks (some (.ptr a i j))=(a∈ks):=rfl
@[simp] theorem aih{t:TypeId}{x y:Operand}:okW ks st (.store t x y)=stW ks (ev st.fr x):=by
 simp only[okW,Bz];cases ev st.fr x with
 | none=>simp[stW]
 | some v=>cases v<;>simp[stW]
@[simp] theorem aj8{t:TypeId}:okW ks st (.alloc t)=True:=rfl
@[simp] theorem ahB{t:TypeId}{x:Operand}:okW ks st (.box t x)=True:=rfl
@[simp] theorem aiG{t:TypeId}{n:Nat}{ps:Array (Nat × Operand)}:okW ks st (.buildSlice t n ps)=True:=rfl
@[simp] theorem aks{t:TypeId}{x y:Operand}:okW ks st (.makeSlice t x y)=True:=rfl
@[simp] theorem ahY{t:TypeId}{x y:Operand}{ok:Bool}:okW ks st (.lookup t x y ok)=True:=rfl
@[simp] theorem aeD{os:Array Operand}{ts:Array TypeId}:okW ks st (.call ⟨.builtin .len,os,ts⟩)=True:=rfl
@[simp] theorem aiU{t:TypeId}{x y:Operand}{ok:Bool}{r:Pl}:xH ks r (.lookup t x y ok)=True:=rfl
@[simp] theorem afJ{os:Array Operand}{ts:Array TypeId}{r:Pl}:xH ks r (.call ⟨.builtin .len,os,ts⟩)=True:=rfl
@[simp] theorem agj{os:Array Operand}{ts:Array TypeId}:okW ks st (.call ⟨.builtin .append,os,ts⟩)=True:=rfl
@[simp] theorem aj6{t:TypeId}{x y:Operand}{r:Pl}:xH ks r (.store t x y)=True:=rfl
@[simp] theorem ahz{t:TypeId}{r:Pl}:xH ks r (.alloc t)=True:=rfl
@[simp] theorem aji{t:TypeId}{x:Operand}{r:Pl}:xH ks r (.box t x)=True:=rfl
@[simp] theorem aiv{t:TypeId}{n:Nat}{ps:Array (Nat × Operand)}{r:Pl}:xH ks r (.buildSlice t n ps)=True:=rfl
@[simp] theorem ajH{t:TypeId}{x y:Operand}{r:Pl}:xH ks r (.makeSlice t x y)=True:=rfl
@[simp] theorem aas{f:FuncId}{os:Array Operand}{ts:Array TypeId}{r:Pl}:xH ks r (.call ⟨.value (.func f),os,ts⟩)=True:=rfl
@[simp] theorem agr{os:Array Operand}{ts:Array TypeId}{r:Pl}:xH ks r (.call ⟨.builtin .append,os,ts⟩)=(Je os=true∨(sj∈ks∧r.kV=true)):=rfl
@[simp] theorem aby{x:Nat}{l:List Operand}:Je ((Operand.tmp x::l).toArray)=false:=rfl
@[simp] theorem Ye{l:List Operand}:Je ((Operand.const (.slice none 0 0)::l).toArray)=true:=rfl
@[simp] theorem YX:Pl.kV .nil=true:=rfl
@[simp] theorem ahZ{r:Pl}:Pl.kV (.q i ks r)=r.kV:=rfl
@[simp] theorem ajx{r:Pl}:Pl.kV (.l i ks r)=((ks.isEmpty||ks.contains sj)&&r.kV):=rfl
@[simp] theorem ab3{r p:Pl}:Pl.kV (.alt i ks r p)=((ks.isEmpty||ks.contains sj)&&(r.kV&&p.kV)):=rfl
@[simp] theorem WZ:Pl.kV .stop=true:=rfl
@[simp] theorem aiA:nb []=[]:=rfl
@[simp] theorem adP(k:Nat)(ks:List Nat):nb (k::ks)=if k=sj then nb ks else k::nb ks:=by simp only[nb,atx];split<;>split<;>simp_all
@[simp] theorem ajF:sj=1000000:=rfl
@[simp] theorem VK{x:Nat}{os:Array Operand}{ts:Array TypeId}{r:Pl}:xH ks r (.call ⟨.value (.tmp x),os,ts⟩)=True:=rfl
@[simp] theorem Ww{x:Nat}{os:Array Operand}{ts:Array TypeId}:okW ks st (.call ⟨.value (.tmp x),os,ts⟩)=True:=rfl
@[simp] theorem ZT{f:FuncId}{os:Array Operand}{ts:Array TypeId}:okW ks st (.call ⟨.value (.func f),os,ts⟩)=True:=rfl
@[simp] theorem VY{M:aD}:Pl.there M .nil=True:=rfl
@[simp] theorem afu{M:aD}:Pl.there M (.q i ks r)=r.there M:=rfl
def has(o:Option cz):Prop:=match o with
 | some _=>True
 | none=>False
@[simp] theorem ZP{e:cz}:has (some e)=True:=rfl
theorem Mw{o:Option cz}:(o≠none)=has o:=by cases o<;>simp[has]
@[simp] theorem agB{M:aD}:Pl.there M (.l i ks r)=((sj∈ks∨∀k∈ks,has (aA M k))∧r.there M):=by simp only[Pl.there,Mw]
@[simp] theorem TS{M:aD}:Pl.there M .stop=True:=rfl
@[simp] theorem V4{M:aD}{p:Pl}:Pl.there M (.alt i ks r p)=((sj∈ks∨∀k∈ks,has (aA M k))∧r.there M∧p.there M):=by simp only[Pl.there,Mw]
end
end Go.Sv


/- A text of the prover's own. -/
import Derived.Test.YtmghjkkjaolpgaaGreatDoorUVd
open List renaming getElem?_toArray→am3,replicate→alZ,filter_cons→am4
namespace Go.Sv
open Go Go.RowKit
/-! what is to come, as data -/
def K(d:Option Tmp)(st:St)(next:St→Prop)(z:SV):Prop:=sS d st.n∧next ⟨st.n,dd d (some z) st.fr,st.M⟩
def KM(d:Option Tmp)(st:St)(next:St→Prop)(M':aJ)(pk:List Nat)(x:Option SV):Prop:=sS d st.n∧next ⟨st.n,dd d x (forget pk st.fr),M'⟩
def KJ(d:Option Tmp)(st:St)(nextJ:St→Prop)(M':aJ)(pk:List Nat)(x:SV):Prop:=nextJ ⟨st.n,dd d (some x) (forget pk st.fr),M'⟩
def nx(P:Program)(C:Ctx)(all:Array Oper)(rest:List Oper)(Q QJ:aV)(st:St):Prop:=fI P C all rest st Q QJ
def nj(P:Program)(C:Ctx)(all:Array Oper)(rest:List Oper)(QJ:aV)(st:St):Prop:=fI P C all rest st QJ QJ
def KL(P:Program)(C:Ctx)(ops:Array Oper)(r:Pl)(Q QJ:aV)(st:St):Prop:=eN P C ops r st Q QJ
def njP(P:Program)(C:Ctx)(ops:Array Oper)(r:Pl)(QJ:aV)(st:St):Prop:=eN P C ops r st QJ QJ
def Sg(_:St):Prop:=False
def thS(P:Program)(C:Ctx)(y:Code)(Q QJ:aV):aV:=qE (fun st'=>vc P C y st' Q QJ) Q
def Xy(P:Program)(C:Ctx)(y:Code)(QJ:aV):aV:=qE (fun st'=>vc P C y st' QJ QJ) QJ
def fQ(r:dF)(k:SV→Prop):Prop:=match r with
 | .q c x=>c∧k x
 | _=>False
def yk(r:cr)(k:aJ→List Nat→Option SV→Prop):Prop:=match r with
 | .m c M pk x=>c∧k M pk x
 | .stuck=>False
def onO{α:Type}(o:Option α)(k:α→Prop):Prop:=match o with
 | some x=>k x
 | none=>False
@[simp] theorem VI{α:Type}(x:α)(k:α→Prop):onO (some x) k=k x:=rfl
section
variable {P:Program} {C:Ctx} {st:St} {Q QJ:aV} {next nextJ:St→Prop} {all:Array Oper} {rest:List Oper} {d:Option Tmp} {op:Op} {t:TypeId} {p:String} {af:Array Edge} {g:Option (Nat × Bool)} {W:Option (List Nat)}
@[simp] theorem aaE{c:Prop}{x:SV}{k:SV→Prop}:fQ (.q c x) k=(c∧k x):=rfl
@[simp] theorem aiN{c:Prop}{M:aJ}{pk:List Nat}{x:Option SV}{k:aJ→List Nat→Option SV→Prop}:yk (.m c M pk x) k=(c∧k M pk x):=rfl
@[simp] theorem aho{z:SV}:K d st next z=(sS d st.n∧next ⟨st.n,dd d (some z) st.fr,st.M⟩):=rfl
@[simp] theorem af2{M':aJ}{x:Option SV}:KM d st next M' [] x=(sS d st.n∧next ⟨st.n,dd d x st.fr,M'⟩):=by simp[KM,dm]
@[simp] theorem aeo{M':aJ}{a:Nat}{x:Option SV}:KM d st next M' [a] x=(sS d st.n∧next ⟨st.n,dd d x (forget [a] st.fr),M'⟩):=rfl
@[simp] theorem adD{M':aJ}{z:SV}:KJ d st nextJ M' [] z=nextJ ⟨st.n,dd d (some z) st.fr,M'⟩:=by simp[KJ,dm]
@[simp] theorem afa{M':aJ}{a:Nat}{z:SV}:KJ d st nextJ M' [a] z=nextJ ⟨st.n,dd d (some z) (forget [a] st.fr),M'⟩:=rfl
@[simp] theorem afA:nx P C all rest Q QJ st=fI P C all rest st Q QJ:=rfl
@[simp] theorem afe:nj P C all rest QJ st=fI P C all rest st QJ QJ:=rfl
@[simp] theorem acs{r:Pl}:KL P C all r Q QJ st=eN P C all r st Q QJ:=rfl
@[simp] theorem abc{r:Pl}:njP P C all r QJ st=eN P C all r st QJ QJ:=rfl
@[simp] theorem OI{y:Code}:thS P C y Q QJ .normal st=vc P C y st Q QJ:=rfl
@[simp] theorem ack{y:Code}:thS P C y Q QJ .ret st=Q .ret st:=rfl
@[simp] theorem Ur{y:Code}{id:Nat}:thS P C y Q QJ (.exit id) st=Q (.exit id) st:=rfl
@[simp] theorem Nk{y:Code}:Xy P C y QJ .normal st=vc P C y st QJ QJ:=rfl
@[simp] theorem ZA{y:Code}:Xy P C y QJ .ret st=QJ .ret st:=rfl
@[simp] theorem Xa{y:Code}{id:Nat}:Xy P C y QJ (.exit id) st=QJ (.exit id) st:=rfl
@[simp] theorem SH{y:Code}{c:List PanicEntry}:Xy P C y QJ (.panic c) st=QJ (.panic c) st:=rfl
@[simp] theorem OW{Q1:St→Prop}:qE Q1 Q .normal st=Q1 st:=rfl
@[simp] theorem abP{Q1:St→Prop}:qE Q1 Q .ret st=Q .ret st:=rfl
@[simp] theorem TO{Q1:St→Prop}{id:Nat}:qE Q1 Q (.exit id) st=Q (.exit id) st:=rfl
@[simp] theorem Sk{Q1:St→Prop}{c:List PanicEntry}:qE Q1 Q (.panic c) st=Q (.panic c) st:=rfl
@[simp] theorem M7{id:Nat}:CZ id Q .normal st=Q .normal st:=rfl
@[simp] theorem abt{id:Nat}:CZ id Q .ret st=Q .ret st:=rfl
@[simp] theorem Uz{id id':Nat}:CZ id Q (.exit id') st=if id'=id then Q .normal st else Q (.exit id') st:=rfl
@[simp] theorem Qr{id:Nat}{c:List PanicEntry}:CZ id Q (.panic c) st=Q (.panic c) st:=rfl
/-! code -/
@[simp ↓] theorem ada:vc P C .skip st Q QJ=Q .normal st:=rfl
@[simp ↓] theorem adY{x y:Code}:vc P C (.seq x y) st Q QJ=vc P C x st (thS P C y Q QJ) (Xy P C y QJ):=rfl
@[simp ↓] theorem TY{id:Nat}{c:Code}:vc P C (.block id c) st Q QJ=vc P C c st (CZ id Q) (CZ id QJ):=rfl
@[simp ↓] theorem YE{id:Nat}:vc P C (.exit id) st Q QJ=Q (.exit id) st:=rfl
@[simp ↓] theorem aep:vc P C .ret st Q QJ=Q .ret st:=rfl
@[simp ↓] theorem Sy{id:Nat}{l:List Oper}:vc P C (.region id l.toArray false) st Q QJ=fI P C l.toArray l st Q QJ:=rfl
@[simp ↓] theorem abb{id:Nat}{l:Array Oper}:vc P C (.region id l true) st Q QJ=ae P C (.region id l true) st QJ:=rfl
@[simp ↓] theorem aaw{c:Code}:vc P C (.loop c) st Q QJ=ae P C (.loop c) st QJ:=rfl
def PF(P:Program)(C:Ctx)(v:Option SV)(x y:Code)(st:St)(Q QJ:aV):Prop:=match v with
 | some (.val (.bool b))=>(b=true→vc P C x st Q QJ)∧(b=false→vc P C y st Q QJ)
 | _=>False
@[simp ↓] theorem abq{c:Operand}{x y:Code}:vc P C (.cond c x y) st Q QJ=PF P C (ev st.fr c) x y st Q QJ:=by
 simp only[vc,PF];cases ev st.fr c with
 | none=>rfl
 | some v=>cases v with
  | val u=>cases u<;>rfl
  | _=>rfl
@[simp] theorem U8{x y:Code}:PF P C (some (.val (.bool true))) x y st Q QJ=vc P C x st Q QJ:=by simp[PF]
@[simp] theorem Sc{x y:Code}:PF P C (some (.val (.bool false))) x y st Q QJ=vc P C y st Q QJ:=by simp[PF]
@[simp low] theorem Uo{x y:Code}{b:Bool}:PF P C (some (.val (.bool b))) x y st Q QJ=((b=true→vc P C x st Q QJ)∧(b=false→vc P C y st Q QJ)):=rfl
/-! operations -/
def E4(P:Program)(C:Ctx)(all:Array Oper)(o:Oper)(rest:List Oper)(b:Bool)(t':Nat)(v:Option SV)(st:St)(Q QJ:aV):Prop:=match v with
 | some (.val (.bool c))=>(c=b→cE P C none o ⟨st.n,(t',.val (.bool b))::st.fr,st.M⟩ (nx P C all rest Q QJ) (nj P C all rest QJ)) ∧
   (c=!b→fI P C all rest ⟨st.n,fc st.n o.dst ((t',.val (.bool (!b)))::st.fr),st.M⟩ Q QJ)
 | some (.bG [])=>fI P C all rest ⟨st.n,fc st.n o.dst st.fr,st.M⟩ Q QJ
 | _=>False
def gdO(P:Program)(C:Ctx)(all:Array Oper)(o:Oper)(rest:List Oper)(b:Bool)(t':Option Nat)(st:St)(Q QJ:aV):Prop:=match t' with
 | some t'=>E4 P C all o rest b t' (get st.fr t') st Q QJ
 | none=>False
def l5:List Oper→Nat→Option Nat
 | [],_=>none
 | ⟨d,_,_,_,_,_⟩::_,0=>d
 | _::l,n+1=>l5 l n
theorem yr{l:List Oper}{j:Nat}:m6 l.toArray j=l5 l j:=by
 simp only[m6,am3]
 induction l generalizing j with
 | nil=>rfl
 | cons x l ih=>cases j with
  | zero=>rfl
  | succ j=>simpa[l5]using ih
@[simp ↓] theorem QW:fI P C all [] st Q QJ=Q .normal st:=rfl
@[simp ↓] theorem MC:fI P C all (⟨d,op,t,p,af,none⟩::rest) st Q QJ=cE P C none ⟨d,op,t,p,af,none⟩ st (nx P C all rest Q QJ) (nj P C all rest QJ):=rfl
@[simp ↓] theorem MB{l:List Oper}{j:Nat}{b:Bool}:fI P C l.toArray (⟨d,op,t,p,af,some (j,b)⟩::rest) st Q QJ=gdO P C l.toArray ⟨d,op,t,p,af,some (j,b)⟩ rest b (l5 l j) st Q QJ:=by
 simp only[fI,gdO];rw[yr];cases l5 l j with
 | none=>rfl
 | some t' =>
  simp only[E4];cases get st.fr t' with
  | none=>rfl
  | some v=>cases v with
   | val u=>cases u<;>rfl
   | bG l=>cases l<;>rfl
   | _=>rfl
@[simp] theorem Yg{o:Oper}{b:Bool}{t':Nat}:gdO P C all o rest b (some t') st Q QJ=E4 P C all o rest b t' (get st.fr t') st Q QJ:=rfl
@[simp low] theorem Xk{o:Oper}{b c:Bool}{t':Nat}:E4 P C all o rest b t' (some (.val (.bool c))) st Q QJ =
  ((c=b→cE P C none o ⟨st.n,(t',.val (.bool b))::st.fr,st.M⟩ (nx P C all rest Q QJ) (nj P C all rest QJ))∧(c=!b→fI P C all rest ⟨st.n,fc st.n o.dst ((t',.val (.bool (!b)))::st.fr),st.M⟩ Q QJ)):=rfl
@[simp] theorem agF{o:Oper}{t':Nat}:E4 P C all o rest true t' (some (.val (.bool true))) st Q QJ=cE P C none o ⟨st.n,(t',.val (.bool true))::st.fr,st.M⟩ (nx P C all rest Q QJ) (nj P C all rest QJ):=by simp[E4]
@[simp] theorem afX{o:Oper}{t':Nat}:E4 P C all o rest false t' (some (.val (.bool false))) st Q QJ=cE P C none o ⟨st.n,(t',.val (.bool false))::st.fr,st.M⟩ (nx P C all rest Q QJ) (nj P C all rest QJ):=by simp[E4]
@[simp] theorem ads{t':Nat}:E4 P C all ⟨d,op,t,p,af,g⟩ rest true t' (some (.val (.bool false))) st Q QJ=fI P C all rest ⟨st.n,fc st.n d ((t',.val (.bool false))::st.fr),st.M⟩ Q QJ:=by simp[E4]
@[simp] theorem ae1{t':Nat}:E4 P C all ⟨d,op,t,p,af,g⟩ rest false t' (some (.val (.bool true))) st Q QJ=fI P C all rest ⟨st.n,fc st.n d ((t',.val (.bool true))::st.fr),st.M⟩ Q QJ:=by simp[E4]
@[simp] theorem V2{b:Bool}{t':Nat}:E4 P C all ⟨d,op,t,p,af,g⟩ rest b t' (some (.bG [])) st Q QJ=fI P C all rest ⟨st.n,fc st.n d st.fr,st.M⟩ Q QJ:=rfl
theorem gh(hm:∀fx M fr,CD P fx M fr op=.stuck)(hc:∀f args ts,op≠.call ⟨.value f,args,ts⟩):cE P C W ⟨d,op,t,p,af,g⟩ st next nextJ=fQ (xA P st.M st.fr op) (K d st next):=by
 unfold cE fQ;cases h:xA P st.M st.fr op with
 | q c x=>rfl
 | stuck =>
  simp only[hm];all_goals first
   | rfl
   | ((try dsimp only);split<;>first | rfl | exact absurd rfl (hc _ _ _))
 | m a b c =>
  simp only[hm];all_goals first
   | rfl
   | ((try dsimp only);split<;>first | rfl | exact absurd rfl (hc _ _ _))
theorem mi(hq:∀M fr,xA P M fr op=.stuck)(hc:∀f args ts,op≠.call ⟨.value f,args,ts⟩):cE P C W ⟨d,op,t,p,af,g⟩ st next nextJ=yk (CD P C.fx st.M st.fr op) (KM d st next):=by
 unfold cE yk;simp only[hq];cases h:CD P C.fx st.M st.fr op with
 | m c M' pk x=>rfl
 | stuck =>
  all_goals first
   | rfl
   | ((try dsimp only);split<;>first | rfl | exact absurd rfl (hc _ _ _))
def Ov(x:Option SV):dF:=match x with
 | some x=>.q True x
 | none=>.stuck
@[simp] theorem Ul{x:SV}:Ov (some x)=.q True x:=rfl
def UM(fr:List (Nat × SV))(l:List (Nat × Operand)):List (Nat × Option SV):=l.map fun q=>(q.1,ev fr q.2)
@[simp] theorem YL{fr:List (Nat × SV)}:UM fr []=[]:=rfl
@[simp] theorem U6{fr:List (Nat × SV)}{i:Nat}{o:Operand}{r:List (Nat × Operand)}:UM fr ((i,o)::r)=(i,ev fr o)::UM fr r:=rfl
@[simp ↓] theorem P5{x:Operand}:cE P C W ⟨d,.move x,t,p,af,g⟩ st next nextJ=fQ (Ov (ev st.fr x)) (K d st next):=by
 rw[gh (fun _ _ _=>rfl) (fun _ _ _=>by simp)];simp only[xA];cases ev st.fr x<;>rfl
@[simp ↓] theorem Mg{x:Operand}:cE P C W ⟨d,.assign x,t,p,af,g⟩ st next nextJ=fQ (Ov (ev st.fr x)) (K d st next):=by
 rw[gh (fun _ _ _=>rfl) (fun _ _ _=>by simp)];simp only[xA];cases ev st.fr x<;>rfl
@[simp ↓] theorem QX{c x y:Operand}:cE P C W ⟨d,.pick c x y,t,p,af,g⟩ st next nextJ=fQ (wT (ev st.fr c) (ev st.fr x) (ev st.fr y)) (K d st next):=by
 rw[gh (fun _ _ _=>rfl) (fun _ _ _=>by simp)];rfl
@[simp ↓] theorem WH{op:BinOp}{t1 t2:TypeId}{x y:Operand}:cE P C W ⟨d,.binOp op t1 x y t2,t,p,af,g⟩ st next nextJ=fQ (rU P op t1 (ev st.fr x) y (ev st.fr y)) (K d st next):=by
 rw[gh (fun _ _ _=>rfl) (fun _ _ _=>by simp)];rfl
@[simp ↓] theorem ZE{op:UnOp}{t1:TypeId}{x:Operand}:cE P C W ⟨d,.unOp op t1 x,t,p,af,g⟩ st next nextJ=fQ (GC op (ev st.fr x)) (K d st next):=by
 rw[gh (fun _ _ _=>rfl) (fun _ _ _=>by simp)];rfl
@[simp ↓] theorem PL{t1 t2:TypeId}{x:Operand}:cE P C W ⟨d,.convert t1 t2 x,t,p,af,g⟩ st next nextJ=fQ (py P st.M (az P t1) (az P t2) (ev st.fr x)) (K d st next):=by
 rw[gh (fun _ _ _=>rfl) (fun _ _ _=>by simp)];rfl
@[simp ↓] theorem WJ{x:Operand}:cE P C W ⟨d,.nilCheck x,t,p,af,g⟩ st next nextJ=fQ (Be (ev st.fr x)) (K d st next):=by
 rw[gh (fun _ _ _=>rfl) (fun _ _ _=>by simp)];rfl
@[simp ↓] theorem Vc{x:Operand}{i:Nat}:cE P C W ⟨d,.extract x i,t,p,af,g⟩ st next nextJ=fQ (oM (ev st.fr x) i) (K d st next):=by
 rw[gh (fun _ _ _=>rfl) (fun _ _ _=>by simp)];rfl
@[simp ↓] theorem ac1{t1:TypeId}{x:Operand}{f:Nat}:cE P C W ⟨d,.fieldAddr t1 x f,t,p,af,g⟩ st next nextJ=fQ (fA (az P t1) (ev st.fr x) f) (K d st next):=by
 rw[gh (fun _ _ _=>rfl) (fun _ _ _=>by simp)];rfl
@[simp ↓] theorem ZP{t1:TypeId}{x i:Operand}:cE P C W ⟨d,.indexAddr t1 x i,t,p,af,g⟩ st next nextJ=fQ (fu P st.M (az P t1) (ev st.fr x) (ev st.fr i)) (K d st next):=by
 rw[gh (fun _ _ _=>rfl) (fun _ _ _=>by simp)];rfl
@[simp ↓] theorem aaW{t1:TypeId}{x i:Operand}:cE P C W ⟨d,.index t1 x i,t,p,af,g⟩ st next nextJ=fQ (qD (az P t1) (ev st.fr x) (ev st.fr i)) (K d st next):=by
 rw[gh (fun _ _ _=>rfl) (fun _ _ _=>by simp)];rfl
@[simp ↓] theorem abv{t1:TypeId}{x:Operand}:cE P C W ⟨d,.load t1 x,t,p,af,g⟩ st next nextJ=fQ (g9 st.M (az P t1) (ev st.fr x)) (K d st next):=by
 rw[gh (fun _ _ _=>rfl) (fun _ _ _=>by simp)];rfl
@[simp ↓] theorem YB{t1:TypeId}{x:Operand}:cE P C W ⟨d,.makeInterface t1 x,t,p,af,g⟩ st next nextJ=fQ (um (az P t1) t1 (ev st.fr x)) (K d st next):=by
 rw[gh (fun _ _ _=>rfl) (fun _ _ _=>by simp)];rfl
@[simp ↓] theorem YN{t1:TypeId}{l:List (Nat × Operand)}:cE P C W ⟨d,.build t1 l.toArray,t,p,af,g⟩ st next nextJ=fQ (ob (az P t1) (UM st.fr l)) (K d st next):=by
 rw[gh (fun _ _ _=>rfl) (fun _ _ _=>by simp)];rfl
def sY(M:aJ)(d:Option Tmp)(st:St)(next:St→Prop)(ti:Option TI)(x:Option SV):Prop:=match m4 ti x with
 | .q c x=>c∧K d st next x
 | _=>yk (fK M ti x) (KM d st next)
@[simp ↓] theorem Tp{o:Operand}{t1:TypeId}:cE P C W ⟨d,.call ⟨.builtin .len,[o].toArray,[t1].toArray⟩,t,p,af,g⟩ st next nextJ=sY st.M d st next (az P t1) (ev st.fr o):=by
 unfold cE sY yk;simp only[xA,CD,oB,List.map_cons,List.map_nil,am3,List.getElem?_cons_zero,Option.bind_some];cases m4 (az P t1) (ev st.fr o)with
 | q c x=>rfl
 | stuck=>simp only;cases fK st.M (az P t1) (ev st.fr o)<;>rfl
 | m a b c=>simp only;cases fK st.M (az P t1) (ev st.fr o)<;>rfl
@[simp] theorem VJ{M:aJ}{e s b:Nat}{z:List SV}{x:Option SV}:sY M d st next (some ⟨.sl e,s,b,z⟩) x=fQ (m4 (some ⟨.sl e,s,b,z⟩) x) (K d st next):=by
 unfold sY fQ;cases m4 (some ⟨.sl e,s,b,z⟩) x<;>rfl
@[simp] theorem Q4{M:aJ}{s b:Nat}{z:List SV}{x:Option SV}:sY M d st next (some ⟨.str,s,b,z⟩) x=fQ (m4 (some ⟨.str,s,b,z⟩) x) (K d st next):=by
 unfold sY fQ;cases m4 (some ⟨.str,s,b,z⟩) x<;>rfl
@[simp] theorem VT{M:aJ}{k e s b:Nat}{z:List SV}{x:Option SV}:sY M d st next (some ⟨.mp k e,s,b,z⟩) x=yk (fK M (some ⟨.mp k e,s,b,z⟩) x) (KM d st next):=by
 unfold sY;rfl
@[simp ↓] theorem X4{a b:Operand}{ts:Array TypeId}:cE P C W ⟨d,.call ⟨.builtin .min,[a,b].toArray,ts⟩,t,p,af,g⟩ st next nextJ=fQ (lQ false (ev st.fr a) (ev st.fr b)) (K d st next):=by
 rw[gh (fun _ _ _=>rfl) (fun _ _ _=>by simp)];rfl
def IT(fr:List (Nat × SV))(o:Option Operand):Option (Option SV):=o.map (ev fr)
@[simp] theorem Qv{fr:List (Nat × SV)}:IT fr none=none:=rfl
@[simp] theorem P9{fr:List (Nat × SV)}{o:Operand}:IT fr (some o)=some (ev fr o):=rfl
@[simp ↓] theorem ZY{t1:TypeId}{x:Operand}{lo hi:Option Operand}:cE P C W ⟨d,.slice t1 x lo hi none,t,p,af,g⟩ st next nextJ=fQ (jv P st.M (az P t1) (ev st.fr x) (IT st.fr lo) (IT st.fr hi) none) (K d st next):=by
 rw[gh (fun _ _ _=>rfl) (fun _ _ _=>by simp)];rfl
@[simp ↓] theorem Zb{t1:TypeId}{x y:Operand}:cE P C W ⟨d,.store t1 x y,t,p,af,g⟩ st next nextJ=yk (mH st.M (az P t1) (ev st.fr x) (ev st.fr y)) (KM d st next):=by
 rw[mi (fun _ _=>rfl) (fun _ _ _=>by simp)];rfl
@[simp ↓] theorem ac0{t1:TypeId}:cE P C W ⟨d,.alloc t1,t,p,af,g⟩ st next nextJ=yk (ow st.M (az P t1)) (KM d st next):=by
 rw[mi (fun _ _=>rfl) (fun _ _ _=>by simp)];rfl
@[simp ↓] theorem abu{t1:TypeId}{x:Operand}:cE P C W ⟨d,.box t1 x,t,p,af,g⟩ st next nextJ=yk (xY st.M (az P t1) (ev st.fr x)) (KM d st next):=by
 rw[mi (fun _ _=>rfl) (fun _ _ _=>by simp)];rfl
@[simp ↓] theorem abl{t1:TypeId}{len:Nat}{l:List (Nat × Operand)}:cE P C W ⟨d,.buildSlice t1 len l.toArray,t,p,af,g⟩ st next nextJ=yk (fG P st.M (az P t1) len (UM st.fr l)) (KM d st next):=by
 rw[mi (fun _ _=>rfl) (fun _ _ _=>by simp)];rfl
@[simp ↓] theorem ZM{t1:TypeId}{l c:Operand}:cE P C W ⟨d,.makeSlice t1 l c,t,p,af,g⟩ st next nextJ=yk (fZ P st.M (az P t1) (ev st.fr l) (ev st.fr c)) (KM d st next):=by
 rw[mi (fun _ _=>rfl) (fun _ _ _=>by simp)];rfl
@[simp ↓] theorem acP{b x:Operand}{t1 t2:TypeId}:cE P C W ⟨d,.call ⟨.builtin .append,[b,x].toArray,[t1,t2].toArray⟩,t,p,af,g⟩ st next nextJ=yk (gX P C.fx st.M (az P t1) (az P t2) (ev st.fr b) (ev st.fr x)) (KM d st next):=by
 rw[mi (fun _ _=>rfl) (fun _ _ _=>by simp)];rfl
@[simp ↓] theorem ZF{t1:TypeId}{x i:Operand}{ok:Bool}:cE P C W ⟨d,.lookup t1 x i ok,t,p,af,g⟩ st next nextJ=yk (j8 P st.M (az P t1) (ev st.fr x) (ev st.fr i) ok) (KM d st next):=by
 rw[mi (fun _ _=>rfl) (fun _ _ _=>by simp)];rfl
@[simp ↓] theorem ab8{t1:TypeId}{m i x:Operand}:cE P C W ⟨d,.mapUpdate t1 m i x,t,p,af,g⟩ st next nextJ=yk (jF P st.M (az P t1) (ev st.fr m) (ev st.fr i) (ev st.fr x)) (KM d st next):=by
 rw[mi (fun _ _=>rfl) (fun _ _ _=>by simp)];rfl
@[simp ↓] theorem Y6{t1:TypeId}{n:Option Operand}:cE P C W ⟨d,.makeMap t1 n,t,p,af,g⟩ st next nextJ=yk (jq st.M (az P t1) (IT st.fr n)) (KM d st next):=by
 rw[mi (fun _ _=>rfl) (fun _ _ _=>by simp)];rfl
def HO(P:Program)(C:Ctx)(f:FuncId)(W:Option (List Nat))(xs:Option (List SV))(d:Option Tmp)(st:St)(nextJ:St→Prop):Prop:=match xs with
 | some xs=>al P f∧sS d st.n∧dH P C f xs st.M W (KJ d st nextJ)
 | none=>False
@[simp] theorem Mf{f:FuncId}{xs:List SV}:HO P C f W (some xs) d st nextJ=(al P f∧sS d st.n∧dH P C f xs st.M W (KJ d st nextJ)):=rfl
@[simp ↓] theorem RF{f:FuncId}{l:List Operand}{ts:Array TypeId}:cE P C W ⟨d,.call ⟨.value (.func f),l.toArray,ts⟩,t,p,af,g⟩ st next nextJ=HO P C f W (rQ st.fr l) d st nextJ:=by
 unfold cE;simp only[xA,CD];cases rQ st.fr l<;>rfl
def Nq(P:Program)(C:Ctx)(W:Option (List Nat))(x:Option SV)(xs:Option (List SV))(d:Option Tmp)(st:St)(nextJ:St→Prop):Prop:=match x,xs with
 | some (.gA f l r),some xs=>al P f∧sS d st.n∧dH P C f (l++xs++r) st.M W (KJ d st nextJ)
 | _,_=>False
@[simp] theorem Ra{f:FuncId}{l r xs:List SV}:Nq P C W (some (.gA f l r)) (some xs) d st nextJ=(al P f∧sS d st.n∧dH P C f (l++xs++r) st.M W (KJ d st nextJ)):=rfl
@[simp ↓] theorem Pa{x:Nat}{l:List Operand}{ts:Array TypeId}:cE P C W ⟨d,.call ⟨.value (.tmp x),l.toArray,ts⟩,t,p,af,g⟩ st next nextJ=Nq P C W (get st.fr x) (rQ st.fr l) d st nextJ:=by
 unfold cE Nq;simp only[xA,CD];cases get st.fr x with
 | none=>rfl
 | some v=>cases v<;>cases rQ st.fr l<;>rfl
@[simp ↓] theorem ZC{f:FuncId}{l r:List Operand}:cE P C W ⟨d,.makeFunc (.func f) l.toArray r.toArray,t,p,af,g⟩ st next nextJ=fQ (KZ f (rQ st.fr l) (rQ st.fr r)) (K d st next):=by
 rw[gh (fun _ _ _=>rfl) (fun _ _ _=>by simp)];rfl
@[simp] theorem Q7{f:FuncId}{l r:List SV}:KZ f (some l) (some r)=.q True (.gA f l r):=rfl
end
/-! what the quiet operations make -/
section
variable (P:Program) (M:aJ) (ti ti':TI) (κ κ':IntKind) (m n:Int) (a b i j s f:Nat) (x y:SV) (z es l:List SV) (el:TypeId) (fs:List (Nat × Nat × TypeId)) (u v:Option SV)
@[simp] theorem Mm:wT (some (.val (.bool true))) u v=Ov u:=by cases u<;>rfl
@[simp] theorem Ly:wT (some (.val (.bool false))) u v=Ov v:=by cases v<;>rfl
@[simp] theorem ZK(ti:Option TI):bZ .add ti (some (.val (.int κ m))) (some (.val (.int κ n)))=.q (True) (.val (.int κ (κ.wrap (m+n)))):=by simp[bZ,o5,gG]
@[simp] theorem aaY(ti:Option TI):bZ .sub ti (some (.val (.int κ m))) (some (.val (.int κ n)))=.q (True) (.val (.int κ (κ.wrap (m - n)))):=by simp[bZ,o5,gG]
@[simp] theorem aby(ti:Option TI):bZ .mul ti (some (.val (.int κ m))) (some (.val (.int κ n)))=.q (True) (.val (.int κ (κ.wrap (m*n)))):=by simp[bZ,o5,gG]
@[simp] theorem Zm(ti:Option TI):bZ .quo ti (some (.val (.int κ m))) (some (.val (.int κ n)))=.q (n≠0) (.val (.int κ (κ.wrap (m.tdiv n)))):=by simp[bZ,o5,gG]
@[simp] theorem adg(ti:Option TI):bZ .rem ti (some (.val (.int κ m))) (some (.val (.int κ n)))=.q (n≠0) (.val (.int κ (m.tmod n))):=by simp[bZ,o5,gG]
def r8(op:BinOp)(κ:IntKind)(m n:Int):Int:=match op with
 | .and=>κ.wrap (BitVec.ofInt κ.bits m &&& BitVec.ofInt κ.bits n).toNat
 | .or=>κ.wrap (BitVec.ofInt κ.bits m ||| BitVec.ofInt κ.bits n).toNat
 | _=>κ.wrap (BitVec.ofInt κ.bits m ^^^ BitVec.ofInt κ.bits n).toNat
@[simp] theorem acq(ti:Option TI):bZ .and ti (some (.val (.int κ m))) (some (.val (.int κ n)))=.q (True) (.val (.int κ (r8 .and κ m n))):=by simp[bZ,o5,gG,r8]
@[simp] theorem ags(ti:Option TI):bZ .or ti (some (.val (.int κ m))) (some (.val (.int κ n)))=.q (True) (.val (.int κ (r8 .or κ m n))):=by simp[bZ,o5,gG,r8]
@[simp] theorem aa1(ti:Option TI):bZ .eql ti (some (.val (.int κ m))) (some (.val (.int κ n)))=.q (True) (.val (.bool (decide (m=n)))):=by simp[bZ,o5,gG]
@[simp] theorem abI(ti:Option TI):bZ .neq ti (some (.val (.int κ m))) (some (.val (.int κ n)))=.q (True) (.val (.bool (decide (m≠n)))):=by simp[bZ,o5,gG]
@[simp] theorem aca(ti:Option TI):bZ .lss ti (some (.val (.int κ m))) (some (.val (.int κ n)))=.q (True) (.val (.bool (decide (m<n)))):=by simp[bZ,o5,gG]
@[simp] theorem abA(ti:Option TI):bZ .leq ti (some (.val (.int κ m))) (some (.val (.int κ n)))=.q (True) (.val (.bool (decide (m≤n)))):=by simp[bZ,o5,gG]
@[simp] theorem acK(ti:Option TI):bZ .gtr ti (some (.val (.int κ m))) (some (.val (.int κ n)))=.q (True) (.val (.bool (decide (n<m)))):=by simp[bZ,o5,gG]
@[simp] theorem aci(ti:Option TI):bZ .geq ti (some (.val (.int κ m))) (some (.val (.int κ n)))=.q (True) (.val (.bool (decide (n≤m)))):=by simp[bZ,o5,gG]
@[simp] theorem ZO(ti:Option TI):bZ .shl ti (some (.val (.int κ m))) (some (.val (.int κ' n)))=.q (0≤n) (.val (.int κ (κ.wrap (m*2^(min n.toNat κ.bits))))):=by simp[bZ,o5,Cf]
@[simp] theorem Yt(ti:Option TI):bZ .shr ti (some (.val (.int κ m))) (some (.val (.int κ' n)))=.q (0≤n) (.val (.int κ (m / (2^(min n.toNat κ.bits))))):=by
 have:m.fdiv (2^(min n.toNat κ.bits))=m / (2^(min n.toNat κ.bits)):=Int.fdiv_eq_ediv_of_nonneg _ (Int.le_of_lt (Int.pow_pos (by omega)));simp[bZ,o5,Cf,this]
@[simp] theorem Wp(x y:Bool):bZ .eql (some ⟨.bool,s,b,z⟩) (some (.val (.bool x))) (some (.val (.bool y)))=.q True (.val (.bool (x==y))):=by simp[bZ]
@[simp] theorem U7(x y:Bool):bZ .neq (some ⟨.bool,s,b,z⟩) (some (.val (.bool x))) (some (.val (.bool y)))=.q True (.val (.bool (!(x==y)))):=by simp[bZ]
@[simp] theorem TH(ti:Option TI)(x y:ByteArray):bZ .add ti (some (.val (.string x))) (some (.val (.string y)))=.q (x.size+y.size≤9223372036854775807) (.val (.string (x++y))):=by simp[bZ,sE]
@[simp] theorem X9(ti:Option TI)(x y:ByteArray):bZ .eql ti (some (.val (.string x))) (some (.val (.string y)))=.q True (.val (.bool (decide (x=y)))):=by simp[bZ,sE]
@[simp] theorem Vs(ti:Option TI)(x y:ByteArray):bZ .neq ti (some (.val (.string x))) (some (.val (.string y)))=.q True (.val (.bool (decide (x≠y)))):=by simp[bZ,sE]
def GY(x:SV):Prop:=x.isAgg=false
@[simp] theorem Rn(x:SV):GY x=(x.isAgg=false):=propext Iff.rfl
@[simp] theorem Yh{op:BinOp}{t:TypeId}{x:SV}{oy:Operand}{y:Option SV}(h:GY x):rU P op t (some x) oy y=mF op (az P t) (some x) oy y:=by
 cases x<;>first | rfl | exact Bool.noConfusion h
@[simp] theorem Tz{op:BinOp}{t:TypeId}{v:Value}{oy:Operand}{y:Option SV}:rU P op t (some (.val v)) oy y=mF op (az P t) (some (.val v)) oy y:=rfl
@[simp] theorem TW{op:BinOp}{ti:Option TI}{x y:Option SV}{k:Nat}:mF op ti x (.tmp k) y=bZ op ti x y:=rfl
@[simp] theorem To{op:BinOp}{ti:Option TI}{x y:Option SV}{κ:IntKind}{n:Int}:mF op ti x (.const (.int κ n)) y=bZ op ti x y:=rfl
@[simp] theorem SQ{op:BinOp}{ti:Option TI}{x y:Option SV}{n:ByteArray}:mF op ti x (.const (.string n)) y=bZ op ti x y:=rfl
@[simp] theorem Su{op:BinOp}{ti:Option TI}{x y:Option SV}:mF op ti x (.const (.pointer none)) y=bZ op ti x y:=rfl
@[simp] theorem Kp{x:SV}{j:Nat}{e:TypeId}:bZ .eql (some ⟨.ptr e,s,b,z⟩) (some (.bU x j)) (some (.val (.pointer none)))=.q True (.bool false):=rfl
@[simp] theorem K4{e:TypeId}:bZ .eql (some ⟨.ptr e,s,b,z⟩) (some (.val (.pointer none))) (some (.val (.pointer none)))=.q True (.bool true):=rfl
@[simp] theorem VC{op:BinOp}{ti:Option TI}{x y:Option SV}:mF op ti x (.const .nilIface) y=jt op ti x:=rfl
@[simp] theorem aaz:jt .eql (some ⟨.iface,s,b,z⟩) (some (.val .nilIface))=.q True (.bool true):=rfl
@[simp] theorem Zd:jt .neq (some ⟨.iface,s,b,z⟩) (some (.val .nilIface))=.q True (.bool false):=rfl
@[simp] theorem ZT{t:TypeId}{x:SV}:jt .eql (some ⟨.iface,s,b,z⟩) (some (.iw t x))=.q True (.bool false):=rfl
@[simp] theorem Y8{t:TypeId}{x:SV}:jt .neq (some ⟨.iface,s,b,z⟩) (some (.iw t x))=.q True (.bool true):=rfl
@[simp] theorem Zw{t g:Nat}:jt .eql (some ⟨.iface,s,b,z⟩) (some (.fp t g))=.q True (.bool false):=rfl
@[simp] theorem aa6{t g:Nat}:jt .neq (some ⟨.iface,s,b,z⟩) (some (.fp t g))=.q True (.bool true):=rfl
@[simp] theorem aeX:GC .neg (some (.val (.int κ n)))=.q True (.val (.int κ (κ.wrap (0 - n)))):=rfl
@[simp] theorem afQ(b:Bool):GC .not (some (.val (.bool b)))=.q True (.val (.bool (!b))):=rfl
@[simp] theorem TV{M:aJ}:py P M (some ti) (some ⟨.int κ,s,b,z⟩) (some (.val (.int κ' n)))=.q True (.val (.int κ (κ.wrap n))):=by
 unfold py;split
 ·rename_i h;cases h
 ·rfl
@[simp] theorem U3{M:aJ}{el:TypeId}{x:Option SV}{s' b':Nat}{z':List SV}:py P M (some ⟨.sl el,s,b,z⟩) (some ⟨.str,s',b',z'⟩) x=x8 M (az P el) x:=rfl
def Pp(i n:Nat)(e:Option cx):dF:=match e with
 | some e=>.q (e.sz=1∧i+n≤e.es.length∧((e.es.drop i).take n).all nN=true) (.val (.string (strOf ((e.es.drop i).take n))))
 | none=>.stuck
@[simp] theorem Rj{i n:Nat}{e:cx}:Pp i n (some e)=.q (e.sz=1∧i+n≤e.es.length∧((e.es.drop i).take n).all nN=true) (.val (.string (strOf ((e.es.drop i).take n)))):=rfl
@[simp] theorem VP{M:aJ}{k i n:Nat}:x8 M (some ⟨.int .u8,s,b,z⟩) (some (.view k i n))=Pp i n (ao M k):=by
 simp only[x8,Pp];cases ao M k<;>rfl
@[simp] theorem abh:Be (some (.ptr a i j))=.q True (.ptr a i j):=rfl
@[simp] theorem abX:Be (some (.bU x j))=.q True (.bU x j):=rfl
@[simp] theorem abr:oM (some (.bG l)) i=.q (i<l.length) (aA l i):=rfl
def faP(a i j:Nat)(q:Option (Nat × Nat × TypeId)):dF:=match q with
 | some (off,sz,_)=>if sz=0 then .stuck else .q True (.ptr a i (j+off))
 | none=>.stuck
def faR(x:SV)(j:Nat)(q:Option (Nat × Nat × TypeId)):dF:=match q with
 | some (off,sz,_)=>if sz=0 then .stuck else .q True (.bU x (j+off))
 | none=>.stuck
@[simp] theorem XB(off sz:Nat)(t:TypeId):faP a i j (some (off,sz,t))=if sz=0 then .stuck else .q True (.ptr a i (j+off)):=rfl
@[simp] theorem Ts(off sz:Nat)(t:TypeId):faR x j (some (off,sz,t))=if sz=0 then .stuck else .q True (.bU x (j+off)):=rfl
@[simp] theorem ad2:fA (some ⟨.st fs,s,b,z⟩) (some (.ptr a i j)) f=faP a i j (mW fs f):=by simp only[fA,faP];cases mW fs f<;>rfl
@[simp] theorem agQ:fA (some ⟨.st fs,s,b,z⟩) (some (.bU x j)) f=faR x j (mW fs f):=by simp only[fA,faR];cases mW fs f<;>rfl
def fdA(l:List SV)(off:Nat)(tf:Option TI):dF:=match tf with
 | some tf=>if tf.k.isAgg=true then .q (off+tf.size≤l.length) (.agg ((l.drop off).take tf.size)) else .q (off<l.length) (aA l off)
 | none=>.stuck
def fdB(P:Program)(l:List SV)(q:Option (Nat × Nat × TypeId)):dF:=match q with
 | some (off,_,ft)=>fdA l off (az P ft)
 | none=>.stuck
def iaR(es:List SV)(n:Int)(te:Option TI):dF:=match te with
 | some te=>.q (0≤n∧n<es.length∧(aA es n.toNat).fj=te.size∧(aA es n.toNat).aM=false) (.bU (aA es n.toNat) 0)
 | none=>.stuck
@[simp] theorem US:iaR es n (some ti)=.q (0≤n∧n<es.length∧(aA es n.toNat).fj=ti.size∧(aA es n.toNat).aM=false) (.bU (aA es n.toNat) 0):=rfl
@[simp] theorem ahD:fu P M (some ⟨.sl el,s,b,z⟩) (some (.ro es)) (some (.val (.int κ n)))=iaR es n (az P el):=by simp only[fu,iaR];cases az P el<;>rfl
def iaV(a i m:Nat)(n:Int)(te:Option TI)(e:Option cx):dF:=match te,e with
 | some te,some e=>if e.sz=te.size then .q (0≤n∧n<m) (.ptr a (i+n.toNat) 0) else .stuck
 | _,_=>.stuck
@[simp] theorem T3(k:Nat)(fz:Bool):iaV a i k n (some ti) (some ⟨s,es,fz⟩)=if s=ti.size then .q (0≤n∧n<k) (.ptr a (i+n.toNat) 0) else .stuck:=rfl
@[simp] theorem aaf(k:Nat):fu P M (some ⟨.sl el,s,b,z⟩) (some (.view a i k)) (some (.val (.int κ n)))=iaV a i k n (az P el) (ao M a):=by simp only[fu,iaV];cases az P el<;>cases ao M a<;>rfl
@[simp] theorem agY(q:ByteArray):qD (some ⟨.str,s,b,z⟩) (some (.val (.string q))) (some (.val (.int κ n)))=.q (0≤n∧n<q.size) (.val (.int .u8 (eG q n.toNat).toNat)):=rfl
def ldP(ti:TI)(i j:Nat)(e:Option cx):dF:=match e with
 | some e=>.q (i<e.es.length∧(aA e.es i).aM=false∧j+ti.size≤(aA e.es i).fj) (mO ti (aA e.es i) j)
 | none=>.stuck
@[simp] theorem TJ(fz:Bool):ldP ti i j (some ⟨s,es,fz⟩)=.q (i<es.length∧(aA es i).aM=false∧j+ti.size≤(aA es i).fj) (mO ti (aA es i) j):=rfl
@[simp] theorem afy:g9 M (some ti) (some (.ptr a i j))=ldP ti i j (ao M a):=by simp only[g9,ldP];cases ao M a<;>rfl
@[simp] theorem agG:g9 M (some ti) (some (.bU x j))=.q (x.aM=false∧j+ti.size≤x.fj) (mO ti x j):=rfl
@[simp] theorem afL:m4 (some ⟨.sl el,s,b,z⟩) (some (.ro es))=.q True (.val (.int .i64 es.length)):=rfl
@[simp] theorem Uc(k:Nat):m4 (some ⟨.sl el,s,b,z⟩) (some (.view a i k))=.q True (.val (.int .i64 k)):=rfl
@[simp] theorem abM(q:ByteArray):m4 (some ⟨.str,s,b,z⟩) (some (.val (.string q)))=.q True (.val (.int .i64 q.size)):=rfl
@[simp] theorem adp:lQ false (some (.val (.int κ m))) (some (.val (.int κ' n)))=.q True (.val (.int κ (min m n))):=by
 simp only[lQ,Bool.false_eq_true,if_false];congr 3;omega
@[simp] theorem O8(k:Int):fv none k=some k:=rfl
@[simp] theorem Rf(k:Int):fv (some (some (.val (.int κ n)))) k=some n:=rfl
def slS(q:ByteArray)(l h:Option Int):dF:=match l,h with
 | some l,some h=>.q (0≤l∧l≤h∧h≤q.size) (.val (.string (q.extract l.toNat h.toNat)))
 | _,_=>.stuck
@[simp] theorem Yc(q:ByteArray):slS q (some m) (some n)=.q (0≤m∧m≤n∧n≤q.size) (.val (.string (q.extract m.toNat n.toNat))):=rfl
@[simp] theorem adl(q:ByteArray)(lo hi:Option (Option SV)):jv P M (some ⟨.str,s,b,z⟩) (some (.val (.string q))) lo hi none=slS q (fv lo 0) (fv hi q.size):=by
 simp only[jv,slS];cases fv lo 0<;>cases fv hi q.size<;>rfl
def uy(s:Nat)(es:List SV):Prop:=es≠[]→(aA es 0).fj=s∧(aA es 0).aM=false
def slR(es:List SV)(l h:Option Int)(te:Option TI):dF:=match l,h,te with
 | some l,some h,some te=>.q (0≤l∧l≤h∧h≤es.length∧uy te.size es) (.ro ((es.take h.toNat).drop l.toNat))
 | _,_,_=>.stuck
@[simp] theorem Tl:slR es (some m) (some n) (some ti)=.q (0≤m∧m≤n∧n≤es.length∧uy ti.size es) (.ro ((es.take n.toNat).drop m.toNat)):=rfl
@[simp] theorem ai3(lo hi:Option (Option SV)):jv P M (some ⟨.sl el,s,b,z⟩) (some (.ro es)) lo hi none=slR es (fv lo 0) (fv hi es.length) (az P el):=by
 simp only[jv,slR];split
 ·simp[uy, *]
 ·split<;>simp_all
def slV(a i k:Nat)(l h:Option Int)(te:Option TI)(e:Option cx):dF:=match l,h,te,e with
 | some l,some h,some te,some e=>if e.sz=te.size then .q (0≤l∧l≤h∧h≤k) (.view a (i+l.toNat) (h.toNat - l.toNat)) else .stuck
 | _,_,_,_=>.stuck
@[simp] theorem Wh(k:Nat)(fz:Bool):slV a i k (some m) (some n) (some ti) (some ⟨s,es,fz⟩)=if s=ti.size then .q (0≤m∧m≤n∧n≤k) (.view a (i+m.toNat) (n.toNat - m.toNat)) else .stuck:=rfl
@[simp] theorem aay(k:Nat)(lo hi:Option (Option SV)):jv P M (some ⟨.sl el,s,b,z⟩) (some (.view a i k)) lo hi none=slV a i k (fv lo 0) (fv hi k) (az P el) (ao M a):=by
 simp only[jv,slV];cases fv lo 0 with
 | none=>rfl
 | some l=>cases fv hi k with
  | none=>rfl
  | some h=>cases az P el with
   | none=>rfl
   | some te=>cases ao M a with
    | none=>rfl
    | some e=>simp
@[simp] theorem aed(t:TypeId):um (some ⟨.ptr el,s,b,z⟩) t (some x)=.q True (.iw t x):=rfl
def bdL(l:Option (List SV)):dF:=match l with
 | some l=>.q True (.agg l)
 | none=>.stuck
@[simp] theorem S8:bdL (some l)=.q True (.agg l):=rfl
@[simp] theorem ahT(ps:List (Nat × Option SV)):ob (some ⟨.st fs,s,b,z⟩) ps=if fs.all (fun f=>f.2.1 != 0)=true then bdL (jd fs ps z) else .stuck:=by
 simp only[ob,bdL];split
 ·cases jd fs ps z<;>rfl
 ·rfl
@[simp] theorem NY(acc:List SV):jd fs [] acc=some acc:=rfl
def Jp(q:Option (Nat × Nat × TypeId))(x:SV)(acc:List SV):Option (List SV):=match q with
 | some (off,sz,_)=>if x.fj=sz∧x.aM=false∧off+sz≤acc.length then some (acc.take off++x.cells++acc.drop (off+sz)) else none
 | none=>none
@[simp] theorem OP(off sz:Nat)(ft:TypeId)(acc:List SV):Jp (some (off,sz,ft)) x acc=if x.fj=sz∧x.aM=false∧off+sz≤acc.length then some (acc.take off++x.cells++acc.drop (off+sz)) else none:=rfl
def C6(fs:List (Nat × Nat × TypeId))(r:List (Nat × Option SV))(a:Option (List SV)):Option (List SV):=a.bind fun acc=>jd fs r acc
@[simp] theorem MV(r:List (Nat × Option SV))(a:List SV):C6 fs r (some a)=jd fs r a:=rfl
@[simp] theorem MI(i:Nat)(x:SV)(r:List (Nat × Option SV))(acc:List SV):jd fs ((i,some x)::r) acc=C6 fs r (Jp (mW fs i) x acc):=by
 simp only[jd,C6];cases mW fs i with
 | none=>rfl
 | some q=>obtain⟨off,sz,ft⟩:=q;simp only[Jp];split<;>rfl
/-! what makes or writes blocks -/
def stP(M:aJ)(ti:TI)(a i j:Nat)(y:SV)(e:Option cx):cr:=match e with
 | some ⟨sz,es,false⟩=>.m (i<es.length∧(aA es i).aM=false∧y.aM=false∧y.fj=ti.size∧j+ti.size≤(aA es i).fj) (aN M a (some ⟨sz,bD es i (oF (aA es i) j y),false⟩)) [] none
 | _=>.stuck
@[simp] theorem We:stP M ti a i j y (some ⟨s,es,false⟩)=.m (i<es.length∧(aA es i).aM=false∧y.aM=false∧y.fj=ti.size∧j+ti.size≤(aA es i).fj) (aN M a (some ⟨s,bD es i (oF (aA es i) j y),false⟩)) [] none:=rfl
@[simp] theorem adN:mH M (some ti) (some (.ptr a i j)) (some y)=stP M ti a i j y (ao M a):=by
 simp only[mH,stP];cases ao M a with
 | none=>rfl
 | some e=>obtain⟨sz,es,f⟩:=e;cases f<;>rfl
@[simp] theorem YI:ow M (some ti)=.m True (M++[some ⟨ti.size,[ti.cK],false⟩]) [] (some (.ptr M.length 0 0)):=rfl
@[simp] theorem aaZ:xY M (some ti) (some x)=.m (x.fj=ti.size∧x.aM=false) (M++[some ⟨ti.size,[x],false⟩]) [] (some (.ptr M.length 0 0)):=rfl
def bsE(M:aJ)(len:Nat)(te:TI)(es:Option (List SV)):cr:=match es with
 | some es=>if len*te.size≤16777216 then .m True (M++[some ⟨te.size,es,false⟩]) [] (some (.view M.length 0 len)) else .stuck
 | none=>.stuck
@[simp] theorem S4:bsE M i ti (some es)=if i*ti.size≤16777216 then .m True (M++[some ⟨ti.size,es,false⟩]) [] (some (.view M.length 0 i)) else .stuck:=rfl
def bsT(M:aJ)(len:Nat)(ps:List (Nat × Option SV))(te:Option TI):cr:=match te with
 | some te=>bsE M len te (jL te.size len ps (alZ len te.cK))
 | none=>.stuck
@[simp] theorem UH(ps:List (Nat × Option SV)):bsT M i ps (some ti)=bsE M i ti (jL ti.size i ps (alZ i ti.cK)):=rfl
@[simp] theorem aaj(ps:List (Nat × Option SV)):fG P M (some ⟨.sl el,s,b,z⟩) i ps=bsT M i ps (az P el):=by
 simp only[fG,bsT,bsE];cases az P el with
 | none=>rfl
 | some te=>simp only;cases jL te.size i ps (alZ i te.cK)<;>rfl
@[simp] theorem NK(sz len:Nat)(acc:List SV):jL sz len [] acc=some acc:=rfl
@[simp] theorem ME(sz len i:Nat)(x:SV)(r:List (Nat × Option SV))(acc:List SV):jL sz len ((i,some x)::r) acc=if x.fj=sz∧x.aM=false∧i<len then jL sz len r (bD acc i x) else none:=rfl
def mkT(M:aJ)(n m:Int)(te:Option TI):cr:=match te with
 | some te=>.m (0≤n∧n≤m∧m≤281474976710656∧te.bytes*m≤281474976710656) (M++[some ⟨te.size,alZ n.toNat te.cK,false⟩]) [] (some (.view M.length 0 n.toNat))
 | none=>.stuck
@[simp] theorem UX:mkT M n m (some ti)=.m (0≤n∧n≤m∧m≤281474976710656∧ti.bytes*m≤281474976710656) (M++[some ⟨ti.size,alZ n.toNat ti.cK,false⟩]) [] (some (.view M.length 0 n.toNat)):=rfl
@[simp] theorem abT:fZ P M (some ⟨.sl el,s,b,z⟩) (some (.val (.int κ n))) (some (.val (.int κ' m)))=mkT M n m (az P el):=by simp only[fZ,mkT];cases az P el<;>rfl
/-! maps -/
@[simp] theorem ahk{kt et k:Nat}{v:Value}{ok:Bool}:j8 P M (some ⟨.mp kt et,s,b,z⟩) (some (.mp k)) (some (.val v)) ok=RC ok M (az P kt) v (az P et) (ao M k):=rfl
@[simp] theorem VA{ok:Bool}{tk':Option TI}{v:Value}{te:TI}{f:Bool}:RC ok M tk' v (some te) (some ⟨0,es,f⟩)=if xk tk' v=true then Ka ok M te (fo v es 0) else .stuck:=by simp[RC]
@[simp] theorem V7{ok:Bool}{te:TI}{j:Nat}{y:SV}:Ka ok M te (some (some (j,y)))=.m True M [] (some (two ok y true)):=rfl
@[simp] theorem Uk{ok:Bool}{te:TI}:Ka ok M te (some none)=.m True M [] (some (two ok te.cK false)):=rfl
@[simp] theorem aeY{y:SV}{q:Bool}:two false y q=y:=rfl
@[simp] theorem UR{k k':IntKind}{n:Int}:xk (some ⟨.int k,s,b,z⟩) (.int k' n)=decide (k=k'):=rfl
@[simp] theorem S5{q:ByteArray}:xk (some ⟨.str,s,b,z⟩) (.string q)=true:=rfl
@[simp] theorem Ep{k:IntKind}{m n:Int}:Gv (.int k m) (.int k n)=some (decide (m=n)):=by simp[Gv]
@[simp] theorem Ky{m n:ByteArray}:Gv (.string m) (.string n)=some (decide (m=n)):=rfl
@[simp] theorem CQ{v u:Value}{y:SV}{l:List SV}{i:Nat}:fo v (.bG [.val u,y]::l) i=Ml v u y i (fo v l (i+1)):=rfl
@[simp] theorem aid{kt et k:Nat}{v:Value}{y:SV}:jF P M (some ⟨.mp kt et,s,b,z⟩) (some (.mp k)) (some (.val v)) (some y)=RK M k (az P kt) v y (ao M k):=rfl
@[simp] theorem WS{k:Nat}{tk':Option TI}{v:Value}{y:SV}:RK M k tk' v y (some ⟨0,es,false⟩)=if xk tk' v=true then ID M k es v y (fo v es 0) else .stuck:=by simp[RK]
@[simp] theorem WE{k j:Nat}{v:Value}{y y':SV}:ID M k es v y (some (some (j,y')))=.m True (aN M k (some ⟨0,bD es j (.bG [.val v,y]),false⟩)) [] none:=rfl
@[simp] theorem Wg{k:Nat}{v:Value}{y:SV}:ID M k es v y (some none)=.m True (aN M k (some ⟨0,es++[.bG [.val v,y]],false⟩)) [] none:=rfl
@[simp] theorem ahK{kt et k:Nat}:fK M (some ⟨.mp kt et,s,b,z⟩) (some (.mp k))=Sj M (ao M k):=rfl
@[simp] theorem XI{f:Bool}:Sj M (some ⟨0,es,f⟩)=.m True M [] (some (.val (.int .i64 es.length))):=by simp[Sj]
@[simp] theorem ZV{kt et:Nat}:jq M (some ⟨.mp kt et,s,b,z⟩) none=.m True (M++[some ⟨0,[],false⟩]) [] (some (.mp M.length)):=rfl
/-! append -/
@[simp] theorem ahu(ys:List SV):ke M ti (some (.ro ys))=some (uy ti.size ys,ys):=rfl
def esV(te:TI)(i n:Nat)(e:Option cx):Option (Prop × List SV):=match e with
 | some e=>some (e.sz=te.size∧i+n≤e.es.length,(e.es.drop i).take n)
 | none=>none
@[simp] theorem X3(k:Nat)(fz:Bool):esV ti i k (some ⟨s,es,fz⟩)=some (s=ti.size∧i+k≤es.length,(es.drop i).take k):=rfl
@[simp] theorem aag(k:Nat):ke M ti (some (.view a i k))=esV ti i k (ao M a):=by
 simp only[ke,esV];cases ao M a<;>rfl
def Z1(fx:List Nat)(M:aJ)(a n:Nat)(te:TI)(e:Option cx)(ys:Option (Prop × List SV)):cr:=match e,ys with
 | some ⟨sz,es,false⟩,some (c,ys)=>.m (a∉fx∧c∧n=es.length∧sz=te.size∧fR a M=true∧SV.aX a ys=false∧(∀y∈ys,y.aM=false)∧(es.length+ys.length)*te.bytes≤70368744177664∧0<te.bytes) (aN M a (some ⟨sz,es++ys,false⟩)) [a] (some (.view a 0 (n+ys.length)))
 | _,_=>.stuck
@[simp] theorem W6(k:Nat)(c:Prop)(fx:List Nat)(ys:List SV):Z1 fx M a k ti (some ⟨s,es,false⟩) (some (c,ys))=.m (a∉fx∧c∧k=es.length∧s=ti.size∧fR a M=true∧SV.aX a ys=false∧(∀y∈ys,y.aM=false)∧(es.length+ys.length)*ti.bytes≤70368744177664∧0<ti.bytes) (aN M a (some ⟨s,es++ys,false⟩)) [a] (some (.view a 0 (k+ys.length))):=rfl
def apT(fx:List Nat)(M:aJ)(a n:Nat)(x:Option SV)(te:Option TI):cr:=match te with
 | some te=>Z1 fx M a n te (ao M a) (ke M te x)
 | none=>.stuck
@[simp] theorem Tx(fx:List Nat)(k:Nat):apT fx M a k u (some ti)=Z1 fx M a k ti (ao M a) (ke M ti u):=rfl
def apN(M:aJ)(te:TI)(ys:Option (Prop × List SV)):cr:=match ys with
 | some (c,ys)=>.m (c∧fR M.length M=true∧SV.aX M.length ys=false∧(∀y∈ys,y.aM=false)∧ys.length*te.bytes≤70368744177664∧0<te.bytes) (M++[some ⟨te.size,ys,false⟩]) [M.length] (some (.view M.length 0 ys.length))
 | none=>.stuck
@[simp] theorem T6(c:Prop)(ys:List SV):apN M ti (some (c,ys))=.m (c∧fR M.length M=true∧SV.aX M.length ys=false∧(∀y∈ys,y.aM=false)∧ys.length*ti.bytes≤70368744177664∧0<ti.bytes) (M++[some ⟨ti.size,ys,false⟩]) [M.length] (some (.view M.length 0 ys.length)):=rfl
def Ok(M:aJ)(x:Option SV)(te:Option TI):cr:=match te with
 | some te=>apN M te (ke M te x)
 | none=>.stuck
@[simp] theorem Qs:Ok M u (some ti)=apN M ti (ke M ti u):=rfl
@[simp] theorem aan(fx:List Nat)(k s2 b2:Nat)(z2:List SV)(el2:TypeId):gX P fx M (some ⟨.sl el,s,b,z⟩) (some ⟨.sl el2,s2,b2,z2⟩) (some (.view a 0 k)) u=apT fx (Cq a M) a k u (az P el):=by
 simp only[gX,xt,j7,apT];generalize Cq a M=M;cases az P el with
 | none=>rfl
 | some te =>
  simp only[Z1];cases ao M a with
  | none=>rfl
  | some e=>obtain⟨sz,es,f⟩:=e;cases f with
   | true=>rfl
   | false=>simp only;cases ke M te u<;>rfl
@[simp] theorem aet(fx:List Nat)(s2 b2:Nat)(z2:List SV)(el2:TypeId):gX P fx M (some ⟨.sl el,s,b,z⟩) (some ⟨.sl el2,s2,b2,z2⟩) (some (.val (.slice none 0 0))) u=Ok M u (az P el):=by
 simp only[gX,xt,j7,Ok,apN];cases az P el with
 | none=>rfl
 | some te=>simp only;cases ke M te u<;>rfl
end
section
variable (P:Program) (M:aJ) (ti:TI) (a k s b:Nat) (z es ys:List SV) (el:TypeId) (u:Option SV) (c:Prop)
def cpV(M:aJ)(a n:Nat)(te:TI)(e:Option cx)(ys:Option (Prop × List SV)):cr:=match e,ys with
 | some ⟨sz,es,false⟩,some (c,ys)=>.m (c∧n=es.length∧ys.length=n∧sz=te.size∧∀y∈ys,y.aM=false) (aN M a (some ⟨sz,ys,false⟩)) [] (some (.val (.int .i64 n)))
 | _,_=>.stuck
def cpT(M:aJ)(a n:Nat)(x:Option SV)(te:Option TI):cr:=match te with
 | some te=>cpV M a n te (ao M a) (ke M te x)
 | none=>.stuck
end
@[simp] theorem Y7(fr:List (Nat × SV)):rQ fr []=some []:=rfl
def JA(x:Option SV)(l:Option (List SV)):Option (List SV):=match x,l with
 | some x,some l=>some (x::l)
 | _,_=>none
@[simp] theorem Nw(x:SV)(l:List SV):JA (some x) (some l)=some (x::l):=rfl
@[simp] theorem Vp(fr:List (Nat × SV))(o:Operand)(r:List Operand):rQ fr (o::r)=JA (ev fr o) (rQ fr r):=by
 simp only[rQ,JA];cases ev fr o<;>cases rQ fr r<;>rfl
@[simp] theorem agW(fr:List (Nat × SV))(t:Nat):ev fr (.tmp t)=get fr t:=rfl
@[simp] theorem Ss(fr:List (Nat × SV))(g:Nat):ev fr (.global g)=if pX.contains g=true then some (.bU (.fp eM g) 0) else some (.val (.pointer (some ⟨g,0,none⟩))):=by
 simp only[ev,gl];split<;>simp_all
@[simp] theorem Zs:pX=[3,1,4,0,5,6,2,7,8,9]:=rfl
@[simp] theorem afY(fr:List (Nat × SV))(κ:IntKind)(n:Int):ev fr (.const (.int κ n))=some (.val (.int κ n)):=rfl
@[simp] theorem abn(fr:List (Nat × SV))(b:Bool):ev fr (.const (.bool b))=some (.val (.bool b)):=rfl
@[simp] theorem aeK(fr:List (Nat × SV))(b:ByteArray):ev fr (.const (.string b))=some (.val (.string b)):=rfl
@[simp] theorem MN(fr:List (Nat × SV)):ev fr (.const (.slice none 0 0))=some (.val (.slice none 0 0)):=rfl
@[simp] theorem R0(fr:List (Nat × SV)):ev fr (.const (.pointer none))=some (.val (.pointer none)):=rfl
@[simp] theorem V1(fr:List (Nat × SV)):ev fr (.const .nilIface)=some (.val .nilIface):=rfl
@[simp] theorem get_nil(t:Nat):get [] t=none:=rfl
@[simp] theorem SW(s t:Nat)(x:SV)(r:List (Nat × SV)):get ((s,x)::r) t=if s=t then some x else get r t:=rfl
@[simp] theorem R1(t:Nat)(x:SV)(fr:List (Nat × SV)):dd (some t) (some x) fr=(t,x)::fr:=rfl
@[simp] theorem Ue{n t:Nat}(h:t<n)(fr:List (Nat × SV)):fc n (some t) fr=(t,.bG [])::fr:=by simp[fc,h]
@[simp] theorem QC(x:Option SV)(fr:List (Nat × SV)):dd none x fr=fr:=by cases x<;>rfl
@[simp] theorem Wc(t n:Nat):sS (some t) n=(t<n):=rfl
@[simp] theorem S3(n:Nat):sS none n=True:=rfl
@[simp] theorem abd(t:Nat):del [] t=[]:=rfl
@[simp] theorem XU(s t:Nat)(x:SV)(r:List (Nat × SV)):del ((s,x)::r) t=if s=t then del r t else(s,x)::del r t:=by
 simp only[del,am4];by_cases h:s=t<;>simp[h]
@[simp] theorem Mp(pk:List Nat):forget pk []=[]:=rfl
@[simp] theorem M9(a t:Nat)(x:SV)(r:List (Nat × SV)):forget [a] ((t,x)::r)=if x.bC a=true then del (forget [a] r) t else(t,x)::forget [a] r:=by
 simp only[forget];cases h:x.bC a<;>simp[h]
@[simp] theorem PU(x:Option cx)(l:aJ):ao (x::l) 0=x:=rfl
@[simp] theorem R5(x:Option cx)(l:aJ)(n:Nat):ao (x::l) (n+1)=ao l n:=rfl
@[simp] theorem Ru(x y:Option cx)(l:aJ):aN (x::l) 0 y=y::l:=rfl
@[simp] theorem Qd(x y:Option cx)(l:aJ)(n:Nat):aN (x::l) (n+1) y=x::aN l n y:=rfl
@[simp] theorem Qj(x:SV)(l:List SV):aA (x::l) 0=x:=rfl
@[simp] theorem SA(x:SV)(l:List SV)(n:Nat):aA (x::l) (n+1)=aA l n:=rfl
@[simp] theorem Sq(x y:SV)(l:List SV):bD (x::l) 0 y=y::l:=rfl
@[simp] theorem Rw(x y:SV)(l:List SV)(n:Nat):bD (x::l) (n+1) y=x::bD l n y:=rfl
@[simp] theorem Qh(x:Nat × Nat × TypeId)(l:List (Nat × Nat × TypeId)):mW (x::l) 0=some x:=rfl
@[simp] theorem SM(x:Nat × Nat × TypeId)(l:List (Nat × Nat × TypeId))(n:Nat):mW (x::l) (n+1)=mW l n:=rfl
@[simp] theorem Mh{d:Option Tmp}{op:Op}{t:TypeId}{p:String}{af:Array Edge}{g:Option (Nat × Bool)}(l:List Oper):l5 (⟨d,op,t,p,af,g⟩::l) 0=d:=rfl
@[simp] theorem Mo(x:Oper)(l:List Oper)(n:Nat):l5 (x::l) (n+1)=l5 l n:=rfl
section
variable (v:Value) (a b c n:Nat) (l es:List SV) (x:SV) (t:TypeId)
@[simp] theorem Qw:(SV.val v).cells=[.val v]:=rfl
@[simp] theorem Sn:(SV.ptr a b c).cells=[.ptr a b c]:=rfl
@[simp] theorem Nx:(SV.view a b c).cells=[.view a b c]:=rfl
@[simp] theorem Vv:(SV.ro es).cells=[.ro es]:=rfl
@[simp] theorem QK:(SV.bU x a).cells=[.bU x a]:=rfl
@[simp] theorem SC:(SV.agg l).cells=l:=rfl
@[simp] theorem SF:(SV.iw t x).cells=[.iw t x]:=rfl
@[simp] theorem aa4:(SV.val v).fj=1:=rfl
@[simp] theorem Yq:(SV.ptr a b c).fj=1:=rfl
@[simp] theorem Tj:(SV.view a b c).fj=1:=rfl
@[simp] theorem afZ:(SV.ro es).fj=1:=rfl
@[simp] theorem aao:(SV.bU x a).fj=1:=rfl
@[simp] theorem Y4:(SV.agg l).fj=l.length:=rfl
@[simp] theorem Zu:(SV.iw t x).fj=1:=rfl
@[simp] theorem Q2:(SV.val v).aM=false:=rfl
@[simp] theorem Qp:(SV.ptr a b c).aM=false:=rfl
@[simp] theorem Ol:(SV.view a b c).aM=false:=rfl
@[simp] theorem Vd:(SV.ro es).aM=false:=rfl
@[simp] theorem Qn:(SV.bU x a).aM=false:=rfl
@[simp] theorem QO:(SV.agg l).aM=false:=rfl
@[simp] theorem SN:(SV.iw t x).aM=false:=rfl
@[simp] theorem Q3:(SV.val v).isAgg=false:=rfl
@[simp] theorem RW:(SV.ptr a b c).isAgg=false:=rfl
@[simp] theorem Px:(SV.view a b c).isAgg=false:=rfl
@[simp] theorem UF:(SV.ro es).isAgg=false:=rfl
@[simp] theorem PY:(SV.bU x a).isAgg=false:=rfl
@[simp] theorem RD:(SV.agg l).isAgg=true:=rfl
@[simp] theorem SB:(SV.iw t x).isAgg=false:=rfl
@[simp] theorem Wa:(SV.val v).bC n=false:=rfl
@[simp] theorem Tu:(SV.ptr a b c).bC n=(a==n):=rfl
@[simp] theorem RX:(SV.view a b c).bC n=(a==n):=rfl
@[simp] theorem aaR:(SV.ro es).bC n=false:=rfl
@[simp] theorem Wu:(SV.bU x a).bC n=false:=rfl
@[simp] theorem Tk:(SV.agg l).bC n=SV.aX n l:=by simp[SV.bC]
@[simp] theorem VR:(SV.bG l).bC n=SV.aX n l:=by simp[SV.bC]
@[simp] theorem Q9:SV.aX n []=false:=by simp[SV.aX]
@[simp] theorem Ot:SV.aX n (x::l)=(x.bC n||SV.aX n l):=by simp[SV.aX]
@[simp] theorem WW:(SV.val v).pure=true:=rfl
@[simp] theorem TP:(SV.ptr a b c).pure=false:=rfl
@[simp] theorem QL:(SV.view a b c).pure=false:=rfl
@[simp] theorem aal:(SV.ro es).pure=true:=rfl
@[simp] theorem Vy:(SV.bU x a).pure=true:=rfl
@[simp] theorem VX:(SV.agg l).pure=SV.ba l:=by simp[SV.pure]
@[simp] theorem W5:(SV.bG l).pure=SV.ba l:=by simp[SV.pure]
@[simp] theorem PT:SV.ba []=true:=by simp[SV.ba]
@[simp] theorem Ob:SV.ba (x::l)=(x.pure&&SV.ba l):=by simp[SV.ba]
@[simp] theorem agi:(SV.val v).lt n=true:=rfl
@[simp] theorem ae5:(SV.ptr a b c).lt n=decide (a<n):=rfl
@[simp] theorem abe:(SV.view a b c).lt n=decide (a<n):=rfl
@[simp] theorem aip:(SV.ro es).lt n=true:=rfl
@[simp] theorem afi:(SV.bU x a).lt n=true:=rfl
@[simp] theorem adu:(SV.agg l).lt n=SV.lS n l:=by simp[SV.lt]
@[simp] theorem ad1:(SV.bG l).lt n=SV.lS n l:=by simp[SV.lt]
@[simp] theorem afT:(SV.iw t x).lt n=x.lt n:=by simp[SV.lt]
@[simp] theorem acz:SV.lS n []=true:=by simp[SV.lS]
@[simp] theorem VL:SV.lS n (x::l)=(x.lt n&&SV.lS n l):=by simp[SV.lS]
@[simp] theorem aeJ:(SV.val v).ks=[]:=rfl
@[simp] theorem acY:(SV.view a b c).ks=[a]:=rfl
@[simp] theorem ah4:(SV.ro es).ks=[]:=rfl
@[simp] theorem adO:(SV.bU x a).ks=[]:=rfl
@[simp] theorem agr:(SV.agg l).ks=SV.qk l:=by simp[SV.ks]
@[simp] theorem aa5:SV.qk []=[]:=by simp[SV.qk]
@[simp] theorem XN:SV.qk (x::l)=x.ks++SV.qk l:=by simp[SV.qk]
@[simp] theorem W9(fs:List (Nat × Nat × TypeId)):(TK.st fs).isAgg=true:=rfl
@[simp] theorem Qk(κ:IntKind):(TK.int κ).isAgg=false:=rfl
@[simp] theorem OV:TK.bool.isAgg=false:=rfl
@[simp] theorem Q8:TK.str.isAgg=false:=rfl
@[simp] theorem Ws:(TK.sl t).isAgg=false:=rfl
@[simp] theorem N4:(TK.ptr t).isAgg=false:=rfl
@[simp] theorem UD:TK.iface.isAgg=false:=rfl
@[simp] theorem Md:TK.other.isAgg=false:=rfl
@[simp] theorem RM:fR n []=true:=rfl
@[simp] theorem agk{M:aJ}{k:Nat}:Cq k M=if fR k M=true then M else uN k M:=rfl
@[simp] theorem VS{k:Nat}:uN k []=[]:=rfl
@[simp] theorem Rb{k sz:Nat}{f:Bool}(es:List SV)(M:aJ):uN k (some ⟨sz,es,f⟩::M)=some ⟨sz,BB k es,f⟩::uN k M:=rfl
@[simp] theorem aab{k:Nat}{es:List SV}:BB k es=if SV.aX k es=true then es.map (wM k) else es:=rfl
@[simp] theorem S7{k:Nat}(l:List SV):wM k (.agg l)=.agg (l.map fun y=>if y.bC k then .any else y):=rfl
@[simp] theorem Dz{k:Nat}(l:List SV):wM k (.ro l)=.ro l:=rfl
@[simp] theorem OC(sz:Nat)(f:Bool)(M:aJ):fR n (some ⟨sz,es,f⟩::M)=(!SV.aX n es&&fR n M):=rfl
@[simp] theorem aa0(M:aJ):Gq [] M=M:=rfl
def fz1(k:Nat)(r:List Nat)(M:aJ)(o:Option cx):aJ:=match o with
 | some e=>Gq r (aN M k (some ⟨e.sz,e.es,true⟩))
 | none=>Gq r M
@[simp] theorem TT(k:Nat)(r:List Nat)(M:aJ):Gq (k::r) M=fz1 k r M (ao M k):=rfl
@[simp] theorem WN(k:Nat)(r:List Nat)(M:aJ)(sz:Nat)(f:Bool):fz1 k r M (some ⟨sz,es,f⟩)=Gq r (aN M k (some ⟨sz,es,true⟩)):=rfl
@[simp] theorem aau(t g:Nat):(SV.fp t g).fj=1:=rfl
@[simp] theorem Rr(t g:Nat):(SV.fp t g).aM=false:=rfl
@[simp] theorem P7(t g:Nat):(SV.fp t g).isAgg=false:=rfl
@[simp] theorem Xe(t g:Nat):(SV.fp t g).pure=true:=rfl
@[simp] theorem adJ(n t g:Nat):(SV.fp t g).lt n=true:=rfl
@[simp] theorem QM(t g:Nat):(SV.fp t g).cells=[.fp t g]:=rfl
@[simp] theorem Qx{f:FuncId}{l r:List SV}:(SV.gA f l r).cells=[.gA f l r]:=rfl
@[simp] theorem aav{f:FuncId}{l r:List SV}:(SV.gA f l r).fj=1:=rfl
@[simp] theorem Rm{f:FuncId}{l r:List SV}:(SV.gA f l r).aM=false:=rfl
@[simp] theorem aas:(SV.mp a).bC n=(a==n):=rfl
@[simp] theorem WB{n:Nat}:(SV.any).bC n=false:=rfl
@[simp] theorem XZ{n:Nat}{f:FuncId}{l r:List SV}:(SV.gA f l r).bC n=(SV.aX n l||SV.aX n r):=rfl
@[simp] theorem acC:(SV.mp a).pure=false:=rfl
@[simp] theorem Uy:(SV.any).pure=true:=rfl
@[simp] theorem Wx{f:FuncId}{l r:List SV}:(SV.gA f l r).pure=(SV.ba l&&SV.ba r):=rfl
@[simp] theorem aii:(SV.mp a).lt n=decide (a<n):=rfl
@[simp] theorem agx{n:Nat}{f:FuncId}{l r:List SV}:(SV.gA f l r).lt n=(SV.lS n l&&SV.lS n r):=rfl
@[simp] theorem X8(M:aJ):Sub M (.view a b n) (.ro es)=onO (ao M a) fun e=>SV.ba e.es=true∧b+n≤e.es.length∧(e.es.drop b).take n=es:=by
 simp only[Sub];cases ao M a<;>rfl
@[simp] theorem adb(M:aJ)(j:Nat):Sub M (.ptr a b c) (.bU x j)=onO (ao M a) fun e=>SV.ba e.es=true∧b<e.es.length∧(aA e.es b).aM=false∧aA e.es b=x∧c=j:=by
 simp only[Sub];cases ao M a<;>rfl
@[simp] theorem acX(M:aJ):Sub M (.agg l) (.agg es)=cA M l es:=by simp only[Sub]
@[simp] theorem ach(M:aJ):Sub M (.bG l) (.bG es)=cA M l es:=by simp only[Sub]
@[simp] theorem aa2(M:aJ)(t':TypeId)(x':SV):Sub M (.iw t x) (.iw t' x')=(t=t'∧Sub M x x'):=by simp only[Sub]
@[simp] theorem abC(M:aJ):Sub M (.val v) (.ro es)=(v=.slice none 0 0∧es=[]):=by simp only[Sub]
@[simp] theorem ab1(M:aJ)(v':Value):Sub M (.val v) (.val v')=(v=v'):=by simp only[Sub]
@[simp] theorem agy(M:aJ)(y:SV):Sub M (.ro es) y=(y=.ro es):=by simp only[Sub]
@[simp] theorem Zn(M:aJ)(y:SV)(t g:Nat):Sub M (.fp t g) y=(y=.fp t g):=by simp only[Sub]
@[simp] theorem Wm(M:aJ):cA M [] es=(es=[]):=by simp only[cA]
@[simp] theorem RP(M:aJ)(x':SV):cA M (x::l) (x'::es)=(Sub M x x'∧cA M l es):=by simp only[cA]
end
/-! results -/
def iQ(P:Program)(st:St)(r:ResultVar):dF:=match r with
 | .tmp t=>Ov (get st.fr t)
 | .cell t T=>g9 st.M (az P T) (get st.fr t)
@[simp] theorem W3(P:Program)(st:St)(t:Nat):iQ P st (.tmp t)=Ov (get st.fr t):=rfl
@[simp] theorem QD(P:Program)(st:St)(t T:Nat):iQ P st (.cell t T)=g9 st.M (az P T) (get st.fr t):=rfl
def fin(M:aJ)(x:SV)(Φ:SV→Prop):Prop:=∃y,Sub M x y∧Φ y
def OE(r:dF)(M:aJ)(Φ:SV→Prop):Prop:=match r with
 | .q c x=>c∧fin M x Φ
 | _=>False
def Cd(rs:List dF)(acc:List SV)(M:aJ)(Φ:SV→Prop):Prop:=match rs with
 | []=>fin M (.bG acc) Φ
 | .q c x::r=>c∧Cd r (acc++[x]) M Φ
 | _=>False
@[simp] theorem afN{c:Prop}{x:SV}{M:aJ}{Φ:SV→Prop}:OE (.q c x) M Φ=(c∧fin M x Φ):=rfl
@[simp] theorem VU{acc:List SV}{M:aJ}{Φ:SV→Prop}:Cd [] acc M Φ=fin M (.bG acc) Φ:=rfl
@[simp] theorem agb{c:Prop}{x:SV}{r:List dF}{acc:List SV}{M:aJ}{Φ:SV→Prop}:Cd (.q c x::r) acc M Φ=(c∧Cd r (acc++[x]) M Φ):=rfl
theorem lB(P:Program)(st:St)(r:ResultVar):pU P st r=(match iQ P st r with | .q c x=>some (c,x) | _=>none):=by
 cases r with
 | tmp t=>simp only[iQ,pU];cases get st.fr t<;>rfl
 | cell t T =>
  simp only[iQ,pU];cases get st.fr t with
  | none=>simp only[g9];cases az P T<;>rfl
  | some u=>split<;>simp_all
section
variable (P:Program) (st:St) (r s u:ResultVar) (Φ:SV→Prop)
@[simp] theorem Qu:jX P [r] Φ .ret st=OE (iQ P st r) st.M Φ:=by
 simp only[jX,jS,rW,lB];cases iQ P st r<;>simp[OE,fin]
@[simp] theorem Sh:jX P [r,s] Φ .ret st=Cd [iQ P st r,iQ P st s] [] st.M Φ:=by
 simp only[jX,jS,rW,lB];cases iQ P st r<;>cases iQ P st s<;>simp[Cd,fin,and_assoc]
@[simp] theorem PN:jX P [r,s,u] Φ .ret st=Cd [iQ P st r,iQ P st s,iQ P st u] [] st.M Φ:=by
 simp only[jX,jS,rW,lB];cases iQ P st r<;>cases iQ P st s<;>cases iQ P st u<;>simp[Cd,fin,and_assoc]
theorem Cb(rs:List ResultVar):jX P rs Φ .normal st=jX P rs Φ .ret st:=rfl
@[simp] theorem Pr{rs:List ResultVar}{c:List PanicEntry}:jX P rs Φ (.panic c) st=False:=rfl
end
attribute [simp] Cb
def Pn(r:dF)(M:aJ)(pk:List Nat)(k:aJ→List Nat→SV→Prop):Prop:=match r with
 | .q c x=>c∧k M pk x
 | _=>False
def s9(rs:List dF)(acc:List SV)(M:aJ)(pk:List Nat)(k:aJ→List Nat→SV→Prop):Prop:=match rs with
 | []=>k M pk (.bG acc)
 | .q c x::r=>c∧s9 r (acc++[x]) M pk k
 | _=>False
section
variable {P:Program} {st:St} {r s u:ResultVar} {pk:List Nat} {k:aJ→List Nat→SV→Prop}
@[simp] theorem agH{c:Prop}{x:SV}{M:aJ}:Pn (.q c x) M pk k=(c∧k M pk x):=rfl
@[simp] theorem SK{acc:List SV}{M:aJ}:s9 [] acc M pk k=k M pk (.bG acc):=rfl
@[simp] theorem aaF{c:Prop}{x:SV}{r:List dF}{acc:List SV}{M:aJ}:s9 (.q c x::r) acc M pk k=(c∧s9 r (acc++[x]) M pk k):=rfl
@[simp] theorem PO:l8 P [] pk k .ret st=k st.M pk (.bG []):=by simp[l8,jS,rW]
@[simp] theorem Rg:l8 P [r] pk k .ret st=Pn (iQ P st r) st.M pk k:=by
 simp only[l8,jS,rW,lB];cases iQ P st r<;>simp[Pn]
@[simp] theorem PZ:l8 P [r,s] pk k .ret st=s9 [iQ P st r,iQ P st s] [] st.M pk k:=by
 simp only[l8,jS,rW,lB];cases iQ P st r<;>cases iQ P st s<;>simp[s9,and_assoc]
@[simp] theorem PS:l8 P [r,s,u] pk k .ret st=s9 [iQ P st r,iQ P st s,iQ P st u] [] st.M pk k:=by
 simp only[l8,jS,rW,lB];cases iQ P st r<;>cases iQ P st s<;>cases iQ P st u<;>simp[s9,and_assoc]
@[simp] theorem MZ{rs:List ResultVar}:l8 P rs pk k .normal st=l8 P rs pk k .ret st:=rfl
@[simp] theorem Oi{rs:List ResultVar}{c:List PanicEntry}:l8 P rs pk k (.panic c) st=False:=rfl
end
theorem Pm(M:aJ)(x y:SV):fin M x (fun z=>z=y)=Sub M x y:=by simp[fin]
attribute [simp] Pm mO oF TI.cK kO Ew yp oO FV iS Xu j6
theorem ae.go{P:Program}{C:Ctx}{c:Code}{st:St}{Q:aV}(h:vc P C c st Q Q):ae P C c st Q:=lN c st (fun _ _ h=>h) (fun _ _ h=>h) h
theorem r5.go{P:Program}{C:Ctx}{all:Array Oper}{l:List Oper}{st:St}{Q:aV}(h:fI P C all l st Q Q):r5 P C all l st Q:=jC l st (fun _ _ h=>h) (fun _ _ h=>h) h
theorem aZ{P:Program}{C:Ctx}{f:FuncId}{args args':List SV}{y:SV}{M:aJ}{W:Option (List Nat)}{k:aJ→List Nat→SV→Prop}(h:aI P f args' y)(hs:cA M args args')(hk:k (Gq (SV.qk args) M) [] y):dH P C f args M W k :=
 vZ h hs fun x hx=>by rw[hx];exact hk
/-! regions whose operations may come up in any order -/
def jD:List Oper→Nat→Option Oper
 | [],_=>none
 | o::_,0=>some o
 | _::l,n+1=>jD l n
theorem gU{l:List Oper}{j:Nat}:l.toArray[j]?=jD l j:=by
 simp only[am3]
 induction l generalizing j with
 | nil=>rfl
 | cons x l ih=>cases j with
  | zero=>rfl
  | succ j=>simpa[jD]using ih
@[simp] theorem Sr(o:Oper)(l:List Oper):jD (o::l) 0=some o:=rfl
@[simp] theorem QV(o:Oper)(l:List Oper)(n:Nat):jD (o::l) (n+1)=jD l n:=rfl
section
variable {P:Program} {C:Ctx} {st:St} {Q QJ:aV} {l:List Oper} {d:Option Tmp} {op:Op} {t:TypeId} {p:String} {af:Array Edge} {o:Oper} {r r':Pl} {i j:Nat} {ks ks':List Nat} {yes no:St→Prop}
def Pg(P:Program)(C:Ctx)(l:List Oper)(ks:List Nat)(o:Oper)(r:Pl)(Q QJ:aV)(st:St):Prop:=w8 ks st o.op∧cE P C none o st (KL P C l.toArray r Q QJ) Sg
def Pe(P:Program)(C:Ctx)(l:List Oper)(ks:List Nat)(o:Oper)(r:Pl)(Q QJ:aV)(st:St):Prop:=((okW ks st o.op∧z9 ks r o.op)∧r.there st.M)∧cE P C (some (nb ks)) o st (KL P C l.toArray r Q QJ) (njP P C l.toArray r QJ)
@[simp] theorem XF:Pg P C l ks o r Q QJ st=(w8 ks st o.op∧cE P C none o st (KL P C l.toArray r Q QJ) Sg):=rfl
@[simp] theorem WL:Pe P C l ks o r Q QJ st=(((okW ks st o.op∧z9 ks r o.op)∧r.there st.M)∧cE P C (some (nb ks)) o st (KL P C l.toArray r Q QJ) (njP P C l.toArray r QJ)):=rfl
def Gp(b:Bool)(d:Option Tmp)(st:St)(yes no:St→Prop)(t':Nat)(v:Option SV):Prop:=match v with
 | some (.val (.bool c))=>(c=b→yes ⟨st.n,(t',.val (.bool b))::st.fr,st.M⟩)∧(c=!b→no ⟨st.n,fc st.n d ((t',.val (.bool (!b)))::st.fr),st.M⟩)
 | some (.bG [])=>no ⟨st.n,fc st.n d st.fr,st.M⟩
 | _=>False
def gp0(b:Bool)(d:Option Tmp)(st:St)(yes no:St→Prop)(t':Option Nat):Prop:=match t' with
 | some t'=>Gp b d st yes no t' (get st.fr t')
 | none=>False
@[simp] theorem WO{b:Bool}{t':Nat}:gp0 b d st yes no (some t')=Gp b d st yes no t' (get st.fr t'):=rfl
@[simp low] theorem Yd{b c:Bool}{t':Nat}:Gp b d st yes no t' (some (.val (.bool c)))=((c=b→yes ⟨st.n,(t',.val (.bool b))::st.fr,st.M⟩)∧(c=!b→no ⟨st.n,fc st.n d ((t',.val (.bool (!b)))::st.fr),st.M⟩)):=rfl
@[simp] theorem adi{t':Nat}:Gp true d st yes no t' (some (.val (.bool true)))=yes ⟨st.n,(t',.val (.bool true))::st.fr,st.M⟩:=by simp[Gp]
@[simp] theorem agB{t':Nat}:Gp false d st yes no t' (some (.val (.bool false)))=yes ⟨st.n,(t',.val (.bool false))::st.fr,st.M⟩:=by simp[Gp]
@[simp] theorem aeB{t':Nat}:Gp true d st yes no t' (some (.val (.bool false)))=no ⟨st.n,fc st.n d ((t',.val (.bool false))::st.fr),st.M⟩:=by simp[Gp]
@[simp] theorem afc{t':Nat}:Gp false d st yes no t' (some (.val (.bool true)))=no ⟨st.n,fc st.n d ((t',.val (.bool true))::st.fr),st.M⟩:=by simp[Gp]
@[simp ↓] theorem WC:gd l.toArray ⟨d,op,t,p,af,none⟩ st yes no=yes st:=rfl
@[simp ↓] theorem W0{b:Bool}:gd l.toArray ⟨d,op,t,p,af,some (j,b)⟩ st yes no=gp0 b d st yes no (l5 l j):=by
 simp only[gd,gp0];rw[←yr];cases m6 l.toArray j with
 | none=>rfl
 | some t' =>
  simp only[Gp];cases get st.fr t' with
  | none=>rfl
  | some v=>cases v with
   | val u=>cases u<;>rfl
   | bG l=>cases l<;>rfl
   | _=>rfl
def pQ(P:Program)(C:Ctx)(l:List Oper)(ks:List Nat)(o:Option Oper)(r:Pl)(st:St)(Q QJ:aV):Prop:=match o with
 | some o=>gd l.toArray o st (Pg P C l ks o r Q QJ) (KL P C l.toArray r Q QJ)
 | none=>False
def pL(P:Program)(C:Ctx)(l:List Oper)(ks:List Nat)(o:Option Oper)(r:Pl)(st:St)(Q QJ:aV):Prop:=match o with
 | some o=>gd l.toArray o st (Pe P C l ks o r Q QJ) (KL P C l.toArray r Q QJ)
 | none=>False
@[simp] theorem ZN:pQ P C l ks (some o) r st Q QJ=gd l.toArray o st (Pg P C l ks o r Q QJ) (KL P C l.toArray r Q QJ):=rfl
@[simp] theorem ZX:pL P C l ks (some o) r st Q QJ=gd l.toArray o st (Pe P C l ks o r Q QJ) (KL P C l.toArray r Q QJ):=rfl
@[simp] theorem afH:Pl.qs [] r=r:=rfl
@[simp] theorem abE{l:List Nat}:Pl.qs (i::l) r=.q i [] (Pl.qs l r):=rfl
@[simp ↓] theorem VV:eN P C l.toArray .nil st Q QJ=Q .normal st:=rfl
@[simp ↓] theorem agl:eN P C l.toArray (.q i ks r) st Q QJ=pQ P C l ks (jD l i) r st Q QJ:=by
 simp only[eN,gU];cases jD l i<;>rfl
@[simp ↓] theorem adz:eN P C l.toArray (.l i ks r) st Q QJ=pL P C l ks (jD l i) r st Q QJ:=by
 simp only[eN,gU];cases jD l i<;>rfl
@[simp ↓] theorem agU:eN P C l.toArray (.m i ks r j ks' r') st Q QJ=(pL P C l ks (jD l i) r st Q QJ∧pL P C l ks' (jD l j) r' st Q QJ):=by
 simp only[eN,gU];cases jD l i<;>cases jD l j<;>simp[pL]<;>rfl
@[simp ↓] theorem Ye{p:Pl}:eN P C l.toArray (.alt i ks r p) st Q QJ=(pL P C l ks (jD l i) r st Q QJ∧eN P C l.toArray p st Q QJ):=by
 simp only[eN,gU];cases jD l i<;>rfl
@[simp ↓] theorem RN:eN P C l.toArray .stop st Q QJ=True:=rfl
@[simp] theorem abx{k:IntKind}{n:Int}:Qg (some (.val (.int k n)))=True:=rfl
def oq(st:St)(o:Op):Prop:=match o with
 | .convert _ _ x=>Qg (ev st.fr x)
 | .call ⟨.builtin .len,args,_⟩=>JB (args.toList.map (ev st.fr))
 | _=>True
@[simp] theorem Tq{s d:TypeId}{x:Operand}:oq st (.convert s d x)=Qg (ev st.fr x):=rfl
@[simp] theorem Th{x:Operand}:oq st (.move x)=True:=rfl
@[simp] theorem N2{x:Operand}:oq st (.assign x)=True:=rfl
@[simp] theorem TX{x y z:Operand}:oq st (.pick x y z)=True:=rfl
@[simp] theorem ac8{op:BinOp}{t t':TypeId}{x y:Operand}:oq st (.binOp op t x y t')=True:=rfl
@[simp] theorem aeT{op:UnOp}{t:TypeId}{x:Operand}:oq st (.unOp op t x)=True:=rfl
@[simp] theorem TZ{x:Operand}:oq st (.nilCheck x)=True:=rfl
@[simp] theorem abJ{x:Operand}{i:Nat}:oq st (.extract x i)=True:=rfl
@[simp] theorem aez{t:TypeId}{x:Operand}{i:Nat}:oq st (.fieldAddr t x i)=True:=rfl
@[simp] theorem aeR{t:TypeId}{x y:Operand}:oq st (.indexAddr t x y)=True:=rfl
@[simp] theorem afb{t:TypeId}{x y:Operand}:oq st (.index t x y)=True:=rfl
@[simp] theorem afP{t:TypeId}{x:Operand}:oq st (.load t x)=True:=rfl
@[simp] theorem aeW{t:TypeId}{x:Operand}{a b c:Option Operand}:oq st (.slice t x a b c)=True:=rfl
@[simp] theorem agS{t:TypeId}{x:Operand}:oq st (.makeInterface t x)=True:=rfl
@[simp] theorem afB{t:TypeId}{ps:Array (Nat × Operand)}:oq st (.build t ps)=True:=rfl
@[simp] theorem Yv{x:Operand}{ts:Array TypeId}:oq st (.call ⟨.builtin .len,[x].toArray,ts⟩)=GD (ev st.fr x):=rfl
@[simp] theorem aba{es:List SV}:GD (some (.ro es))=True:=rfl
@[simp] theorem Qi{k i n:Nat}:GD (some (.view k i n))=True:=rfl
@[simp] theorem U5{q:ByteArray}:GD (some (.val (.string q)))=True:=rfl
@[simp] theorem acw{o:Op}:w8 [] st o=oq st o:=by
 unfold w8 oq;split<;>simp_all
def WA(ks:List Nat)(M:aJ)(x:Option SV):Prop:=ks=[]∨match x with
 | some (.ptr k _ _)=>k∉ks∧o8∉ks∧∀j∈ks,qc M j
 | some (.bU _ _)=>True
 | _=>False
@[simp] theorem abG{k:Nat}{M:aJ}{a i j:Nat}:WA (k::ks) M (some (.ptr a i j))=(a∉k::ks∧o8∉k::ks∧∀j∈k::ks,qc M j):=by simp[WA]
@[simp] theorem Ys{k:Nat}{M:aJ}{x:SV}{j:Nat}:WA (k::ks) M (some (.bU x j))=True:=by simp[WA]
@[simp] theorem afm{t:TypeId}{x:Operand}{k:Nat}:w8 (k::ks) st (.load t x)=WA (k::ks) st.M (ev st.fr x):=rfl
def HA(e:Option cx):Prop:=match e with
 | some e=>e.fz=false
 | none=>False
@[simp] theorem OM{s:Nat}{es:List SV}{f:Bool}:HA (some ⟨s,es,f⟩)=(f=false):=rfl
@[simp] theorem Xb{M:aJ}{k:Nat}:qc M k=HA (ao M k):=by
 unfold qc HA;split<;>simp_all
def stW(ks:List Nat)(x:Option SV):Prop:=match x with
 | some (.ptr k _ _)=>k∈ks
 | _=>True
@[simp] theorem Y2{a i j:Nat}:stW ks (some (.ptr a i j))=(a∈ks):=rfl
@[simp] theorem aeu{t:TypeId}{x y:Operand}:okW ks st (.store t x y)=stW ks (ev st.fr x):=by
 simp only[okW,zb];cases ev st.fr x with
 | none=>simp[stW]
 | some v=>cases v<;>simp[stW]
@[simp] theorem afp{t:TypeId}:okW ks st (.alloc t)=True:=rfl
@[simp] theorem af4{t:TypeId}{x:Operand}:okW ks st (.box t x)=True:=rfl
@[simp] theorem adT{t:TypeId}{n:Nat}{ps:Array (Nat × Operand)}:okW ks st (.buildSlice t n ps)=True:=rfl
@[simp] theorem aeV{t:TypeId}{x y:Operand}:okW ks st (.makeSlice t x y)=True:=rfl
@[simp] theorem aex{t:TypeId}{x y z:Operand}:okW ks st (.mapUpdate t x y z)=∀k∈DV (ev st.fr x),k∈ks:=rfl
@[simp] theorem agM{k:Nat}:DV (some (.mp k))=[k]:=rfl
@[simp] theorem aeG{t:TypeId}{x y:Operand}{ok:Bool}:okW ks st (.lookup t x y ok)=True:=rfl
@[simp] theorem Zo{os:Array Operand}{ts:Array TypeId}:okW ks st (.call ⟨.builtin .len,os,ts⟩)=True:=rfl
@[simp] theorem aee{t:TypeId}{x y z:Operand}{r:Pl}:z9 ks r (.mapUpdate t x y z)=True:=rfl
@[simp] theorem aeM{t:TypeId}{x y:Operand}{ok:Bool}{r:Pl}:z9 ks r (.lookup t x y ok)=True:=rfl
@[simp] theorem abL{os:Array Operand}{ts:Array TypeId}{r:Pl}:z9 ks r (.call ⟨.builtin .len,os,ts⟩)=True:=rfl
@[simp] theorem ZU{os:Array Operand}{ts:Array TypeId}:okW ks st (.call ⟨.builtin .append,os,ts⟩)=True:=rfl
@[simp] theorem aeC{t:TypeId}{x y:Operand}{r:Pl}:z9 ks r (.store t x y)=True:=rfl
@[simp] theorem agP{t:TypeId}{r:Pl}:z9 ks r (.alloc t)=True:=rfl
@[simp] theorem ad9{t:TypeId}{x:Operand}{r:Pl}:z9 ks r (.box t x)=True:=rfl
@[simp] theorem afv{t:TypeId}{n:Nat}{ps:Array (Nat × Operand)}{r:Pl}:z9 ks r (.buildSlice t n ps)=True:=rfl
@[simp] theorem adX{t:TypeId}{x y:Operand}{r:Pl}:z9 ks r (.makeSlice t x y)=True:=rfl
@[simp] theorem XT{f:FuncId}{os:Array Operand}{ts:Array TypeId}{r:Pl}:z9 ks r (.call ⟨.value (.func f),os,ts⟩)=True:=rfl
@[simp] theorem ab5{os:Array Operand}{ts:Array TypeId}{r:Pl}:z9 ks r (.call ⟨.builtin .append,os,ts⟩)=(FM os=true∨(o8∈ks∧r.j9=true)):=rfl
@[simp] theorem UJ{x:Nat}{l:List Operand}:FM ((Operand.tmp x::l).toArray)=false:=rfl
@[simp] theorem X5{l:List Operand}:FM ((Operand.const (.slice none 0 0)::l).toArray)=true:=rfl
@[simp] theorem Te:Pl.j9 .nil=true:=rfl
@[simp] theorem adj{r:Pl}:Pl.j9 (.q i ks r)=r.j9:=rfl
@[simp] theorem ae0{r:Pl}:Pl.j9 (.l i ks r)=((ks.isEmpty||ks.contains o8)&&r.j9):=rfl
@[simp] theorem Wf{r p:Pl}:Pl.j9 (.alt i ks r p)=((ks.isEmpty||ks.contains o8)&&(r.j9&&p.j9)):=rfl
@[simp] theorem R9:Pl.j9 .stop=true:=rfl
@[simp] theorem ady:nb []=[]:=rfl
@[simp] theorem acm(k:Nat)(ks:List Nat):nb (k::ks)=if k=o8 then nb ks else k::nb ks:=by
 simp only[nb,am4];split<;>split<;>simp_all
@[simp] theorem agN:o8=1000000:=rfl
@[simp] theorem Ro{x:Nat}{os:Array Operand}{ts:Array TypeId}{r:Pl}:z9 ks r (.call ⟨.value (.tmp x),os,ts⟩)=True:=rfl
@[simp] theorem Qo{x:Nat}{os:Array Operand}{ts:Array TypeId}:okW ks st (.call ⟨.value (.tmp x),os,ts⟩)=True:=rfl
@[simp] theorem Up{f:FuncId}{os:Array Operand}{ts:Array TypeId}:okW ks st (.call ⟨.value (.func f),os,ts⟩)=True:=rfl
@[simp] theorem Q0{M:aJ}:Pl.there M .nil=True:=rfl
@[simp] theorem aaM{M:aJ}:Pl.there M (.q i ks r)=r.there M:=rfl
def has(o:Option cx):Prop:=match o with
 | some _=>True
 | none=>False
@[simp] theorem WG{e:cx}:has (some e)=True:=rfl
theorem JF{o:Option cx}:(o≠none)=has o:=by cases o<;>simp[has]
@[simp] theorem aar{M:aJ}:Pl.there M (.l i ks r)=((o8∈ks∨∀k∈ks,has (ao M k))∧r.there M):=by simp only[Pl.there,JF]
@[simp] theorem NZ{M:aJ}:Pl.there M .stop=True:=rfl
@[simp] theorem RT{M:aJ}{p:Pl}:Pl.there M (.alt i ks r p)=((o8∈ks∨∀k∈ks,has (ao M k))∧r.there M∧p.there M):=by simp only[Pl.there,JF]
end
end Go.Sv


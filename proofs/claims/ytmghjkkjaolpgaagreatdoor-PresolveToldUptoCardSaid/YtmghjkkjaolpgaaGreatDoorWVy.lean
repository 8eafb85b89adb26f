/- A text of the prover's own. -/
import Derived.Test.YtmghjkkjaolpgaaGreatDoorWVd
open List renaming getElem?_toArray→alW,replicate→akQ,filter_cons→alX
namespace Go.Sv
open Go Go.RowKit
/-! what is to come, as data -/
def K(d:Option Tmp)(st:St)(next:St→Prop)(z:SV):Prop:=rS d st.n∧next ⟨st.n,cX d (some z) st.fr,st.M⟩
def KM(d:Option Tmp)(st:St)(next:St→Prop)(M':aJ)(pk:List Nat)(x:Option SV):Prop:=rS d st.n∧next ⟨st.n,cX d x (forget pk st.fr),M'⟩
def KJ(d:Option Tmp)(st:St)(nextJ:St→Prop)(M':aJ)(pk:List Nat)(x:SV):Prop:=nextJ ⟨st.n,cX d (some x) (forget pk st.fr),M'⟩
def nx(P:Program)(C:Ctx)(all:Array Oper)(rest:List Oper)(Q QJ:aX)(st:St):Prop:=fu P C all rest st Q QJ
def nj(P:Program)(C:Ctx)(all:Array Oper)(rest:List Oper)(QJ:aX)(st:St):Prop:=fu P C all rest st QJ QJ
def JE(P:Program)(C:Ctx)(ops:Array Oper)(r:Pl)(Q QJ:aX)(st:St):Prop:=dW P C ops r st Q QJ
def njP(P:Program)(C:Ctx)(ops:Array Oper)(r:Pl)(QJ:aX)(st:St):Prop:=dW P C ops r st QJ QJ
def OU(_:St):Prop:=False
def thS(P:Program)(C:Ctx)(y:Code)(Q QJ:aX):aX:=rk (fun st'=>vc P C y st' Q QJ) Q
def WE(P:Program)(C:Ctx)(y:Code)(QJ:aX):aX:=rk (fun st'=>vc P C y st' QJ QJ) QJ
def fN(r:dF)(k:SV→Prop):Prop:=match r with
 | .q c x=>c∧k x
 | _=>False
def wZ(r:cu)(k:aJ→List Nat→Option SV→Prop):Prop:=match r with
 | .m c M pk x=>c∧k M pk x
 | .stuck=>False
def onO{α:Type}(o:Option α)(k:α→Prop):Prop:=match o with
 | some x=>k x
 | none=>False
@[simp] theorem RU{α:Type}(x:α)(k:α→Prop):onO (some x) k=k x:=rfl
section
variable {P:Program} {C:Ctx} {st:St} {Q QJ:aX} {next nextJ:St→Prop} {all:Array Oper} {rest:List Oper} {d:Option Tmp} {op:Op} {t:TypeId} {p:String} {af:Array Edge} {g:Option (Nat × Bool)} {W:Option (List Nat)}
@[simp] theorem ZQ{c:Prop}{x:SV}{k:SV→Prop}:fN (.q c x) k=(c∧k x):=rfl
@[simp] theorem ag1{c:Prop}{M:aJ}{pk:List Nat}{x:Option SV}{k:aJ→List Nat→Option SV→Prop}:wZ (.m c M pk x) k=(c∧k M pk x):=rfl
@[simp] theorem aha{z:SV}:K d st next z=(rS d st.n∧next ⟨st.n,cX d (some z) st.fr,st.M⟩):=rfl
@[simp] theorem adW{M':aJ}{x:Option SV}:KM d st next M' [] x=(rS d st.n∧next ⟨st.n,cX d x st.fr,M'⟩):=by simp[KM,dp]
@[simp] theorem ace{M':aJ}{a:Nat}{x:Option SV}:KM d st next M' [a] x=(rS d st.n∧next ⟨st.n,cX d x (forget [a] st.fr),M'⟩):=rfl
@[simp] theorem ad1{M':aJ}{z:SV}:KJ d st nextJ M' [] z=nextJ ⟨st.n,cX d (some z) st.fr,M'⟩:=by simp[KJ,dp]
@[simp] theorem afk{M':aJ}{a:Nat}{z:SV}:KJ d st nextJ M' [a] z=nextJ ⟨st.n,cX d (some z) (forget [a] st.fr),M'⟩:=rfl
@[simp] theorem acH:nx P C all rest Q QJ st=fu P C all rest st Q QJ:=rfl
@[simp] theorem ac7:nj P C all rest QJ st=fu P C all rest st QJ QJ:=rfl
@[simp] theorem Zm{r:Pl}:JE P C all r Q QJ st=dW P C all r st Q QJ:=rfl
@[simp] theorem aao{r:Pl}:njP P C all r QJ st=dW P C all r st QJ QJ:=rfl
@[simp] theorem N8{y:Code}:thS P C y Q QJ .normal st=vc P C y st Q QJ:=rfl
@[simp] theorem aaG{y:Code}:thS P C y Q QJ .ret st=Q .ret st:=rfl
@[simp] theorem VE{y:Code}{id:Nat}:thS P C y Q QJ (.exit id) st=Q (.exit id) st:=rfl
@[simp] theorem Oi{y:Code}:WE P C y QJ .normal st=vc P C y st QJ QJ:=rfl
@[simp] theorem aaP{y:Code}:WE P C y QJ .ret st=QJ .ret st:=rfl
@[simp] theorem UE{y:Code}{id:Nat}:WE P C y QJ (.exit id) st=QJ (.exit id) st:=rfl
@[simp] theorem Qy{y:Code}{c:List PanicEntry}:WE P C y QJ (.panic c) st=QJ (.panic c) st:=rfl
@[simp] theorem Nj{Q1:St→Prop}:rk Q1 Q .normal st=Q1 st:=rfl
@[simp] theorem Zg{Q1:St→Prop}:rk Q1 Q .ret st=Q .ret st:=rfl
@[simp] theorem RY{Q1:St→Prop}{id:Nat}:rk Q1 Q (.exit id) st=Q (.exit id) st:=rfl
@[simp] theorem O4{Q1:St→Prop}{c:List PanicEntry}:rk Q1 Q (.panic c) st=Q (.panic c) st:=rfl
@[simp] theorem MX{id:Nat}:CG id Q .normal st=Q .normal st:=rfl
@[simp] theorem abP{id:Nat}:CG id Q .ret st=Q .ret st:=rfl
@[simp] theorem Sr{id id':Nat}:CG id Q (.exit id') st=if id'=id then Q .normal st else Q (.exit id') st:=rfl
@[simp] theorem Oo{id:Nat}{c:List PanicEntry}:CG id Q (.panic c) st=Q (.panic c) st:=rfl
/-! code -/
@[simp ↓] theorem aa5:vc P C .skip st Q QJ=Q .normal st:=rfl
@[simp ↓] theorem acr{x y:Code}:vc P C (.seq x y) st Q QJ=vc P C x st (thS P C y Q QJ) (WE P C y QJ):=rfl
@[simp ↓] theorem SG{id:Nat}{c:Code}:vc P C (.block id c) st Q QJ=vc P C c st (CG id Q) (CG id QJ):=rfl
@[simp ↓] theorem Yt{id:Nat}:vc P C (.exit id) st Q QJ=Q (.exit id) st:=rfl
@[simp ↓] theorem acg:vc P C .ret st Q QJ=Q .ret st:=rfl
@[simp ↓] theorem Pg{id:Nat}{l:List Oper}:vc P C (.region id l.toArray false) st Q QJ=fu P C l.toArray l st Q QJ:=rfl
@[simp ↓] theorem XY{id:Nat}{l:Array Oper}:vc P C (.region id l true) st Q QJ=aa P C (.region id l true) st QJ:=rfl
@[simp ↓] theorem abd{c:Code}:vc P C (.loop c) st Q QJ=aa P C (.loop c) st QJ:=rfl
def MO(P:Program)(C:Ctx)(v:Option SV)(x y:Code)(st:St)(Q QJ:aX):Prop:=match v with
 | some (.val (.bool b))=>(b=true→vc P C x st Q QJ)∧(b=false→vc P C y st Q QJ)
 | _=>False
@[simp ↓] theorem aaC{c:Operand}{x y:Code}:vc P C (.cond c x y) st Q QJ=MO P C (ev st.fr c) x y st Q QJ:=by
 simp only[vc,MO];cases ev st.fr c with
 | none=>rfl
 | some v=>cases v with
  | val u=>cases u<;>rfl
  | _=>rfl
@[simp] theorem Wt{x y:Code}:MO P C (some (.val (.bool true))) x y st Q QJ=vc P C x st Q QJ:=by simp[MO]
@[simp] theorem QA{x y:Code}:MO P C (some (.val (.bool false))) x y st Q QJ=vc P C y st Q QJ:=by simp[MO]
@[simp low] theorem Ul{x y:Code}{b:Bool}:MO P C (some (.val (.bool b))) x y st Q QJ=((b=true→vc P C x st Q QJ)∧(b=false→vc P C y st Q QJ)):=rfl
/-! operations -/
def EJ(P:Program)(C:Ctx)(all:Array Oper)(o:Oper)(rest:List Oper)(b:Bool)(t':Nat)(v:Option SV)(st:St)(Q QJ:aX):Prop:=match v with
 | some (.val (.bool c))=>(c=b→cf P C none o ⟨st.n,(t',.val (.bool b))::st.fr,st.M⟩ (nx P C all rest Q QJ) (nj P C all rest QJ)) ∧
   (c=!b→fu P C all rest ⟨st.n,eO st.n o.dst ((t',.val (.bool (!b)))::st.fr),st.M⟩ Q QJ)
 | some (.bO [])=>fu P C all rest ⟨st.n,eO st.n o.dst st.fr,st.M⟩ Q QJ
 | _=>False
def gdO(P:Program)(C:Ctx)(all:Array Oper)(o:Oper)(rest:List Oper)(b:Bool)(t':Option Nat)(st:St)(Q QJ:aX):Prop:=match t' with
 | some t'=>EJ P C all o rest b t' (get st.fr t') st Q QJ
 | none=>False
def mF:List Oper→Nat→Option Nat
 | [],_=>none
 | ⟨d,_,_,_,_,_⟩::_,0=>d
 | _::l,n+1=>mF l n
theorem xU{l:List Oper}{j:Nat}:nS l.toArray j=mF l j:=by
 simp only[nS,alW]
 induction l generalizing j with
 | nil=>rfl
 | cons x l ih=>cases j with
  | zero=>rfl
  | succ j=>simpa[mF]using ih
@[simp ↓] theorem P4:fu P C all [] st Q QJ=Q .normal st:=rfl
@[simp ↓] theorem K0:fu P C all (⟨d,op,t,p,af,none⟩::rest) st Q QJ=cf P C none ⟨d,op,t,p,af,none⟩ st (nx P C all rest Q QJ) (nj P C all rest QJ):=rfl
@[simp ↓] theorem LB{l:List Oper}{j:Nat}{b:Bool}:fu P C l.toArray (⟨d,op,t,p,af,some (j,b)⟩::rest) st Q QJ=gdO P C l.toArray ⟨d,op,t,p,af,some (j,b)⟩ rest b (mF l j) st Q QJ:=by
 simp only[fu,gdO];rw[xU];cases mF l j with
 | none=>rfl
 | some t' =>
  simp only[EJ];cases get st.fr t' with
  | none=>rfl
  | some v=>cases v with
   | val u=>cases u<;>rfl
   | bO l=>cases l<;>rfl
   | _=>rfl
@[simp] theorem SJ{o:Oper}{b:Bool}{t':Nat}:gdO P C all o rest b (some t') st Q QJ=EJ P C all o rest b t' (get st.fr t') st Q QJ:=rfl
@[simp low] theorem Sq{o:Oper}{b c:Bool}{t':Nat}:EJ P C all o rest b t' (some (.val (.bool c))) st Q QJ =
  ((c=b→cf P C none o ⟨st.n,(t',.val (.bool b))::st.fr,st.M⟩ (nx P C all rest Q QJ) (nj P C all rest QJ))∧(c=!b→fu P C all rest ⟨st.n,eO st.n o.dst ((t',.val (.bool (!b)))::st.fr),st.M⟩ Q QJ)):=rfl
@[simp] theorem ado{o:Oper}{t':Nat}:EJ P C all o rest true t' (some (.val (.bool true))) st Q QJ=cf P C none o ⟨st.n,(t',.val (.bool true))::st.fr,st.M⟩ (nx P C all rest Q QJ) (nj P C all rest QJ):=by simp[EJ]
@[simp] theorem adO{o:Oper}{t':Nat}:EJ P C all o rest false t' (some (.val (.bool false))) st Q QJ=cf P C none o ⟨st.n,(t',.val (.bool false))::st.fr,st.M⟩ (nx P C all rest Q QJ) (nj P C all rest QJ):=by simp[EJ]
@[simp] theorem abZ{t':Nat}:EJ P C all ⟨d,op,t,p,af,g⟩ rest true t' (some (.val (.bool false))) st Q QJ=fu P C all rest ⟨st.n,eO st.n d ((t',.val (.bool false))::st.fr),st.M⟩ Q QJ:=by simp[EJ]
@[simp] theorem aee{t':Nat}:EJ P C all ⟨d,op,t,p,af,g⟩ rest false t' (some (.val (.bool true))) st Q QJ=fu P C all rest ⟨st.n,eO st.n d ((t',.val (.bool true))::st.fr),st.M⟩ Q QJ:=by simp[EJ]
@[simp] theorem Uk{b:Bool}{t':Nat}:EJ P C all ⟨d,op,t,p,af,g⟩ rest b t' (some (.bO [])) st Q QJ=fu P C all rest ⟨st.n,eO st.n d st.fr,st.M⟩ Q QJ:=rfl
theorem gf(hm:∀fx M fr,CB P fx M fr op=.stuck)(hc:∀f args ts,op≠.call ⟨.value f,args,ts⟩):cf P C W ⟨d,op,t,p,af,g⟩ st next nextJ=fN (xY P st.M st.fr op) (K d st next):=by
 unfold cf fN;cases h:xY P st.M st.fr op with
 | q c x=>rfl
 | stuck =>
  simp only[hm];all_goals first
   | rfl
   | ((try dsimp only);split<;>first | rfl | exact absurd rfl (hc _ _ _))
 | m a b c =>
  simp only[hm];all_goals first
   | rfl
   | ((try dsimp only);split<;>first | rfl | exact absurd rfl (hc _ _ _))
theorem mT(hq:∀M fr,xY P M fr op=.stuck)(hc:∀f args ts,op≠.call ⟨.value f,args,ts⟩):cf P C W ⟨d,op,t,p,af,g⟩ st next nextJ=wZ (CB P C.fx st.M st.fr op) (KM d st next):=by
 unfold cf wZ;simp only[hq];cases h:CB P C.fx st.M st.fr op with
 | m c M' pk x=>rfl
 | stuck =>
  all_goals first
   | rfl
   | ((try dsimp only);split<;>first | rfl | exact absurd rfl (hc _ _ _))
def ND(x:Option SV):dF:=match x with
 | some x=>.q True x
 | none=>.stuck
@[simp] theorem TZ{x:SV}:ND (some x)=.q True x:=rfl
def S3(fr:List (Nat × SV))(l:List (Nat × Operand)):List (Nat × Option SV):=l.map fun q=>(q.1,ev fr q.2)
@[simp] theorem WZ{fr:List (Nat × SV)}:S3 fr []=[]:=rfl
@[simp] theorem Ur{fr:List (Nat × SV)}{i:Nat}{o:Operand}{r:List (Nat × Operand)}:S3 fr ((i,o)::r)=(i,ev fr o)::S3 fr r:=rfl
@[simp ↓] theorem Rq{x:Operand}:cf P C W ⟨d,.move x,t,p,af,g⟩ st next nextJ=fN (ND (ev st.fr x)) (K d st next):=by
 rw[gf (fun _ _ _=>rfl) (fun _ _ _=>by simp)];simp only[xY];cases ev st.fr x<;>rfl
@[simp ↓] theorem Lt{x:Operand}:cf P C W ⟨d,.assign x,t,p,af,g⟩ st next nextJ=fN (ND (ev st.fr x)) (K d st next):=by
 rw[gf (fun _ _ _=>rfl) (fun _ _ _=>by simp)];simp only[xY];cases ev st.fr x<;>rfl
@[simp ↓] theorem Rc{c x y:Operand}:cf P C W ⟨d,.pick c x y,t,p,af,g⟩ st next nextJ=fN (uP (ev st.fr c) (ev st.fr x) (ev st.fr y)) (K d st next):=by
 rw[gf (fun _ _ _=>rfl) (fun _ _ _=>by simp)];rfl
@[simp ↓] theorem Vs{op:BinOp}{t1 t2:TypeId}{x y:Operand}:cf P C W ⟨d,.binOp op t1 x y t2,t,p,af,g⟩ st next nextJ=fN (sf P op t1 (ev st.fr x) y (ev st.fr y)) (K d st next):=by
 rw[gf (fun _ _ _=>rfl) (fun _ _ _=>by simp)];rfl
@[simp ↓] theorem YM{op:UnOp}{t1:TypeId}{x:Operand}:cf P C W ⟨d,.unOp op t1 x,t,p,af,g⟩ st next nextJ=fN (Hn op (ev st.fr x)) (K d st next):=by
 rw[gf (fun _ _ _=>rfl) (fun _ _ _=>by simp)];rfl
@[simp ↓] theorem QV{t1 t2:TypeId}{x:Operand}:cf P C W ⟨d,.convert t1 t2 x,t,p,af,g⟩ st next nextJ=fN (pU P st.M (aA P t1) (aA P t2) (ev st.fr x)) (K d st next):=by
 rw[gf (fun _ _ _=>rfl) (fun _ _ _=>by simp)];rfl
@[simp ↓] theorem Ty{x:Operand}:cf P C W ⟨d,.nilCheck x,t,p,af,g⟩ st next nextJ=fN (A3 (ev st.fr x)) (K d st next):=by
 rw[gf (fun _ _ _=>rfl) (fun _ _ _=>by simp)];rfl
@[simp ↓] theorem We{x:Operand}{i:Nat}:cf P C W ⟨d,.extract x i,t,p,af,g⟩ st next nextJ=fN (oW (ev st.fr x) i) (K d st next):=by
 rw[gf (fun _ _ _=>rfl) (fun _ _ _=>by simp)];rfl
@[simp ↓] theorem Y9{t1:TypeId}{x:Operand}{f:Nat}:cf P C W ⟨d,.fieldAddr t1 x f,t,p,af,g⟩ st next nextJ=fN (fj (aA P t1) (ev st.fr x) f) (K d st next):=by
 rw[gf (fun _ _ _=>rfl) (fun _ _ _=>by simp)];rfl
@[simp ↓] theorem aba{t1:TypeId}{x i:Operand}:cf P C W ⟨d,.indexAddr t1 x i,t,p,af,g⟩ st next nextJ=fN (ff P st.M (aA P t1) (ev st.fr x) (ev st.fr i)) (K d st next):=by
 rw[gf (fun _ _ _=>rfl) (fun _ _ _=>by simp)];rfl
@[simp ↓] theorem Xm{t1:TypeId}{x i:Operand}:cf P C W ⟨d,.index t1 x i,t,p,af,g⟩ st next nextJ=fN (qN (aA P t1) (ev st.fr x) (ev st.fr i)) (K d st next):=by
 rw[gf (fun _ _ _=>rfl) (fun _ _ _=>by simp)];rfl
@[simp ↓] theorem ZO{t1:TypeId}{x:Operand}:cf P C W ⟨d,.load t1 x,t,p,af,g⟩ st next nextJ=fN (iq st.M (aA P t1) (ev st.fr x)) (K d st next):=by
 rw[gf (fun _ _ _=>rfl) (fun _ _ _=>by simp)];rfl
@[simp ↓] theorem ZF{t1:TypeId}{x:Operand}:cf P C W ⟨d,.makeInterface t1 x,t,p,af,g⟩ st next nextJ=fN (tU (aA P t1) t1 (ev st.fr x)) (K d st next):=by
 rw[gf (fun _ _ _=>rfl) (fun _ _ _=>by simp)];rfl
@[simp ↓] theorem Y0{t1:TypeId}{l:List (Nat × Operand)}:cf P C W ⟨d,.build t1 l.toArray,t,p,af,g⟩ st next nextJ=fN (oE (aA P t1) (S3 st.fr l)) (K d st next):=by
 rw[gf (fun _ _ _=>rfl) (fun _ _ _=>by simp)];rfl
def sQ(M:aJ)(d:Option Tmp)(st:St)(next:St→Prop)(ti:Option TI)(x:Option SV):Prop:=match nQ ti x with
 | .q c x=>c∧K d st next x
 | _=>wZ (fy M ti x) (KM d st next)
@[simp ↓] theorem TB{o:Operand}{t1:TypeId}:cf P C W ⟨d,.call ⟨.builtin .len,[o].toArray,[t1].toArray⟩,t,p,af,g⟩ st next nextJ=sQ st.M d st next (aA P t1) (ev st.fr o):=by
 unfold cf sQ wZ;simp only[xY,CB,oG,List.map_cons,List.map_nil,alW,List.getElem?_cons_zero,Option.bind_some];cases nQ (aA P t1) (ev st.fr o)with
 | q c x=>rfl
 | stuck=>simp only;cases fy st.M (aA P t1) (ev st.fr o)<;>rfl
 | m a b c=>simp only;cases fy st.M (aA P t1) (ev st.fr o)<;>rfl
@[simp] theorem S7{M:aJ}{e s b:Nat}{z:List SV}{x:Option SV}:sQ M d st next (some ⟨.sl e,s,b,z⟩) x=fN (nQ (some ⟨.sl e,s,b,z⟩) x) (K d st next):=by
 unfold sQ fN;cases nQ (some ⟨.sl e,s,b,z⟩) x<;>rfl
@[simp] theorem P5{M:aJ}{s b:Nat}{z:List SV}{x:Option SV}:sQ M d st next (some ⟨.str,s,b,z⟩) x=fN (nQ (some ⟨.str,s,b,z⟩) x) (K d st next):=by
 unfold sQ fN;cases nQ (some ⟨.str,s,b,z⟩) x<;>rfl
@[simp] theorem Sx{M:aJ}{k e s b:Nat}{z:List SV}{x:Option SV}:sQ M d st next (some ⟨.mp k e,s,b,z⟩) x=wZ (fy M (some ⟨.mp k e,s,b,z⟩) x) (KM d st next):=by
 unfold sQ;rfl
@[simp ↓] theorem U8{a b:Operand}{ts:Array TypeId}:cf P C W ⟨d,.call ⟨.builtin .min,[a,b].toArray,ts⟩,t,p,af,g⟩ st next nextJ=fN (lR false (ev st.fr a) (ev st.fr b)) (K d st next):=by
 rw[gf (fun _ _ _=>rfl) (fun _ _ _=>by simp)];rfl
def F0(fr:List (Nat × SV))(o:Option Operand):Option (Option SV):=o.map (ev fr)
@[simp] theorem P6{fr:List (Nat × SV)}:F0 fr none=none:=rfl
@[simp] theorem Pq{fr:List (Nat × SV)}{o:Operand}:F0 fr (some o)=some (ev fr o):=rfl
@[simp ↓] theorem aaz{t1:TypeId}{x:Operand}{lo hi:Option Operand}:cf P C W ⟨d,.slice t1 x lo hi none,t,p,af,g⟩ st next nextJ=fN (jF P st.M (aA P t1) (ev st.fr x) (F0 st.fr lo) (F0 st.fr hi) none) (K d st next):=by
 rw[gf (fun _ _ _=>rfl) (fun _ _ _=>by simp)];rfl
@[simp ↓] theorem Xt{t1:TypeId}{x y:Operand}:cf P C W ⟨d,.store t1 x y,t,p,af,g⟩ st next nextJ=wZ (mY st.M (aA P t1) (ev st.fr x) (ev st.fr y)) (KM d st next):=by
 rw[mT (fun _ _=>rfl) (fun _ _ _=>by simp)];rfl
@[simp ↓] theorem aaO{t1:TypeId}:cf P C W ⟨d,.alloc t1,t,p,af,g⟩ st next nextJ=wZ (o0 st.M (aA P t1)) (KM d st next):=by
 rw[mT (fun _ _=>rfl) (fun _ _ _=>by simp)];rfl
@[simp ↓] theorem abr{t1:TypeId}{x:Operand}:cf P C W ⟨d,.box t1 x,t,p,af,g⟩ st next nextJ=wZ (xb st.M (aA P t1) (ev st.fr x)) (KM d st next):=by
 rw[mT (fun _ _=>rfl) (fun _ _ _=>by simp)];rfl
@[simp ↓] theorem Ys{t1:TypeId}{len:Nat}{l:List (Nat × Operand)}:cf P C W ⟨d,.buildSlice t1 len l.toArray,t,p,af,g⟩ st next nextJ=wZ (fm P st.M (aA P t1) len (S3 st.fr l)) (KM d st next):=by
 rw[mT (fun _ _=>rfl) (fun _ _ _=>by simp)];rfl
@[simp ↓] theorem aaD{t1:TypeId}{l c:Operand}:cf P C W ⟨d,.makeSlice t1 l c,t,p,af,g⟩ st next nextJ=wZ (fX P st.M (aA P t1) (ev st.fr l) (ev st.fr c)) (KM d st next):=by
 rw[mT (fun _ _=>rfl) (fun _ _ _=>by simp)];rfl
@[simp ↓] theorem YZ{b x:Operand}{t1 t2:TypeId}:cf P C W ⟨d,.call ⟨.builtin .append,[b,x].toArray,[t1,t2].toArray⟩,t,p,af,g⟩ st next nextJ=wZ (gZ P C.fx st.M (aA P t1) (aA P t2) (ev st.fr b) (ev st.fr x)) (KM d st next):=by
 rw[mT (fun _ _=>rfl) (fun _ _ _=>by simp)];rfl
@[simp ↓] theorem XT{t1:TypeId}{x i:Operand}{ok:Bool}:cf P C W ⟨d,.lookup t1 x i ok,t,p,af,g⟩ st next nextJ=wZ (kP P st.M (aA P t1) (ev st.fr x) (ev st.fr i) ok) (KM d st next):=by
 rw[mT (fun _ _=>rfl) (fun _ _ _=>by simp)];rfl
@[simp ↓] theorem ZT{t1:TypeId}{m i x:Operand}:cf P C W ⟨d,.mapUpdate t1 m i x,t,p,af,g⟩ st next nextJ=wZ (jL P st.M (aA P t1) (ev st.fr m) (ev st.fr i) (ev st.fr x)) (KM d st next):=by
 rw[mT (fun _ _=>rfl) (fun _ _ _=>by simp)];rfl
@[simp ↓] theorem YS{t1:TypeId}{n:Option Operand}:cf P C W ⟨d,.makeMap t1 n,t,p,af,g⟩ st next nextJ=wZ (jB st.M (aA P t1) (F0 st.fr n)) (KM d st next):=by
 rw[mT (fun _ _=>rfl) (fun _ _ _=>by simp)];rfl
def Hw(P:Program)(C:Ctx)(f:FuncId)(W:Option (List Nat))(xs:Option (List SV))(d:Option Tmp)(st:St)(nextJ:St→Prop):Prop:=match xs with
 | some xs=>ak P f∧rS d st.n∧cU P C f xs st.M W (KJ d st nextJ)
 | none=>False
@[simp] theorem K7{f:FuncId}{xs:List SV}:Hw P C f W (some xs) d st nextJ=(ak P f∧rS d st.n∧cU P C f xs st.M W (KJ d st nextJ)):=rfl
@[simp ↓] theorem Pa{f:FuncId}{l:List Operand}{ts:Array TypeId}:cf P C W ⟨d,.call ⟨.value (.func f),l.toArray,ts⟩,t,p,af,g⟩ st next nextJ=Hw P C f W (qc st.fr l) d st nextJ:=by
 unfold cf;simp only[xY,CB];cases qc st.fr l<;>rfl
def M3(P:Program)(C:Ctx)(W:Option (List Nat))(x:Option SV)(xs:Option (List SV))(d:Option Tmp)(st:St)(nextJ:St→Prop):Prop:=match x,xs with
 | some (.gG f l r),some xs=>ak P f∧rS d st.n∧cU P C f (l++xs++r) st.M W (KJ d st nextJ)
 | _,_=>False
@[simp] theorem OD{f:FuncId}{l r xs:List SV}:M3 P C W (some (.gG f l r)) (some xs) d st nextJ=(ak P f∧rS d st.n∧cU P C f (l++xs++r) st.M W (KJ d st nextJ)):=rfl
@[simp ↓] theorem Mq{x:Nat}{l:List Operand}{ts:Array TypeId}:cf P C W ⟨d,.call ⟨.value (.tmp x),l.toArray,ts⟩,t,p,af,g⟩ st next nextJ=M3 P C W (get st.fr x) (qc st.fr l) d st nextJ:=by
 unfold cf M3;simp only[xY,CB];cases get st.fr x with
 | none=>rfl
 | some v=>cases v<;>cases qc st.fr l<;>rfl
@[simp ↓] theorem abp{f:FuncId}{l r:List Operand}:cf P C W ⟨d,.makeFunc (.func f) l.toArray r.toArray,t,p,af,g⟩ st next nextJ=fN (KF f (qc st.fr l) (qc st.fr r)) (K d st next):=by
 rw[gf (fun _ _ _=>rfl) (fun _ _ _=>by simp)];rfl
@[simp] theorem Oq{f:FuncId}{l r:List SV}:KF f (some l) (some r)=.q True (.gG f l r):=rfl
end
/-! what the quiet operations make -/
section
variable (P:Program) (M:aJ) (ti ti':TI) (κ κ':IntKind) (m n:Int) (a b i j s f:Nat) (x y:SV) (z es l:List SV) (el:TypeId) (fs:List (Nat × Nat × TypeId)) (u v:Option SV)
@[simp] theorem LR:uP (some (.val (.bool true))) u v=ND u:=by cases u<;>rfl
@[simp] theorem KB:uP (some (.val (.bool false))) u v=ND v:=by cases v<;>rfl
@[simp] theorem aaA(ti:Option TI):ck .add ti (some (.val (.int κ m))) (some (.val (.int κ n)))=.q (True) (.val (.int κ (κ.wrap (m+n)))):=by simp[ck,pt,gK]
@[simp] theorem Zp(ti:Option TI):ck .sub ti (some (.val (.int κ m))) (some (.val (.int κ n)))=.q (True) (.val (.int κ (κ.wrap (m - n)))):=by simp[ck,pt,gK]
@[simp] theorem abb(ti:Option TI):ck .mul ti (some (.val (.int κ m))) (some (.val (.int κ n)))=.q (True) (.val (.int κ (κ.wrap (m*n)))):=by simp[ck,pt,gK]
@[simp] theorem Z6(ti:Option TI):ck .quo ti (some (.val (.int κ m))) (some (.val (.int κ n)))=.q (n≠0) (.val (.int κ (κ.wrap (m.tdiv n)))):=by simp[ck,pt,gK]
@[simp] theorem abw(ti:Option TI):ck .rem ti (some (.val (.int κ m))) (some (.val (.int κ n)))=.q (n≠0) (.val (.int κ (m.tmod n))):=by simp[ck,pt,gK]
def sm(op:BinOp)(κ:IntKind)(m n:Int):Int:=match op with
 | .and=>κ.wrap (BitVec.ofInt κ.bits m &&& BitVec.ofInt κ.bits n).toNat
 | .or=>κ.wrap (BitVec.ofInt κ.bits m ||| BitVec.ofInt κ.bits n).toNat
 | _=>κ.wrap (BitVec.ofInt κ.bits m ^^^ BitVec.ofInt κ.bits n).toNat
@[simp] theorem abN(ti:Option TI):ck .and ti (some (.val (.int κ m))) (some (.val (.int κ n)))=.q (True) (.val (.int κ (sm .and κ m n))):=by simp[ck,pt,gK,sm]
@[simp] theorem adi(ti:Option TI):ck .or ti (some (.val (.int κ m))) (some (.val (.int κ n)))=.q (True) (.val (.int κ (sm .or κ m n))):=by simp[ck,pt,gK,sm]
@[simp] theorem Y5(ti:Option TI):ck .eql ti (some (.val (.int κ m))) (some (.val (.int κ n)))=.q (True) (.val (.bool (decide (m=n)))):=by simp[ck,pt,gK]
@[simp] theorem Xj(ti:Option TI):ck .neq ti (some (.val (.int κ m))) (some (.val (.int κ n)))=.q (True) (.val (.bool (decide (m≠n)))):=by simp[ck,pt,gK]
@[simp] theorem YR(ti:Option TI):ck .lss ti (some (.val (.int κ m))) (some (.val (.int κ n)))=.q (True) (.val (.bool (decide (m<n)))):=by simp[ck,pt,gK]
@[simp] theorem ZW(ti:Option TI):ck .leq ti (some (.val (.int κ m))) (some (.val (.int κ n)))=.q (True) (.val (.bool (decide (m≤n)))):=by simp[ck,pt,gK]
@[simp] theorem aab(ti:Option TI):ck .gtr ti (some (.val (.int κ m))) (some (.val (.int κ n)))=.q (True) (.val (.bool (decide (n<m)))):=by simp[ck,pt,gK]
@[simp] theorem XR(ti:Option TI):ck .geq ti (some (.val (.int κ m))) (some (.val (.int κ n)))=.q (True) (.val (.bool (decide (n≤m)))):=by simp[ck,pt,gK]
@[simp] theorem aaF(ti:Option TI):ck .shl ti (some (.val (.int κ m))) (some (.val (.int κ' n)))=.q (0≤n) (.val (.int κ (κ.wrap (m*2^(min n.toNat κ.bits))))):=by simp[ck,pt,Ai]
@[simp] theorem YX(ti:Option TI):ck .shr ti (some (.val (.int κ m))) (some (.val (.int κ' n)))=.q (0≤n) (.val (.int κ (m / (2^(min n.toNat κ.bits))))):=by
 have:m.fdiv (2^(min n.toNat κ.bits))=m / (2^(min n.toNat κ.bits)):=Int.fdiv_eq_ediv_of_nonneg _ (Int.le_of_lt (Int.pow_pos (by omega)));simp[ck,pt,Ai,this]
@[simp] theorem Sg(x y:Bool):ck .eql (some ⟨.bool,s,b,z⟩) (some (.val (.bool x))) (some (.val (.bool y)))=.q True (.val (.bool (x==y))):=by simp[ck]
@[simp] theorem Tr(x y:Bool):ck .neq (some ⟨.bool,s,b,z⟩) (some (.val (.bool x))) (some (.val (.bool y)))=.q True (.val (.bool (!(x==y)))):=by simp[ck]
@[simp] theorem WS(ti:Option TI)(x y:ByteArray):ck .add ti (some (.val (.string x))) (some (.val (.string y)))=.q (x.size+y.size≤9223372036854775807) (.val (.string (x++y))):=by simp[ck,r7]
@[simp] theorem VG(ti:Option TI)(x y:ByteArray):ck .eql ti (some (.val (.string x))) (some (.val (.string y)))=.q True (.val (.bool (decide (x=y)))):=by simp[ck,r7]
@[simp] theorem Sn(ti:Option TI)(x y:ByteArray):ck .neq ti (some (.val (.string x))) (some (.val (.string y)))=.q True (.val (.bool (decide (x≠y)))):=by simp[ck,r7]
def IB(x:SV):Prop:=x.isAgg=false
@[simp] theorem PL(x:SV):IB x=(x.isAgg=false):=propext Iff.rfl
@[simp] theorem UH{op:BinOp}{t:TypeId}{x:SV}{oy:Operand}{y:Option SV}(h:IB x):sf P op t (some x) oy y=mj op (aA P t) (some x) oy y:=by
 cases x<;>first | rfl | exact Bool.noConfusion h
@[simp] theorem VL{op:BinOp}{t:TypeId}{v:Value}{oy:Operand}{y:Option SV}:sf P op t (some (.val v)) oy y=mj op (aA P t) (some (.val v)) oy y:=rfl
@[simp] theorem RD{op:BinOp}{ti:Option TI}{x y:Option SV}{k:Nat}:mj op ti x (.tmp k) y=ck op ti x y:=rfl
@[simp] theorem RL{op:BinOp}{ti:Option TI}{x y:Option SV}{κ:IntKind}{n:Int}:mj op ti x (.const (.int κ n)) y=ck op ti x y:=rfl
@[simp] theorem Sf{op:BinOp}{ti:Option TI}{x y:Option SV}{n:ByteArray}:mj op ti x (.const (.string n)) y=ck op ti x y:=rfl
@[simp] theorem QC{op:BinOp}{ti:Option TI}{x y:Option SV}:mj op ti x (.const (.pointer none)) y=ck op ti x y:=rfl
@[simp] theorem Jl{x:SV}{j:Nat}{e:TypeId}:ck .eql (some ⟨.ptr e,s,b,z⟩) (some (.bK x j)) (some (.val (.pointer none)))=.q True (.bool false):=rfl
@[simp] theorem KE{e:TypeId}:ck .eql (some ⟨.ptr e,s,b,z⟩) (some (.val (.pointer none))) (some (.val (.pointer none)))=.q True (.bool true):=rfl
@[simp] theorem SO{op:BinOp}{ti:Option TI}{x y:Option SV}:mj op ti x (.const .nilIface) y=jG op ti x:=rfl
@[simp] theorem Xh:jG .eql (some ⟨.iface,s,b,z⟩) (some (.val .nilIface))=.q True (.bool true):=rfl
@[simp] theorem W6:jG .neq (some ⟨.iface,s,b,z⟩) (some (.val .nilIface))=.q True (.bool false):=rfl
@[simp] theorem aaR{t:TypeId}{x:SV}:jG .eql (some ⟨.iface,s,b,z⟩) (some (.iH t x))=.q True (.bool false):=rfl
@[simp] theorem Yf{t:TypeId}{x:SV}:jG .neq (some ⟨.iface,s,b,z⟩) (some (.iH t x))=.q True (.bool true):=rfl
@[simp] theorem ZC{t g:Nat}:jG .eql (some ⟨.iface,s,b,z⟩) (some (.fc t g))=.q True (.bool false):=rfl
@[simp] theorem aaN{t g:Nat}:jG .neq (some ⟨.iface,s,b,z⟩) (some (.fc t g))=.q True (.bool true):=rfl
@[simp] theorem ad5:Hn .neg (some (.val (.int κ n)))=.q True (.val (.int κ (κ.wrap (0 - n)))):=rfl
@[simp] theorem acJ(b:Bool):Hn .not (some (.val (.bool b)))=.q True (.val (.bool (!b))):=rfl
@[simp] theorem VS{M:aJ}:pU P M (some ti) (some ⟨.int κ,s,b,z⟩) (some (.val (.int κ' n)))=.q True (.val (.int κ (κ.wrap n))):=by
 unfold pU;split
 ·rename_i h;cases h
 ·rfl
@[simp] theorem Uz{M:aJ}{el:TypeId}{x:Option SV}{s' b':Nat}{z':List SV}:pU P M (some ⟨.sl el,s,b,z⟩) (some ⟨.str,s',b',z'⟩) x=xC M (aA P el) x:=rfl
def Mb(i n:Nat)(e:Option cx):dF:=match e with
 | some e=>.q (e.sz=1∧i+n≤e.es.length∧((e.es.drop i).take n).all mq=true) (.val (.string (strOf ((e.es.drop i).take n))))
 | none=>.stuck
@[simp] theorem OI{i n:Nat}{e:cx}:Mb i n (some e)=.q (e.sz=1∧i+n≤e.es.length∧((e.es.drop i).take n).all mq=true) (.val (.string (strOf ((e.es.drop i).take n)))):=rfl
@[simp] theorem VB{M:aJ}{k i n:Nat}:xC M (some ⟨.int .u8,s,b,z⟩) (some (.view k i n))=Mb i n (ax M k):=by
 simp only[xC,Mb];cases ax M k<;>rfl
@[simp] theorem Z4:A3 (some (.ptr a i j))=.q True (.ptr a i j):=rfl
@[simp] theorem Xb:A3 (some (.bK x j))=.q True (.bK x j):=rfl
@[simp] theorem Zx:oW (some (.bO l)) i=.q (i<l.length) (aB l i):=rfl
def faP(a i j:Nat)(q:Option (Nat × Nat × TypeId)):dF:=match q with
 | some (off,sz,_)=>if sz=0 then .stuck else .q True (.ptr a i (j+off))
 | none=>.stuck
def faR(x:SV)(j:Nat)(q:Option (Nat × Nat × TypeId)):dF:=match q with
 | some (off,sz,_)=>if sz=0 then .stuck else .q True (.bK x (j+off))
 | none=>.stuck
@[simp] theorem Vf(off sz:Nat)(t:TypeId):faP a i j (some (off,sz,t))=if sz=0 then .stuck else .q True (.ptr a i (j+off)):=rfl
@[simp] theorem Wv(off sz:Nat)(t:TypeId):faR x j (some (off,sz,t))=if sz=0 then .stuck else .q True (.bK x (j+off)):=rfl
@[simp] theorem aev:fj (some ⟨.st fs,s,b,z⟩) (some (.ptr a i j)) f=faP a i j (ng fs f):=by simp only[fj,faP];cases ng fs f<;>rfl
@[simp] theorem ael:fj (some ⟨.st fs,s,b,z⟩) (some (.bK x j)) f=faR x j (ng fs f):=by simp only[fj,faR];cases ng fs f<;>rfl
def fdA(l:List SV)(off:Nat)(tf:Option TI):dF:=match tf with
 | some tf=>if tf.k.isAgg=true then .q (off+tf.size≤l.length) (.agg ((l.drop off).take tf.size)) else .q (off<l.length) (aB l off)
 | none=>.stuck
def fdB(P:Program)(l:List SV)(q:Option (Nat × Nat × TypeId)):dF:=match q with
 | some (off,_,ft)=>fdA l off (aA P ft)
 | none=>.stuck
def iaR(es:List SV)(n:Int)(te:Option TI):dF:=match te with
 | some te=>.q (0≤n∧n<es.length∧(aB es n.toNat).eW=te.size∧(aB es n.toNat).aO=false) (.bK (aB es n.toNat) 0)
 | none=>.stuck
@[simp] theorem Ue:iaR es n (some ti)=.q (0≤n∧n<es.length∧(aB es n.toNat).eW=ti.size∧(aB es n.toNat).aO=false) (.bK (aB es n.toNat) 0):=rfl
@[simp] theorem ag9:ff P M (some ⟨.sl el,s,b,z⟩) (some (.ro es)) (some (.val (.int κ n)))=iaR es n (aA P el):=by simp only[ff,iaR];cases aA P el<;>rfl
def iaV(a i m:Nat)(n:Int)(te:Option TI)(e:Option cx):dF:=match te,e with
 | some te,some e=>if e.sz=te.size then .q (0≤n∧n<m) (.ptr a (i+n.toNat) 0) else .stuck
 | _,_=>.stuck
@[simp] theorem RI(k:Nat)(fz:Bool):iaV a i k n (some ti) (some ⟨s,es,fz⟩)=if s=ti.size then .q (0≤n∧n<k) (.ptr a (i+n.toNat) 0) else .stuck:=rfl
@[simp] theorem aaE(k:Nat):ff P M (some ⟨.sl el,s,b,z⟩) (some (.view a i k)) (some (.val (.int κ n)))=iaV a i k n (aA P el) (ax M a):=by simp only[ff,iaV];cases aA P el<;>cases ax M a<;>rfl
@[simp] theorem ade(q:ByteArray):qN (some ⟨.str,s,b,z⟩) (some (.val (.string q))) (some (.val (.int κ n)))=.q (0≤n∧n<q.size) (.val (.int .u8 (ek q n.toNat).toNat)):=rfl
def ldP(ti:TI)(i j:Nat)(e:Option cx):dF:=match e with
 | some e=>.q (i<e.es.length∧(aB e.es i).aO=false∧j+ti.size≤(aB e.es i).eW) (mu ti (aB e.es i) j)
 | none=>.stuck
@[simp] theorem SZ(fz:Bool):ldP ti i j (some ⟨s,es,fz⟩)=.q (i<es.length∧(aB es i).aO=false∧j+ti.size≤(aB es i).eW) (mu ti (aB es i) j):=rfl
@[simp] theorem afo:iq M (some ti) (some (.ptr a i j))=ldP ti i j (ax M a):=by simp only[iq,ldP];cases ax M a<;>rfl
@[simp] theorem afA:iq M (some ti) (some (.bK x j))=.q (x.aO=false∧j+ti.size≤x.eW) (mu ti x j):=rfl
@[simp] theorem aeH:nQ (some ⟨.sl el,s,b,z⟩) (some (.ro es))=.q True (.val (.int .i64 es.length)):=rfl
@[simp] theorem Wi(k:Nat):nQ (some ⟨.sl el,s,b,z⟩) (some (.view a i k))=.q True (.val (.int .i64 k)):=rfl
@[simp] theorem Zs(q:ByteArray):nQ (some ⟨.str,s,b,z⟩) (some (.val (.string q)))=.q True (.val (.int .i64 q.size)):=rfl
@[simp] theorem aew:lR false (some (.val (.int κ m))) (some (.val (.int κ' n)))=.q True (.val (.int κ (min m n))):=by
 simp only[lR,Bool.false_eq_true,if_false];congr 3;omega
@[simp] theorem M6(k:Int):fh none k=some k:=rfl
@[simp] theorem OV(k:Int):fh (some (some (.val (.int κ n)))) k=some n:=rfl
def slS(q:ByteArray)(l h:Option Int):dF:=match l,h with
 | some l,some h=>.q (0≤l∧l≤h∧h≤q.size) (.val (.string (q.extract l.toNat h.toNat)))
 | _,_=>.stuck
@[simp] theorem SW(q:ByteArray):slS q (some m) (some n)=.q (0≤m∧m≤n∧n≤q.size) (.val (.string (q.extract m.toNat n.toNat))):=rfl
@[simp] theorem aei(q:ByteArray)(lo hi:Option (Option SV)):jF P M (some ⟨.str,s,b,z⟩) (some (.val (.string q))) lo hi none=slS q (fh lo 0) (fh hi q.size):=by
 simp only[jF,slS];cases fh lo 0<;>cases fh hi q.size<;>rfl
def r6(s:Nat)(es:List SV):Prop:=es≠[]→(aB es 0).eW=s∧(aB es 0).aO=false
def slR(es:List SV)(l h:Option Int)(te:Option TI):dF:=match l,h,te with
 | some l,some h,some te=>.q (0≤l∧l≤h∧h≤es.length∧r6 te.size es) (.ro ((es.take h.toNat).drop l.toNat))
 | _,_,_=>.stuck
@[simp] theorem Uc:slR es (some m) (some n) (some ti)=.q (0≤m∧m≤n∧n≤es.length∧r6 ti.size es) (.ro ((es.take n.toNat).drop m.toNat)):=rfl
@[simp] theorem agz(lo hi:Option (Option SV)):jF P M (some ⟨.sl el,s,b,z⟩) (some (.ro es)) lo hi none=slR es (fh lo 0) (fh hi es.length) (aA P el):=by
 simp only[jF,slR];split
 ·simp[r6, *]
 ·split<;>simp_all
def slV(a i k:Nat)(l h:Option Int)(te:Option TI)(e:Option cx):dF:=match l,h,te,e with
 | some l,some h,some te,some e=>if e.sz=te.size then .q (0≤l∧l≤h∧h≤k) (.view a (i+l.toNat) (h.toNat - l.toNat)) else .stuck
 | _,_,_,_=>.stuck
@[simp] theorem Sc(k:Nat)(fz:Bool):slV a i k (some m) (some n) (some ti) (some ⟨s,es,fz⟩)=if s=ti.size then .q (0≤m∧m≤n∧n≤k) (.view a (i+m.toNat) (n.toNat - m.toNat)) else .stuck:=rfl
@[simp] theorem abh(k:Nat)(lo hi:Option (Option SV)):jF P M (some ⟨.sl el,s,b,z⟩) (some (.view a i k)) lo hi none=slV a i k (fh lo 0) (fh hi k) (aA P el) (ax M a):=by
 simp only[jF,slV];cases fh lo 0 with
 | none=>rfl
 | some l=>cases fh hi k with
  | none=>rfl
  | some h=>cases aA P el with
   | none=>rfl
   | some te=>cases ax M a with
    | none=>rfl
    | some e=>simp
@[simp] theorem aeK(t:TypeId):tU (some ⟨.ptr el,s,b,z⟩) t (some x)=.q True (.iH t x):=rfl
def bdL(l:Option (List SV)):dF:=match l with
 | some l=>.q True (.agg l)
 | none=>.stuck
@[simp] theorem Uo:bdL (some l)=.q True (.agg l):=rfl
@[simp] theorem af3(ps:List (Nat × Option SV)):oE (some ⟨.st fs,s,b,z⟩) ps=if fs.all (fun f=>f.2.1 != 0)=true then bdL (jE fs ps z) else .stuck:=by
 simp only[oE,bdL];split
 ·cases jE fs ps z<;>rfl
 ·rfl
@[simp] theorem N0(acc:List SV):jE fs [] acc=some acc:=rfl
def Ig(q:Option (Nat × Nat × TypeId))(x:SV)(acc:List SV):Option (List SV):=match q with
 | some (off,sz,_)=>if x.eW=sz∧x.aO=false∧off+sz≤acc.length then some (acc.take off++x.cells++acc.drop (off+sz)) else none
 | none=>none
@[simp] theorem Ml(off sz:Nat)(ft:TypeId)(acc:List SV):Ig (some (off,sz,ft)) x acc=if x.eW=sz∧x.aO=false∧off+sz≤acc.length then some (acc.take off++x.cells++acc.drop (off+sz)) else none:=rfl
def Cg(fs:List (Nat × Nat × TypeId))(r:List (Nat × Option SV))(a:Option (List SV)):Option (List SV):=a.bind fun acc=>jE fs r acc
@[simp] theorem Lx(r:List (Nat × Option SV))(a:List SV):Cg fs r (some a)=jE fs r a:=rfl
@[simp] theorem LC(i:Nat)(x:SV)(r:List (Nat × Option SV))(acc:List SV):jE fs ((i,some x)::r) acc=Cg fs r (Ig (ng fs i) x acc):=by
 simp only[jE,Cg];cases ng fs i with
 | none=>rfl
 | some q=>obtain⟨off,sz,ft⟩:=q;simp only[Ig];split<;>rfl
/-! what makes or writes blocks -/
def stP(M:aJ)(ti:TI)(a i j:Nat)(y:SV)(e:Option cx):cu:=match e with
 | some ⟨sz,es,false⟩=>.m (i<es.length∧(aB es i).aO=false∧y.aO=false∧y.eW=ti.size∧j+ti.size≤(aB es i).eW) (aK M a (some ⟨sz,bl es i (oX (aB es i) j y),false⟩)) [] none
 | _=>.stuck
@[simp] theorem UO:stP M ti a i j y (some ⟨s,es,false⟩)=.m (i<es.length∧(aB es i).aO=false∧y.aO=false∧y.eW=ti.size∧j+ti.size≤(aB es i).eW) (aK M a (some ⟨s,bl es i (oX (aB es i) j y),false⟩)) [] none:=rfl
@[simp] theorem afd:mY M (some ti) (some (.ptr a i j)) (some y)=stP M ti a i j y (ax M a):=by
 simp only[mY,stP];cases ax M a with
 | none=>rfl
 | some e=>obtain⟨sz,es,f⟩:=e;cases f<;>rfl
@[simp] theorem aau:o0 M (some ti)=.m True (M++[some ⟨ti.size,[ti.cK],false⟩]) [] (some (.ptr M.length 0 0)):=rfl
@[simp] theorem XB:xb M (some ti) (some x)=.m (x.eW=ti.size∧x.aO=false) (M++[some ⟨ti.size,[x],false⟩]) [] (some (.ptr M.length 0 0)):=rfl
def X8(M:aJ)(len:Nat)(te:TI)(es:Option (List SV)):cu:=match es with
 | some es=>if len*te.size≤16777216 then .m True (M++[some ⟨te.size,es,false⟩]) [] (some (.view M.length 0 len)) else .stuck
 | none=>.stuck
@[simp] theorem VH:X8 M i ti (some es)=if i*ti.size≤16777216 then .m True (M++[some ⟨ti.size,es,false⟩]) [] (some (.view M.length 0 i)) else .stuck:=rfl
def bsT(M:aJ)(len:Nat)(ps:List (Nat × Option SV))(te:Option TI):cu:=match te with
 | some te=>X8 M len te (jZ te.size len ps (akQ len te.cK))
 | none=>.stuck
@[simp] theorem RO(ps:List (Nat × Option SV)):bsT M i ps (some ti)=X8 M i ti (jZ ti.size i ps (akQ i ti.cK)):=rfl
@[simp] theorem YB(ps:List (Nat × Option SV)):fm P M (some ⟨.sl el,s,b,z⟩) i ps=bsT M i ps (aA P el):=by
 simp only[fm,bsT,X8];cases aA P el with
 | none=>rfl
 | some te=>simp only;cases jZ te.size i ps (akQ i te.cK)<;>rfl
@[simp] theorem Oe(sz len:Nat)(acc:List SV):jZ sz len [] acc=some acc:=rfl
@[simp] theorem K3(sz len i:Nat)(x:SV)(r:List (Nat × Option SV))(acc:List SV):jZ sz len ((i,some x)::r) acc=if x.eW=sz∧x.aO=false∧i<len then jZ sz len r (bl acc i x) else none:=rfl
def mkT(M:aJ)(n m:Int)(te:Option TI):cu:=match te with
 | some te=>.m (0≤n∧n≤m∧m≤281474976710656∧te.bytes*m≤281474976710656) (M++[some ⟨te.size,akQ n.toNat te.cK,false⟩]) [] (some (.view M.length 0 n.toNat))
 | none=>.stuck
@[simp] theorem VD:mkT M n m (some ti)=.m (0≤n∧n≤m∧m≤281474976710656∧ti.bytes*m≤281474976710656) (M++[some ⟨ti.size,akQ n.toNat ti.cK,false⟩]) [] (some (.view M.length 0 n.toNat)):=rfl
@[simp] theorem aaa:fX P M (some ⟨.sl el,s,b,z⟩) (some (.val (.int κ n))) (some (.val (.int κ' m)))=mkT M n m (aA P el):=by simp only[fX,mkT];cases aA P el<;>rfl
/-! maps -/
@[simp] theorem afE{kt et k:Nat}{v:Value}{ok:Bool}:kP P M (some ⟨.mp kt et,s,b,z⟩) (some (.mp k)) (some (.val v)) ok=Qa ok M (aA P kt) v (aA P et) (ax M k):=rfl
@[simp] theorem WG{ok:Bool}{tk':Option TI}{v:Value}{te:TI}{f:Bool}:Qa ok M tk' v (some te) (some ⟨0,es,f⟩)=if wQ tk' v=true then JN ok M te (eX v es 0) else .stuck:=by simp[Qa]
@[simp] theorem UL{ok:Bool}{te:TI}{j:Nat}{y:SV}:JN ok M te (some (some (j,y)))=.m True M [] (some (two ok y true)):=rfl
@[simp] theorem R5{ok:Bool}{te:TI}:JN ok M te (some none)=.m True M [] (some (two ok te.cK false)):=rfl
@[simp] theorem aco{y:SV}{q:Bool}:two false y q=y:=rfl
@[simp] theorem R8{k k':IntKind}{n:Int}:wQ (some ⟨.int k,s,b,z⟩) (.int k' n)=decide (k=k'):=rfl
@[simp] theorem Tf{q:ByteArray}:wQ (some ⟨.str,s,b,z⟩) (.string q)=true:=rfl
@[simp] theorem Dr{k:IntKind}{m n:Int}:FG (.int k m) (.int k n)=some (decide (m=n)):=by simp[FG]
@[simp] theorem Jp{m n:ByteArray}:FG (.string m) (.string n)=some (decide (m=n)):=rfl
@[simp] theorem BR{v u:Value}{y:SV}{l:List SV}{i:Nat}:eX v (.bO [.val u,y]::l) i=LW v u y i (eX v l (i+1)):=rfl
@[simp] theorem af5{kt et k:Nat}{v:Value}{y:SV}:jL P M (some ⟨.mp kt et,s,b,z⟩) (some (.mp k)) (some (.val v)) (some y)=Qf M k (aA P kt) v y (ax M k):=rfl
@[simp] theorem RW{k:Nat}{tk':Option TI}{v:Value}{y:SV}:Qf M k tk' v y (some ⟨0,es,false⟩)=if wQ tk' v=true then FM M k es v y (eX v es 0) else .stuck:=by simp[Qf]
@[simp] theorem So{k j:Nat}{v:Value}{y y':SV}:FM M k es v y (some (some (j,y')))=.m True (aK M k (some ⟨0,bl es j (.bO [.val v,y]),false⟩)) [] none:=rfl
@[simp] theorem Wy{k:Nat}{v:Value}{y:SV}:FM M k es v y (some none)=.m True (aK M k (some ⟨0,es++[.bO [.val v,y]],false⟩)) [] none:=rfl
@[simp] theorem agf{kt et k:Nat}:fy M (some ⟨.mp kt et,s,b,z⟩) (some (.mp k))=Qb M (ax M k):=rfl
@[simp] theorem T5{f:Bool}:Qb M (some ⟨0,es,f⟩)=.m True M [] (some (.val (.int .i64 es.length))):=by simp[Qb]
@[simp] theorem abe{kt et:Nat}:jB M (some ⟨.mp kt et,s,b,z⟩) none=.m True (M++[some ⟨0,[],false⟩]) [] (some (.mp M.length)):=rfl
/-! append -/
@[simp] theorem afD(ys:List SV):kO M ti (some (.ro ys))=some (r6 ti.size ys,ys):=rfl
def esV(te:TI)(i n:Nat)(e:Option cx):Option (Prop × List SV):=match e with
 | some e=>some (e.sz=te.size∧i+n≤e.es.length,(e.es.drop i).take n)
 | none=>none
@[simp] theorem VA(k:Nat)(fz:Bool):esV ti i k (some ⟨s,es,fz⟩)=some (s=ti.size∧i+k≤es.length,(es.drop i).take k):=rfl
@[simp] theorem Yq(k:Nat):kO M ti (some (.view a i k))=esV ti i k (ax M a):=by
 simp only[kO,esV];cases ax M a<;>rfl
def Z5(fx:List Nat)(M:aJ)(a n:Nat)(te:TI)(e:Option cx)(ys:Option (Prop × List SV)):cu:=match e,ys with
 | some ⟨sz,es,false⟩,some (c,ys)=>.m (a∉fx∧c∧n=es.length∧sz=te.size∧fK a M=true∧SV.aY a ys=false∧(∀y∈ys,y.aO=false)∧(es.length+ys.length)*te.bytes≤70368744177664∧0<te.bytes) (aK M a (some ⟨sz,es++ys,false⟩)) [a] (some (.view a 0 (n+ys.length)))
 | _,_=>.stuck
@[simp] theorem Wp(k:Nat)(c:Prop)(fx:List Nat)(ys:List SV):Z5 fx M a k ti (some ⟨s,es,false⟩) (some (c,ys))=.m (a∉fx∧c∧k=es.length∧s=ti.size∧fK a M=true∧SV.aY a ys=false∧(∀y∈ys,y.aO=false)∧(es.length+ys.length)*ti.bytes≤70368744177664∧0<ti.bytes) (aK M a (some ⟨s,es++ys,false⟩)) [a] (some (.view a 0 (k+ys.length))):=rfl
def apT(fx:List Nat)(M:aJ)(a n:Nat)(x:Option SV)(te:Option TI):cu:=match te with
 | some te=>Z5 fx M a n te (ax M a) (kO M te x)
 | none=>.stuck
@[simp] theorem RF(fx:List Nat)(k:Nat):apT fx M a k u (some ti)=Z5 fx M a k ti (ax M a) (kO M ti u):=rfl
def apN(M:aJ)(te:TI)(ys:Option (Prop × List SV)):cu:=match ys with
 | some (c,ys)=>.m (c∧fK M.length M=true∧SV.aY M.length ys=false∧(∀y∈ys,y.aO=false)∧ys.length*te.bytes≤70368744177664∧0<te.bytes) (M++[some ⟨te.size,ys,false⟩]) [M.length] (some (.view M.length 0 ys.length))
 | none=>.stuck
@[simp] theorem VN(c:Prop)(ys:List SV):apN M ti (some (c,ys))=.m (c∧fK M.length M=true∧SV.aY M.length ys=false∧(∀y∈ys,y.aO=false)∧ys.length*ti.bytes≤70368744177664∧0<ti.bytes) (M++[some ⟨ti.size,ys,false⟩]) [M.length] (some (.view M.length 0 ys.length)):=rfl
def MD(M:aJ)(x:Option SV)(te:Option TI):cu:=match te with
 | some te=>apN M te (kO M te x)
 | none=>.stuck
@[simp] theorem PG:MD M u (some ti)=apN M ti (kO M ti u):=rfl
@[simp] theorem Zv(fx:List Nat)(k s2 b2:Nat)(z2:List SV)(el2:TypeId):gZ P fx M (some ⟨.sl el,s,b,z⟩) (some ⟨.sl el2,s2,b2,z2⟩) (some (.view a 0 k)) u=apT fx (Cq a M) a k u (aA P el):=by
 simp only[gZ,w8,ki,apT];generalize Cq a M=M;cases aA P el with
 | none=>rfl
 | some te =>
  simp only[Z5];cases ax M a with
  | none=>rfl
  | some e=>obtain⟨sz,es,f⟩:=e;cases f with
   | true=>rfl
   | false=>simp only;cases kO M te u<;>rfl
@[simp] theorem afa(fx:List Nat)(s2 b2:Nat)(z2:List SV)(el2:TypeId):gZ P fx M (some ⟨.sl el,s,b,z⟩) (some ⟨.sl el2,s2,b2,z2⟩) (some (.val (.slice none 0 0))) u=MD M u (aA P el):=by
 simp only[gZ,w8,ki,MD,apN];cases aA P el with
 | none=>rfl
 | some te=>simp only;cases kO M te u<;>rfl
end
section
variable (P:Program) (M:aJ) (ti:TI) (a k s b:Nat) (z es ys:List SV) (el:TypeId) (u:Option SV) (c:Prop)
def cpV(M:aJ)(a n:Nat)(te:TI)(e:Option cx)(ys:Option (Prop × List SV)):cu:=match e,ys with
 | some ⟨sz,es,false⟩,some (c,ys)=>.m (c∧n=es.length∧ys.length=n∧sz=te.size∧∀y∈ys,y.aO=false) (aK M a (some ⟨sz,ys,false⟩)) [] (some (.val (.int .i64 n)))
 | _,_=>.stuck
def cpT(M:aJ)(a n:Nat)(x:Option SV)(te:Option TI):cu:=match te with
 | some te=>cpV M a n te (ax M a) (kO M te x)
 | none=>.stuck
end
@[simp] theorem X4(fr:List (Nat × SV)):qc fr []=some []:=rfl
def Aw(x:Option SV)(l:Option (List SV)):Option (List SV):=match x,l with
 | some x,some l=>some (x::l)
 | _,_=>none
@[simp] theorem Oa(x:SV)(l:List SV):Aw (some x) (some l)=some (x::l):=rfl
@[simp] theorem RB(fr:List (Nat × SV))(o:Operand)(r:List Operand):qc fr (o::r)=Aw (ev fr o) (qc fr r):=by
 simp only[qc,Aw];cases ev fr o<;>cases qc fr r<;>rfl
@[simp] theorem acG(fr:List (Nat × SV))(t:Nat):ev fr (.tmp t)=get fr t:=rfl
@[simp] theorem QL(fr:List (Nat × SV))(g:Nat):ev fr (.global g)=if rj.contains g=true then some (.bK (.fc eE g) 0) else some (.val (.pointer (some ⟨g,0,none⟩))):=by
 simp only[ev,gl];split<;>simp_all
@[simp] theorem abL:rj=[3,1,4,0,5,6,2,7,8,9]:=rfl
@[simp] theorem adt(fr:List (Nat × SV))(κ:IntKind)(n:Int):ev fr (.const (.int κ n))=some (.val (.int κ n)):=rfl
@[simp] theorem ZZ(fr:List (Nat × SV))(b:Bool):ev fr (.const (.bool b))=some (.val (.bool b)):=rfl
@[simp] theorem adD(fr:List (Nat × SV))(b:ByteArray):ev fr (.const (.string b))=some (.val (.string b)):=rfl
@[simp] theorem Lg(fr:List (Nat × SV)):ev fr (.const (.slice none 0 0))=some (.val (.slice none 0 0)):=rfl
@[simp] theorem Pv(fr:List (Nat × SV)):ev fr (.const (.pointer none))=some (.val (.pointer none)):=rfl
@[simp] theorem TW(fr:List (Nat × SV)):ev fr (.const .nilIface)=some (.val .nilIface):=rfl
@[simp] theorem get_nil(t:Nat):get [] t=none:=rfl
@[simp] theorem TE(s t:Nat)(x:SV)(r:List (Nat × SV)):get ((s,x)::r) t=if s=t then some x else get r t:=rfl
@[simp] theorem Rf(t:Nat)(x:SV)(fr:List (Nat × SV)):cX (some t) (some x) fr=(t,x)::fr:=rfl
@[simp] theorem Ug{n t:Nat}(h:t<n)(fr:List (Nat × SV)):eO n (some t) fr=(t,.bO [])::fr:=by simp[eO,h]
@[simp] theorem PX(x:Option SV)(fr:List (Nat × SV)):cX none x fr=fr:=by cases x<;>rfl
@[simp] theorem UG(t n:Nat):rS (some t) n=(t<n):=rfl
@[simp] theorem Wf(n:Nat):rS none n=True:=rfl
@[simp] theorem abx(t:Nat):del [] t=[]:=rfl
@[simp] theorem VR(s t:Nat)(x:SV)(r:List (Nat × SV)):del ((s,x)::r) t=if s=t then del r t else(s,x)::del r t:=by
 simp only[del,alX];by_cases h:s=t<;>simp[h]
@[simp] theorem Lz(pk:List Nat):forget pk []=[]:=rfl
@[simp] theorem Mn(a t:Nat)(x:SV)(r:List (Nat × SV)):forget [a] ((t,x)::r)=if x.bD a=true then del (forget [a] r) t else(t,x)::forget [a] r:=by
 simp only[forget];cases h:x.bD a<;>simp[h]
@[simp] theorem P7(x:Option cx)(l:aJ):ax (x::l) 0=x:=rfl
@[simp] theorem Qt(x:Option cx)(l:aJ)(n:Nat):ax (x::l) (n+1)=ax l n:=rfl
@[simp] theorem OL(x y:Option cx)(l:aJ):aK (x::l) 0 y=y::l:=rfl
@[simp] theorem Rm(x y:Option cx)(l:aJ)(n:Nat):aK (x::l) (n+1) y=x::aK l n y:=rfl
@[simp] theorem OF(x:SV)(l:List SV):aB (x::l) 0=x:=rfl
@[simp] theorem OW(x:SV)(l:List SV)(n:Nat):aB (x::l) (n+1)=aB l n:=rfl
@[simp] theorem Q3(x y:SV)(l:List SV):bl (x::l) 0 y=y::l:=rfl
@[simp] theorem Pm(x y:SV)(l:List SV)(n:Nat):bl (x::l) (n+1) y=x::bl l n y:=rfl
@[simp] theorem QY(x:Nat × Nat × TypeId)(l:List (Nat × Nat × TypeId)):ng (x::l) 0=some x:=rfl
@[simp] theorem QI(x:Nat × Nat × TypeId)(l:List (Nat × Nat × TypeId))(n:Nat):ng (x::l) (n+1)=ng l n:=rfl
@[simp] theorem LK{d:Option Tmp}{op:Op}{t:TypeId}{p:String}{af:Array Edge}{g:Option (Nat × Bool)}(l:List Oper):mF (⟨d,op,t,p,af,g⟩::l) 0=d:=rfl
@[simp] theorem LO(x:Oper)(l:List Oper)(n:Nat):mF (x::l) (n+1)=mF l n:=rfl
section
variable (v:Value) (a b c n:Nat) (l es:List SV) (x:SV) (t:TypeId)
@[simp] theorem Pu:(SV.val v).cells=[.val v]:=rfl
@[simp] theorem OH:(SV.ptr a b c).cells=[.ptr a b c]:=rfl
@[simp] theorem N7:(SV.view a b c).cells=[.view a b c]:=rfl
@[simp] theorem UF:(SV.ro es).cells=[.ro es]:=rfl
@[simp] theorem Pe:(SV.bK x a).cells=[.bK x a]:=rfl
@[simp] theorem PJ:(SV.agg l).cells=l:=rfl
@[simp] theorem PV:(SV.iH t x).cells=[.iH t x]:=rfl
@[simp] theorem Xs:(SV.val v).eW=1:=rfl
@[simp] theorem aav:(SV.ptr a b c).eW=1:=rfl
@[simp] theorem UC:(SV.view a b c).eW=1:=rfl
@[simp] theorem aeB:(SV.ro es).eW=1:=rfl
@[simp] theorem Xx:(SV.bK x a).eW=1:=rfl
@[simp] theorem W1:(SV.agg l).eW=l.length:=rfl
@[simp] theorem Xg:(SV.iH t x).eW=1:=rfl
@[simp] theorem PN:(SV.val v).aO=false:=rfl
@[simp] theorem Ql:(SV.ptr a b c).aO=false:=rfl
@[simp] theorem Me:(SV.view a b c).aO=false:=rfl
@[simp] theorem SY:(SV.ro es).aO=false:=rfl
@[simp] theorem OP:(SV.bK x a).aO=false:=rfl
@[simp] theorem Pk:(SV.agg l).aO=false:=rfl
@[simp] theorem Rn:(SV.iH t x).aO=false:=rfl
@[simp] theorem OJ:(SV.val v).isAgg=false:=rfl
@[simp] theorem Qm:(SV.ptr a b c).isAgg=false:=rfl
@[simp] theorem Nc:(SV.view a b c).isAgg=false:=rfl
@[simp] theorem V6:(SV.ro es).isAgg=false:=rfl
@[simp] theorem P8:(SV.bK x a).isAgg=false:=rfl
@[simp] theorem Pr:(SV.agg l).isAgg=true:=rfl
@[simp] theorem Re:(SV.iH t x).isAgg=false:=rfl
@[simp] theorem TH:(SV.val v).bD n=false:=rfl
@[simp] theorem Tz:(SV.ptr a b c).bD n=(a==n):=rfl
@[simp] theorem Rv:(SV.view a b c).bD n=(a==n):=rfl
@[simp] theorem YP:(SV.ro es).bD n=false:=rfl
@[simp] theorem Vv:(SV.bK x a).bD n=false:=rfl
@[simp] theorem Wn:(SV.agg l).bD n=SV.aY n l:=by simp[SV.bD]
@[simp] theorem Sh:(SV.bO l).bD n=SV.aY n l:=by simp[SV.bD]
@[simp] theorem PY:SV.aY n []=false:=by simp[SV.aY]
@[simp] theorem MA:SV.aY n (x::l)=(x.bD n||SV.aY n l):=by simp[SV.aY]
@[simp] theorem R0:(SV.val v).pure=true:=rfl
@[simp] theorem UB:(SV.ptr a b c).pure=false:=rfl
@[simp] theorem O5:(SV.view a b c).pure=false:=rfl
@[simp] theorem Zj:(SV.ro es).pure=true:=rfl
@[simp] theorem R1:(SV.bK x a).pure=true:=rfl
@[simp] theorem V2:(SV.agg l).pure=SV.bf l:=by simp[SV.pure]
@[simp] theorem T7:(SV.bO l).pure=SV.bf l:=by simp[SV.pure]
@[simp] theorem Qe:SV.bf []=true:=by simp[SV.bf]
@[simp] theorem Mf:SV.bf (x::l)=(x.pure&&SV.bf l):=by simp[SV.bf]
@[simp] theorem aem:(SV.val v).lt n=true:=rfl
@[simp] theorem ac3:(SV.ptr a b c).lt n=decide (a<n):=rfl
@[simp] theorem Zz:(SV.view a b c).lt n=decide (a<n):=rfl
@[simp] theorem afG:(SV.ro es).lt n=true:=rfl
@[simp] theorem ad8:(SV.bK x a).lt n=true:=rfl
@[simp] theorem ae2:(SV.agg l).lt n=SV.mb n l:=by simp[SV.lt]
@[simp] theorem aej:(SV.bO l).lt n=SV.mb n l:=by simp[SV.lt]
@[simp] theorem adw:(SV.iH t x).lt n=x.lt n:=by simp[SV.lt]
@[simp] theorem WX:SV.mb n []=true:=by simp[SV.mb]
@[simp] theorem U9:SV.mb n (x::l)=(x.lt n&&SV.mb n l):=by simp[SV.mb]
@[simp] theorem acy:(SV.val v).ks=[]:=rfl
@[simp] theorem abB:(SV.view a b c).ks=[a]:=rfl
@[simp] theorem afY:(SV.ro es).ks=[]:=rfl
@[simp] theorem aeU:(SV.bK x a).ks=[]:=rfl
@[simp] theorem ac8:(SV.agg l).ks=SV.rL l:=by simp[SV.ks]
@[simp] theorem X2:SV.rL []=[]:=by simp[SV.rL]
@[simp] theorem SF:SV.rL (x::l)=x.ks++SV.rL l:=by simp[SV.rL]
@[simp] theorem T8(fs:List (Nat × Nat × TypeId)):(TK.st fs).isAgg=true:=rfl
@[simp] theorem Pc(κ:IntKind):(TK.int κ).isAgg=false:=rfl
@[simp] theorem Nf:TK.bool.isAgg=false:=rfl
@[simp] theorem ON:TK.str.isAgg=false:=rfl
@[simp] theorem Vx:(TK.sl t).isAgg=false:=rfl
@[simp] theorem Nh:(TK.ptr t).isAgg=false:=rfl
@[simp] theorem SR:TK.iface.isAgg=false:=rfl
@[simp] theorem LV:TK.other.isAgg=false:=rfl
@[simp] theorem O1:fK n []=true:=rfl
@[simp] theorem abY{M:aJ}{k:Nat}:Cq k M=if fK k M=true then M else wu k M:=rfl
@[simp] theorem V1{k:Nat}:wu k []=[]:=rfl
@[simp] theorem Rl{k sz:Nat}{f:Bool}(es:List SV)(M:aJ):wu k (some ⟨sz,es,f⟩::M)=some ⟨sz,Bf k es,f⟩::wu k M:=rfl
@[simp] theorem aax{k:Nat}{es:List SV}:Bf k es=if SV.aY k es=true then es.map (vw k) else es:=rfl
@[simp] theorem SC{k:Nat}(l:List SV):vw k (.agg l)=.agg (l.map fun y=>if y.bD k then .any else y):=rfl
@[simp] theorem Dy{k:Nat}(l:List SV):vw k (.ro l)=.ro l:=rfl
@[simp] theorem Mz(sz:Nat)(f:Bool)(M:aJ):fK n (some ⟨sz,es,f⟩::M)=(!SV.aY n es&&fK n M):=rfl
@[simp] theorem Zd(M:aJ):FE [] M=M:=rfl
def fz1(k:Nat)(r:List Nat)(M:aJ)(o:Option cx):aJ:=match o with
 | some e=>FE r (aK M k (some ⟨e.sz,e.es,true⟩))
 | none=>FE r M
@[simp] theorem Tu(k:Nat)(r:List Nat)(M:aJ):FE (k::r) M=fz1 k r M (ax M k):=rfl
@[simp] theorem R2(k:Nat)(r:List Nat)(M:aJ)(sz:Nat)(f:Bool):fz1 k r M (some ⟨sz,es,f⟩)=FE r (aK M k (some ⟨sz,es,true⟩)):=rfl
@[simp] theorem ZX(t g:Nat):(SV.fc t g).eW=1:=rfl
@[simp] theorem Rk(t g:Nat):(SV.fc t g).aO=false:=rfl
@[simp] theorem Q4(t g:Nat):(SV.fc t g).isAgg=false:=rfl
@[simp] theorem WR(t g:Nat):(SV.fc t g).pure=true:=rfl
@[simp] theorem aeo(n t g:Nat):(SV.fc t g).lt n=true:=rfl
@[simp] theorem Qx(t g:Nat):(SV.fc t g).cells=[.fc t g]:=rfl
@[simp] theorem Rp{f:FuncId}{l r:List SV}:(SV.gG f l r).cells=[.gG f l r]:=rfl
@[simp] theorem Zi{f:FuncId}{l r:List SV}:(SV.gG f l r).eW=1:=rfl
@[simp] theorem Q9{f:FuncId}{l r:List SV}:(SV.gG f l r).aO=false:=rfl
@[simp] theorem Y6:(SV.mp a).bD n=(a==n):=rfl
@[simp] theorem Sa{n:Nat}:(SV.any).bD n=false:=rfl
@[simp] theorem VC{n:Nat}{f:FuncId}{l r:List SV}:(SV.gG f l r).bD n=(SV.aY n l||SV.aY n r):=rfl
@[simp] theorem Y3:(SV.mp a).pure=false:=rfl
@[simp] theorem Uv:(SV.any).pure=true:=rfl
@[simp] theorem Tx{f:FuncId}{l r:List SV}:(SV.gG f l r).pure=(SV.bf l&&SV.bf r):=rfl
@[simp] theorem agG:(SV.mp a).lt n=decide (a<n):=rfl
@[simp] theorem adr{n:Nat}{f:FuncId}{l r:List SV}:(SV.gG f l r).lt n=(SV.mb n l&&SV.mb n r):=rfl
@[simp] theorem Vk(M:aJ):Sub M (.view a b n) (.ro es)=onO (ax M a) fun e=>SV.bf e.es=true∧b+n≤e.es.length∧(e.es.drop b).take n=es:=by
 simp only[Sub];cases ax M a<;>rfl
@[simp] theorem aa9(M:aJ)(j:Nat):Sub M (.ptr a b c) (.bK x j)=onO (ax M a) fun e=>SV.bf e.es=true∧b<e.es.length∧(aB e.es b).aO=false∧aB e.es b=x∧c=j:=by
 simp only[Sub];cases ax M a<;>rfl
@[simp] theorem W2(M:aJ):Sub M (.agg l) (.agg es)=cz M l es:=by simp only[Sub]
@[simp] theorem Zb(M:aJ):Sub M (.bO l) (.bO es)=cz M l es:=by simp only[Sub]
@[simp] theorem YC(M:aJ)(t':TypeId)(x':SV):Sub M (.iH t x) (.iH t' x')=(t=t'∧Sub M x x'):=by simp only[Sub]
@[simp] theorem YD(M:aJ):Sub M (.val v) (.ro es)=(v=.slice none 0 0∧es=[]):=by simp only[Sub]
@[simp] theorem abH(M:aJ)(v':Value):Sub M (.val v) (.val v')=(v=v'):=by simp only[Sub]
@[simp] theorem acv(M:aJ)(y:SV):Sub M (.ro es) y=(y=.ro es):=by simp only[Sub]
@[simp] theorem abM(M:aJ)(y:SV)(t g:Nat):Sub M (.fc t g) y=(y=.fc t g):=by simp only[Sub]
@[simp] theorem VV(M:aJ):cz M [] es=(es=[]):=by simp only[cz]
@[simp] theorem Ow(M:aJ)(x':SV):cz M (x::l) (x'::es)=(Sub M x x'∧cz M l es):=by simp only[cz]
end
/-! results -/
def jd(P:Program)(st:St)(r:ResultVar):dF:=match r with
 | .tmp t=>ND (get st.fr t)
 | .cell t T=>iq st.M (aA P T) (get st.fr t)
@[simp] theorem Vi(P:Program)(st:St)(t:Nat):jd P st (.tmp t)=ND (get st.fr t):=rfl
@[simp] theorem Q2(P:Program)(st:St)(t T:Nat):jd P st (.cell t T)=iq st.M (aA P T) (get st.fr t):=rfl
def fin(M:aJ)(x:SV)(Φ:SV→Prop):Prop:=∃y,Sub M x y∧Φ y
def Of(r:dF)(M:aJ)(Φ:SV→Prop):Prop:=match r with
 | .q c x=>c∧fin M x Φ
 | _=>False
def Bu(rs:List dF)(acc:List SV)(M:aJ)(Φ:SV→Prop):Prop:=match rs with
 | []=>fin M (.bO acc) Φ
 | .q c x::r=>c∧Bu r (acc++[x]) M Φ
 | _=>False
@[simp] theorem acw{c:Prop}{x:SV}{M:aJ}{Φ:SV→Prop}:Of (.q c x) M Φ=(c∧fin M x Φ):=rfl
@[simp] theorem RN{acc:List SV}{M:aJ}{Φ:SV→Prop}:Bu [] acc M Φ=fin M (.bO acc) Φ:=rfl
@[simp] theorem aeR{c:Prop}{x:SV}{r:List dF}{acc:List SV}{M:aJ}{Φ:SV→Prop}:Bu (.q c x::r) acc M Φ=(c∧Bu r (acc++[x]) M Φ):=rfl
theorem lY(P:Program)(st:St)(r:ResultVar):pP P st r=(match jd P st r with | .q c x=>some (c,x) | _=>none):=by
 cases r with
 | tmp t=>simp only[jd,pP];cases get st.fr t<;>rfl
 | cell t T =>
  simp only[jd,pP];cases get st.fr t with
  | none=>simp only[iq];cases aA P T<;>rfl
  | some u=>split<;>simp_all
section
variable (P:Program) (st:St) (r s u:ResultVar) (Φ:SV→Prop)
@[simp] theorem Q7:ka P [r] Φ .ret st=Of (jd P st r) st.M Φ:=by
 simp only[ka,j4,r9,lY];cases jd P st r<;>simp[Of,fin]
@[simp] theorem Q8:ka P [r,s] Φ .ret st=Bu [jd P st r,jd P st s] [] st.M Φ:=by
 simp only[ka,j4,r9,lY];cases jd P st r<;>cases jd P st s<;>simp[Bu,fin,and_assoc]
@[simp] theorem Qi:ka P [r,s,u] Φ .ret st=Bu [jd P st r,jd P st s,jd P st u] [] st.M Φ:=by
 simp only[ka,j4,r9,lY];cases jd P st r<;>cases jd P st s<;>cases jd P st u<;>simp[Bu,fin,and_assoc]
theorem Aq(rs:List ResultVar):ka P rs Φ .normal st=ka P rs Φ .ret st:=rfl
@[simp] theorem MY{rs:List ResultVar}{c:List PanicEntry}:ka P rs Φ (.panic c) st=False:=rfl
end
attribute [simp] Aq
def NF(r:dF)(M:aJ)(pk:List Nat)(k:aJ→List Nat→SV→Prop):Prop:=match r with
 | .q c x=>c∧k M pk x
 | _=>False
def sM(rs:List dF)(acc:List SV)(M:aJ)(pk:List Nat)(k:aJ→List Nat→SV→Prop):Prop:=match rs with
 | []=>k M pk (.bO acc)
 | .q c x::r=>c∧sM r (acc++[x]) M pk k
 | _=>False
section
variable {P:Program} {st:St} {r s u:ResultVar} {pk:List Nat} {k:aJ→List Nat→SV→Prop}
@[simp] theorem adv{c:Prop}{x:SV}{M:aJ}:NF (.q c x) M pk k=(c∧k M pk x):=rfl
@[simp] theorem PU{acc:List SV}{M:aJ}:sM [] acc M pk k=k M pk (.bO acc):=rfl
@[simp] theorem Yb{c:Prop}{x:SV}{r:List dF}{acc:List SV}{M:aJ}:sM (.q c x::r) acc M pk k=(c∧sM r (acc++[x]) M pk k):=rfl
@[simp] theorem PO:mm P [] pk k .ret st=k st.M pk (.bO []):=by simp[mm,j4,r9]
@[simp] theorem Pp:mm P [r] pk k .ret st=NF (jd P st r) st.M pk k:=by
 simp only[mm,j4,r9,lY];cases jd P st r<;>simp[NF]
@[simp] theorem PH:mm P [r,s] pk k .ret st=sM [jd P st r,jd P st s] [] st.M pk k:=by
 simp only[mm,j4,r9,lY];cases jd P st r<;>cases jd P st s<;>simp[sM,and_assoc]
@[simp] theorem Qd:mm P [r,s,u] pk k .ret st=sM [jd P st r,jd P st s,jd P st u] [] st.M pk k:=by
 simp only[mm,j4,r9,lY];cases jd P st r<;>cases jd P st s<;>cases jd P st u<;>simp[sM,and_assoc]
@[simp] theorem Ly{rs:List ResultVar}:mm P rs pk k .normal st=mm P rs pk k .ret st:=rfl
@[simp] theorem Ms{rs:List ResultVar}{c:List PanicEntry}:mm P rs pk k (.panic c) st=False:=rfl
end
theorem MV(M:aJ)(x y:SV):fin M x (fun z=>z=y)=Sub M x y:=by simp[fin]
attribute [simp] MV mu oX TI.cK lC DD xw oL zF dX RZ eP
theorem aa.go{P:Program}{C:Ctx}{c:Code}{st:St}{Q:aX}(h:vc P C c st Q Q):aa P C c st Q:=lP c st (fun _ _ h=>h) (fun _ _ h=>h) h
theorem nq.go{P:Program}{C:Ctx}{all:Array Oper}{l:List Oper}{st:St}{Q:aX}(h:fu P C all l st Q Q):nq P C all l st Q:=jR l st (fun _ _ h=>h) (fun _ _ h=>h) h
theorem ba{P:Program}{C:Ctx}{f:FuncId}{args args':List SV}{y:SV}{M:aJ}{W:Option (List Nat)}{k:aJ→List Nat→SV→Prop}(h:aF P f args' y)(hs:cz M args args')(hk:k (FE (SV.rL args) M) [] y):cU P C f args M W k :=
 sS h hs fun x hx=>by rw[hx];exact hk
/-! regions whose operations may come up in any order -/
def jP:List Oper→Nat→Option Oper
 | [],_=>none
 | o::_,0=>some o
 | _::l,n+1=>jP l n
theorem ib{l:List Oper}{j:Nat}:l.toArray[j]?=jP l j:=by
 simp only[alW]
 induction l generalizing j with
 | nil=>rfl
 | cons x l ih=>cases j with
  | zero=>rfl
  | succ j=>simpa[jP]using ih
@[simp] theorem O0(o:Oper)(l:List Oper):jP (o::l) 0=some o:=rfl
@[simp] theorem PD(o:Oper)(l:List Oper)(n:Nat):jP (o::l) (n+1)=jP l n:=rfl
section
variable {P:Program} {C:Ctx} {st:St} {Q QJ:aX} {l:List Oper} {d:Option Tmp} {op:Op} {t:TypeId} {p:String} {af:Array Edge} {o:Oper} {r r':Pl} {i j:Nat} {ks ks':List Nat} {yes no:St→Prop}
def Nr(P:Program)(C:Ctx)(l:List Oper)(ks:List Nat)(o:Oper)(r:Pl)(Q QJ:aX)(st:St):Prop:=ue ks st o.op∧cf P C none o st (JE P C l.toArray r Q QJ) OU
def N2(P:Program)(C:Ctx)(l:List Oper)(ks:List Nat)(o:Oper)(r:Pl)(Q QJ:aX)(st:St):Prop:=((okW ks st o.op∧sL ks r o.op)∧r.there st.M)∧cf P C (some (nb ks)) o st (JE P C l.toArray r Q QJ) (njP P C l.toArray r QJ)
@[simp] theorem Up:Nr P C l ks o r Q QJ st=(ue ks st o.op∧cf P C none o st (JE P C l.toArray r Q QJ) OU):=rfl
@[simp] theorem UW:N2 P C l ks o r Q QJ st=(((okW ks st o.op∧sL ks r o.op)∧r.there st.M)∧cf P C (some (nb ks)) o st (JE P C l.toArray r Q QJ) (njP P C l.toArray r QJ)):=rfl
def Fy(b:Bool)(d:Option Tmp)(st:St)(yes no:St→Prop)(t':Nat)(v:Option SV):Prop:=match v with
 | some (.val (.bool c))=>(c=b→yes ⟨st.n,(t',.val (.bool b))::st.fr,st.M⟩)∧(c=!b→no ⟨st.n,eO st.n d ((t',.val (.bool (!b)))::st.fr),st.M⟩)
 | some (.bO [])=>no ⟨st.n,eO st.n d st.fr,st.M⟩
 | _=>False
def gp0(b:Bool)(d:Option Tmp)(st:St)(yes no:St→Prop)(t':Option Nat):Prop:=match t' with
 | some t'=>Fy b d st yes no t' (get st.fr t')
 | none=>False
@[simp] theorem SX{b:Bool}{t':Nat}:gp0 b d st yes no (some t')=Fy b d st yes no t' (get st.fr t'):=rfl
@[simp low] theorem T6{b c:Bool}{t':Nat}:Fy b d st yes no t' (some (.val (.bool c)))=((c=b→yes ⟨st.n,(t',.val (.bool b))::st.fr,st.M⟩)∧(c=!b→no ⟨st.n,eO st.n d ((t',.val (.bool (!b)))::st.fr),st.M⟩)):=rfl
@[simp] theorem adY{t':Nat}:Fy true d st yes no t' (some (.val (.bool true)))=yes ⟨st.n,(t',.val (.bool true))::st.fr,st.M⟩:=by simp[Fy]
@[simp] theorem acU{t':Nat}:Fy false d st yes no t' (some (.val (.bool false)))=yes ⟨st.n,(t',.val (.bool false))::st.fr,st.M⟩:=by simp[Fy]
@[simp] theorem aeD{t':Nat}:Fy true d st yes no t' (some (.val (.bool false)))=no ⟨st.n,eO st.n d ((t',.val (.bool false))::st.fr),st.M⟩:=by simp[Fy]
@[simp] theorem adb{t':Nat}:Fy false d st yes no t' (some (.val (.bool true)))=no ⟨st.n,eO st.n d ((t',.val (.bool true))::st.fr),st.M⟩:=by simp[Fy]
@[simp ↓] theorem Sb:gd l.toArray ⟨d,op,t,p,af,none⟩ st yes no=yes st:=rfl
@[simp ↓] theorem Tw{b:Bool}:gd l.toArray ⟨d,op,t,p,af,some (j,b)⟩ st yes no=gp0 b d st yes no (mF l j):=by
 simp only[gd,gp0];rw[←xU];cases nS l.toArray j with
 | none=>rfl
 | some t' =>
  simp only[Fy];cases get st.fr t' with
  | none=>rfl
  | some v=>cases v with
   | val u=>cases u<;>rfl
   | bO l=>cases l<;>rfl
   | _=>rfl
def pQ(P:Program)(C:Ctx)(l:List Oper)(ks:List Nat)(o:Option Oper)(r:Pl)(st:St)(Q QJ:aX):Prop:=match o with
 | some o=>gd l.toArray o st (Nr P C l ks o r Q QJ) (JE P C l.toArray r Q QJ)
 | none=>False
def pL(P:Program)(C:Ctx)(l:List Oper)(ks:List Nat)(o:Option Oper)(r:Pl)(st:St)(Q QJ:aX):Prop:=match o with
 | some o=>gd l.toArray o st (N2 P C l ks o r Q QJ) (JE P C l.toArray r Q QJ)
 | none=>False
@[simp] theorem X3:pQ P C l ks (some o) r st Q QJ=gd l.toArray o st (Nr P C l ks o r Q QJ) (JE P C l.toArray r Q QJ):=rfl
@[simp] theorem ZM:pL P C l ks (some o) r st Q QJ=gd l.toArray o st (N2 P C l ks o r Q QJ) (JE P C l.toArray r Q QJ):=rfl
@[simp] theorem acQ:Pl.qs [] r=r:=rfl
@[simp] theorem Yc{l:List Nat}:Pl.qs (i::l) r=.q i [] (Pl.qs l r):=rfl
@[simp ↓] theorem TF:dW P C l.toArray .nil st Q QJ=Q .normal st:=rfl
@[simp ↓] theorem acM:dW P C l.toArray (.q i ks r) st Q QJ=pQ P C l ks (jP l i) r st Q QJ:=by
 simp only[dW,ib];cases jP l i<;>rfl
@[simp ↓] theorem ach:dW P C l.toArray (.l i ks r) st Q QJ=pL P C l ks (jP l i) r st Q QJ:=by
 simp only[dW,ib];cases jP l i<;>rfl
@[simp ↓] theorem ad7:dW P C l.toArray (.m i ks r j ks' r') st Q QJ=(pL P C l ks (jP l i) r st Q QJ∧pL P C l ks' (jP l j) r' st Q QJ):=by
 simp only[dW,ib];cases jP l i<;>cases jP l j<;>simp[pL]<;>rfl
@[simp ↓] theorem To{p:Pl}:dW P C l.toArray (.alt i ks r p) st Q QJ=(pL P C l ks (jP l i) r st Q QJ∧dW P C l.toArray p st Q QJ):=by
 simp only[dW,ib];cases jP l i<;>rfl
@[simp ↓] theorem Ov:dW P C l.toArray .stop st Q QJ=True:=rfl
@[simp] theorem YV{k:IntKind}{n:Int}:PT (some (.val (.int k n)))=True:=rfl
def oU(st:St)(o:Op):Prop:=match o with
 | .convert _ _ x=>PT (ev st.fr x)
 | .call ⟨.builtin .len,args,_⟩=>Ir (args.toList.map (ev st.fr))
 | _=>True
@[simp] theorem Vz{s d:TypeId}{x:Operand}:oU st (.convert s d x)=PT (ev st.fr x):=rfl
@[simp] theorem Tg{x:Operand}:oU st (.move x)=True:=rfl
@[simp] theorem MC{x:Operand}:oU st (.assign x)=True:=rfl
@[simp] theorem Ta{x y z:Operand}:oU st (.pick x y z)=True:=rfl
@[simp] theorem abi{op:BinOp}{t t':TypeId}{x y:Operand}:oU st (.binOp op t x y t')=True:=rfl
@[simp] theorem aek{op:UnOp}{t:TypeId}{x:Operand}:oU st (.unOp op t x)=True:=rfl
@[simp] theorem RR{x:Operand}:oU st (.nilCheck x)=True:=rfl
@[simp] theorem Zr{x:Operand}{i:Nat}:oU st (.extract x i)=True:=rfl
@[simp] theorem ae4{t:TypeId}{x:Operand}{i:Nat}:oU st (.fieldAddr t x i)=True:=rfl
@[simp] theorem aeW{t:TypeId}{x y:Operand}:oU st (.indexAddr t x y)=True:=rfl
@[simp] theorem acB{t:TypeId}{x y:Operand}:oU st (.index t x y)=True:=rfl
@[simp] theorem adR{t:TypeId}{x:Operand}:oU st (.load t x)=True:=rfl
@[simp] theorem afy{t:TypeId}{x:Operand}{a b c:Option Operand}:oU st (.slice t x a b c)=True:=rfl
@[simp] theorem ab2{t:TypeId}{x:Operand}:oU st (.makeInterface t x)=True:=rfl
@[simp] theorem acE{t:TypeId}{ps:Array (Nat × Operand)}:oU st (.build t ps)=True:=rfl
@[simp] theorem abF{x:Operand}{ts:Array TypeId}:oU st (.call ⟨.builtin .len,[x].toArray,ts⟩)=IC (ev st.fr x):=rfl
@[simp] theorem aah{es:List SV}:IC (some (.ro es))=True:=rfl
@[simp] theorem Rh{k i n:Nat}:IC (some (.view k i n))=True:=rfl
@[simp] theorem Ws{q:ByteArray}:IC (some (.val (.string q)))=True:=rfl
@[simp] theorem aaY{o:Op}:ue [] st o=oU st o:=by
 unfold ue oU;split<;>simp_all
def SA(ks:List Nat)(M:aJ)(x:Option SV):Prop:=ks=[]∨match x with
 | some (.ptr k _ _)=>k∉ks∧m6∉ks∧∀j∈ks,ry M j
 | some (.bK _ _)=>True
 | _=>False
@[simp] theorem Ze{k:Nat}{M:aJ}{a i j:Nat}:SA (k::ks) M (some (.ptr a i j))=(a∉k::ks∧m6∉k::ks∧∀j∈k::ks,ry M j):=by simp[SA]
@[simp] theorem ZU{k:Nat}{M:aJ}{x:SV}{j:Nat}:SA (k::ks) M (some (.bK x j))=True:=by simp[SA]
@[simp] theorem adL{t:TypeId}{x:Operand}{k:Nat}:ue (k::ks) st (.load t x)=SA (k::ks) st.M (ev st.fr x):=rfl
def FL(e:Option cx):Prop:=match e with
 | some e=>e.fz=false
 | none=>False
@[simp] theorem Mg{s:Nat}{es:List SV}{f:Bool}:FL (some ⟨s,es,f⟩)=(f=false):=rfl
@[simp] theorem TM{M:aJ}{k:Nat}:ry M k=FL (ax M k):=by
 unfold ry FL;split<;>simp_all
def YE(ks:List Nat)(x:Option SV):Prop:=match x with
 | some (.ptr k _ _)=>k∈ks
 | _=>True
@[simp] theorem Yw{a i j:Nat}:YE ks (some (.ptr a i j))=(a∈ks):=rfl
@[simp] theorem adH{t:TypeId}{x y:Operand}:okW ks st (.store t x y)=YE ks (ev st.fr x):=by
 simp only[okW,zj];cases ev st.fr x with
 | none=>simp[YE]
 | some v=>cases v<;>simp[YE]
@[simp] theorem adp{t:TypeId}:okW ks st (.alloc t)=True:=rfl
@[simp] theorem aeJ{t:TypeId}{x:Operand}:okW ks st (.box t x)=True:=rfl
@[simp] theorem afr{t:TypeId}{n:Nat}{ps:Array (Nat × Operand)}:okW ks st (.buildSlice t n ps)=True:=rfl
@[simp] theorem afu{t:TypeId}{x y:Operand}:okW ks st (.makeSlice t x y)=True:=rfl
@[simp] theorem afC{t:TypeId}{x y z:Operand}:okW ks st (.mapUpdate t x y z)=∀k∈D0 (ev st.fr x),k∈ks:=rfl
@[simp] theorem ae7{k:Nat}:D0 (some (.mp k))=[k]:=rfl
@[simp] theorem aez{t:TypeId}{x y:Operand}{ok:Bool}:okW ks st (.lookup t x y ok)=True:=rfl
@[simp] theorem aaZ{os:Array Operand}{ts:Array TypeId}:okW ks st (.call ⟨.builtin .len,os,ts⟩)=True:=rfl
@[simp] theorem afx{t:TypeId}{x y z:Operand}{r:Pl}:sL ks r (.mapUpdate t x y z)=True:=rfl
@[simp] theorem afh{t:TypeId}{x y:Operand}{ok:Bool}{r:Pl}:sL ks r (.lookup t x y ok)=True:=rfl
@[simp] theorem Xl{os:Array Operand}{ts:Array TypeId}{r:Pl}:sL ks r (.call ⟨.builtin .len,os,ts⟩)=True:=rfl
@[simp] theorem aaq{os:Array Operand}{ts:Array TypeId}:okW ks st (.call ⟨.builtin .append,os,ts⟩)=True:=rfl
@[simp] theorem acI{t:TypeId}{x y:Operand}{r:Pl}:sL ks r (.store t x y)=True:=rfl
@[simp] theorem ae6{t:TypeId}{r:Pl}:sL ks r (.alloc t)=True:=rfl
@[simp] theorem ads{t:TypeId}{x:Operand}{r:Pl}:sL ks r (.box t x)=True:=rfl
@[simp] theorem afq{t:TypeId}{n:Nat}{ps:Array (Nat × Operand)}{r:Pl}:sL ks r (.buildSlice t n ps)=True:=rfl
@[simp] theorem ab0{t:TypeId}{x y:Operand}{r:Pl}:sL ks r (.makeSlice t x y)=True:=rfl
@[simp] theorem RV{f:FuncId}{os:Array Operand}{ts:Array TypeId}{r:Pl}:sL ks r (.call ⟨.value (.func f),os,ts⟩)=True:=rfl
@[simp] theorem ZD{os:Array Operand}{ts:Array TypeId}{r:Pl}:sL ks r (.call ⟨.builtin .append,os,ts⟩)=(EP os=true∨(m6∈ks∧r.jg=true)):=rfl
@[simp] theorem RH{x:Nat}{l:List Operand}:EP ((Operand.tmp x::l).toArray)=false:=rfl
@[simp] theorem VK{l:List Operand}:EP ((Operand.const (.slice none 0 0)::l).toArray)=true:=rfl
@[simp] theorem US:Pl.jg .nil=true:=rfl
@[simp] theorem adN{r:Pl}:Pl.jg (.q i ks r)=r.jg:=rfl
@[simp] theorem acA{r:Pl}:Pl.jg (.l i ks r)=((ks.isEmpty||ks.contains m6)&&r.jg):=rfl
@[simp] theorem VP{r p:Pl}:Pl.jg (.alt i ks r p)=((ks.isEmpty||ks.contains m6)&&(r.jg&&p.jg)):=rfl
@[simp] theorem Qq:Pl.jg .stop=true:=rfl
@[simp] theorem adZ:nb []=[]:=rfl
@[simp] theorem abq(k:Nat)(ks:List Nat):nb (k::ks)=if k=m6 then nb ks else k::nb ks:=by
 simp only[nb,alX];split<;>split<;>simp_all
@[simp] theorem aeV:m6=1000000:=rfl
@[simp] theorem PW{x:Nat}{os:Array Operand}{ts:Array TypeId}{r:Pl}:sL ks r (.call ⟨.value (.tmp x),os,ts⟩)=True:=rfl
@[simp] theorem QZ{x:Nat}{os:Array Operand}{ts:Array TypeId}:okW ks st (.call ⟨.value (.tmp x),os,ts⟩)=True:=rfl
@[simp] theorem VJ{f:FuncId}{os:Array Operand}{ts:Array TypeId}:okW ks st (.call ⟨.value (.func f),os,ts⟩)=True:=rfl
@[simp] theorem Px{M:aJ}:Pl.there M .nil=True:=rfl
@[simp] theorem Yd{M:aJ}:Pl.there M (.q i ks r)=r.there M:=rfl
def has(o:Option cx):Prop:=match o with
 | some _=>True
 | none=>False
@[simp] theorem TG{e:cx}:has (some e)=True:=rfl
theorem Gr{o:Option cx}:(o≠none)=has o:=by cases o<;>simp[has]
@[simp] theorem Yl{M:aJ}:Pl.there M (.l i ks r)=((m6∈ks∨∀k∈ks,has (ax M k))∧r.there M):=by simp only[Pl.there,Gr]
@[simp] theorem L7{M:aJ}:Pl.there M .stop=True:=rfl
@[simp] theorem Ro{M:aJ}{p:Pl}:Pl.there M (.alt i ks r p)=((m6∈ks∨∀k∈ks,has (ax M k))∧r.there M∧p.there M):=by simp only[Pl.there,Gr]
end
end Go.Sv


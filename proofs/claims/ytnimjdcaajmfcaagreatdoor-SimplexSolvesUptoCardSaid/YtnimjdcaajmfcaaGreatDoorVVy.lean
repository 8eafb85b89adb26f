/- A text of the prover's own. -/
import Derived.Test.YtnimjdcaajmfcaaGreatDoorVVd
open List renaming getElem?_toArray->ayI,replicate->awQ,filter_cons->ayJ
open BitVec renaming ofInt->aw3
namespace Go.Sv
open Go Go.RowKit
/-! what is to come, as data -/
def K(d:Option Tmp)(st:St)(next:St->Prop)(z:SV):Prop:=BV d st.n∧next ⟨st.n,fg d (some z) st.fr,st.M⟩
def KM(d:Option Tmp)(st:St)(next:St->Prop)(M':aC)(pk:List Nat)(x:Option SV):Prop:=BV d st.n∧next ⟨st.n,fg d x (forget pk st.fr),M'⟩
def KJ(d:Option Tmp)(st:St)(ab:St->Prop)(M':aC)(pk:List Nat)(x:SV):Prop:=ab ⟨st.n,fg d (some x) (forget pk st.fr),M'⟩
def nx(P:Program)(C:Ctx)(all:Array Oper)(rest:List Oper)(Q QJ:bf)(st:St):Prop:=gP P C all rest st Q QJ
def nj(P:Program)(C:Ctx)(all:Array Oper)(rest:List Oper)(QJ:bf)(st:St):Prop:=gP P C all rest st QJ QJ
def RA(P:Program)(C:Ctx)(ops:Array Oper)(r:Pl)(Q QJ:bf)(st:St):Prop:=fQ P C ops r st Q QJ
def njP(P:Program)(C:Ctx)(ops:Array Oper)(r:Pl)(QJ:bf)(st:St):Prop:=fQ P C ops r st QJ QJ
def noJ(_:St):Prop:=False
def thS(P:Program)(C:Ctx)(y:Code)(Q QJ:bf):bf:=uI (λst'=>vc P C y st' Q QJ) Q
def thJ(P:Program)(C:Ctx)(y:Code)(QJ:bf):bf:=uI (λst'=>vc P C y st' QJ QJ) QJ
def ik(r:dV)(k:SV->Prop):Prop:=match r with
 | .q c x=>c∧k x
 | _=>False
def I5(r:cK)(k:aC->List Nat->Option SV->Prop):Prop:=match r with
 | .m c M pk x=>c∧k M pk x
 | .stuck=>False
def onO{α:Type}(o:Option α)(k:α->Prop):Prop:=match o with
 | some x=>k x
 | none=>False
@[simp] theorem abd{α:Type}(x:α)(k:α->Prop):onO (some x) k=k x:=rfl
section
variable {P:Program} {C:Ctx} {st:St} {Q QJ:bf} {next ab:St->Prop} {all:Array Oper} {rest:List Oper} {d:Option Tmp} {op:Op} {t:TypeId} {p:String} {af:Array Edge} {g:Option (Nat × Bool)} {W:Option (List Nat)}
@[simp] theorem ajH{c:Prop}{x:SV}{k:SV->Prop}:ik (.q c x) k=(c∧k x):=rfl
@[simp] theorem apF{c:Prop}{M:aC}{pk:List Nat}{x:Option SV}{k:aC->List Nat->Option SV->Prop}:I5 (.m c M pk x) k=(c∧k M pk x):=rfl
@[simp] theorem asE{z:SV}:K d st next z=(BV d st.n∧next ⟨st.n,fg d (some z) st.fr,st.M⟩):=rfl
@[simp] theorem al2{M':aC}{x:Option SV}:KM d st next M' [] x=(BV d st.n∧next ⟨st.n,fg d x st.fr,M'⟩):=by simp[KM,dI]
@[simp] theorem amH{M':aC}{a:Nat}{x:Option SV}:KM d st next M' [a] x=(BV d st.n∧next ⟨st.n,fg d x (forget [a] st.fr),M'⟩):=rfl
@[simp] theorem alO{M':aC}{z:SV}:KJ d st ab M' [] z=ab ⟨st.n,fg d (some z) st.fr,M'⟩:=by simp[KJ,dI]
@[simp] theorem alT{M':aC}{a:Nat}{z:SV}:KJ d st ab M' [a] z=ab ⟨st.n,fg d (some z) (forget [a] st.fr),M'⟩:=rfl
@[simp] theorem anJ:nx P C all rest Q QJ st=gP P C all rest st Q QJ:=rfl
@[simp] theorem alY:nj P C all rest QJ st=gP P C all rest st QJ QJ:=rfl
@[simp] theorem agW{r:Pl}:RA P C all r Q QJ st=fQ P C all r st Q QJ:=rfl
@[simp] theorem ain{r:Pl}:njP P C all r QJ st=fQ P C all r st QJ QJ:=rfl
@[simp] theorem U4{y:Code}:thS P C y Q QJ .normal st=vc P C y st Q QJ:=rfl
@[simp] theorem ajI{y:Code}:thS P C y Q QJ .ret st=Q .ret st:=rfl
@[simp] theorem ac3{y:Code}{id:Nat}:thS P C y Q QJ (.exit id) st=Q (.exit id) st:=rfl
@[simp] theorem WK{y:Code}:thJ P C y QJ .normal st=vc P C y st QJ QJ:=rfl
@[simp] theorem ahL{y:Code}:thJ P C y QJ .ret st=QJ .ret st:=rfl
@[simp] theorem aeh{y:Code}{id:Nat}:thJ P C y QJ (.exit id) st=QJ (.exit id) st:=rfl
@[simp] theorem YJ{y:Code}{c:List PanicEntry}:thJ P C y QJ (.panic c) st=QJ (.panic c) st:=rfl
@[simp] theorem VP{Q1:St->Prop}:uI Q1 Q .normal st=Q1 st:=rfl
@[simp] theorem ajl{Q1:St->Prop}:uI Q1 Q .ret st=Q .ret st:=rfl
@[simp] theorem aeA{Q1:St->Prop}{id:Nat}:uI Q1 Q (.exit id) st=Q (.exit id) st:=rfl
@[simp] theorem Y2{Q1:St->Prop}{c:List PanicEntry}:uI Q1 Q (.panic c) st=Q (.panic c) st:=rfl
@[simp] theorem Vm{id:Nat}:LA id Q .normal st=Q .normal st:=rfl
@[simp] theorem ajy{id:Nat}:LA id Q .ret st=Q .ret st:=rfl
@[simp] theorem adv{id ae:Nat}:LA id Q (.exit ae) st=if ae=id then Q .normal st else Q (.exit ae) st:=rfl
@[simp] theorem Ys{id:Nat}{c:List PanicEntry}:LA id Q (.panic c) st=Q (.panic c) st:=rfl
/-! code -/
@[simp ↓] theorem ag2:vc P C .skip st Q QJ=Q .normal st:=rfl
@[simp ↓] theorem alQ{x y:Code}:vc P C (.seq x y) st Q QJ=vc P C x st (thS P C y Q QJ) (thJ P C y QJ):=rfl
@[simp ↓] theorem abw{id:Nat}{c:Code}:vc P C (.block id c) st Q QJ=vc P C c st (LA id Q) (LA id QJ):=rfl
@[simp ↓] theorem ajG{id:Nat}:vc P C (.exit id) st Q QJ=Q (.exit id) st:=rfl
@[simp ↓] theorem ak4:vc P C .ret st Q QJ=Q .ret st:=rfl
@[simp ↓] theorem YY{id:Nat}{l:List Oper}:vc P C (.region id l.toArray false) st Q QJ=gP P C l.toArray l st Q QJ:=rfl
@[simp ↓] theorem agP{id:Nat}{l:Array Oper}:vc P C (.region id l true) st Q QJ=aa P C (.region id l true) st QJ:=rfl
@[simp ↓] theorem ag8{c:Code}:vc P C (.loop c) st Q QJ=aa P C (.loop c) st QJ:=rfl
def VL(P:Program)(C:Ctx)(v:Option SV)(x y:Code)(st:St)(Q QJ:bf):Prop:=match v with
 | some (.val (.bool b))=>(b=true->vc P C x st Q QJ)∧(b=false->vc P C y st Q QJ)
 | _=>False
@[simp ↓] theorem ahN{c:Operand}{x y:Code}:vc P C (.cond c x y) st Q QJ=VL P C (ev st.fr c) x y st Q QJ:=by
 simp only[vc,VL];cases ev st.fr c with
 | none=>rfl
 | some v=>cases v with
  | val u=>cases u<;>rfl
  | _=>rfl
@[simp] theorem agj{x y:Code}:VL P C (some (.val (.bool true))) x y st Q QJ=vc P C x st Q QJ:=by simp[VL]
@[simp] theorem XK{x y:Code}:VL P C (some (.val (.bool false))) x y st Q QJ=vc P C y st Q QJ:=by simp[VL]
@[simp low] theorem aaS{x y:Code}{b:Bool}:VL P C (some (.val (.bool b))) x y st Q QJ=((b=true->vc P C x st Q QJ)∧(b=false->vc P C y st Q QJ)):=rfl
/-! operations -/
def Ms(P:Program)(C:Ctx)(all:Array Oper)(o:Oper)(rest:List Oper)(b:Bool)(t':Nat)(v:Option SV)(st:St)(Q QJ:bf):Prop:=match v with
 | some (.val (.bool c))=>(c=b->cO P C none o ⟨st.n,(t',.val (.bool b))::st.fr,st.M⟩ (nx P C all rest Q QJ) (nj P C all rest QJ)) ∧
   (c=!b->gP P C all rest ⟨st.n,fO st.n o.dst ((t',.val (.bool (!b)))::st.fr),st.M⟩ Q QJ)
 | some (.bM [])=>gP P C all rest ⟨st.n,fO st.n o.dst st.fr,st.M⟩ Q QJ
 | _=>False
def gdO(P:Program)(C:Ctx)(all:Array Oper)(o:Oper)(rest:List Oper)(b:Bool)(t':Option Nat)(st:St)(Q QJ:bf):Prop:=match t' with
 | some t'=>Ms P C all o rest b t' (get st.fr t') st Q QJ
 | none=>False
def pR:List Oper->Nat->Option Nat
 | [],_=>none
 | ⟨d,_,_,_,_,_⟩::_,0=>d
 | _::l,n+1=>pR l n
theorem CV{l:List Oper}{j:Nat}:rK l.toArray j=pR l j:=by
 simp only[rK,ayI]
 induction l generalizing j with
 | nil=>rfl
 | cons x l ih=>cases j with
  | zero=>rfl
  | succ j=>simpa[pR]using ih
@[simp ↓] theorem aac:gP P C all [] st Q QJ=Q .normal st:=rfl
@[simp ↓] theorem Ur:gP P C all (⟨d,op,t,p,af,none⟩::rest) st Q QJ=cO P C none ⟨d,op,t,p,af,none⟩ st (nx P C all rest Q QJ) (nj P C all rest QJ):=rfl
@[simp ↓] theorem TW{l:List Oper}{j:Nat}{b:Bool}:gP P C l.toArray (⟨d,op,t,p,af,some (j,b)⟩::rest) st Q QJ=gdO P C l.toArray ⟨d,op,t,p,af,some (j,b)⟩ rest b (pR l j) st Q QJ:=by
 simp only[gP,gdO];rw[CV];cases pR l j with
 | none=>rfl
 | some t' =>
  simp only[Ms];cases get st.fr t' with
  | none=>rfl
  | some v=>cases v with
   | val u=>cases u<;>rfl
   | bM l=>cases l<;>rfl
   | _=>rfl
@[simp] theorem aaH{o:Oper}{b:Bool}{t':Nat}:gdO P C all o rest b (some t') st Q QJ=Ms P C all o rest b t' (get st.fr t') st Q QJ:=rfl
@[simp low] theorem aah{o:Oper}{b c:Bool}{t':Nat}:Ms P C all o rest b t' (some (.val (.bool c))) st Q QJ =
  ((c=b->cO P C none o ⟨st.n,(t',.val (.bool b))::st.fr,st.M⟩ (nx P C all rest Q QJ) (nj P C all rest QJ))∧(c=!b->gP P C all rest ⟨st.n,fO st.n o.dst ((t',.val (.bool (!b)))::st.fr),st.M⟩ Q QJ)):=rfl
@[simp] theorem anY{o:Oper}{t':Nat}:Ms P C all o rest true t' (some (.val (.bool true))) st Q QJ=cO P C none o ⟨st.n,(t',.val (.bool true))::st.fr,st.M⟩ (nx P C all rest Q QJ) (nj P C all rest QJ):=by simp[Ms]
@[simp] theorem ano{o:Oper}{t':Nat}:Ms P C all o rest false t' (some (.val (.bool false))) st Q QJ=cO P C none o ⟨st.n,(t',.val (.bool false))::st.fr,st.M⟩ (nx P C all rest Q QJ) (nj P C all rest QJ):=by simp[Ms]
@[simp] theorem amN{t':Nat}:Ms P C all ⟨d,op,t,p,af,g⟩ rest true t' (some (.val (.bool false))) st Q QJ=gP P C all rest ⟨st.n,fO st.n d ((t',.val (.bool false))::st.fr),st.M⟩ Q QJ:=by simp[Ms]
@[simp] theorem alR{t':Nat}:Ms P C all ⟨d,op,t,p,af,g⟩ rest false t' (some (.val (.bool true))) st Q QJ=gP P C all rest ⟨st.n,fO st.n d ((t',.val (.bool true))::st.fr),st.M⟩ Q QJ:=by simp[Ms]
@[simp] theorem aam{b:Bool}{t':Nat}:Ms P C all ⟨d,op,t,p,af,g⟩ rest b t' (some (.bM [])) st Q QJ=gP P C all rest ⟨st.n,fO st.n d st.fr,st.M⟩ Q QJ:=rfl
theorem iw(hm:∀fx M fr,HO P fx M fr op=.stuck)(hc:∀f args ts,op≠.call ⟨.value f,args,ts⟩):cO P C W ⟨d,op,t,p,af,g⟩ st next ab=ik (EZ P st.M st.fr op) (K d st next):=by
 unfold cO ik;cases h:EZ P st.M st.fr op with
 | q c x=>rfl
 | stuck =>
  simp only[hm];all_goals first
   | rfl
   | ((try dsimp only);split<;>first | rfl | exact absurd rfl (hc _ _ _))
 | m a b c =>
  simp only[hm];all_goals first
   | rfl
   | ((try dsimp only);split<;>first | rfl | exact absurd rfl (hc _ _ _))
theorem pI(hq:∀M fr,EZ P M fr op=.stuck)(hc:∀f args ts,op≠.call ⟨.value f,args,ts⟩):cO P C W ⟨d,op,t,p,af,g⟩ st next ab=I5 (HO P C.fx st.M st.fr op) (KM d st next):=by
 unfold cO I5;simp only[hq];cases h:HO P C.fx st.M st.fr op with
 | m c M' pk x=>rfl
 | stuck =>
  all_goals first
   | rfl
   | ((try dsimp only);split<;>first | rfl | exact absurd rfl (hc _ _ _))
def WT(x:Option SV):dV:=match x with
 | some x=>.q True x
 | none=>.stuck
@[simp] theorem ads{x:SV}:WT (some x)=.q True x:=rfl
def evp(fr:List (Nat × SV))(l:List (Nat × Operand)):List (Nat × Option SV):=l.map λq=>(q.1,ev fr q.2)
@[simp] theorem aiP{fr:List (Nat × SV)}:evp fr []=[]:=rfl
@[simp] theorem aa6{fr:List (Nat × SV)}{i:Nat}{o:Operand}{r:List (Nat × Operand)}:evp fr ((i,o)::r)=(i,ev fr o)::evp fr r:=rfl
@[simp ↓] theorem YT{x:Operand}:cO P C W ⟨d,.move x,t,p,af,g⟩ st next ab=ik (WT (ev st.fr x)) (K d st next):=by rw[iw (λ_ _ _=>rfl) (λ_ _ _=>by simp)];simp only[EZ];cases ev st.fr x<;>rfl
@[simp ↓] theorem TO{x:Operand}:cO P C W ⟨d,.assign x,t,p,af,g⟩ st next ab=ik (WT (ev st.fr x)) (K d st next):=by rw[iw (λ_ _ _=>rfl) (λ_ _ _=>by simp)];simp only[EZ];cases ev st.fr x<;>rfl
@[simp ↓] theorem ZH{c x y:Operand}:cO P C W ⟨d,.pick c x y,t,p,af,g⟩ st next ab=ik (zX (ev st.fr c) (ev st.fr x) (ev st.fr y)) (K d st next):=by rw[iw (λ_ _ _=>rfl) (λ_ _ _=>by simp)];rfl
@[simp ↓] theorem aao{op:BinOp}{t1 t2:TypeId}{x y:Operand}:cO P C W ⟨d,.binOp op t1 x y t2,t,p,af,g⟩ st next ab=ik (z8 P op t1 (ev st.fr x) y (ev st.fr y)) (K d st next):=by rw[iw (λ_ _ _=>rfl) (λ_ _ _=>by simp)];rfl
@[simp ↓] theorem akp{op:UnOp}{t1:TypeId}{x:Operand}:cO P C W ⟨d,.unOp op t1 x,t,p,af,g⟩ st next ab=ik (ON op (ev st.fr x)) (K d st next):=by rw[iw (λ_ _ _=>rfl) (λ_ _ _=>by simp)];rfl
@[simp ↓] theorem ZU{t1 t2:TypeId}{x:Operand}:cO P C W ⟨d,.convert t1 t2 x,t,p,af,g⟩ st next ab=ik (uj P st.M (an P t1) (an P t2) (ev st.fr x)) (K d st next):=by rw[iw (λ_ _ _=>rfl) (λ_ _ _=>by simp)];rfl
@[simp ↓] theorem adm{x:Operand}:cO P C W ⟨d,.nilCheck x,t,p,af,g⟩ st next ab=ik (F6 (ev st.fr x)) (K d st next):=by rw[iw (λ_ _ _=>rfl) (λ_ _ _=>by simp)];rfl
@[simp ↓] theorem abL{x:Operand}{i:Nat}:cO P C W ⟨d,.extract x i,t,p,af,g⟩ st next ab=ik (sI (ev st.fr x) i) (K d st next):=by rw[iw (λ_ _ _=>rfl) (λ_ _ _=>by simp)];rfl
@[simp ↓] theorem ai9{t1:TypeId}{x:Operand}{f:Nat}:cO P C W ⟨d,.fieldAddr t1 x f,t,p,af,g⟩ st next ab=ik (gy (an P t1) (ev st.fr x) f) (K d st next):=by rw[iw (λ_ _ _=>rfl) (λ_ _ _=>by simp)];rfl
@[simp ↓] theorem ahT{t1:TypeId}{x i:Operand}:cO P C W ⟨d,.indexAddr t1 x i,t,p,af,g⟩ st next ab=ik (gn P st.M (an P t1) (ev st.fr x) (ev st.fr i)) (K d st next):=by rw[iw (λ_ _ _=>rfl) (λ_ _ _=>by simp)];rfl
@[simp ↓] theorem aip{t1:TypeId}{x i:Operand}:cO P C W ⟨d,.index t1 x i,t,p,af,g⟩ st next ab=ik (vz (an P t1) (ev st.fr x) (ev st.fr i)) (K d st next):=by rw[iw (λ_ _ _=>rfl) (λ_ _ _=>by simp)];rfl
@[simp ↓] theorem ai1{t1:TypeId}{x:Operand}:cO P C W ⟨d,.load t1 x,t,p,af,g⟩ st next ab=ik (jx st.M (an P t1) (ev st.fr x)) (K d st next):=by rw[iw (λ_ _ _=>rfl) (λ_ _ _=>by simp)];rfl
@[simp ↓] theorem aif{t1:TypeId}{x:Operand}:cO P C W ⟨d,.makeInterface t1 x,t,p,af,g⟩ st next ab=ik (zl (an P t1) t1 (ev st.fr x)) (K d st next):=by rw[iw (λ_ _ _=>rfl) (λ_ _ _=>by simp)];rfl
@[simp ↓] theorem ah4{t1:TypeId}{l:List (Nat × Operand)}:cO P C W ⟨d,.build t1 l.toArray,t,p,af,g⟩ st next ab=ik (rR (an P t1) (evp st.fr l)) (K d st next):=by rw[iw (λ_ _ _=>rfl) (λ_ _ _=>by simp)];rfl
def yx(M:aC)(d:Option Tmp)(st:St)(next:St->Prop)(ti:Option TI)(x:Option SV):Prop:=match qV ti x with
 | .q c x=>c∧K d st next x
 | _=>I5 (gQ M ti x) (KM d st next)
@[simp ↓] theorem afj{o:Operand}{t1:TypeId}:cO P C W ⟨d,.call ⟨.builtin .len,[o].toArray,[t1].toArray⟩,t,p,af,g⟩ st next ab=yx st.M d st next (an P t1) (ev st.fr o):=by
 unfold cO yx I5;simp only[EZ,HO,sQ,List.map_cons,List.map_nil,ayI,List.getElem?_cons_zero,Option.bind_some];cases qV (an P t1) (ev st.fr o)with
 | q c x=>rfl
 | stuck=>simp only;cases gQ st.M (an P t1) (ev st.fr o)<;>rfl
 | m a b c=>simp only;cases gQ st.M (an P t1) (ev st.fr o)<;>rfl
@[simp] theorem age{M:aC}{e s b:Nat}{z:List SV}{x:Option SV}:yx M d st next (some ⟨.sl e,s,b,z⟩) x=ik (qV (some ⟨.sl e,s,b,z⟩) x) (K d st next):=by unfold yx ik;cases qV (some ⟨.sl e,s,b,z⟩) x<;>rfl
@[simp] theorem Y3{M:aC}{s b:Nat}{z:List SV}{x:Option SV}:yx M d st next (some ⟨.str,s,b,z⟩) x=ik (qV (some ⟨.str,s,b,z⟩) x) (K d st next):=by unfold yx ik;cases qV (some ⟨.str,s,b,z⟩) x<;>rfl
@[simp] theorem acs{M:aC}{k e s b:Nat}{z:List SV}{x:Option SV}:yx M d st next (some ⟨.mp k e,s,b,z⟩) x=I5 (gQ M (some ⟨.mp k e,s,b,z⟩) x) (KM d st next):=by unfold yx;rfl
@[simp ↓] theorem aa0{a b:Operand}{ts:Array TypeId}:cO P C W ⟨d,.call ⟨.builtin .min,[a,b].toArray,ts⟩,t,p,af,g⟩ st next ab=ik (oX false (ev st.fr a) (ev st.fr b)) (K d st next):=by rw[iw (λ_ _ _=>rfl) (λ_ _ _=>by simp)];rfl
def Pe(fr:List (Nat × SV))(o:Option Operand):Option (Option SV):=o.map (ev fr)
@[simp] theorem YI{fr:List (Nat × SV)}:Pe fr none=none:=rfl
@[simp] theorem YQ{fr:List (Nat × SV)}{o:Operand}:Pe fr (some o)=some (ev fr o):=rfl
@[simp ↓] theorem ajo{t1:TypeId}{x:Operand}{lo hi:Option Operand}:cO P C W ⟨d,.slice t1 x lo hi none,t,p,af,g⟩ st next ab=ik (kv P st.M (an P t1) (ev st.fr x) (Pe st.fr lo) (Pe st.fr hi) none) (K d st next):=by rw[iw (λ_ _ _=>rfl) (λ_ _ _=>by simp)];rfl
@[simp ↓] theorem akc{t1:TypeId}{x y:Operand}:cO P C W ⟨d,.store t1 x y,t,p,af,g⟩ st next ab=I5 (pE st.M (an P t1) (ev st.fr x) (ev st.fr y)) (KM d st next):=by rw[pI (λ_ _=>rfl) (λ_ _ _=>by simp)];rfl
@[simp ↓] theorem aiJ{t1:TypeId}:cO P C W ⟨d,.alloc t1,t,p,af,g⟩ st next ab=I5 (sK st.M (an P t1)) (KM d st next):=by rw[pI (λ_ _=>rfl) (λ_ _ _=>by simp)];rfl
@[simp ↓] theorem aio{t1:TypeId}{x:Operand}:cO P C W ⟨d,.box t1 x,t,p,af,g⟩ st next ab=I5 (Db st.M (an P t1) (ev st.fr x)) (KM d st next):=by rw[pI (λ_ _=>rfl) (λ_ _ _=>by simp)];rfl
@[simp ↓] theorem ag5{t1:TypeId}{len:Nat}{l:List (Nat × Operand)}:cO P C W ⟨d,.buildSlice t1 len l.toArray,t,p,af,g⟩ st next ab=I5 (gI P st.M (an P t1) len (evp st.fr l)) (KM d st next):=by rw[pI (λ_ _=>rfl) (λ_ _ _=>by simp)];rfl
@[simp ↓] theorem agI{t1:TypeId}{l c:Operand}:cO P C W ⟨d,.makeSlice t1 l c,t,p,af,g⟩ st next ab=I5 (iA P st.M (an P t1) (ev st.fr l) (ev st.fr c)) (KM d st next):=by rw[pI (λ_ _=>rfl) (λ_ _ _=>by simp)];rfl
@[simp ↓] theorem ahY{b x:Operand}{t1 t2:TypeId}:cO P C W ⟨d,.call ⟨.builtin .append,[b,x].toArray,[t1,t2].toArray⟩,t,p,af,g⟩ st next ab=I5 (jf P C.fx st.M (an P t1) (an P t2) (ev st.fr b) (ev st.fr x)) (KM d st next):=by rw[pI (λ_ _=>rfl) (λ_ _ _=>by simp)];rfl
@[simp ↓] theorem agC{t1:TypeId}{x i:Operand}{ok:Bool}:cO P C W ⟨d,.lookup t1 x i ok,t,p,af,g⟩ st next ab=I5 (mc P st.M (an P t1) (ev st.fr x) (ev st.fr i) ok) (KM d st next):=by rw[pI (λ_ _=>rfl) (λ_ _ _=>by simp)];rfl
@[simp ↓] theorem agV{t1:TypeId}{m i x:Operand}:cO P C W ⟨d,.mapUpdate t1 m i x,t,p,af,g⟩ st next ab=I5 (kO P st.M (an P t1) (ev st.fr m) (ev st.fr i) (ev st.fr x)) (KM d st next):=by rw[pI (λ_ _=>rfl) (λ_ _ _=>by simp)];rfl
@[simp ↓] theorem aia{t1:TypeId}{n:Option Operand}:cO P C W ⟨d,.makeMap t1 n,t,p,af,g⟩ st next ab=I5 (ki st.M (an P t1) (Pe st.fr n)) (KM d st next):=by rw[pI (λ_ _=>rfl) (λ_ _ _=>by simp)];rfl
def N1(P:Program)(C:Ctx)(f:FuncId)(W:Option (List Nat))(xs:Option (List SV))(d:Option Tmp)(st:St)(ab:St->Prop):Prop:=match xs with
 | some xs=>au P f∧BV d st.n∧dK P C f xs st.M W (KJ d st ab)
 | none=>False
@[simp] theorem Tz{f:FuncId}{xs:List SV}:N1 P C f W (some xs) d st ab=(au P f∧BV d st.n∧dK P C f xs st.M W (KJ d st ab)):=rfl
@[simp ↓] theorem aab{f:FuncId}{l:List Operand}{ts:Array TypeId}:cO P C W ⟨d,.call ⟨.value (.func f),l.toArray,ts⟩,t,p,af,g⟩ st next ab=N1 P C f W (BL st.fr l) d st ab:=by unfold cO;simp only[EZ,HO];cases BL st.fr l<;>rfl
def Vz(P:Program)(C:Ctx)(W:Option (List Nat))(x:Option SV)(xs:Option (List SV))(d:Option Tmp)(st:St)(ab:St->Prop):Prop:=match x,xs with
 | some (.j7 f l r),some xs=>au P f∧BV d st.n∧dK P C f (l++xs++r) st.M W (KJ d st ab)
 | _,_=>False
@[simp] theorem Z6{f:FuncId}{l r xs:List SV}:Vz P C W (some (.j7 f l r)) (some xs) d st ab=(au P f∧BV d st.n∧dK P C f (l++xs++r) st.M W (KJ d st ab)):=rfl
@[simp ↓] theorem Va{x:Nat}{l:List Operand}{ts:Array TypeId}:cO P C W ⟨d,.call ⟨.value (.tmp x),l.toArray,ts⟩,t,p,af,g⟩ st next ab=Vz P C W (get st.fr x) (BL st.fr l) d st ab:=by
 unfold cO Vz;simp only[EZ,HO];cases get st.fr x with
 | none=>rfl
 | some v=>cases v<;>cases BL st.fr l<;>rfl
@[simp ↓] theorem agH{f:FuncId}{l r:List Operand}:cO P C W ⟨d,.makeFunc (.func f) l.toArray r.toArray,t,p,af,g⟩ st next ab=ik (SE f (BL st.fr l) (BL st.fr r)) (K d st next):=by rw[iw (λ_ _ _=>rfl) (λ_ _ _=>by simp)];rfl
@[simp] theorem Yy{f:FuncId}{l r:List SV}:SE f (some l) (some r)=.q True (.j7 f l r):=rfl
end
/-! what the quiet operations make -/
section
variable (P:Program) (M:aC) (ti ai:TI) (κ κ':IntKind) (m n:Int) (a b i j s f:Nat) (x y:SV) (z es l:List SV) (el:TypeId) (fs:List (Nat × Nat × TypeId)) (u v:Option SV)
@[simp] theorem TG:zX (some (.val (.bool true))) u v=WT u:=by cases u<;>rfl
@[simp] theorem Ss:zX (some (.val (.bool false))) u v=WT v:=by cases v<;>rfl
@[simp] theorem ahy(ti:Option TI):cE .add ti (some (.val (.int κ m))) (some (.val (.int κ n)))=.q (True) (.val (.int κ (κ.wrap (m+n)))):=by simp[cE,sR,iV]
@[simp] theorem aj6(ti:Option TI):cE .sub ti (some (.val (.int κ m))) (some (.val (.int κ n)))=.q (True) (.val (.int κ (κ.wrap (m - n)))):=by simp[cE,sR,iV]
@[simp] theorem aim(ti:Option TI):cE .mul ti (some (.val (.int κ m))) (some (.val (.int κ n)))=.q (True) (.val (.int κ (κ.wrap (m*n)))):=by simp[cE,sR,iV]
@[simp] theorem ahb(ti:Option TI):cE .quo ti (some (.val (.int κ m))) (some (.val (.int κ n)))=.q (n≠0) (.val (.int κ (κ.wrap (m.tdiv n)))):=by simp[cE,sR,iV]
@[simp] theorem ahv(ti:Option TI):cE .rem ti (some (.val (.int κ m))) (some (.val (.int κ n)))=.q (n≠0) (.val (.int κ (m.tmod n))):=by simp[cE,sR,iV]
def wH(op:BinOp)(κ:IntKind)(m n:Int):Int:=match op with
 | .and=>κ.wrap (aw3 κ.bits m &&& aw3 κ.bits n).toNat
 | .or=>κ.wrap (aw3 κ.bits m ||| aw3 κ.bits n).toNat
 | _=>κ.wrap (aw3 κ.bits m ^^^ aw3 κ.bits n).toNat
@[simp] theorem ai2(ti:Option TI):cE .and ti (some (.val (.int κ m))) (some (.val (.int κ n)))=.q (True) (.val (.int κ (wH .and κ m n))):=by simp[cE,sR,iV,wH]
@[simp] theorem alk(ti:Option TI):cE .or ti (some (.val (.int κ m))) (some (.val (.int κ n)))=.q (True) (.val (.int κ (wH .or κ m n))):=by simp[cE,sR,iV,wH]
@[simp] theorem ajv(ti:Option TI):cE .eql ti (some (.val (.int κ m))) (some (.val (.int κ n)))=.q (True) (.val (.bool (decide (m=n)))):=by simp[cE,sR,iV]
@[simp] theorem aiN(ti:Option TI):cE .neq ti (some (.val (.int κ m))) (some (.val (.int κ n)))=.q (True) (.val (.bool (decide (m≠n)))):=by simp[cE,sR,iV]
@[simp] theorem aie(ti:Option TI):cE .lss ti (some (.val (.int κ m))) (some (.val (.int κ n)))=.q (True) (.val (.bool (decide (m<n)))):=by simp[cE,sR,iV]
@[simp] theorem aiC(ti:Option TI):cE .leq ti (some (.val (.int κ m))) (some (.val (.int κ n)))=.q (True) (.val (.bool (decide (m<=n)))):=by simp[cE,sR,iV]
@[simp] theorem ahH(ti:Option TI):cE .gtr ti (some (.val (.int κ m))) (some (.val (.int κ n)))=.q (True) (.val (.bool (decide (n<m)))):=by simp[cE,sR,iV]
@[simp] theorem ah9(ti:Option TI):cE .geq ti (some (.val (.int κ m))) (some (.val (.int κ n)))=.q (True) (.val (.bool (decide (n<=m)))):=by simp[cE,sR,iV]
@[simp] theorem agF(ti:Option TI):cE .shl ti (some (.val (.int κ m))) (some (.val (.int κ' n)))=.q (0<=n) (.val (.int κ (κ.wrap (m*2^(min n.toNat κ.bits))))):=by simp[cE,sR,Gk]
@[simp] theorem agR(ti:Option TI):cE .shr ti (some (.val (.int κ m))) (some (.val (.int κ' n)))=.q (0<=n) (.val (.int κ (m / (2^(min n.toNat κ.bits))))):=by have:m.fdiv (2^(min n.toNat κ.bits))=m / (2^(min n.toNat κ.bits)):=Int.fdiv_eq_ediv_of_nonneg _ (Int.le_of_lt (Int.pow_pos (by omega)));simp[cE,sR,Gk,this]
@[simp] theorem aaf(x y:Bool):cE .eql (some ⟨.bool,s,b,z⟩) (some (.val (.bool x))) (some (.val (.bool y)))=.q True (.val (.bool (x==y))):=by simp[cE]
@[simp] theorem ack(x y:Bool):cE .neq (some ⟨.bool,s,b,z⟩) (some (.val (.bool x))) (some (.val (.bool y)))=.q True (.val (.bool (!(x==y)))):=by simp[cE]
@[simp] theorem abC(ti:Option TI)(x y:ByteArray):cE .add ti (some (.val (.string x))) (some (.val (.string y)))=.q (x.size+y.size<=9223372036854775807) (.val (.string (x++y))):=by simp[cE,w6]
@[simp] theorem agb(ti:Option TI)(x y:ByteArray):cE .eql ti (some (.val (.string x))) (some (.val (.string y)))=.q True (.val (.bool (decide (x=y)))):=by simp[cE,w6]
@[simp] theorem abQ(ti:Option TI)(x y:ByteArray):cE .neq ti (some (.val (.string x))) (some (.val (.string y)))=.q True (.val (.bool (decide (x≠y)))):=by simp[cE,w6]
def OL(x:SV):Prop:=x.isAgg=false
@[simp] theorem YA(x:SV):OL x=(x.isAgg=false):=propext Iff.rfl
@[simp] theorem afS{op:BinOp}{t:TypeId}{x:SV}{oy:Operand}{y:Option SV}(h:OL x):z8 P op t (some x) oy y=pJ op (an P t) (some x) oy y:=by cases x<;>first | rfl | exact Bool.noConfusion h
@[simp] theorem aet{op:BinOp}{t:TypeId}{v:Value}{oy:Operand}{y:Option SV}:z8 P op t (some (.val v)) oy y=pJ op (an P t) (some (.val v)) oy y:=rfl
@[simp] theorem afU{op:BinOp}{ti:Option TI}{x y:Option SV}{k:Nat}:pJ op ti x (.tmp k) y=cE op ti x y:=rfl
@[simp] theorem afr{op:BinOp}{ti:Option TI}{x y:Option SV}{κ:IntKind}{n:Int}:pJ op ti x (.const (.int κ n)) y=cE op ti x y:=rfl
@[simp] theorem abt{op:BinOp}{ti:Option TI}{x y:Option SV}{n:ByteArray}:pJ op ti x (.const (.string n)) y=cE op ti x y:=rfl
@[simp] theorem ZG{op:BinOp}{ti:Option TI}{x y:Option SV}:pJ op ti x (.const (.pointer none)) y=cE op ti x y:=rfl
@[simp] theorem To{x:SV}{j:Nat}{e:TypeId}:cE .eql (some ⟨.ptr e,s,b,z⟩) (some (.dG x j)) (some (.val (.pointer none)))=.q True (.bool false):=rfl
@[simp] theorem Rw{e:TypeId}:cE .eql (some ⟨.ptr e,s,b,z⟩) (some (.val (.pointer none))) (some (.val (.pointer none)))=.q True (.bool true):=rfl
@[simp] theorem aa7{op:BinOp}{ti:Option TI}{x y:Option SV}:pJ op ti x (.const .nilIface) y=kE op ti x:=rfl
@[simp] theorem akb:kE .eql (some ⟨.iface,s,b,z⟩) (some (.val .nilIface))=.q True (.bool true):=rfl
@[simp] theorem ai8:kE .neq (some ⟨.iface,s,b,z⟩) (some (.val .nilIface))=.q True (.bool false):=rfl
@[simp] theorem agy{t:TypeId}{x:SV}:kE .eql (some ⟨.iface,s,b,z⟩) (some (.ju t x))=.q True (.bool false):=rfl
@[simp] theorem ahM{t:TypeId}{x:SV}:kE .neq (some ⟨.iface,s,b,z⟩) (some (.ju t x))=.q True (.bool true):=rfl
@[simp] theorem ajP{t g:Nat}:kE .eql (some ⟨.iface,s,b,z⟩) (some (.fT t g))=.q True (.bool false):=rfl
@[simp] theorem aj9{t g:Nat}:kE .neq (some ⟨.iface,s,b,z⟩) (some (.fT t g))=.q True (.bool true):=rfl
@[simp] theorem akY:ON .neg (some (.val (.int κ n)))=.q True (.val (.int κ (κ.wrap (0 - n)))):=rfl
@[simp] theorem alm(b:Bool):ON .not (some (.val (.bool b)))=.q True (.val (.bool (!b))):=rfl
@[simp] theorem aaR{M:aC}:uj P M (some ti) (some ⟨.int κ,s,b,z⟩) (some (.val (.int κ' n)))=.q True (.val (.int κ (κ.wrap n))):=by
 unfold uj;split
 ·rename_i h;cases h
 ·rfl
@[simp] theorem adq{M:aC}{el:TypeId}{x:Option SV}{s' b':Nat}{z':List SV}:uj P M (some ⟨.sl el,s,b,z⟩) (some ⟨.str,s',b',z'⟩) x=C4 M (an P el) x:=rfl
def WL(i n:Nat)(e:Option cJ):dV:=match e with
 | some e=>.q (e.sz=1∧i+n<=e.es.length∧((e.es.drop i).take n).all pf=true) (.val (.string (strOf ((e.es.drop i).take n))))
 | none=>.stuck
@[simp] theorem Yn{i n:Nat}{e:cJ}:WL i n (some e)=.q (e.sz=1∧i+n<=e.es.length∧((e.es.drop i).take n).all pf=true) (.val (.string (strOf ((e.es.drop i).take n)))):=rfl
@[simp] theorem aeD{M:aC}{k i n:Nat}:C4 M (some ⟨.int .u8,s,b,z⟩) (some (.view k i n))=WL i n (aA M k):=by simp only[C4,WL];cases aA M k<;>rfl
@[simp] theorem ahO:F6 (some (.ptr a i j))=.q True (.ptr a i j):=rfl
@[simp] theorem akh:F6 (some (.dG x j))=.q True (.dG x j):=rfl
@[simp] theorem akd:sI (some (.bM l)) i=.q (i<l.length) (aM l i):=rfl
def faP(a i j:Nat)(q:Option (Nat × Nat × TypeId)):dV:=match q with
 | some (off,sz,_)=>if sz=0 then .stuck else .q True (.ptr a i (j+off))
 | none=>.stuck
def faR(x:SV)(j:Nat)(q:Option (Nat × Nat × TypeId)):dV:=match q with
 | some (off,sz,_)=>if sz=0 then .stuck else .q True (.dG x (j+off))
 | none=>.stuck
@[simp] theorem aap(off sz:Nat)(t:TypeId):faP a i j (some (off,sz,t))=if sz=0 then .stuck else .q True (.ptr a i (j+off)):=rfl
@[simp] theorem aga(off sz:Nat)(t:TypeId):faR x j (some (off,sz,t))=if sz=0 then .stuck else .q True (.dG x (j+off)):=rfl
@[simp] theorem am8:gy (some ⟨.st fs,s,b,z⟩) (some (.ptr a i j)) f=faP a i j (qJ fs f):=by simp only[gy,faP];cases qJ fs f<;>rfl
@[simp] theorem akx:gy (some ⟨.st fs,s,b,z⟩) (some (.dG x j)) f=faR x j (qJ fs f):=by simp only[gy,faR];cases qJ fs f<;>rfl
def fdA(l:List SV)(off:Nat)(tf:Option TI):dV:=match tf with
 | some tf=>if tf.k.isAgg=true then .q (off+tf.size<=l.length) (.agg ((l.drop off).take tf.size)) else .q (off<l.length) (aM l off)
 | none=>.stuck
def fdB(P:Program)(l:List SV)(q:Option (Nat × Nat × TypeId)):dV:=match q with
 | some (off,_,ft)=>fdA l off (an P ft)
 | none=>.stuck
def iaR(es:List SV)(n:Int)(te:Option TI):dV:=match te with
 | some te=>.q (0<=n∧n<es.length∧(aM es n.toNat).ir=te.size∧(aM es n.toNat).aW=false) (.dG (aM es n.toNat) 0)
 | none=>.stuck
@[simp] theorem acx:iaR es n (some ti)=.q (0<=n∧n<es.length∧(aM es n.toNat).ir=ti.size∧(aM es n.toNat).aW=false) (.dG (aM es n.toNat) 0):=rfl
@[simp] theorem asO:gn P M (some ⟨.sl el,s,b,z⟩) (some (.ro es)) (some (.val (.int κ n)))=iaR es n (an P el):=by simp only[gn,iaR];cases an P el<;>rfl
def iaV(a i m:Nat)(n:Int)(te:Option TI)(e:Option cJ):dV:=match te,e with
 | some te,some e=>if e.sz=te.size then .q (0<=n∧n<m) (.ptr a (i+n.toNat) 0) else .stuck
 | _,_=>.stuck
@[simp] theorem adi(k:Nat)(fz:Bool):iaV a i k n (some ti) (some ⟨s,es,fz⟩)=if s=ti.size then .q (0<=n∧n<k) (.ptr a (i+n.toNat) 0) else .stuck:=rfl
@[simp] theorem aiG(k:Nat):gn P M (some ⟨.sl el,s,b,z⟩) (some (.view a i k)) (some (.val (.int κ n)))=iaV a i k n (an P el) (aA M a):=by simp only[gn,iaV];cases an P el<;>cases aA M a<;>rfl
@[simp] theorem an3(q:ByteArray):vz (some ⟨.str,s,b,z⟩) (some (.val (.string q))) (some (.val (.int κ n)))=.q (0<=n∧n<q.size) (.val (.int .u8 (eL q n.toNat).toNat)):=rfl
def ldP(ti:TI)(i j:Nat)(e:Option cJ):dV:=match e with
 | some e=>.q (i<e.es.length∧(aM e.es i).aW=false∧j+ti.size<=(aM e.es i).ir) (pg ti (aM e.es i) j)
 | none=>.stuck
@[simp] theorem abD(fz:Bool):ldP ti i j (some ⟨s,es,fz⟩)=.q (i<es.length∧(aM es i).aW=false∧j+ti.size<=(aM es i).ir) (pg ti (aM es i) j):=rfl
@[simp] theorem amF:jx M (some ti) (some (.ptr a i j))=ldP ti i j (aA M a):=by simp only[jx,ldP];cases aA M a<;>rfl
@[simp] theorem aln:jx M (some ti) (some (.dG x j))=.q (x.aW=false∧j+ti.size<=x.ir) (pg ti x j):=rfl
@[simp] theorem alE:qV (some ⟨.sl el,s,b,z⟩) (some (.ro es))=.q True (.val (.int .i64 es.length)):=rfl
@[simp] theorem aec(k:Nat):qV (some ⟨.sl el,s,b,z⟩) (some (.view a i k))=.q True (.val (.int .i64 k)):=rfl
@[simp] theorem agv(q:ByteArray):qV (some ⟨.str,s,b,z⟩) (some (.val (.string q)))=.q True (.val (.int .i64 q.size)):=rfl
@[simp] theorem ala:oX false (some (.val (.int κ m))) (some (.val (.int κ' n)))=.q True (.val (.int κ (min m n))):=by simp only[oX,Bool.false_eq_true,if_false];congr 3;omega
@[simp] theorem V9(k:Int):gu none k=some k:=rfl
@[simp] theorem XR(k:Int):gu (some (some (.val (.int κ n)))) k=some n:=rfl
def slS(q:ByteArray)(l h:Option Int):dV:=match l,h with
 | some l,some h=>.q (0<=l∧l<=h∧h<=q.size) (.val (.string (q.extract l.toNat h.toNat)))
 | _,_=>.stuck
@[simp] theorem acD(q:ByteArray):slS q (some m) (some n)=.q (0<=m∧m<=n∧n<=q.size) (.val (.string (q.extract m.toNat n.toNat))):=rfl
@[simp] theorem amY(q:ByteArray)(lo hi:Option (Option SV)):kv P M (some ⟨.str,s,b,z⟩) (some (.val (.string q))) lo hi none=slS q (gu lo 0) (gu hi q.size):=by simp only[kv,slS];cases gu lo 0<;>cases gu hi q.size<;>rfl
def D8(s:Nat)(es:List SV):Prop:=es≠[]->(aM es 0).ir=s∧(aM es 0).aW=false
def slR(es:List SV)(l h:Option Int)(te:Option TI):dV:=match l,h,te with
 | some l,some h,some te=>.q (0<=l∧l<=h∧h<=es.length∧D8 te.size es) (.ro ((es.take h.toNat).drop l.toNat))
 | _,_,_=>.stuck
@[simp] theorem aeQ:slR es (some m) (some n) (some ti)=.q (0<=m∧m<=n∧n<=es.length∧D8 ti.size es) (.ro ((es.take n.toNat).drop m.toNat)):=rfl
@[simp] theorem arB(lo hi:Option (Option SV)):kv P M (some ⟨.sl el,s,b,z⟩) (some (.ro es)) lo hi none=slR es (gu lo 0) (gu hi es.length) (an P el):=by
 simp only[kv,slR];split
 ·simp[D8, *]
 ·split<;>simp_all
def slV(a i k:Nat)(l h:Option Int)(te:Option TI)(e:Option cJ):dV:=match l,h,te,e with
 | some l,some h,some te,some e=>if e.sz=te.size then .q (0<=l∧l<=h∧h<=k) (.view a (i+l.toNat) (h.toNat - l.toNat)) else .stuck
 | _,_,_,_=>.stuck
@[simp] theorem ab5(k:Nat)(fz:Bool):slV a i k (some m) (some n) (some ti) (some ⟨s,es,fz⟩)=if s=ti.size then .q (0<=m∧m<=n∧n<=k) (.view a (i+m.toNat) (n.toNat - m.toNat)) else .stuck:=rfl
@[simp] theorem ag7(k:Nat)(lo hi:Option (Option SV)):kv P M (some ⟨.sl el,s,b,z⟩) (some (.view a i k)) lo hi none=slV a i k (gu lo 0) (gu hi k) (an P el) (aA M a):=by
 simp only[kv,slV];cases gu lo 0 with
 | none=>rfl
 | some l=>cases gu hi k with
  | none=>rfl
  | some h=>cases an P el with
   | none=>rfl
   | some te=>cases aA M a with
    | none=>rfl
    | some e=>simp
@[simp] theorem al9(t:TypeId):zl (some ⟨.ptr el,s,b,z⟩) t (some x)=.q True (.ju t x):=rfl
def bdL(l:Option (List SV)):dV:=match l with
 | some l=>.q True (.agg l)
 | none=>.stuck
@[simp] theorem aa2:bdL (some l)=.q True (.agg l):=rfl
@[simp] theorem ap1(ps:List (Nat × Option SV)):rR (some ⟨.st fs,s,b,z⟩) ps=if fs.all (λf=>f.2.1 != 0)=true then bdL (j9 fs ps z) else .stuck:=by
 simp only[rR,bdL];split
 ·cases j9 fs ps z<;>rfl
 ·rfl
@[simp] theorem VH(acc:List SV):j9 fs [] acc=some acc:=rfl
def Nz(q:Option (Nat × Nat × TypeId))(x:SV)(acc:List SV):Option (List SV):=match q with
 | some (off,sz,_)=>if x.ir=sz∧x.aW=false∧off+sz<=acc.length then some (acc.take off++x.cells++acc.drop (off+sz)) else none
 | none=>none
@[simp] theorem U8(off sz:Nat)(ft:TypeId)(acc:List SV):Nz (some (off,sz,ft)) x acc=if x.ir=sz∧x.aW=false∧off+sz<=acc.length then some (acc.take off++x.cells++acc.drop (off+sz)) else none:=rfl
def Ia(fs:List (Nat × Nat × TypeId))(r:List (Nat × Option SV))(a:Option (List SV)):Option (List SV):=a.bind λacc=>j9 fs r acc
@[simp] theorem TZ(r:List (Nat × Option SV))(a:List SV):Ia fs r (some a)=j9 fs r a:=rfl
@[simp] theorem TH(i:Nat)(x:SV)(r:List (Nat × Option SV))(acc:List SV):j9 fs ((i,some x)::r) acc=Ia fs r (Nz (qJ fs i) x acc):=by
 simp only[j9,Ia];cases qJ fs i with
 | none=>rfl
 | some q=>obtain⟨off,sz,ft⟩:=q;simp only[Nz];split<;>rfl
/-! what makes or writes blocks -/
def stP(M:aC)(ti:TI)(a i j:Nat)(y:SV)(e:Option cJ):cK:=match e with
 | some ⟨sz,es,false⟩=>.m (i<es.length∧(aM es i).aW=false∧y.aW=false∧y.ir=ti.size∧j+ti.size<=(aM es i).ir) (aX M a (some ⟨sz,da es i (sE (aM es i) j y),false⟩)) [] none
 | _=>.stuck
@[simp] theorem adu:stP M ti a i j y (some ⟨s,es,false⟩)=.m (i<es.length∧(aM es i).aW=false∧y.aW=false∧y.ir=ti.size∧j+ti.size<=(aM es i).ir) (aX M a (some ⟨s,da es i (sE (aM es i) j y),false⟩)) [] none:=rfl
@[simp] theorem ani:pE M (some ti) (some (.ptr a i j)) (some y)=stP M ti a i j y (aA M a):=by
 simp only[pE,stP];cases aA M a with
 | none=>rfl
 | some e=>obtain⟨sz,es,f⟩:=e;cases f<;>rfl
@[simp] theorem ajt:sK M (some ti)=.m True (M++[some ⟨ti.size,[ti.dm],false⟩]) [] (some (.ptr M.length 0 0)):=rfl
@[simp] theorem agB:Db M (some ti) (some x)=.m (x.ir=ti.size∧x.aW=false) (M++[some ⟨ti.size,[x],false⟩]) [] (some (.ptr M.length 0 0)):=rfl
def bsE(M:aC)(len:Nat)(te:TI)(es:Option (List SV)):cK:=match es with
 | some es=>if len*te.size<=16777216 then .m True (M++[some ⟨te.size,es,false⟩]) [] (some (.view M.length 0 len)) else .stuck
 | none=>.stuck
@[simp] theorem aar:bsE M i ti (some es)=if i*ti.size<=16777216 then .m True (M++[some ⟨ti.size,es,false⟩]) [] (some (.view M.length 0 i)) else .stuck:=rfl
def bsT(M:aC)(len:Nat)(ps:List (Nat × Option SV))(te:Option TI):cK:=match te with
 | some te=>bsE M len te (kU te.size len ps (awQ len te.dm))
 | none=>.stuck
@[simp] theorem aaA(ps:List (Nat × Option SV)):bsT M i ps (some ti)=bsE M i ti (kU ti.size i ps (awQ i ti.dm)):=rfl
@[simp] theorem aiK(ps:List (Nat × Option SV)):gI P M (some ⟨.sl el,s,b,z⟩) i ps=bsT M i ps (an P el):=by
 simp only[gI,bsT,bsE];cases an P el with
 | none=>rfl
 | some te=>simp only;cases kU te.size i ps (awQ i te.dm)<;>rfl
@[simp] theorem Vl(sz len:Nat)(acc:List SV):kU sz len [] acc=some acc:=rfl
@[simp] theorem TY(sz len i:Nat)(x:SV)(r:List (Nat × Option SV))(acc:List SV):kU sz len ((i,some x)::r) acc=if x.ir=sz∧x.aW=false∧i<len then kU sz len r (da acc i x) else none:=rfl
def mkT(M:aC)(n m:Int)(te:Option TI):cK:=match te with
 | some te=>.m (0<=n∧n<=m∧m<=281474976710656∧te.bytes*m<=281474976710656) (M++[some ⟨te.size,awQ n.toNat te.dm,false⟩]) [] (some (.view M.length 0 n.toNat))
 | none=>.stuck
@[simp] theorem ae4:mkT M n m (some ti)=.m (0<=n∧n<=m∧m<=281474976710656∧ti.bytes*m<=281474976710656) (M++[some ⟨ti.size,awQ n.toNat ti.dm,false⟩]) [] (some (.view M.length 0 n.toNat)):=rfl
@[simp] theorem agG:iA P M (some ⟨.sl el,s,b,z⟩) (some (.val (.int κ n))) (some (.val (.int κ' m)))=mkT M n m (an P el):=by simp only[iA,mkT];cases an P el<;>rfl
/-! maps -/
@[simp] theorem att{kt et k:Nat}{v:Value}{ok:Bool}:mc P M (some ⟨.mp kt et,s,b,z⟩) (some (.mp k)) (some (.val v)) ok=ZY ok M (an P kt) v (an P et) (aA M k):=rfl
@[simp] theorem abO{ok:Bool}{ad:Option TI}{v:Value}{te:TI}{f:Bool}:ZY ok M ad v (some te) (some ⟨0,es,f⟩)=if D3 ad v=true then U2 ok M te (mD v es 0) else .stuck:=by simp[ZY]
@[simp] theorem ada{ok:Bool}{te:TI}{j:Nat}{y:SV}:U2 ok M te (some (some (j,y)))=.m True M [] (some (two ok y true)):=rfl
@[simp] theorem adG{ok:Bool}{te:TI}:U2 ok M te (some none)=.m True M [] (some (two ok te.dm false)):=rfl
@[simp] theorem amQ{y:SV}{q:Bool}:two false y q=y:=rfl
@[simp] theorem aci{q:ByteArray}:D3 (some ⟨.str,s,b,z⟩) (.string q)=true:=rfl
@[simp] theorem SY{m n:ByteArray}:QL (.string m) (.string n)=some (decide (m=n)):=rfl
@[simp] theorem IJ{v u:Value}{y:SV}{l:List SV}{i:Nat}:mD v (.bM [.val u,y]::l) i=kgo v u y i (mD v l (i+1)):=rfl
@[simp] theorem aoB{kt et k:Nat}{v:Value}{y:SV}:kO P M (some ⟨.mp kt et,s,b,z⟩) (some (.mp k)) (some (.val v)) (some y)=Y6 M k (an P kt) v y (aA M k):=rfl
@[simp] theorem afg{k:Nat}{ad:Option TI}{v:Value}{y:SV}:Y6 M k ad v y (some ⟨0,es,false⟩)=if D3 ad v=true then Y9 M k es v y (mD v es 0) else .stuck:=by simp[Y6]
@[simp] theorem aeF{k j:Nat}{v:Value}{y y':SV}:Y9 M k es v y (some (some (j,y')))=.m True (aX M k (some ⟨0,da es j (.bM [.val v,y]),false⟩)) [] none:=rfl
@[simp] theorem aaw{k:Nat}{v:Value}{y:SV}:Y9 M k es v y (some none)=.m True (aX M k (some ⟨0,es++[.bM [.val v,y]],false⟩)) [] none:=rfl
@[simp] theorem api{kt et k:Nat}:gQ M (some ⟨.mp kt et,s,b,z⟩) (some (.mp k))=YS M (aA M k):=rfl
@[simp] theorem aeJ{f:Bool}:YS M (some ⟨0,es,f⟩)=.m True M [] (some (.val (.int .i64 es.length))):=by simp[YS]
@[simp] theorem ahZ{kt et:Nat}:ki M (some ⟨.mp kt et,s,b,z⟩) none=.m True (M++[some ⟨0,[],false⟩]) [] (some (.mp M.length)):=rfl
/-! append -/
@[simp] theorem aoJ(ys:List SV):mw M ti (some (.ro ys))=some (D8 ti.size ys,ys):=rfl
def esV(te:TI)(i n:Nat)(e:Option cJ):Option (Prop × List SV):=match e with
 | some e=>some (e.sz=te.size∧i+n<=e.es.length,(e.es.drop i).take n)
 | none=>none
@[simp] theorem aby(k:Nat)(fz:Bool):esV ti i k (some ⟨s,es,fz⟩)=some (s=ti.size∧i+k<=es.length,(es.drop i).take k):=rfl
@[simp] theorem ail(k:Nat):mw M ti (some (.view a i k))=esV ti i k (aA M a):=by simp only[mw,esV];cases aA M a<;>rfl
def apV(fx:List Nat)(M:aC)(a n:Nat)(te:TI)(e:Option cJ)(ys:Option (Prop × List SV)):cK:=match e,ys with
 | some ⟨sz,es,false⟩,some (c,ys)=>.m (a∉fx∧c∧n=es.length∧sz=te.size∧eU a M=true∧SV.aY a ys=false∧(∀y∈ys,y.aW=false)∧(es.length+ys.length)*te.bytes<=70368744177664∧0<te.bytes) (aX M a (some ⟨sz,es++ys,false⟩)) [a] (some (.view a 0 (n+ys.length)))
 | _,_=>.stuck
@[simp] theorem afu(k:Nat)(c:Prop)(fx:List Nat)(ys:List SV):apV fx M a k ti (some ⟨s,es,false⟩) (some (c,ys))=.m (a∉fx∧c∧k=es.length∧s=ti.size∧eU a M=true∧SV.aY a ys=false∧(∀y∈ys,y.aW=false)∧(es.length+ys.length)*ti.bytes<=70368744177664∧0<ti.bytes) (aX M a (some ⟨s,es++ys,false⟩)) [a] (some (.view a 0 (k+ys.length))):=rfl
def apT(fx:List Nat)(M:aC)(a n:Nat)(x:Option SV)(te:Option TI):cK:=match te with
 | some te=>apV fx M a n te (aA M a) (mw M te x)
 | none=>.stuck
@[simp] theorem abq(fx:List Nat)(k:Nat):apT fx M a k u (some ti)=apV fx M a k ti (aA M a) (mw M ti u):=rfl
def apN(M:aC)(te:TI)(ys:Option (Prop × List SV)):cK:=match ys with
 | some (c,ys)=>.m (c∧eU M.length M=true∧SV.aY M.length ys=false∧(∀y∈ys,y.aW=false)∧ys.length*te.bytes<=70368744177664∧0<te.bytes) (M++[some ⟨te.size,ys,false⟩]) [M.length] (some (.view M.length 0 ys.length))
 | none=>.stuck
@[simp] theorem aaV(c:Prop)(ys:List SV):apN M ti (some (c,ys))=.m (c∧eU M.length M=true∧SV.aY M.length ys=false∧(∀y∈ys,y.aW=false)∧ys.length*ti.bytes<=70368744177664∧0<ti.bytes) (M++[some ⟨ti.size,ys,false⟩]) [M.length] (some (.view M.length 0 ys.length)):=rfl
def VV(M:aC)(x:Option SV)(te:Option TI):cK:=match te with
 | some te=>apN M te (mw M te x)
 | none=>.stuck
@[simp] theorem Z2:VV M u (some ti)=apN M ti (mw M ti u):=rfl
@[simp] theorem ahJ(fx:List Nat)(k s2 b2:Nat)(z2:List SV)(ag:TypeId):jf P fx M (some ⟨.sl el,s,b,z⟩) (some ⟨.sl ag,s2,b2,z2⟩) (some (.view a 0 k)) u=apT fx (HY a M) a k u (an P el):=by
 simp only[jf,BQ,lT,apT];generalize HY a M=M;cases an P el with
 | none=>rfl
 | some te =>
  simp only[apV];cases aA M a with
  | none=>rfl
  | some e=>obtain⟨sz,es,f⟩:=e;cases f with
   | true=>rfl
   | false=>simp only;cases mw M te u<;>rfl
@[simp] theorem akR(fx:List Nat)(s2 b2:Nat)(z2:List SV)(ag:TypeId):jf P fx M (some ⟨.sl el,s,b,z⟩) (some ⟨.sl ag,s2,b2,z2⟩) (some (.val (.slice none 0 0))) u=VV M u (an P el):=by
 simp only[jf,BQ,lT,VV,apN];cases an P el with
 | none=>rfl
 | some te=>simp only;cases mw M te u<;>rfl
end
section
variable (P:Program) (M:aC) (ti:TI) (a k s b:Nat) (z es ys:List SV) (el:TypeId) (u:Option SV) (c:Prop)
def cpV(M:aC)(a n:Nat)(te:TI)(e:Option cJ)(ys:Option (Prop × List SV)):cK:=match e,ys with
 | some ⟨sz,es,false⟩,some (c,ys)=>.m (c∧n=es.length∧ys.length=n∧sz=te.size∧∀y∈ys,y.aW=false) (aX M a (some ⟨sz,ys,false⟩)) [] (some (.val (.int .i64 n)))
 | _,_=>.stuck
def cpT(M:aC)(a n:Nat)(x:Option SV)(te:Option TI):cK:=match te with
 | some te=>cpV M a n te (aA M a) (mw M te x)
 | none=>.stuck
end
@[simp] theorem agS(fr:List (Nat × SV)):BL fr []=some []:=rfl
def bg(x:Option SV)(l:Option (List SV)):Option (List SV):=match x,l with
 | some x,some l=>some (x::l)
 | _,_=>none
@[simp] theorem VJ(x:SV)(l:List SV):bg (some x) (some l)=some (x::l):=rfl
@[simp] theorem acA(fr:List (Nat × SV))(o:Operand)(r:List Operand):BL fr (o::r)=bg (ev fr o) (BL fr r):=by simp only[BL,bg];cases ev fr o<;>cases BL fr r<;>rfl
@[simp] theorem akV(fr:List (Nat × SV))(t:Nat):ev fr (.tmp t)=get fr t:=rfl
@[simp] theorem XX(fr:List (Nat × SV))(g:Nat):ev fr (.global g)=if vC.contains g=true then some (.dG (.fT fD g) 0) else some (.val (.pointer (some ⟨g,0,none⟩))):=by simp only[ev,gl];split<;>simp_all
@[simp] theorem ah7:vC=[3,4,5,0,1,6,7,8,2,9]:=rfl
@[simp] theorem aky(fr:List (Nat × SV))(κ:IntKind)(n:Int):ev fr (.const (.int κ n))=some (.val (.int κ n)):=rfl
@[simp] theorem aiI(fr:List (Nat × SV))(b:Bool):ev fr (.const (.bool b))=some (.val (.bool b)):=rfl
@[simp] theorem alp(fr:List (Nat × SV))(b:ByteArray):ev fr (.const (.string b))=some (.val (.string b)):=rfl
@[simp] theorem Uh(fr:List (Nat × SV)):ev fr (.const (.slice none 0 0))=some (.val (.slice none 0 0)):=rfl
@[simp] theorem X7(fr:List (Nat × SV)):ev fr (.const (.pointer none))=some (.val (.pointer none)):=rfl
@[simp] theorem ab0(fr:List (Nat × SV)):ev fr (.const .nilIface)=some (.val .nilIface):=rfl
@[simp] theorem get_nil(t:Nat):get [] t=none:=rfl
@[simp] theorem ad1(s t:Nat)(x:SV)(r:List (Nat × SV)):get ((s,x)::r) t=if s=t then some x else get r t:=rfl
@[simp] theorem XQ(t:Nat)(x:SV)(fr:List (Nat × SV)):fg (some t) (some x) fr=(t,x)::fr:=rfl
@[simp] theorem abg{n t:Nat}(h:t<n)(fr:List (Nat × SV)):fO n (some t) fr=(t,.bM [])::fr:=by simp[fO,h]
@[simp] theorem YU(x:Option SV)(fr:List (Nat × SV)):fg none x fr=fr:=by cases x<;>rfl
@[simp] theorem af7(t n:Nat):BV (some t) n=(t<n):=rfl
@[simp] theorem acB(n:Nat):BV none n=True:=rfl
@[simp] theorem agD(t:Nat):del [] t=[]:=rfl
@[simp] theorem agc(s t:Nat)(x:SV)(r:List (Nat × SV)):del ((s,x)::r) t=if s=t then del r t else(s,x)::del r t:=by simp only[del,ayJ];by_cases h:s=t<;>simp[h]
@[simp] theorem Ue(pk:List Nat):forget pk []=[]:=rfl
@[simp] theorem W8(a t:Nat)(x:SV)(r:List (Nat × SV)):forget [a] ((t,x)::r)=if x.cD a=true then del (forget [a] r) t else(t,x)::forget [a] r:=by simp only[forget];cases h:x.cD a<;>simp[h]
@[simp] theorem Yv(x:Option cJ)(l:aC):aA (x::l) 0=x:=rfl
@[simp] theorem YX(x:Option cJ)(l:aC)(n:Nat):aA (x::l) (n+1)=aA l n:=rfl
@[simp] theorem Zb(x y:Option cJ)(l:aC):aX (x::l) 0 y=y::l:=rfl
@[simp] theorem XM(x y:Option cJ)(l:aC)(n:Nat):aX (x::l) (n+1) y=x::aX l n y:=rfl
@[simp] theorem Zf(x:SV)(l:List SV):aM (x::l) 0=x:=rfl
@[simp] theorem Zk(x:SV)(l:List SV)(n:Nat):aM (x::l) (n+1)=aM l n:=rfl
@[simp] theorem XZ(x y:SV)(l:List SV):da (x::l) 0 y=y::l:=rfl
@[simp] theorem Zc(x y:SV)(l:List SV)(n:Nat):da (x::l) (n+1) y=x::da l n y:=rfl
@[simp] theorem Yk(x:Nat × Nat × TypeId)(l:List (Nat × Nat × TypeId)):qJ (x::l) 0=some x:=rfl
@[simp] theorem Y1(x:Nat × Nat × TypeId)(l:List (Nat × Nat × TypeId))(n:Nat):qJ (x::l) (n+1)=qJ l n:=rfl
@[simp] theorem Uj{d:Option Tmp}{op:Op}{t:TypeId}{p:String}{af:Array Edge}{g:Option (Nat × Bool)}(l:List Oper):pR (⟨d,op,t,p,af,g⟩::l) 0=d:=rfl
@[simp] theorem TN(x:Oper)(l:List Oper)(n:Nat):pR (x::l) (n+1)=pR l n:=rfl
section
variable (v:Value) (a b c n:Nat) (l es:List SV) (x:SV) (t:TypeId)
@[simp] theorem aaa:(SV.val v).cells=[.val v]:=rfl
@[simp] theorem Xe:(SV.view a b c).cells=[.view a b c]:=rfl
@[simp] theorem aaP:(SV.ro es).cells=[.ro es]:=rfl
@[simp] theorem Z1:(SV.dG x a).cells=[.dG x a]:=rfl
@[simp] theorem Yj:(SV.agg l).cells=l:=rfl
@[simp] theorem X3:(SV.ju t x).cells=[.ju t x]:=rfl
@[simp] theorem ag6:(SV.val v).ir=1:=rfl
@[simp] theorem aiA:(SV.ptr a b c).ir=1:=rfl
@[simp] theorem aek:(SV.view a b c).ir=1:=rfl
@[simp] theorem anN:(SV.ro es).ir=1:=rfl
@[simp] theorem aja:(SV.dG x a).ir=1:=rfl
@[simp] theorem ahu:(SV.agg l).ir=l.length:=rfl
@[simp] theorem ah3:(SV.ju t x).ir=1:=rfl
@[simp] theorem YP:(SV.val v).aW=false:=rfl
@[simp] theorem X8:(SV.ptr a b c).aW=false:=rfl
@[simp] theorem UR:(SV.view a b c).aW=false:=rfl
@[simp] theorem afM:(SV.ro es).aW=false:=rfl
@[simp] theorem Y8:(SV.dG x a).aW=false:=rfl
@[simp] theorem Z8:(SV.agg l).aW=false:=rfl
@[simp] theorem Zp:(SV.ju t x).aW=false:=rfl
@[simp] theorem ZP:(SV.val v).isAgg=false:=rfl
@[simp] theorem Yt:(SV.ptr a b c).isAgg=false:=rfl
@[simp] theorem Wi:(SV.view a b c).isAgg=false:=rfl
@[simp] theorem adf:(SV.ro es).isAgg=false:=rfl
@[simp] theorem XO:(SV.dG x a).isAgg=false:=rfl
@[simp] theorem X1:(SV.agg l).isAgg=true:=rfl
@[simp] theorem Z9:(SV.ju t x).isAgg=false:=rfl
@[simp] theorem aaz:(SV.val v).cD n=false:=rfl
@[simp] theorem abl:(SV.ptr a b c).cD n=(a==n):=rfl
@[simp] theorem ZD:(SV.view a b c).cD n=(a==n):=rfl
@[simp] theorem ajU:(SV.ro es).cD n=false:=rfl
@[simp] theorem abM:(SV.dG x a).cD n=false:=rfl
@[simp] theorem adW:(SV.agg l).cD n=SV.aY n l:=by simp[SV.cD]
@[simp] theorem abe:(SV.bM l).cD n=SV.aY n l:=by simp[SV.cD]
@[simp] theorem Yo:SV.aY n []=false:=by simp[SV.aY]
@[simp] theorem WG:SV.aY n (x::l)=(x.cD n||SV.aY n l):=by simp[SV.aY]
@[simp] theorem aeG:(SV.val v).pure=true:=rfl
@[simp] theorem abn:(SV.ptr a b c).pure=false:=rfl
@[simp] theorem YG:(SV.view a b c).pure=false:=rfl
@[simp] theorem ajf:(SV.ro es).pure=true:=rfl
@[simp] theorem ac8:(SV.dG x a).pure=true:=rfl
@[simp] theorem acO:(SV.agg l).pure=SV.bF l:=by simp[SV.pure]
@[simp] theorem adk:(SV.bM l).pure=SV.bF l:=by simp[SV.pure]
@[simp] theorem XV:SV.bF []=true:=by simp[SV.bF]
@[simp] theorem Xr:SV.bF (x::l)=(x.pure&&SV.bF l):=by simp[SV.bF]
@[simp] theorem amK:(SV.val v).lt n=true:=rfl
@[simp] theorem akN:(SV.ptr a b c).lt n=decide (a<n):=rfl
@[simp] theorem ajW:(SV.view a b c).lt n=decide (a<n):=rfl
@[simp] theorem apK:(SV.ro es).lt n=true:=rfl
@[simp] theorem al3:(SV.dG x a).lt n=true:=rfl
@[simp] theorem anP:(SV.agg l).lt n=SV.j3 n l:=by simp[SV.lt]
@[simp] theorem amX:(SV.bM l).lt n=SV.j3 n l:=by simp[SV.lt]
@[simp] theorem an2:(SV.ju t x).lt n=x.lt n:=by simp[SV.lt]
@[simp] theorem agu:SV.j3 n []=true:=by simp[SV.j3]
@[simp] theorem abz:SV.j3 n (x::l)=(x.lt n&&SV.j3 n l):=by simp[SV.j3]
@[simp] theorem akK:(SV.val v).ks=[]:=rfl
@[simp] theorem ajR:(SV.view a b c).ks=[a]:=rfl
@[simp] theorem aqe:(SV.ro es).ks=[]:=rfl
@[simp] theorem al6:(SV.dG x a).ks=[]:=rfl
@[simp] theorem aku:(SV.agg l).ks=SV.uM l:=by simp[SV.ks]
@[simp] theorem ajn:SV.uM []=[]:=by simp[SV.uM]
@[simp] theorem acV:SV.uM (x::l)=x.ks++SV.uM l:=by simp[SV.uM]
@[simp] theorem aaB(fs:List (Nat × Nat × TypeId)):(TK.st fs).isAgg=true:=rfl
@[simp] theorem Yf(κ:IntKind):(TK.int κ).isAgg=false:=rfl
@[simp] theorem VX:TK.bool.isAgg=false:=rfl
@[simp] theorem Zu:TK.str.isAgg=false:=rfl
@[simp] theorem afb:(TK.sl t).isAgg=false:=rfl
@[simp] theorem UM:(TK.ptr t).isAgg=false:=rfl
@[simp] theorem aeg:TK.iface.isAgg=false:=rfl
@[simp] theorem Zq:eU n []=true:=rfl
@[simp] theorem anq{M:aC}{k:Nat}:HY k M=if eU k M=true then M else rH k M:=rfl
@[simp] theorem afx{k:Nat}:rH k []=[]:=rfl
@[simp] theorem Z3{k sz:Nat}{f:Bool}(es:List SV)(M:aC):rH k (some ⟨sz,es,f⟩::M)=some ⟨sz,Gz k es,f⟩::rH k M:=rfl
@[simp] theorem ajK{k:Nat}{es:List SV}:Gz k es=if SV.aY k es=true then es.map (Iw k) else es:=rfl
@[simp] theorem aew{k:Nat}(l:List SV):Iw k (.agg l)=.agg (l.map λy=>if y.cD k then .any else y):=rfl
@[simp] theorem VZ(sz:Nat)(f:Bool)(M:aC):eU n (some ⟨sz,es,f⟩::M)=(!SV.aY n es&&eU n M):=rfl
@[simp] theorem ahA(M:aC):MY [] M=M:=rfl
def fz1(k:Nat)(r:List Nat)(M:aC)(o:Option cJ):aC:=match o with
 | some e=>MY r (aX M k (some ⟨e.sz,e.es,true⟩))
 | none=>MY r M
@[simp] theorem ad9(k:Nat)(r:List Nat)(M:aC):MY (k::r) M=fz1 k r M (aA M k):=rfl
@[simp] theorem afA(k:Nat)(r:List Nat)(M:aC)(sz:Nat)(f:Bool):fz1 k r M (some ⟨sz,es,f⟩)=MY r (aX M k (some ⟨sz,es,true⟩)):=rfl
@[simp] theorem akm(t g:Nat):(SV.fT t g).ir=1:=rfl
@[simp] theorem Z0(t g:Nat):(SV.fT t g).aW=false:=rfl
@[simp] theorem YB(t g:Nat):(SV.fT t g).isAgg=false:=rfl
@[simp] theorem adT(t g:Nat):(SV.fT t g).pure=true:=rfl
@[simp] theorem ak9(n t g:Nat):(SV.fT t g).lt n=true:=rfl
@[simp] theorem YH(t g:Nat):(SV.fT t g).cells=[.fT t g]:=rfl
@[simp] theorem afl{n:Nat}:(SV.any).cD n=false:=rfl
@[simp] theorem acf{n:Nat}{f:FuncId}{l r:List SV}:(SV.j7 f l r).cD n=(SV.aY n l||SV.aY n r):=rfl
@[simp] theorem aht:(SV.mp a).pure=false:=rfl
@[simp] theorem adF:(SV.any).pure=true:=rfl
@[simp] theorem agn{f:FuncId}{l r:List SV}:(SV.j7 f l r).pure=(SV.bF l&&SV.bF r):=rfl
@[simp] theorem asz:(SV.mp a).lt n=decide (a<n):=rfl
@[simp] theorem al5{n:Nat}{f:FuncId}{l r:List SV}:(SV.j7 f l r).lt n=(SV.j3 n l&&SV.j3 n r):=rfl
@[simp] theorem abI(M:aC):Sub M (.view a b n) (.ro es)=onO (aA M a) λe=>SV.bF e.es=true∧b+n<=e.es.length∧(e.es.drop b).take n=es:=by simp only[Sub];cases aA M a<;>rfl
@[simp] theorem aij(M:aC)(j:Nat):Sub M (.ptr a b c) (.dG x j)=onO (aA M a) λe=>SV.bF e.es=true∧b<e.es.length∧(aM e.es b).aW=false∧aM e.es b=x∧c=j:=by simp only[Sub];cases aA M a<;>rfl
@[simp] theorem agx(M:aC):Sub M (.agg l) (.agg es)=cP M l es:=by simp only[Sub]
@[simp] theorem ajA(M:aC):Sub M (.bM l) (.bM es)=cP M l es:=by simp only[Sub]
@[simp] theorem ags(M:aC)(t':TypeId)(x':SV):Sub M (.ju t x) (.ju t' x')=(t=t'∧Sub M x x'):=by simp only[Sub]
@[simp] theorem aiH(M:aC):Sub M (.val v) (.ro es)=(v=.slice none 0 0∧es=[]):=by simp only[Sub]
@[simp] theorem aiD(M:aC)(v':Value):Sub M (.val v) (.val v')=(v=v'):=by simp only[Sub]
@[simp] theorem amv(M:aC)(y:SV):Sub M (.ro es) y=(y=.ro es):=by simp only[Sub]
@[simp] theorem aje(M:aC)(y:SV)(t g:Nat):Sub M (.fT t g) y=(y=.fT t g):=by simp only[Sub]
@[simp] theorem abP(M:aC):cP M [] es=(es=[]):=by simp only[cP]
@[simp] theorem ZE(M:aC)(x':SV):cP M (x::l) (x'::es)=(Sub M x x'∧cP M l es):=by simp only[cP]
end
/-! results -/
def jT(P:Program)(st:St)(r:ResultVar):dV:=match r with
 | .tmp t=>WT (get st.fr t)
 | .cell t T=>jx st.M (an P T) (get st.fr t)
@[simp] theorem abp(P:Program)(st:St)(t:Nat):jT P st (.tmp t)=WT (get st.fr t):=rfl
@[simp] theorem X5(P:Program)(st:St)(t T:Nat):jT P st (.cell t T)=jx st.M (an P T) (get st.fr t):=rfl
def fin(M:aC)(x:SV)(Φ:SV->Prop):Prop:=∃y,Sub M x y∧Φ y
def VD(r:dV)(M:aC)(Φ:SV->Prop):Prop:=match r with
 | .q c x=>c∧fin M x Φ
 | _=>False
def E6(rs:List dV)(acc:List SV)(M:aC)(Φ:SV->Prop):Prop:=match rs with
 | []=>fin M (.bM acc) Φ
 | .q c x::r=>c∧E6 r (acc++[x]) M Φ
 | _=>False
@[simp] theorem alJ{c:Prop}{x:SV}{M:aC}{Φ:SV->Prop}:VD (.q c x) M Φ=(c∧fin M x Φ):=rfl
@[simp] theorem aeU{acc:List SV}{M:aC}{Φ:SV->Prop}:E6 [] acc M Φ=fin M (.bM acc) Φ:=rfl
@[simp] theorem amw{c:Prop}{x:SV}{r:List dV}{acc:List SV}{M:aC}{Φ:SV->Prop}:E6 (.q c x::r) acc M Φ=(c∧E6 r (acc++[x]) M Φ):=rfl
theorem og(P:Program)(st:St)(r:ResultVar):tz P st r=(match jT P st r with | .q c x=>some (c,x) | _=>none):=by
 cases r with
 | tmp t=>simp only[jT,tz];cases get st.fr t<;>rfl
 | cell t T =>
  simp only[jT,tz];cases get st.fr t with
  | none=>simp only[jx];cases an P T<;>rfl
  | some u=>split<;>simp_all
section
variable (P:Program) (st:St) (r s u:ResultVar) (Φ:SV->Prop)
@[simp] theorem ZT:kg P [r] Φ .ret st=VD (jT P st r) st.M Φ:=by simp only[kg,k8,wD,og];cases jT P st r<;>simp[VD,fin]
@[simp] theorem Y4:kg P [r,s] Φ .ret st=E6 [jT P st r,jT P st s] [] st.M Φ:=by simp only[kg,k8,wD,og];cases jT P st r<;>cases jT P st s<;>simp[E6,fin,and_assoc]
@[simp] theorem Ye:kg P [r,s,u] Φ .ret st=E6 [jT P st r,jT P st s,jT P st u] [] st.M Φ:=by simp only[kg,k8,wD,og];cases jT P st r<;>cases jT P st s<;>cases jT P st u<;>simp[E6,fin,and_assoc]
theorem Hc(rs:List ResultVar):kg P rs Φ .normal st=kg P rs Φ .ret st:=rfl
@[simp] theorem VR{rs:List ResultVar}{c:List PanicEntry}:kg P rs Φ (.panic c) st=False:=rfl
end
attribute [simp] Hc
def Vu(r:dV)(M:aC)(pk:List Nat)(k:aC->List Nat->SV->Prop):Prop:=match r with
 | .q c x=>c∧k M pk x
 | _=>False
def yh(rs:List dV)(acc:List SV)(M:aC)(pk:List Nat)(k:aC->List Nat->SV->Prop):Prop:=match rs with
 | []=>k M pk (.bM acc)
 | .q c x::r=>c∧yh r (acc++[x]) M pk k
 | _=>False
section
variable {P:Program} {st:St} {r s u:ResultVar} {pk:List Nat} {k:aC->List Nat->SV->Prop}
@[simp] theorem akG{c:Prop}{x:SV}{M:aC}:Vu (.q c x) M pk k=(c∧k M pk x):=rfl
@[simp] theorem X6{acc:List SV}{M:aC}:yh [] acc M pk k=k M pk (.bM acc):=rfl
@[simp] theorem ajV{c:Prop}{x:SV}{r:List dV}{acc:List SV}{M:aC}:yh (.q c x::r) acc M pk k=(c∧yh r (acc++[x]) M pk k):=rfl
@[simp] theorem Yr:im P [] pk k .ret st=k st.M pk (.bM []):=by simp[im,k8,wD]
@[simp] theorem YN:im P [r] pk k .ret st=Vu (jT P st r) st.M pk k:=by simp only[im,k8,wD,og];cases jT P st r<;>simp[Vu]
@[simp] theorem YC:im P [r,s] pk k .ret st=yh [jT P st r,jT P st s] [] st.M pk k:=by simp only[im,k8,wD,og];cases jT P st r<;>cases jT P st s<;>simp[yh,and_assoc]
@[simp] theorem Zv:im P [r,s,u] pk k .ret st=yh [jT P st r,jT P st s,jT P st u] [] st.M pk k:=by simp only[im,k8,wD,og];cases jT P st r<;>cases jT P st s<;>cases jT P st u<;>simp[yh,and_assoc]
@[simp] theorem TC{rs:List ResultVar}:im P rs pk k .normal st=im P rs pk k .ret st:=rfl
@[simp] theorem Wu{rs:List ResultVar}{c:List PanicEntry}:im P rs pk k (.panic c) st=False:=rfl
end
theorem Vt(M:aC)(x y:SV):fin M x (λz=>z=y)=Sub M x y:=by simp[fin]
attribute [simp] Vt pg sE TI.dm l6 kA wY gU bY fj gK eA
theorem aa.go{P:Program}{C:Ctx}{c:Code}{st:St}{Q:bf}(h:vc P C c st Q Q):aa P C c st Q:=oO c st (λ_ _ h=>h) (λ_ _ h=>h) h
theorem u6.go{P:Program}{C:Ctx}{all:Array Oper}{l:List Oper}{st:St}{Q:bf}(h:gP P C all l st Q Q):u6 P C all l st Q:=kM l st (λ_ _ h=>h) (λ_ _ h=>h) h
theorem bz{P:Program}{C:Ctx}{f:FuncId}{args ac:List SV}{y:SV}{M:aC}{W:Option (List Nat)}{k:aC->List Nat->SV->Prop}(h:aE P f ac y)(hs:cP M args ac)(hk:k (MY (SV.uM args) M) [] y):dK P C f args M W k :=
 yk h hs λx hx=>by rw[hx];exact hk
/-! regions whose operations may come up in any order -/
def nU:List Oper->Nat->Option Oper
 | [],_=>none
 | o::_,0=>some o
 | _::l,n+1=>nU l n
theorem mv{l:List Oper}{j:Nat}:l.toArray[j]?=nU l j:=by
 simp only[ayI]
 induction l generalizing j with
 | nil=>rfl
 | cons x l ih=>cases j with
  | zero=>rfl
  | succ j=>simpa[nU]using ih
@[simp] theorem Zx(o:Oper)(l:List Oper):nU (o::l) 0=some o:=rfl
@[simp] theorem YL(o:Oper)(l:List Oper)(n:Nat):nU (o::l) (n+1)=nU l n:=rfl
section
variable {P:Program} {C:Ctx} {st:St} {Q QJ:bf} {l:List Oper} {d:Option Tmp} {op:Op} {t:TypeId} {p:String} {af:Array Edge} {o:Oper} {r r':Pl} {i j:Nat} {ks ah:List Nat} {yes no:St->Prop}
def Wx(P:Program)(C:Ctx)(l:List Oper)(ks:List Nat)(o:Oper)(r:Pl)(Q QJ:bf)(st:St):Prop:=H8 ks st o.op∧cO P C none o st (RA P C l.toArray r Q QJ) noJ
def Vd(P:Program)(C:Ctx)(l:List Oper)(ks:List Nat)(o:Oper)(r:Pl)(Q QJ:bf)(st:St):Prop:=((okW ks st o.op∧AD ks r o.op)∧r.there st.M)∧cO P C (some (nb ks)) o st (RA P C l.toArray r Q QJ) (njP P C l.toArray r QJ)
@[simp] theorem afm:Wx P C l ks o r Q QJ st=(H8 ks st o.op∧cO P C none o st (RA P C l.toArray r Q QJ) noJ):=rfl
@[simp] theorem adY:Vd P C l ks o r Q QJ st=(((okW ks st o.op∧AD ks r o.op)∧r.there st.M)∧cO P C (some (nb ks)) o st (RA P C l.toArray r Q QJ) (njP P C l.toArray r QJ)):=rfl
def MU(b:Bool)(d:Option Tmp)(st:St)(yes no:St->Prop)(t':Nat)(v:Option SV):Prop:=match v with
 | some (.val (.bool c))=>(c=b->yes ⟨st.n,(t',.val (.bool b))::st.fr,st.M⟩)∧(c=!b->no ⟨st.n,fO st.n d ((t',.val (.bool (!b)))::st.fr),st.M⟩)
 | some (.bM [])=>no ⟨st.n,fO st.n d st.fr,st.M⟩
 | _=>False
def gp0(b:Bool)(d:Option Tmp)(st:St)(yes no:St->Prop)(t':Option Nat):Prop:=match t' with
 | some t'=>MU b d st yes no t' (get st.fr t')
 | none=>False
@[simp] theorem aeq{b:Bool}{t':Nat}:gp0 b d st yes no (some t')=MU b d st yes no t' (get st.fr t'):=rfl
@[simp low] theorem aca{b c:Bool}{t':Nat}:MU b d st yes no t' (some (.val (.bool c)))=((c=b->yes ⟨st.n,(t',.val (.bool b))::st.fr,st.M⟩)∧(c=!b->no ⟨st.n,fO st.n d ((t',.val (.bool (!b)))::st.fr),st.M⟩)):=rfl
@[simp] theorem anX{t':Nat}:MU true d st yes no t' (some (.val (.bool true)))=yes ⟨st.n,(t',.val (.bool true))::st.fr,st.M⟩:=by simp[MU]
@[simp] theorem anA{t':Nat}:MU false d st yes no t' (some (.val (.bool false)))=yes ⟨st.n,(t',.val (.bool false))::st.fr,st.M⟩:=by simp[MU]
@[simp] theorem alg{t':Nat}:MU true d st yes no t' (some (.val (.bool false)))=no ⟨st.n,fO st.n d ((t',.val (.bool false))::st.fr),st.M⟩:=by simp[MU]
@[simp] theorem akD{t':Nat}:MU false d st yes no t' (some (.val (.bool true)))=no ⟨st.n,fO st.n d ((t',.val (.bool true))::st.fr),st.M⟩:=by simp[MU]
@[simp ↓] theorem aaZ:gd l.toArray ⟨d,op,t,p,af,none⟩ st yes no=yes st:=rfl
@[simp ↓] theorem adX{b:Bool}:gd l.toArray ⟨d,op,t,p,af,some (j,b)⟩ st yes no=gp0 b d st yes no (pR l j):=by
 simp only[gd,gp0];rw[<-CV];cases rK l.toArray j with
 | none=>rfl
 | some t' =>
  simp only[MU];cases get st.fr t' with
  | none=>rfl
  | some v=>cases v with
   | val u=>cases u<;>rfl
   | bM l=>cases l<;>rfl
   | _=>rfl
def pQ(P:Program)(C:Ctx)(l:List Oper)(ks:List Nat)(o:Option Oper)(r:Pl)(st:St)(Q QJ:bf):Prop:=match o with
 | some o=>gd l.toArray o st (Wx P C l ks o r Q QJ) (RA P C l.toArray r Q QJ)
 | none=>False
def pL(P:Program)(C:Ctx)(l:List Oper)(ks:List Nat)(o:Option Oper)(r:Pl)(st:St)(Q QJ:bf):Prop:=match o with
 | some o=>gd l.toArray o st (Vd P C l ks o r Q QJ) (RA P C l.toArray r Q QJ)
 | none=>False
@[simp] theorem ajY:pQ P C l ks (some o) r st Q QJ=gd l.toArray o st (Wx P C l ks o r Q QJ) (RA P C l.toArray r Q QJ):=rfl
@[simp] theorem ai0:pL P C l ks (some o) r st Q QJ=gd l.toArray o st (Vd P C l ks o r Q QJ) (RA P C l.toArray r Q QJ):=rfl
@[simp] theorem amm:Pl.qs [] r=r:=rfl
@[simp] theorem aiu{l:List Nat}:Pl.qs (i::l) r=.q i [] (Pl.qs l r):=rfl
@[simp ↓] theorem ac0:fQ P C l.toArray .nil st Q QJ=Q .normal st:=rfl
@[simp ↓] theorem an4:fQ P C l.toArray (.q i ks r) st Q QJ=pQ P C l ks (nU l i) r st Q QJ:=by simp only[fQ,mv];cases nU l i<;>rfl
@[simp ↓] theorem alD:fQ P C l.toArray (.l i ks r) st Q QJ=pL P C l ks (nU l i) r st Q QJ:=by simp only[fQ,mv];cases nU l i<;>rfl
@[simp ↓] theorem anh:fQ P C l.toArray (.m i ks r j ah r') st Q QJ=(pL P C l ks (nU l i) r st Q QJ∧pL P C l ah (nU l j) r' st Q QJ):=by simp only[fQ,mv];cases nU l i<;>cases nU l j<;>simp[pL]<;>rfl
@[simp ↓] theorem aaQ{p:Pl}:fQ P C l.toArray (.alt i ks r p) st Q QJ=(pL P C l ks (nU l i) r st Q QJ∧fQ P C l.toArray p st Q QJ):=by simp only[fQ,mv];cases nU l i<;>rfl
@[simp ↓] theorem Ya:fQ P C l.toArray .stop st Q QJ=True:=rfl
@[simp] theorem ajE{k:IntKind}{n:Int}:cvW (some (.val (.int k n)))=True:=rfl
def sZ(st:St)(o:Op):Prop:=match o with
 | .convert _ _ x=>cvW (ev st.fr x)
 | .call ⟨.builtin .len,args,_⟩=>Qe (args.toList.map (ev st.fr))
 | _=>True
@[simp] theorem aez{s d:TypeId}{x:Operand}:sZ st (.convert s d x)=cvW (ev st.fr x):=rfl
@[simp] theorem afk{x:Operand}:sZ st (.move x)=True:=rfl
@[simp] theorem VB{x:Operand}:sZ st (.assign x)=True:=rfl
@[simp] theorem acr{x y z:Operand}:sZ st (.pick x y z)=True:=rfl
@[simp] theorem ajs{op:BinOp}{t t':TypeId}{x y:Operand}:sZ st (.binOp op t x y t')=True:=rfl
@[simp] theorem anp{op:UnOp}{t:TypeId}{x:Operand}:sZ st (.unOp op t x)=True:=rfl
@[simp] theorem aff{x:Operand}:sZ st (.nilCheck x)=True:=rfl
@[simp] theorem ajb{x:Operand}{i:Nat}:sZ st (.extract x i)=True:=rfl
@[simp] theorem anQ{t:TypeId}{x:Operand}{i:Nat}:sZ st (.fieldAddr t x i)=True:=rfl
@[simp] theorem amj{t:TypeId}{x y:Operand}:sZ st (.indexAddr t x y)=True:=rfl
@[simp] theorem anZ{t:TypeId}{x y:Operand}:sZ st (.index t x y)=True:=rfl
@[simp] theorem anc{t:TypeId}{x:Operand}:sZ st (.load t x)=True:=rfl
@[simp] theorem alZ{t:TypeId}{x:Operand}{a b c:Option Operand}:sZ st (.slice t x a b c)=True:=rfl
@[simp] theorem amc{t:TypeId}{x:Operand}:sZ st (.makeInterface t x)=True:=rfl
@[simp] theorem ans{t:TypeId}{ps:Array (Nat × Operand)}:sZ st (.build t ps)=True:=rfl
@[simp] theorem ahR{x:Operand}{ts:Array TypeId}:sZ st (.call ⟨.builtin .len,[x].toArray,ts⟩)=Tf (ev st.fr x):=rfl
@[simp] theorem akq{es:List SV}:Tf (some (.ro es))=True:=rfl
@[simp] theorem aeC{q:ByteArray}:Tf (some (.val (.string q)))=True:=rfl
@[simp] theorem agq{o:Op}:H8 [] st o=sZ st o:=by unfold H8 sZ;split<;>simp_all
def ldW(ks:List Nat)(M:aC)(x:Option SV):Prop:=ks=[]∨match x with
 | some (.ptr k _ _)=>k∉ks∧tY∉ks∧∀j∈ks,C7 M j
 | some (.dG _ _)=>True
 | _=>False
@[simp] theorem ake{k:Nat}{M:aC}{a i j:Nat}:ldW (k::ks) M (some (.ptr a i j))=(a∉k::ks∧tY∉k::ks∧∀j∈k::ks,C7 M j):=by simp[ldW]
@[simp] theorem agt{k:Nat}{M:aC}{x:SV}{j:Nat}:ldW (k::ks) M (some (.dG x j))=True:=by simp[ldW]
@[simp] theorem anB{t:TypeId}{x:Operand}{k:Nat}:H8 (k::ks) st (.load t x)=ldW (k::ks) st.M (ev st.fr x):=rfl
def NN(e:Option cJ):Prop:=match e with
 | some e=>e.fz=false
 | none=>False
@[simp] theorem V2{s:Nat}{es:List SV}{f:Bool}:NN (some ⟨s,es,f⟩)=(f=false):=rfl
@[simp] theorem adI{M:aC}{k:Nat}:C7 M k=NN (aA M k):=by unfold C7 NN;split<;>simp_all
def stW(ks:List Nat)(x:Option SV):Prop:=match x with
 | some (.ptr k _ _)=>k∈ks
 | _=>True
@[simp] theorem aj7{a i j:Nat}:stW ks (some (.ptr a i j))=(a∈ks):=rfl
@[simp] theorem alj{t:TypeId}{x y:Operand}:okW ks st (.store t x y)=stW ks (ev st.fr x):=by
 simp only[okW,Ds];cases ev st.fr x with
 | none=>simp[stW]
 | some v=>cases v<;>simp[stW]
@[simp] theorem anm{t:TypeId}:okW ks st (.alloc t)=True:=rfl
@[simp] theorem am2{t:TypeId}{x:Operand}:okW ks st (.box t x)=True:=rfl
@[simp] theorem anK{t:TypeId}{n:Nat}{ps:Array (Nat × Operand)}:okW ks st (.buildSlice t n ps)=True:=rfl
@[simp] theorem ak3{t:TypeId}{x y:Operand}:okW ks st (.makeSlice t x y)=True:=rfl
@[simp] theorem ak0{t:TypeId}{x y:Operand}{ok:Bool}:okW ks st (.lookup t x y ok)=True:=rfl
@[simp] theorem aiE{os:Array Operand}{ts:Array TypeId}:okW ks st (.call ⟨.builtin .len,os,ts⟩)=True:=rfl
@[simp] theorem akz{t:TypeId}{x y:Operand}{ok:Bool}{r:Pl}:AD ks r (.lookup t x y ok)=True:=rfl
@[simp] theorem ag4{os:Array Operand}{ts:Array TypeId}{r:Pl}:AD ks r (.call ⟨.builtin .len,os,ts⟩)=True:=rfl
@[simp] theorem aiz{os:Array Operand}{ts:Array TypeId}:okW ks st (.call ⟨.builtin .append,os,ts⟩)=True:=rfl
@[simp] theorem alc{t:TypeId}{x y:Operand}{r:Pl}:AD ks r (.store t x y)=True:=rfl
@[simp] theorem ald{t:TypeId}{r:Pl}:AD ks r (.alloc t)=True:=rfl
@[simp] theorem amA{t:TypeId}{x:Operand}{r:Pl}:AD ks r (.box t x)=True:=rfl
@[simp] theorem am7{t:TypeId}{n:Nat}{ps:Array (Nat × Operand)}{r:Pl}:AD ks r (.buildSlice t n ps)=True:=rfl
@[simp] theorem anV{t:TypeId}{x y:Operand}{r:Pl}:AD ks r (.makeSlice t x y)=True:=rfl
@[simp] theorem aeI{f:FuncId}{os:Array Operand}{ts:Array TypeId}{r:Pl}:AD ks r (.call ⟨.value (.func f),os,ts⟩)=True:=rfl
@[simp] theorem ag9{os:Array Operand}{ts:Array TypeId}{r:Pl}:AD ks r (.call ⟨.builtin .append,os,ts⟩)=(Lr os=true∨(tY∈ks∧r.mq=true)):=rfl
@[simp] theorem abr{x:Nat}{l:List Operand}:Lr ((Operand.tmp x::l).toArray)=false:=rfl
@[simp] theorem aa4{l:List Operand}:Lr ((Operand.const (.slice none 0 0)::l).toArray)=true:=rfl
@[simp] theorem aeN:Pl.mq .nil=true:=rfl
@[simp] theorem amy{r:Pl}:Pl.mq (.q i ks r)=r.mq:=rfl
@[simp] theorem akW{r:Pl}:Pl.mq (.l i ks r)=((ks.isEmpty||ks.contains tY)&&r.mq):=rfl
@[simp] theorem aaG{r p:Pl}:Pl.mq (.alt i ks r p)=((ks.isEmpty||ks.contains tY)&&(r.mq&&p.mq)):=rfl
@[simp] theorem X0:Pl.mq .stop=true:=rfl
@[simp] theorem akv:nb []=[]:=rfl
@[simp] theorem aho(k:Nat)(ks:List Nat):nb (k::ks)=if k=tY then nb ks else k::nb ks:=by simp only[nb,ayJ];split<;>split<;>simp_all
@[simp] theorem amd:tY=1000000:=rfl
@[simp] theorem Zd{x:Nat}{os:Array Operand}{ts:Array TypeId}{r:Pl}:AD ks r (.call ⟨.value (.tmp x),os,ts⟩)=True:=rfl
@[simp] theorem Yl{x:Nat}{os:Array Operand}{ts:Array TypeId}:okW ks st (.call ⟨.value (.tmp x),os,ts⟩)=True:=rfl
@[simp] theorem aa3{f:FuncId}{os:Array Operand}{ts:Array TypeId}:okW ks st (.call ⟨.value (.func f),os,ts⟩)=True:=rfl
@[simp] theorem YZ{M:aC}:Pl.there M .nil=True:=rfl
@[simp] theorem aiS{M:aC}:Pl.there M (.q i ks r)=r.there M:=rfl
def has(o:Option cJ):Prop:=match o with
 | some _=>True
 | none=>False
@[simp] theorem abE{e:cJ}:has (some e)=True:=rfl
theorem PV{o:Option cJ}:(o≠none)=has o:=by cases o<;>simp[has]
@[simp] theorem aiV{M:aC}:Pl.there M (.l i ks r)=((tY∈ks∨∀k∈ks,has (aA M k))∧r.there M):=by simp only[Pl.there,PV]
@[simp] theorem Xv{M:aC}:Pl.there M .stop=True:=rfl
@[simp] theorem Yq{M:aC}{p:Pl}:Pl.there M (.alt i ks r p)=((tY∈ks∨∀k∈ks,has (aA M k))∧r.there M∧p.there M):=by simp only[Pl.there,PV]
end
end Go.Sv


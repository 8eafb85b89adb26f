/- A text of the prover's own. -/
import Derived.Test.YtnimjdcaajmfcaaGreatDoorVVz
open Nat renaming le_refl->axq,div_lt_self->ayT,pos_of_ne_zero->ayU,strongRecOn->ayV,mod_add_div->ayW,pow_succ->ayX,mul_add->ayY,mul_comm->ayZ,mul_assoc->ay0,mul_le_mul_left->ay1,lt_of_lt_of_le->ays,pow_le_pow_right->ay2
open List renaming length_map->ay3,cons_append->ayb,mem_cons->ayn,length_cons->awV
open Go.IntKind renaming u64->ay4,u32->ay5,wrap->ay6,bits->ay7,signed->ay8
namespace Go.Sv
open Go Go.RowKit
def Vq:Code:=.cond (.const .nilIface) .skip .skip
def kQ:Nat->Code->Code
 | 0,_=>.skip
 | n+1,.seq x y=>.seq x (kQ n y)
 | _+1,_=>Vq
def bh:Nat->Code->Code
 | 0,c=>c
 | n+1,.seq _ y=>bh n y
 | _+1,c=>c
@[simp] theorem aL(c:Code):kQ 0 c=.skip:=by cases c<;>rfl
@[simp] theorem aN(n:Nat)(x y:Code):kQ (n+1) (.seq x y)=.seq x (kQ n y):=rfl
@[simp] theorem ab(c:Code):bh 0 c=c:=by cases c<;>rfl
@[simp] theorem ah(n:Nat)(x y:Code):bh (n+1) (.seq x y)=bh n y:=rfl
section
variable {P:Program} {C:Ctx} {st:St} {Q:bf}
def jM(C:Ctx)(I:St->Prop)(Q:bf):bf:=uI (λst'=>∃ac,I ac∧aP C st' ac) Q
@[simp] theorem T8{I:St->Prop}:jM C I Q .normal st=∃ac,I ac∧aP C st ac:=rfl
@[simp] theorem adr{I:St->Prop}:jM C I Q .ret st=Q .ret st:=rfl
@[simp] theorem WW{I:St->Prop}{c:List PanicEntry}:jM C I Q (.panic c) st=Q (.panic c) st:=rfl
theorem aa.cutAt:∀(n:Nat) {c:Code} {st:St} (I:St->Prop),vc P C (kQ n c) st (jM C I Q) (jM C I Q)->(∀ac,I ac->aa P C (bh n c) ac Q)->aa P C c st Q
 | 0,c,st,I,h1,h2=>λa w hs=>by rw[aL]at h1;rw[ab]at h2;obtain⟨ac,h3,h4⟩:=h1;exact h2 ac h3 a w (Le.dE h4 a w hs)
 | n+1,.seq x y,st,I,h1,h2=>λa w hs=>by
  have hx:=oO x st (R:=uI (λst'=>aa P C y st' Q) Q) (λe st' h'=>by
   cases e<;>simp only[uI]at h' ⊢<;>first | exact h' | exact aa.cutAt n I h' h2) (λe st' h'=>by
   cases e<;>simp only[uI]at h' ⊢<;>first | exact h' | exact aa.cutAt n I h' h2) h1
  refine wp_seq (wp_mono (hx a w hs) ?_);rintro e a' w' ⟨st',h3,h4⟩;cases e<;>simp only[uI,Exit.then]at h3 ⊢<;>first | exact h3 a' w' h4 | exact⟨st',h3,h4⟩
 | _+1,.skip,_,_,h1,_=>h1.elim
 | _+1,.region ..,_,_,h1,_=>h1.elim
 | _+1,.cond ..,_,_,h1,_=>h1.elim
 | _+1,.block ..,_,_,h1,_=>h1.elim
 | _+1,.loop ..,_,_,h1,_=>h1.elim
 | _+1,.rangeFunc ..,_,_,h1,_=>h1.elim
 | _+1,.exit ..,_,_,h1,_=>h1.elim
 | _+1,.scope ..,_,_,h1,_=>h1.elim
 | _+1,.label ..,_,_,h1,_=>h1.elim
 | _+1,.goto ..,_,_,h1,_=>h1.elim
 | _+1,.ret,_,_,h1,_=>h1.elim
 | _+1,.refuse ..,_,_,h1,_=>h1.elim
theorem jA{f:FuncId}{fn:Func}{c:Code}{args:List SV}{Φ:SV->Prop}(hf:P.funcs[f]?=some fn)(hb:fn.body=some c)(hn:args.length<=fn.ntmps)
  (h:∀C:Ctx,C.fx=[]->aa P C c ⟨fn.ntmps,l6 0 args,[]⟩ (kg P fn.results.toList Φ)):qA P f args Φ:=by
 intro H w ad hi hd;refine calls_of_wp hf hb ?_;have hj:=h ⟨w,H,[],o4,[]⟩ rfl;refine wp_mono (hj _ w ⟨o4,H,uK hd hn hi.2 rfl (by simp),?_⟩) ?_
 ·exact⟨rfl,rfl,rfl,axq _,λ_ _ _=>rfl,λ_ _ h=>h,λ_ _ h=>.inl h,hi.1,λk e hk=>by simp at hk,λk e d hk=>by simp at hk,λk k' e e' d d' hk=>by simp at hk,λ_ _=>rfl,(λk d hk=>by cases hk),hi.2⟩
 ·rintro e a w' ⟨st,hq,β,H',hF,hW⟩;have key:(match k8 P st fn.results.toList with | some (c,x)=>c∧∃y,Sub st.M x y∧Φ y | none=>False) ->
    a.defers=[]∧∃v,(results fn a.tmps).run P w'=.ok v w'∧∃H' v' x,Ending.returned v=.returned v'∧Den o4 H' x v'∧Φ x∧(∀b cs,H b=some cs->H' b=some cs)∧(∀b cs,H' b=some cs->H b=some cs∨w.heap.size<=b)∧pV H' w'∧Below w.heap.size w w':=by
   intro hq;refine⟨hF.1.1,?_⟩;split at hq
   ·rename_i c' x hr;obtain⟨hc,y,hs,hΦ⟩:=hq;obtain⟨v,ae,af⟩:=A7 hF hW hr hc;obtain⟨H1,h1,h2,h3⟩:=rB x.ks hW (rp hs);have ag:=rU h2 hs ⟨λk e he hk=>by
     obtain⟨e',g1,g2, -,g4⟩:=h3 k e he;exact⟨e',g1,g2,g4 (.inr hk)⟩⟩ (Den.up af (λ_ _ h=>h) h1)
    exact⟨v,ae,H1,v,y,rfl,ag,hΦ,h2.ext,λb cs hb=>(h2.new b cs hb).imp id (λh=>h.resolve_right (by simp)),h2.IE,h2.os,h2.tape,h2.output,h2.size,λk hk=>h2.frame k hk (by simp)⟩
   ·exact hq.elim
  cases e<;>simp only[kg]at hq<;>simp only[bodyPost]
  case normal=>exact key hq
  case ret=>exact key hq
end
end Go.Sv
namespace Go.Sv
open Go Go.RowKit
def u32(x:Nat):SV:=.val (.int .u32 (x:Int))
def i64(x:Nat):SV:=.val (.int .i64 (x:Int))
def u8(x:Nat):SV:=.val (.int .u8 (x:Int))
@[simp] theorem XF(x:Nat):u8 x=.val (.int .u8 (x:Int)):=rfl
@[simp] theorem Lb(x:Nat):u32 x=.val (.int .u32 (x:Int)):=rfl
@[simp] theorem RB(x:Nat):i64 x=.val (.int .i64 (x:Int)):=rfl
section
variable {α:Type} (f:α->SV)
@[simp] theorem MG(l r:List SV)(x:SV):aM (l++x::r) l.length=x:=by
 induction l with
 | nil=>rfl
 | cons y l ih=>simpa using ih
@[simp] theorem BO(l:List α)(r:List SV)(x:SV):aM (l.map f++x::r) l.length=x:=by
 have:=MG (l.map f) r x
 rwa [ay3]at this
theorem zh{l:List α}{r:List SV}{x:SV}{i:Nat}(h:i=l.length):aM (l.map f++x::r) i=x:=by rw[h,BO]
@[simp] theorem L8(l r:List SV)(x y:SV):da (l++x::r) l.length y=l++y::r:=by
 induction l with
 | nil=>rfl
 | cons z l ih=>simpa using ih
@[simp] theorem QI(l:List α)(r:List SV)(x y:SV):da (l.map f++x::r) l.length y=l.map f++y::r:=by
 have:=L8 (l.map f) r x y
 rwa [ay3]at this
@[simp] theorem SU(l:List α)(r:List SV):(l.map f++r).take l.length=l.map f:=by
 have:=List.take_left (l₁:=l.map f) (l₂:=r)
 rwa [ay3]at this
theorem Gu{l r:List SV}{i:Nat}(h:i<l.length):aM (l++r) i=aM l i:=by
 induction l generalizing i with
 | nil=>simp at h
 | cons y l ih=>cases i with
  | zero=>rfl
  | succ i=>simp at h;simpa using ih h
@[simp] theorem adj(s:Nat)(x:SV)(l:List SV):D8 s (x::l)=(x.ir=s∧x.aW=false):=by simp[D8]
@[simp] theorem ahF(l:List Nat):D8 1 (l.map u32)=True:=by cases l<;>simp[D8]
@[simp] theorem ai5(l:List Nat):D8 1 (l.map i64)=True:=by cases l<;>simp[D8]
@[simp] theorem UZ(l:List Nat)(r:List SV):D8 1 (l.map u32++r)=(l=[]->D8 1 r):=by cases l<;>simp[D8]
end
@[simp] theorem Vx(n:Nat)(l r:List SV):SV.j3 n (l++r)=(SV.j3 n l&&SV.j3 n r):=by
 induction l with
 | nil=>simp[SV.j3]
 | cons x l ih=>simp[SV.j3,ih,Bool.and_assoc]
@[simp] theorem Si(l r:List SV):SV.bF (l++r)=(SV.bF l&&SV.bF r):=by
 induction l with
 | nil=>simp[SV.bF]
 | cons x l ih=>simp[SV.bF,ih,Bool.and_assoc]
@[simp] theorem SG(k:Nat)(l r:List SV):SV.aY k (l++r)=(SV.aY k l||SV.aY k r):=by
 induction l with
 | nil=>simp[SV.aY]
 | cons x l ih=>simp[SV.aY,ih,Bool.or_assoc]
@[simp] theorem Xw(a b:Nat):((a:Int)+(b:Int)).toNat=a+b:=by omega
@[simp] theorem WU(a:Nat):((a:Int) - 2).toNat=a - 2:=by omega
@[simp] theorem QM(a b:Nat):((a:Int)+(b:Int) - 2).toNat=a+b - 2:=by omega
/-! tables that are not told whole -/
@[simp] theorem ao:∀M:aC,fj M M
 | []=>trivial
 | _::M=>⟨.inr rfl,ao M⟩
theorem iM{M:aC}{k:Nat}{e':cJ}(e:cJ)(h:aA M k=some e'):aA (aX M k (some e)) k=some e:=by rw[vZ _ _ _ _ ⟨e',h⟩,if_pos rfl]
@[simp] theorem YM(M:aC)(k:Nat)(x y:Option cJ):aX (aX M k x) k y=aX M k y:=by simp[dL]
@[simp] theorem uT(M:aC)(k:Nat)(x:Option cJ):(aX M k x).length=M.length:=by simp[dL]
theorem ot{M:aC}{k:Nat}{e:cJ}(h:aA M k=some e):aX M k (some e)=M:=by
 induction M generalizing k with
 | nil=>rfl
 | cons x l ih=>cases k with
  | zero=>simp only[aA]at h;simp[aX,h]
  | succ k=>simp only[aX];rw[ih h]
@[simp] theorem Mk(M:aC)(x:Option cJ):aA (M++[x]) M.length=x:=by
 induction M with
 | nil=>rfl
 | cons y M ih=>simpa[aA]using ih
@[simp] theorem YW(M:aC)(x y:Option cJ):aX (M++[x]) M.length y=M++[y]:=by
 induction M with
 | nil=>rfl
 | cons z M ih=>simpa[aX]using ih
theorem pS{M:aC}{k:Nat}{e:cJ}(x:Option cJ)(h:aA M k=some e):aA (M++[x]) k=some e:=by
 induction M generalizing k with
 | nil=>simp[aA]at h
 | cons y M ih=>cases k with
  | zero=>exact h
  | succ k=>exact ih h
theorem NU{M:aC}{n:Nat}(x:Option cJ)(h:n=M.length):aA (M++[x]) n=x:=by rw[h,Mk]
theorem vt{M:aC}{k:Nat}{e:cJ}(x y:Option cJ)(h:aA M k=some e):aX (M++[x]) k y=aX M k y++[x]:=by
 induction M generalizing k with
 | nil=>simp[aA]at h
 | cons z M ih=>cases k with
  | zero=>rfl
  | succ k=>simp only[ayb,aX];rw[ih h]
theorem zN{M:aC}{k j:Nat}{e':cJ}(e:cJ)(h:aA M k=some e')(hj:j≠k):aA (aX M k (some e)) j=aA M j:=by rw[vZ _ _ _ _ ⟨e',h⟩,if_neg hj]
/-! numbers -/
@[simp] theorem aej:ay4.bits=64:=rfl
@[simp] theorem acM:ay5.bits=32:=rfl
theorem HC(n:Int):ay4.wrap n=n % 18446744073709551616:=by simp[ay6,ay7,ay8]
theorem iY(n:Int):ay5.wrap n=n % 4294967296:=by simp[ay6,ay7,ay8]
theorem SW(n:Int):IntKind.u8.wrap n=n % 256:=by simp[ay6,ay7,ay8]
theorem aD(n:Int)(h : -9223372036854775808<=n∧n<=9223372036854775807):IntKind.i64.wrap n=n:=by rw[IntKind.wrap_i64];omega
theorem iQ(n:Int)(h:0<=n∧n<=18446744073709551615):ay4.wrap n=n:=by simp[ay6,ay7,ay8];omega
theorem Q4(n:Int)(h:0<=n∧n<=4294967295):ay5.wrap n=n:=by rw[IntKind.wrap_u32];omega
end Go.Sv
namespace Go.Pl
def val(B:Nat):List Nat->Nat
 | []=>0
 | d::l=>d+B*val B l
def cG:List Nat->List Nat
 | []=>[]
 | d::l=>match cG l with
  | []=>if d=0 then[] else[d]
  | e::r=>d::e::r
def GJ(B:Nat):Nat->Nat->List Nat
 | 0,_=>[]
 | f+1,n=>if n=0 then[] else n % B::GJ B f (n / B)
def bO(B n:Nat):List Nat:=GJ B n n
theorem K3{B:Nat}(hB:2<=B):∀(f g n:Nat),n<=f->n<=g->GJ B f n=GJ B g n
 | 0,g,n,h,_=>by
  have:n=0:=by omega
  subst this;cases g<;>simp[GJ]
 | f+1,0,n,_,h=>by
  have:n=0:=by omega
  subst this;simp[GJ]
 | f+1,g+1,n,h1,h2=>by
  simp only[GJ];split
  ·rfl
  ·rename_i hn;have:=ayT (ayU hn) hB;rw[K3 hB f g (n / B) (by omega) (by omega)]
theorem bu(B:Nat):bO B 0=[]:=rfl
theorem nF{B n:Nat}(hB:2<=B)(hn:n≠0):bO B n=n % B::bO B (n / B):=by obtain⟨m,rfl⟩:∃m,n=m+1:=⟨n - 1,by omega⟩;have:=ayT (ayU hn) hB;simp only[bO,GJ,hn,if_false];rw[K3 hB m ((m+1) / B) _ (by omega) (axq _)]
theorem bW{B n:Nat}(hB:2<=B):bO B n=[]↔n=0:=by
 constructor
 ·intro h;by_cases hn:n=0
  ·exact hn
  ·rw[nF hB hn]at h;cases h
 ·rintro rfl;rfl
theorem cB{B:Nat}(hB:2<=B)(n:Nat):val B (bO B n)=n:=by
 induction n using ayV with
 | _ n ih =>
  by_cases hn:n=0
  ·subst hn;rfl
  ·rw[nF hB hn];simp only[val];rw[ih _ (ayT (ayU hn) hB)];exact ayW n B
theorem cX{B:Nat}(hB:2<=B)(n:Nat):∀d∈bO B n,d<B:=by
 induction n using ayV with
 | _ n ih =>
  by_cases hn:n=0
  ·subst hn;simp[bu]
  ·rw[nF hB hn];intro d hd;rcases ayn.1 hd with rfl | hd
   ·exact Nat.mod_lt _ (by omega)
   ·exact ih _ (ayT (ayU hn) hB) d hd
theorem gz{B:Nat}(hB:2<=B):∀(l:List Nat),(∀d∈l,d<B)->bO B (val B l)=cG l
 | [],_=>rfl
 | d::l,h=>by
  have ih:=gz hB l λe he=>h e (by simp[he]);have hd:=h d (by simp);simp only[val,cG];by_cases hz:d+B*val B l=0
  ·have h1:d=0:=by omega
   have h2:val B l=0:=by
    have:B*val B l=0:=by omega
    rcases Nat.mul_eq_zero.1 this with h | h<;>omega
   rw[h2,bu]at ih;rw[hz,<-ih];simp[h1,bu]
  ·rw[nF hB hz];have h1:(d+B*val B l) % B=d:=by rw[Nat.add_mul_mod_self_left];exact Nat.mod_eq_of_lt hd
   have h2:(d+B*val B l) / B=val B l:=by rw[Nat.add_mul_div_left _ _ (by omega)];rw[Nat.div_eq_of_lt hd];omega
   rw[h1,h2,ih];cases ht:cG l with
   | nil =>
    have h3:val B l=0:=by rw[ht]at ih;exact(bW hB).1 ih
    rw[if_neg (by rw[h3]at hz;simpa using hz)]
   | cons e r=>rfl
theorem Ci{B:Nat}(hB:2<=B)(n:Nat):cG (bO B n)=bO B n:=by rw[<-gz hB _ (cX hB n),cB hB]
theorem lV(l:List Nat):cG (l++[0])=cG l:=by
 induction l with
 | nil=>rfl
 | cons d l ih=>simp[cG,ih]
theorem pT(l:List Nat){d:Nat}(hd:d≠0):cG (l++[d])=l++[d]:=by
 induction l with
 | nil=>simp[cG,hd]
 | cons e l ih =>
  simp only[ayb,cG,ih];cases l<;>simp
theorem u4(l:List Nat):(cG l).length<=l.length:=by
 induction l with
 | nil=>simp[cG]
 | cons d l ih =>
  simp only[cG];split
  ·split<;>simp
  ·rename_i e r h;rw[h]at ih;simpa using ih
theorem Hj{B:Nat}(l:List Nat)(h:∀d∈l,d<B):∀d∈cG l,d<B:=by
 induction l with
 | nil=>simp[cG]
 | cons e l ih =>
  have ih:=ih λd hd=>h d (by simp[hd]);simp only[cG];split
  ·split
   ·simp
   ·intro d hd;simp at hd;subst hd;exact h d (by simp)
  ·rename_i x r hx;rw[hx]at ih;intro d hd;rcases ayn.1 hd with rfl | hd
   ·exact h d (by simp)
   ·exact ih d hd
theorem dq(B:Nat)(l r:List Nat):val B (l++r)=val B l+B^l.length*val B r:=by
 induction l with
 | nil=>simp[val]
 | cons d l ih=>simp only[ayb,val,ih,awV,ayX];rw[ayY,ayZ (B^l.length) B,ay0];omega
theorem mz{B:Nat}(l:List Nat)(h:∀d∈l,d<B):val B l<B^l.length:=by
 induction l with
 | nil=>simp[val]
 | cons d l ih =>
  have ih:=ih λe he=>h e (by simp[he]);have hd:=h d (by simp);simp only[val,awV,ayX]
  calc d+B*val B l<B+B*val B l:=by omega
   _=B*(val B l+1):=by rw[ayY];omega
   _<=B*B^l.length:=ay1 _ ih
   _=B^l.length*B:=ayZ _ _
theorem Fo(B:Nat)(l:List Nat):val B (cG l)=val B l:=by
 induction l with
 | nil=>rfl
 | cons d l ih =>
  simp only[cG];cases h:cG l with
  | nil =>
   rw[h]at ih;simp only[val]at ih ⊢;split
   ·simp[val,<-ih];omega
   ·simp[val,<-ih]
  | cons e r=>rw[h]at ih;simp only[val]at ih ⊢;rw[ih]
def wid(B n:Nat):Nat:=(bO B n).length
theorem iC{B n k:Nat}(hB:2<=B)(h:n<B^k):wid B n<=k:=by
 induction k generalizing n with
 | zero=>simp at h;subst h;simp[wid,bu]
 | succ k ih =>
  by_cases hn:n=0
  ·subst hn;simp[wid,bu]
  ·simp only[wid];rw[nF hB hn];simp only[awV];have:n / B<B^k:=by rw[Nat.div_lt_iff_lt_mul (by omega)];rwa [ayX]at h
   have:=ih this;simp only[wid]at this;omega
theorem rh{B:Nat}(hB:2<=B)(n:Nat):n<B^wid B n:=by
 have:=mz (bO B n) (cX hB n)
 rwa [cB hB]at this
theorem cH{B m n:Nat}(hB:2<=B)(h:m<=n):wid B m<=wid B n:=iC hB (Nat.lt_of_le_of_lt h (rh hB n))
theorem zI{A B:Nat}(hA:2<=A)(h:A<=B)(n:Nat):wid B n<=wid A n:=iC (by omega) (ays (rh hA n) (Nat.pow_le_pow_left h _))
theorem Ez{B:Nat}(hB:2<=B)(m n:Nat):wid B (m*n)<=wid B m+wid B n:=by refine iC hB ?_;rw[Nat.pow_add];exact Nat.mul_lt_mul'' (rh hB m) (rh hB n)
theorem RD{B:Nat}(hB:2<=B)(m n:Nat):wid B (m+n)<=max (wid B m) (wid B n)+1:=by refine iC hB ?_;have h1:=ays (rh hB m) (ay2 (by omega:0<B) (Nat.le_max_left (wid B m) (wid B n)));have h2:=ays (rh hB n) (ay2 (by omega:0<B) (Nat.le_max_right (wid B m) (wid B n)));rw[ayX];have:B^max (wid B m) (wid B n)*2<=B^max (wid B m) (wid B n)*B:=ay1 _ hB;omega
theorem yT{B:Nat}{la lb r:List Nat}{x y:Nat}(ai:∀d∈la,d<B)(hl:la.length=lb.length)(h:x<y):val B (la++x::r)<val B (lb++y::r):=by
 rw[dq,dq,hl];simp only[val];have h1:=mz la ai;rw[hl]at h1;have h2:B^lb.length*(x+B*val B r)+B^lb.length<=B^lb.length*(y+B*val B r):=by rw[<-Nat.mul_succ];exact ay1 _ (by omega)
 omega
theorem Av(B:Nat)(out:List Nat)(x r:Nat):val B (out++[x % B])+B^(out.length+1)*(x / B+r)=val B out+B^out.length*(x+B*r):=by
 have h:=ayW x B;rw[dq]
 conv=>rhs;rw[<-h]
 simp only[val,ayX,ayY,Nat.mul_zero,Nat.add_zero,ay0,Nat.add_assoc]
def eE(m n:Nat):Int:=if m<n then -1 else if n<m then 1 else 0
theorem rS{B m n:Nat}(hB:2<=B)(h:(bO B m).length<(bO B n).length):m<n:=by
 rcases Nat.lt_or_ge m n with h' | h'
 ·exact h'
 ·have:=cH hB h';simp only[wid]at this;omega
end Go.Pl


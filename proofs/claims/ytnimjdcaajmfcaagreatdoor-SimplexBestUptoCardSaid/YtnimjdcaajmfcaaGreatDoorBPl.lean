/- A text of the prover's own. -/
import Derived.Test.YtnimjdcaajmfcaaGreatDoorBVz
open Nat renaming le_refl->asN,div_lt_self->atH,pos_of_ne_zero->atI,strongRecOn->atJ,mod_add_div->atK,pow_succ->atL,mul_add->atM,mul_comm->atN,mul_assoc->atP,mul_le_mul_left->atQ,lt_of_lt_of_le->atk,pow_le_pow_right->atS
open List renaming length_map->atT,cons_append->as8,mem_cons->atf,length_cons->asw
open Go.IntKind renaming u64->awR,u32->awS,wrap->awT,bits->awU,signed->awV
namespace Go.Sv
open Go Go.RowKit
def Tf:Code:=.cond (.const .nilIface) .skip .skip
def jW:Nat->Code->Code
 | 0,_=>.skip
 | n+1,.seq x y=>.seq x (jW n y)
 | _+1,_=>Tf
def bs:Nat->Code->Code
 | 0,c=>c
 | n+1,.seq _ y=>bs n y
 | _+1,c=>c
@[simp] theorem aM(c:Code):jW 0 c=.skip:=by cases c<;>rfl
@[simp] theorem aN(n:Nat)(x y:Code):jW (n+1) (.seq x y)=.seq x (jW n y):=rfl
@[simp] theorem ah(c:Code):bs 0 c=c:=by cases c<;>rfl
@[simp] theorem ai(n:Nat)(x y:Code):bs (n+1) (.seq x y)=bs n y:=rfl
section
variable {P:Program} {C:Ctx} {st:St} {Q:bf}
def jl(C:Ctx)(I:St->Prop)(Q:bf):bf:=sY (λst'=>∃ab,I ab∧aR C st' ab) Q
@[simp] theorem QY{I:St->Prop}:jl C I Q .normal st=∃ab,I ab∧aR C st ab:=rfl
@[simp] theorem YA{I:St->Prop}:jl C I Q .ret st=Q .ret st:=rfl
@[simp] theorem S5{I:St->Prop}{c:List PanicEntry}:jl C I Q (.panic c) st=Q (.panic c) st:=rfl
theorem aa.cutAt:∀(n:Nat) {c:Code} {st:St} (I:St->Prop),vc P C (jW n c) st (jl C I Q) (jl C I Q)->(∀ab,I ab->aa P C (bs n c) ab Q)->aa P C c st Q
 | 0,c,st,I,h1,h2=>λa w hs=>by rw[aM]at h1;rw[ah]at h2;obtain⟨ab,h3,h4⟩:=h1;exact h2 ab h3 a w (Le.fm h4 a w hs)
 | n+1,.seq x y,st,I,h1,h2=>λa w hs=>by
  have hx:=mO x st (R:=sY (λst'=>aa P C y st' Q) Q) (λe st' h'=>by
   cases e<;>simp only[sY]at h' ⊢<;>first | exact h' | exact aa.cutAt n I h' h2) (λe st' h'=>by
   cases e<;>simp only[sY]at h' ⊢<;>first | exact h' | exact aa.cutAt n I h' h2) h1
  refine wp_seq (wp_mono (hx a w hs) ?_);rintro e a' w' ⟨st',h3,h4⟩;cases e<;>simp only[sY,Exit.then]at h3 ⊢<;>first | exact h3 a' w' h4 | exact⟨st',h3,h4⟩
 | _+1,.skip,_,_,h1,_=>h1.elim
 | _+1,.region ..,_,_,h1,_=>h1.elim
 | _+1,.cond ..,_,_,h1,_=>h1.elim
 | _+1,.block ..,_,_,h1,_=>h1.elim
 | _+1,.loop ..,_,_,h1,_=>h1.elim
 | _+1,.rangeFunc ..,_,_,h1,_=>h1.elim
 | _+1,.exit ..,_,_,h1,_=>h1.elim
 | _+1,.scope ..,_,_,h1,_=>h1.elim
 | _+1,.label ..,_,_,h1,_=>h1.elim
 | _+1,.goto ..,_,_,h1,_=>h1.elim
 | _+1,.ret,_,_,h1,_=>h1.elim
 | _+1,.refuse ..,_,_,h1,_=>h1.elim
theorem jT{f:FuncId}{fn:Func}{c:Code}{args:List SV}{Φ:SV->Prop}(hf:P.funcs[f]?=some fn)(hb:fn.body=some c)(hn:args.length<=fn.ntmps)
  (h:∀C:Ctx,C.fx=[]->aa P C c ⟨fn.ntmps,mh 0 args,[]⟩ (lZ P fn.results.toList Φ)):rC P f args Φ:=by
 intro H w ac hi hd;refine calls_of_wp hf hb ?_;have hj:=h ⟨w,H,[],rz,[]⟩ rfl;refine wp_mono (hj _ w ⟨rz,H,w7 hd hn hi.2 rfl (by simp),?_⟩) ?_
 ·exact⟨rfl,rfl,rfl,asN _,λ_ _ _=>rfl,λ_ _ h=>h,λ_ _ h=>.inl h,hi.1,λk e hk=>by simp at hk,λk e d hk=>by simp at hk,λk k' e e' d d' hk=>by simp at hk,λ_ _=>rfl,(λk d hk=>by cases hk),hi.2⟩
 ·rintro e a w' ⟨st,hq,β,H',hF,hW⟩;have key:(match lG P st fn.results.toList with | some (c,x)=>c∧∃y,Sub st.M x y∧Φ y | none=>False) ->
    a.defers=[]∧∃v,(results fn a.tmps).run P w'=.ok v w'∧∃H' v' x,Ending.returned v=.returned v'∧Den rz H' x v'∧Φ x∧(∀b cs,H b=some cs->H' b=some cs)∧(∀b cs,H' b=some cs->H b=some cs∨w.heap.size<=b)∧wA H' w'∧Below w.heap.size w w':=by
   intro hq;refine⟨hF.1.1,?_⟩;split at hq
   ·rename_i c' x hr;obtain⟨hc,y,hs,hΦ⟩:=hq;obtain⟨v,ad,ae⟩:=CI hF hW hr hc;obtain⟨H1,h1,h2,h3⟩:=y6 x.ks hW (tE hs);have af:=tO h2 hs ⟨λk e he hk=>by
     obtain⟨e',g1,g2, -,g4⟩:=h3 k e he;exact⟨e',g1,g2,g4 (.inr hk)⟩⟩ (Den.up ae (λ_ _ h=>h) h1)
    exact⟨v,ad,H1,v,y,rfl,af,hΦ,h2.ext,λb cs hb=>(h2.new b cs hb).imp id (λh=>h.resolve_right (by simp)),h2.OO,h2.os,h2.tape,h2.output,h2.size,λk hk=>h2.frame k hk (by simp)⟩
   ·exact hq.elim
  cases e<;>simp only[lZ]at hq<;>simp only[bodyPost]
  case normal=>exact key hq
  case ret=>exact key hq
end
end Go.Sv
namespace Go.Sv
open Go Go.RowKit
def u32(x:Nat):SV:=.val (.int .u32 (x:Int))
def i64(x:Nat):SV:=.val (.int .i64 (x:Int))
def u8(x:Nat):SV:=.val (.int .u8 (x:Int))
@[simp] theorem Sw(x:Nat):u8 x=.val (.int .u8 (x:Int)):=rfl
@[simp] theorem H3(x:Nat):u32 x=.val (.int .u32 (x:Int)):=rfl
@[simp] theorem Ol(x:Nat):i64 x=.val (.int .i64 (x:Int)):=rfl
section
variable {α:Type} (f:α->SV)
@[simp] theorem Jr(l r:List SV)(x:SV):aL (l++x::r) l.length=x:=by
 induction l with
 | nil=>rfl
 | cons y l ih=>simpa using ih
@[simp] theorem zR(l:List α)(r:List SV)(x:SV):aL (l.map f++x::r) l.length=x:=by
 have:=Jr (l.map f) r x
 rwa [atT]at this
theorem xc{l:List α}{r:List SV}{x:SV}{i:Nat}(h:i=l.length):aL (l.map f++x::r) i=x:=by rw[h,zR]
@[simp] theorem JC(l r:List SV)(x y:SV):cZ (l++x::r) l.length y=l++y::r:=by
 induction l with
 | nil=>rfl
 | cons z l ih=>simpa using ih
@[simp] theorem NZ(l:List α)(r:List SV)(x y:SV):cZ (l.map f++x::r) l.length y=l.map f++y::r:=by
 have:=JC (l.map f) r x y
 rwa [atT]at this
@[simp] theorem P6(l:List α)(r:List SV):(l.map f++r).take l.length=l.map f:=by
 have:=List.take_left (l₁:=l.map f) (l₂:=r)
 rwa [atT]at this
theorem Ey{l r:List SV}{i:Nat}(h:i<l.length):aL (l++r) i=aL l i:=by
 induction l generalizing i with
 | nil=>simp at h
 | cons y l ih=>cases i with
  | zero=>rfl
  | succ i=>simp at h;simpa using ih h
@[simp] theorem Yp(s:Nat)(x:SV)(l:List SV):BH s (x::l)=(x.gJ=s∧x.aV=false):=by simp[BH]
@[simp] theorem agG(l:List Nat):BH 1 (l.map u32)=True:=by cases l<;>simp[BH]
@[simp] theorem adW(l:List Nat):BH 1 (l.map i64)=True:=by cases l<;>simp[BH]
@[simp] theorem Sa(l:List Nat)(r:List SV):BH 1 (l.map u32++r)=(l=[]->BH 1 r):=by cases l<;>simp[BH]
end
@[simp] theorem TT(n:Nat)(l r:List SV):SV.kZ n (l++r)=(SV.kZ n l&&SV.kZ n r):=by
 induction l with
 | nil=>simp[SV.kZ]
 | cons x l ih=>simp[SV.kZ,ih,Bool.and_assoc]
@[simp] theorem Pm(l r:List SV):SV.bJ (l++r)=(SV.bJ l&&SV.bJ r):=by
 induction l with
 | nil=>simp[SV.bJ]
 | cons x l ih=>simp[SV.bJ,ih,Bool.and_assoc]
@[simp] theorem P4(k:Nat)(l r:List SV):SV.aZ k (l++r)=(SV.aZ k l||SV.aZ k r):=by
 induction l with
 | nil=>simp[SV.aZ]
 | cons x l ih=>simp[SV.aZ,ih,Bool.or_assoc]
@[simp] theorem SX(a b:Nat):((a:Int)+(b:Int)).toNat=a+b:=by omega
@[simp] theorem S2(a:Nat):((a:Int) - 2).toNat=a - 2:=by omega
@[simp] theorem N1(a b:Nat):((a:Int)+(b:Int) - 2).toNat=a+b - 2:=by omega
/-! tables that are not told whole -/
@[simp] theorem aq:∀M:aD,fI M M
 | []=>trivial
 | _::M=>⟨.inr rfl,aq M⟩
theorem ia{M:aD}{k:Nat}{e':cz}(e:cz)(h:aA M k=some e'):aA (aX M k (some e)) k=some e:=by rw[sC _ _ _ _ ⟨e',h⟩,if_pos rfl]
@[simp] theorem VS(M:aD)(k:Nat)(x y:Option cz):aX (aX M k x) k y=aX M k y:=by simp[dI]
@[simp] theorem s9(M:aD)(k:Nat)(x:Option cz):(aX M k x).length=M.length:=by simp[dI]
theorem mN{M:aD}{k:Nat}{e:cz}(h:aA M k=some e):aX M k (some e)=M:=by
 induction M generalizing k with
 | nil=>rfl
 | cons x l ih=>cases k with
  | zero=>simp only[aA]at h;simp[aX,h]
  | succ k=>simp only[aX];rw[ih h]
@[simp] theorem Jl(M:aD)(x:Option cz):aA (M++[x]) M.length=x:=by
 induction M with
 | nil=>rfl
 | cons y M ih=>simpa[aA]using ih
@[simp] theorem Vr(M:aD)(x y:Option cz):aX (M++[x]) M.length y=M++[y]:=by
 induction M with
 | nil=>rfl
 | cons z M ih=>simpa[aX]using ih
theorem oa{M:aD}{k:Nat}{e:cz}(x:Option cz)(h:aA M k=some e):aA (M++[x]) k=some e:=by
 induction M generalizing k with
 | nil=>simp[aA]at h
 | cons y M ih=>cases k with
  | zero=>exact h
  | succ k=>exact ih h
theorem KN{M:aD}{n:Nat}(x:Option cz)(h:n=M.length):aA (M++[x]) n=x:=by rw[h,Jl]
theorem tK{M:aD}{k:Nat}{e:cz}(x y:Option cz)(h:aA M k=some e):aX (M++[x]) k y=aX M k y++[x]:=by
 induction M generalizing k with
 | nil=>simp[aA]at h
 | cons z M ih=>cases k with
  | zero=>rfl
  | succ k=>simp only[as8,aX];rw[ih h]
theorem yM{M:aD}{k j:Nat}{e':cz}(e:cz)(h:aA M k=some e')(hj:j≠k):aA (aX M k (some e)) j=aA M j:=by rw[sC _ _ _ _ ⟨e',h⟩,if_neg hj]
/-! numbers -/
@[simp] theorem XV:awR.bits=64:=rfl
@[simp] theorem abE:awS.bits=32:=rfl
theorem Eu(n:Int):awR.wrap n=n % 18446744073709551616:=by simp[awT,awU,awV]
theorem ix(n:Int):awS.wrap n=n % 4294967296:=by simp[awT,awU,awV]
theorem QO(n:Int):IntKind.u8.wrap n=n % 256:=by simp[awT,awU,awV]
theorem aK(n:Int)(h : -9223372036854775808<=n∧n<=9223372036854775807):IntKind.i64.wrap n=n:=by rw[IntKind.wrap_i64];omega
theorem ig(n:Int)(h:0<=n∧n<=18446744073709551615):awR.wrap n=n:=by simp[awT,awU,awV];omega
theorem N7(n:Int)(h:0<=n∧n<=4294967295):awS.wrap n=n:=by rw[IntKind.wrap_u32];omega
end Go.Sv
namespace Go.Pl
def val(B:Nat):List Nat->Nat
 | []=>0
 | d::l=>d+B*val B l
def cC:List Nat->List Nat
 | []=>[]
 | d::l=>match cC l with
  | []=>if d=0 then[] else[d]
  | e::r=>d::e::r
def Ff(B:Nat):Nat->Nat->List Nat
 | 0,_=>[]
 | f+1,n=>if n=0 then[] else n % B::Ff B f (n / B)
def bO(B n:Nat):List Nat:=Ff B n n
theorem Im{B:Nat}(hB:2<=B):∀(f g n:Nat),n<=f->n<=g->Ff B f n=Ff B g n
 | 0,g,n,h,_=>by
  have:n=0:=by omega
  subst this;cases g<;>simp[Ff]
 | f+1,0,n,_,h=>by
  have:n=0:=by omega
  subst this;simp[Ff]
 | f+1,g+1,n,h1,h2=>by
  simp only[Ff];split
  ·rfl
  ·rename_i hn;have:=atH (atI hn) hB;rw[Im hB f g (n / B) (by omega) (by omega)]
theorem bj(B:Nat):bO B 0=[]:=rfl
theorem mu{B n:Nat}(hB:2<=B)(hn:n≠0):bO B n=n % B::bO B (n / B):=by obtain⟨m,rfl⟩:∃m,n=m+1:=⟨n - 1,by omega⟩;have:=atH (atI hn) hB;simp only[bO,Ff,hn,if_false];rw[Im hB m ((m+1) / B) _ (by omega) (asN _)]
theorem bX{B n:Nat}(hB:2<=B):bO B n=[]↔n=0:=by
 constructor
 ·intro h;by_cases hn:n=0
  ·exact hn
  ·rw[mu hB hn]at h;cases h
 ·rintro rfl;rfl
theorem ct{B:Nat}(hB:2<=B)(n:Nat):val B (bO B n)=n:=by
 induction n using atJ with
 | _ n ih =>
  by_cases hn:n=0
  ·subst hn;rfl
  ·rw[mu hB hn];simp only[val];rw[ih _ (atH (atI hn) hB)];exact atK n B
theorem cV{B:Nat}(hB:2<=B)(n:Nat):∀d∈bO B n,d<B:=by
 induction n using atJ with
 | _ n ih =>
  by_cases hn:n=0
  ·subst hn;simp[bj]
  ·rw[mu hB hn];intro d hd;rcases atf.1 hd with rfl | hd
   ·exact Nat.mod_lt _ (by omega)
   ·exact ih _ (atH (atI hn) hB) d hd
theorem gI{B:Nat}(hB:2<=B):∀(l:List Nat),(∀d∈l,d<B)->bO B (val B l)=cC l
 | [],_=>rfl
 | d::l,h=>by
  have ih:=gI hB l λe he=>h e (by simp[he]);have hd:=h d (by simp);simp only[val,cC];by_cases hz:d+B*val B l=0
  ·have h1:d=0:=by omega
   have h2:val B l=0:=by
    have:B*val B l=0:=by omega
    rcases Nat.mul_eq_zero.1 this with h | h<;>omega
   rw[h2,bj]at ih;rw[hz,<-ih];simp[h1,bj]
  ·rw[mu hB hz];have h1:(d+B*val B l) % B=d:=by rw[Nat.add_mul_mod_self_left];exact Nat.mod_eq_of_lt hd
   have h2:(d+B*val B l) / B=val B l:=by rw[Nat.add_mul_div_left _ _ (by omega)];rw[Nat.div_eq_of_lt hd];omega
   rw[h1,h2,ih];cases ht:cC l with
   | nil =>
    have h3:val B l=0:=by rw[ht]at ih;exact(bX hB).1 ih
    rw[if_neg (by rw[h3]at hz;simpa using hz)]
   | cons e r=>rfl
theorem AI{B:Nat}(hB:2<=B)(n:Nat):cC (bO B n)=bO B n:=by rw[<-gI hB _ (cV hB n),ct hB]
theorem oA(l:List Nat):cC (l++[0])=cC l:=by
 induction l with
 | nil=>rfl
 | cons d l ih=>simp[cC,ih]
theorem rO(l:List Nat){d:Nat}(hd:d≠0):cC (l++[d])=l++[d]:=by
 induction l with
 | nil=>simp[cC,hd]
 | cons e l ih =>
  simp only[as8,cC,ih];cases l<;>simp
theorem tP(l:List Nat):(cC l).length<=l.length:=by
 induction l with
 | nil=>simp[cC]
 | cons d l ih =>
  simp only[cC];split
  ·split<;>simp
  ·rename_i e r h;rw[h]at ih;simpa using ih
theorem Df{B:Nat}(l:List Nat)(h:∀d∈l,d<B):∀d∈cC l,d<B:=by
 induction l with
 | nil=>simp[cC]
 | cons e l ih =>
  have ih:=ih λd hd=>h d (by simp[hd]);simp only[cC];split
  ·split
   ·simp
   ·intro d hd;simp at hd;subst hd;exact h d (by simp)
  ·rename_i x r hx;rw[hx]at ih;intro d hd;rcases atf.1 hd with rfl | hd
   ·exact h d (by simp)
   ·exact ih d hd
theorem cU(B:Nat)(l r:List Nat):val B (l++r)=val B l+B^l.length*val B r:=by
 induction l with
 | nil=>simp[val]
 | cons d l ih=>simp only[as8,val,ih,asw,atL];rw[atM,atN (B^l.length) B,atP];omega
theorem lP{B:Nat}(l:List Nat)(h:∀d∈l,d<B):val B l<B^l.length:=by
 induction l with
 | nil=>simp[val]
 | cons d l ih =>
  have ih:=ih λe he=>h e (by simp[he]);have hd:=h d (by simp);simp only[val,asw,atL]
  calc d+B*val B l<B+B*val B l:=by omega
   _=B*(val B l+1):=by rw[atM];omega
   _<=B*B^l.length:=atQ _ ih
   _=B^l.length*B:=atN _ _
theorem Fq(B:Nat)(l:List Nat):val B (cC l)=val B l:=by
 induction l with
 | nil=>rfl
 | cons d l ih =>
  simp only[cC];cases h:cC l with
  | nil =>
   rw[h]at ih;simp only[val]at ih ⊢;split
   ·simp[val,<-ih];omega
   ·simp[val,<-ih]
  | cons e r=>rw[h]at ih;simp only[val]at ih ⊢;rw[ih]
def wid(B n:Nat):Nat:=(bO B n).length
theorem iS{B n k:Nat}(hB:2<=B)(h:n<B^k):wid B n<=k:=by
 induction k generalizing n with
 | zero=>simp at h;subst h;simp[wid,bj]
 | succ k ih =>
  by_cases hn:n=0
  ·subst hn;simp[wid,bj]
  ·simp only[wid];rw[mu hB hn];simp only[asw];have:n / B<B^k:=by rw[Nat.div_lt_iff_lt_mul (by omega)];rwa [atL]at h
   have:=ih this;simp only[wid]at this;omega
theorem pE{B:Nat}(hB:2<=B)(n:Nat):n<B^wid B n:=by
 have:=lP (bO B n) (cV hB n)
 rwa [ct hB]at this
theorem cq{B m n:Nat}(hB:2<=B)(h:m<=n):wid B m<=wid B n:=iS hB (Nat.lt_of_le_of_lt h (pE hB n))
theorem EF{A B:Nat}(hA:2<=A)(h:A<=B)(n:Nat):wid B n<=wid A n:=iS (by omega) (atk (pE hA n) (Nat.pow_le_pow_left h _))
theorem BV{B:Nat}(hB:2<=B)(m n:Nat):wid B (m*n)<=wid B m+wid B n:=by refine iS hB ?_;rw[Nat.pow_add];exact Nat.mul_lt_mul'' (pE hB m) (pE hB n)
theorem Px{B:Nat}(hB:2<=B)(m n:Nat):wid B (m+n)<=max (wid B m) (wid B n)+1:=by refine iS hB ?_;have h1:=atk (pE hB m) (atS (by omega:0<B) (Nat.le_max_left (wid B m) (wid B n)));have h2:=atk (pE hB n) (atS (by omega:0<B) (Nat.le_max_right (wid B m) (wid B n)));rw[atL];have:B^max (wid B m) (wid B n)*2<=B^max (wid B m) (wid B n)*B:=atQ _ hB;omega
theorem xm{B:Nat}{la lb r:List Nat}{x y:Nat}(ag:∀d∈la,d<B)(hl:la.length=lb.length)(h:x<y):val B (la++x::r)<val B (lb++y::r):=by
 rw[cU,cU,hl];simp only[val];have h1:=lP la ag;rw[hl]at h1;have h2:B^lb.length*(x+B*val B r)+B^lb.length<=B^lb.length*(y+B*val B r):=by rw[<-Nat.mul_succ];exact atQ _ (by omega)
 omega
theorem xR(B:Nat)(out:List Nat)(x r:Nat):val B (out++[x % B])+B^(out.length+1)*(x / B+r)=val B out+B^out.length*(x+B*r):=by
 have h:=atK x B;rw[cU]
 conv=>rhs;rw[<-h]
 simp only[val,atL,atM,Nat.mul_zero,Nat.add_zero,atP,Nat.add_assoc]
def dW(m n:Nat):Int:=if m<n then -1 else if n<m then 1 else 0
theorem qa{B m n:Nat}(hB:2<=B)(h:(bO B m).length<(bO B n).length):m<n:=by
 rcases Nat.lt_or_ge m n with h' | h'
 ·exact h'
 ·have:=cq hB h';simp only[wid]at this;omega
end Go.Pl


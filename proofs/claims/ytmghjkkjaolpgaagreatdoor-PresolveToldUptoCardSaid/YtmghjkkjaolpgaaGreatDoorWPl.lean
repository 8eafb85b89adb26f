/- A text of the prover's own. -/
import Derived.Test.YtmghjkkjaolpgaaGreatDoorWVz
import Derived.Test.YtmghjkkjaolpgaaGreatDoorWVy
open Nat renaming le_refl→alb,div_lt_self→al7,pos_of_ne_zero→al8,strongRecOn→al9,mod_add_div→ama,pow_succ→amb,mul_add→amc,mul_comm→amd,mul_assoc→ame,mul_le_mul_left→amf,lt_of_lt_of_le→alK,pow_le_pow_right→amg
open List renaming length_map→amh,cons_append→aly,mem_cons→alF,length_cons→akV
namespace Go.Sv
open Go Go.RowKit
def Oc:Code:=.cond (.const .nilIface) .skip .skip
def jN:Nat→Code→Code
 | 0,_=>.skip
 | n+1,.seq x y=>.seq x (jN n y)
 | _+1,_=>Oc
def e9:Nat→Code→Code
 | 0,c=>c
 | n+1,.seq _ y=>e9 n y
 | _+1,c=>c
@[simp] theorem aq(c:Code):jN 0 c=.skip:=by cases c<;>rfl
@[simp] theorem ar(n:Nat)(x y:Code):jN (n+1) (.seq x y)=.seq x (jN n y):=rfl
@[simp] theorem al(c:Code):e9 0 c=c:=by cases c<;>rfl
@[simp] theorem ao(n:Nat)(x y:Code):e9 (n+1) (.seq x y)=e9 n y:=rfl
section
variable {P:Program} {C:Ctx} {st:St} {Q:aX}
def iT(C:Ctx)(I:St→Prop)(Q:aX):aX:=rk (fun st'=>∃st'',I st''∧aw C st' st'') Q
@[simp] theorem LL{I:St→Prop}:iT C I Q .normal st=∃st'',I st''∧aw C st st'':=rfl
@[simp] theorem U2{I:St→Prop}:iT C I Q .ret st=Q .ret st:=rfl
@[simp] theorem MI{I:St→Prop}{c:List PanicEntry}:iT C I Q (.panic c) st=Q (.panic c) st:=rfl
theorem aa.cutAt:∀(n:Nat) {c:Code} {st:St} (I:St→Prop),vc P C (jN n c) st (iT C I Q) (iT C I Q)→(∀st'',I st''→aa P C (e9 n c) st'' Q)→aa P C c st Q
 | 0,c,st,I,h1,h2=>fun a w hs=>by
  rw[aq]at h1;rw[al]at h2;obtain⟨st'',h3,h4⟩:=h1;exact h2 st'' h3 a w (Le.bA h4 a w hs)
 | n+1,.seq x y,st,I,h1,h2=>fun a w hs=>by
  have hx:=lP x st (R:=rk (fun st'=>aa P C y st' Q) Q) (fun e st' h'=>by
   cases e<;>simp only[rk]at h' ⊢<;>first | exact h' | exact aa.cutAt n I h' h2) (fun e st' h'=>by
   cases e<;>simp only[rk]at h' ⊢<;>first | exact h' | exact aa.cutAt n I h' h2) h1
  refine wp_seq (wp_mono (hx a w hs) ?_);rintro e a' w' ⟨st',h3,h4⟩;cases e<;>simp only[rk,Exit.then]at h3 ⊢<;>first | exact h3 a' w' h4 | exact⟨st',h3,h4⟩
 | _+1,.skip,_,_,h1,_=>h1.elim
 | _+1,.region ..,_,_,h1,_=>h1.elim
 | _+1,.cond ..,_,_,h1,_=>h1.elim
 | _+1,.block ..,_,_,h1,_=>h1.elim
 | _+1,.loop ..,_,_,h1,_=>h1.elim
 | _+1,.rangeFunc ..,_,_,h1,_=>h1.elim
 | _+1,.exit ..,_,_,h1,_=>h1.elim
 | _+1,.scope ..,_,_,h1,_=>h1.elim
 | _+1,.label ..,_,_,h1,_=>h1.elim
 | _+1,.goto ..,_,_,h1,_=>h1.elim
 | _+1,.ret,_,_,h1,_=>h1.elim
 | _+1,.refuse ..,_,_,h1,_=>h1.elim
theorem fg{f:FuncId}{fn:Func}{c:Code}{args:List SV}{Φ:SV→Prop}(hf:P.funcs[f]?=some fn)(hb:fn.body=some c)(hn:args.length≤fn.ntmps)
  (h:∀C:Ctx,C.fx=[]→aa P C c ⟨fn.ntmps,lC 0 args,[]⟩ (ka P fn.results.toList Φ)):m8 P f args Φ:=by
 intro H w vals hi hd;refine calls_of_wp hf hb ?_;have hj:=h ⟨w,H,[],lK,[]⟩ rfl;refine wp_mono (hj _ w ⟨lK,H,qj hd hn hi.2 rfl (by simp),?_⟩) ?_
 ·exact⟨rfl,rfl,rfl,alb _,fun _ _ _=>rfl,fun _ _ h=>h,fun _ _ h=>.inl h,hi.1,fun k e hk=>by simp at hk,fun k e d hk=>by simp at hk,fun k k' e e' d d' hk=>by simp at hk,fun _ _=>rfl,(fun k d hk=>by cases hk),hi.2⟩
 ·rintro e a w' ⟨st,hq,β,H',hF,hW⟩;have key:(match j4 P st fn.results.toList with | some (c,x)=>c∧∃y,Sub st.M x y∧Φ y | none=>False) →
    a.defers=[]∧∃v,(results fn a.tmps).run P w'=.ok v w'∧∃H' v' x,Ending.returned v=.returned v'∧Den lK H' x v'∧Φ x∧(∀b cs,H b=some cs→H' b=some cs)∧(∀b cs,H' b=some cs→H b=some cs∨w.heap.size≤b)∧mQ H' w'∧Below w.heap.size w w':=by
   intro hq;refine⟨hF.1.1,?_⟩;split at hq
   ·rename_i c' x hr;obtain⟨hc,y,hs,hΦ⟩:=hq;obtain⟨v,hv1,hv2⟩:=vt hF hW hr hc;obtain⟨H1,h1,h2,h3⟩:=n7 x.ks hW (n9 hs);have hd':=oN h2 hs ⟨fun k e he hk=>by
     obtain⟨e',g1,g2, -,g4⟩:=h3 k e he;exact⟨e',g1,g2,g4 (.inr hk)⟩⟩ (Den.up hv2 (fun _ _ h=>h) h1)
    exact⟨v,hv1,H1,v,y,rfl,hd',hΦ,h2.ext,fun b cs hb=>(h2.new b cs hb).imp id (fun h=>h.resolve_right (by simp)),h2.zw,h2.os,h2.tape,h2.output,h2.size,fun k hk=>h2.frame k hk (by simp)⟩
   ·exact hq.elim
  cases e<;>simp only[ka]at hq<;>simp only[bodyPost]
  case normal=>exact key hq
  case ret=>exact key hq
end
end Go.Sv
namespace Go.Sv
open Go Go.RowKit
def u32(x:Nat):SV:=.val (.int .u32 (x:Int))
def i64(x:Nat):SV:=.val (.int .i64 (x:Int))
def u8(x:Nat):SV:=.val (.int .u8 (x:Int))
@[simp] theorem Mo(x:Nat):u8 x=.val (.int .u8 (x:Int)):=rfl
@[simp] theorem DR(x:Nat):u32 x=.val (.int .u32 (x:Int)):=rfl
@[simp] theorem KH(x:Nat):i64 x=.val (.int .i64 (x:Int)):=rfl
section
variable {α:Type} (f:α→SV)
@[simp] theorem Fa(l r:List SV)(x:SV):aB (l++x::r) l.length=x:=by
 induction l with
 | nil=>rfl
 | cons y l ih=>simpa using ih
@[simp] theorem wY(l:List α)(r:List SV)(x:SV):aB (l.map f++x::r) l.length=x:=by
 have:=Fa (l.map f) r x
 rwa [amh]at this
theorem tX{l:List α}{r:List SV}{x:SV}{i:Nat}(h:i=l.length):aB (l.map f++x::r) i=x:=by rw[h,wY]
@[simp] theorem E1(l r:List SV)(x y:SV):bl (l++x::r) l.length y=l++y::r:=by
 induction l with
 | nil=>rfl
 | cons z l ih=>simpa using ih
@[simp] theorem I0(l:List α)(r:List SV)(x y:SV):bl (l.map f++x::r) l.length y=l.map f++y::r:=by
 have:=E1 (l.map f) r x y
 rwa [amh]at this
@[simp] theorem Jz(l:List α)(r:List SV):(l.map f++r).take l.length=l.map f:=by
 have:=List.take_left (l₁:=l.map f) (l₂:=r)
 rwa [amh]at this
theorem AY{l r:List SV}{i:Nat}(h:i<l.length):aB (l++r) i=aB l i:=by
 induction l generalizing i with
 | nil=>simp at h
 | cons y l ih=>cases i with
  | zero=>rfl
  | succ i=>simp at h;simpa using ih h
@[simp] theorem Tl(s:Nat)(x:SV)(l:List SV):r6 s (x::l)=(x.eW=s∧x.aO=false):=by simp[r6]
@[simp] theorem ZI(l:List Nat):r6 1 (l.map u32)=True:=by cases l<;>simp[r6]
@[simp] theorem YF(l:List Nat):r6 1 (l.map i64)=True:=by cases l<;>simp[r6]
@[simp] theorem NP(l:List Nat)(r:List SV):r6 1 (l.map u32++r)=(l=[]→r6 1 r):=by cases l<;>simp[r6]
end
@[simp] theorem MN(n:Nat)(l r:List SV):SV.mb n (l++r)=(SV.mb n l&&SV.mb n r):=by
 induction l with
 | nil=>simp[SV.mb]
 | cons x l ih=>simp[SV.mb,ih,Bool.and_assoc]
@[simp] theorem Kh(l r:List SV):SV.bf (l++r)=(SV.bf l&&SV.bf r):=by
 induction l with
 | nil=>simp[SV.bf]
 | cons x l ih=>simp[SV.bf,ih,Bool.and_assoc]
@[simp] theorem JB(k:Nat)(l r:List SV):SV.aY k (l++r)=(SV.aY k l||SV.aY k r):=by
 induction l with
 | nil=>simp[SV.aY]
 | cons x l ih=>simp[SV.aY,ih,Bool.or_assoc]
@[simp] theorem L8(a b:Nat):((a:Int)+(b:Int)).toNat=a+b:=by omega
@[simp] theorem Mp(a:Nat):((a:Int) - 2).toNat=a - 2:=by omega
@[simp] theorem I8(a b:Nat):((a:Int)+(b:Int) - 2).toNat=a+b - 2:=by omega
/-! tables that are not told whole -/
@[simp] theorem FT:∀M:aJ,dX M M
 | []=>trivial
 | _::M=>⟨.inr rfl,FT M⟩
theorem gz{M:aJ}{k:Nat}{e':cx}(e:cx)(h:ax M k=some e'):ax (aK M k (some e)) k=some e:=by
 rw[oq _ _ _ _ ⟨e',h⟩,if_pos rfl]
@[simp] theorem Ph(M:aJ)(k:Nat)(x y:Option cx):aK (aK M k x) k y=aK M k y:=by
 simp[eh]
@[simp] theorem qC(M:aJ)(k:Nat)(x:Option cx):(aK M k x).length=M.length:=by simp[eh]
theorem l5{M:aJ}{k:Nat}{e:cx}(h:ax M k=some e):aK M k (some e)=M:=by
 induction M generalizing k with
 | nil=>rfl
 | cons x l ih=>cases k with
  | zero=>simp only[ax]at h;simp[aK,h]
  | succ k=>simp only[aK];rw[ih h]
@[simp] theorem E2(M:aJ)(x:Option cx):ax (M++[x]) M.length=x:=by
 induction M with
 | nil=>rfl
 | cons y M ih=>simpa[ax]using ih
@[simp] theorem PA(M:aJ)(x y:Option cx):aK (M++[x]) M.length y=M++[y]:=by
 induction M with
 | nil=>rfl
 | cons z M ih=>simpa[aK]using ih
theorem mo{M:aJ}{k:Nat}{e:cx}(x:Option cx)(h:ax M k=some e):ax (M++[x]) k=some e:=by
 induction M generalizing k with
 | nil=>simp[ax]at h
 | cons y M ih=>cases k with
  | zero=>exact h
  | succ k=>exact ih h
theorem Hc{M:aJ}{n:Nat}(x:Option cx)(h:n=M.length):ax (M++[x]) n=x:=by rw[h,E2]
theorem qx{M:aJ}{k:Nat}{e:cx}(x y:Option cx)(h:ax M k=some e):aK (M++[x]) k y=aK M k y++[x]:=by
 induction M generalizing k with
 | nil=>simp[ax]at h
 | cons z M ih=>cases k with
  | zero=>rfl
  | succ k=>simp only[aly,aK];rw[ih h]
theorem vh{M:aJ}{k j:Nat}{e':cx}(e:cx)(h:ax M k=some e')(hj:j≠k):ax (aK M k (some e)) j=ax M j:=by
 rw[oq _ _ _ _ ⟨e',h⟩,if_neg hj]
/-! numbers -/
@[simp] theorem Tn:IntKind.u64.bits=64:=rfl
@[simp] theorem Wc:IntKind.u32.bits=32:=rfl
theorem zL(n:Int):IntKind.u64.wrap n=n % 18446744073709551616:=by simp[IntKind.wrap,IntKind.bits,IntKind.signed]
theorem gU(n:Int):IntKind.u32.wrap n=n % 4294967296:=by simp[IntKind.wrap,IntKind.bits,IntKind.signed]
theorem Kk(n:Int):IntKind.u8.wrap n=n % 256:=by simp[IntKind.wrap,IntKind.bits,IntKind.signed]
theorem aN(n:Int)(h : -9223372036854775808≤n∧n≤9223372036854775807):IntKind.i64.wrap n=n:=by rw[IntKind.wrap_i64];omega
theorem gu(n:Int)(h:0≤n∧n≤18446744073709551615):IntKind.u64.wrap n=n:=by simp[IntKind.wrap,IntKind.bits,IntKind.signed];omega
theorem JW(n:Int)(h:0≤n∧n≤4294967295):IntKind.u32.wrap n=n:=by rw[IntKind.wrap_u32];omega
end Go.Sv
namespace Go.Pl
def val(B:Nat):List Nat→Nat
 | []=>0
 | d::l=>d+B*val B l
def cj:List Nat→List Nat
 | []=>[]
 | d::l=>match cj l with
  | []=>if d=0 then[] else[d]
  | e::r=>d::e::r
def A2(B:Nat):Nat→Nat→List Nat
 | 0,_=>[]
 | f+1,n=>if n=0 then[] else n % B::A2 B f (n / B)
def bC(B n:Nat):List Nat:=A2 B n n
theorem Df{B:Nat}(hB:2≤B):∀(f g n:Nat),n≤f→n≤g→A2 B f n=A2 B g n
 | 0,g,n,h,_=>by
  have:n=0:=by omega
  subst this;cases g<;>simp[A2]
 | f+1,0,n,_,h=>by
  have:n=0:=by omega
  subst this;simp[A2]
 | f+1,g+1,n,h1,h2=>by
  simp only[A2];split
  ·rfl
  ·rename_i hn;have:=al7 (al8 hn) hB;rw[Df hB f g (n / B) (by omega) (by omega)]
theorem aZ(B:Nat):bC B 0=[]:=rfl
theorem lB{B n:Nat}(hB:2≤B)(hn:n≠0):bC B n=n % B::bC B (n / B):=by
 obtain⟨m,rfl⟩:∃m,n=m+1:=⟨n - 1,by omega⟩;have:=al7 (al8 hn) hB;simp only[bC,A2,hn,if_false];rw[Df hB m ((m+1) / B) _ (by omega) (alb _)]
theorem bR{B n:Nat}(hB:2≤B):bC B n=[]↔n=0:=by
 constructor
 ·intro h;by_cases hn:n=0
  ·exact hn
  ·rw[lB hB hn]at h;cases h
 ·rintro rfl;rfl
theorem cr{B:Nat}(hB:2≤B)(n:Nat):val B (bC B n)=n:=by
 induction n using al9 with
 | _ n ih =>
  by_cases hn:n=0
  ·subst hn;rfl
  ·rw[lB hB hn];simp only[val];rw[ih _ (al7 (al8 hn) hB)];exact ama n B
theorem cS{B:Nat}(hB:2≤B)(n:Nat):∀d∈bC B n,d<B:=by
 induction n using al9 with
 | _ n ih =>
  by_cases hn:n=0
  ·subst hn;simp[aZ]
  ·rw[lB hB hn];intro d hd;rcases alF.1 hd with rfl | hd
   ·exact Nat.mod_lt _ (by omega)
   ·exact ih _ (al7 (al8 hn) hB) d hd
theorem fp{B:Nat}(hB:2≤B):∀(l:List Nat),(∀d∈l,d<B)→bC B (val B l)=cj l
 | [],_=>rfl
 | d::l,h=>by
  have ih:=fp hB l fun e he=>h e (by simp[he]);have hd:=h d (by simp);simp only[val,cj];by_cases hz:d+B*val B l=0
  ·have h1:d=0:=by omega
   have h2:val B l=0:=by
    have:B*val B l=0:=by omega
    rcases Nat.mul_eq_zero.1 this with h | h<;>omega
   rw[h2,aZ]at ih;rw[hz,←ih];simp[h1,aZ]
  ·rw[lB hB hz];have h1:(d+B*val B l) % B=d:=by rw[Nat.add_mul_mod_self_left];exact Nat.mod_eq_of_lt hd
   have h2:(d+B*val B l) / B=val B l:=by rw[Nat.add_mul_div_left _ _ (by omega)];rw[Nat.div_eq_of_lt hd];omega
   rw[h1,h2,ih];cases ht:cj l with
   | nil =>
    have h3:val B l=0:=by rw[ht]at ih;exact(bR hB).1 ih
    rw[if_neg (by rw[h3]at hz;simpa using hz)]
   | cons e r=>rfl
theorem xg{B:Nat}(hB:2≤B)(n:Nat):cj (bC B n)=bC B n:=by
 rw[←fp hB _ (cS hB n),cr hB]
theorem ku(l:List Nat):cj (l++[0])=cj l:=by
 induction l with
 | nil=>rfl
 | cons d l ih=>simp[cj,ih]
theorem mX(l:List Nat){d:Nat}(hd:d≠0):cj (l++[d])=l++[d]:=by
 induction l with
 | nil=>simp[cj,hd]
 | cons e l ih =>
  simp only[aly,cj,ih];cases l<;>simp
theorem ru(l:List Nat):(cj l).length≤l.length:=by
 induction l with
 | nil=>simp[cj]
 | cons d l ih =>
  simp only[cj];split
  ·split<;>simp
  ·rename_i e r h;rw[h]at ih;simpa using ih
theorem Ax{B:Nat}(l:List Nat)(h:∀d∈l,d<B):∀d∈cj l,d<B:=by
 induction l with
 | nil=>simp[cj]
 | cons e l ih =>
  have ih:=ih fun d hd=>h d (by simp[hd]);simp only[cj];split
  ·split
   ·simp
   ·intro d hd;simp at hd;subst hd;exact h d (by simp)
  ·rename_i x r hx;rw[hx]at ih;intro d hd;rcases alF.1 hd with rfl | hd
   ·exact h d (by simp)
   ·exact ih d hd
theorem cO(B:Nat)(l r:List Nat):val B (l++r)=val B l+B^l.length*val B r:=by
 induction l with
 | nil=>simp[val]
 | cons d l ih=>simp only[aly,val,ih,akV,amb];rw[amc,amd (B^l.length) B,ame];omega
theorem kE{B:Nat}(l:List Nat)(h:∀d∈l,d<B):val B l<B^l.length:=by
 induction l with
 | nil=>simp[val]
 | cons d l ih =>
  have ih:=ih fun e he=>h e (by simp[he]);have hd:=h d (by simp);simp only[val,akV,amb]
  calc d+B*val B l<B+B*val B l:=by omega
   _=B*(val B l+1):=by rw[amc];omega
   _≤B*B^l.length:=amf _ ih
   _=B^l.length*B:=amd _ _
theorem zU(B:Nat)(l:List Nat):val B (cj l)=val B l:=by
 induction l with
 | nil=>rfl
 | cons d l ih =>
  simp only[cj];cases h:cj l with
  | nil =>
   rw[h]at ih;simp only[val]at ih ⊢;split
   ·simp[val,←ih];omega
   ·simp[val,←ih]
  | cons e r=>rw[h]at ih;simp only[val]at ih ⊢;rw[ih]
def wid(B n:Nat):Nat:=(bC B n).length
theorem ir{B n k:Nat}(hB:2≤B)(h:n<B^k):wid B n≤k:=by
 induction k generalizing n with
 | zero=>simp at h;subst h;simp[wid,aZ]
 | succ k ih =>
  by_cases hn:n=0
  ·subst hn;simp[wid,aZ]
  ·simp only[wid];rw[lB hB hn];simp only[akV];have:n / B<B^k:=by rw[Nat.div_lt_iff_lt_mul (by omega)];rwa [amb]at h
   have:=ih this;simp only[wid]at this;omega
theorem nK{B:Nat}(hB:2≤B)(n:Nat):n<B^wid B n:=by
 have:=kE (bC B n) (cS hB n)
 rwa [cr hB]at this
theorem ch{B m n:Nat}(hB:2≤B)(h:m≤n):wid B m≤wid B n:=ir hB (Nat.lt_of_le_of_lt h (nK hB n))
theorem Be{A B:Nat}(hA:2≤A)(h:A≤B)(n:Nat):wid B n≤wid A n:=ir (by omega) (alK (nK hA n) (Nat.pow_le_pow_left h _))
theorem yB{B:Nat}(hB:2≤B)(m n:Nat):wid B (m*n)≤wid B m+wid B n:=by
 refine ir hB ?_;rw[Nat.pow_add];exact Nat.mul_lt_mul'' (nK hB m) (nK hB n)
theorem Jm{B:Nat}(hB:2≤B)(m n:Nat):wid B (m+n)≤max (wid B m) (wid B n)+1:=by
 refine ir hB ?_;have h1:=alK (nK hB m) (amg (by omega:0<B) (Nat.le_max_left (wid B m) (wid B n)));have h2:=alK (nK hB n) (amg (by omega:0<B) (Nat.le_max_right (wid B m) (wid B n)));rw[amb];have:B^max (wid B m) (wid B n)*2≤B^max (wid B m) (wid B n)*B:=amf _ hB;omega
theorem uo{B:Nat}{la lb r:List Nat}{x y:Nat}(hla:∀d∈la,d<B)(hl:la.length=lb.length)(h:x<y):val B (la++x::r)<val B (lb++y::r):=by
 rw[cO,cO,hl];simp only[val];have h1:=kE la hla;rw[hl]at h1;have h2:B^lb.length*(x+B*val B r)+B^lb.length≤B^lb.length*(y+B*val B r):=by
  rw[←Nat.mul_succ];exact amf _ (by omega)
 omega
theorem uG(B:Nat)(out:List Nat)(x r:Nat):val B (out++[x % B])+B^(out.length+1)*(x / B+r)=val B out+B^out.length*(x+B*r):=by
 have h:=ama x B;rw[cO]
 conv=>rhs;rw[←h]
 simp only[val,amb,amc,Nat.mul_zero,Nat.add_zero,ame,Nat.add_assoc]
def dV(m n:Nat):Int:=if m<n then -1 else if n<m then 1 else 0
theorem o7{B m n:Nat}(hB:2≤B)(h:(bC B m).length<(bC B n).length):m<n:=by
 rcases Nat.lt_or_ge m n with h' | h'
 ·exact h'
 ·have:=ch hB h';simp only[wid]at this;omega
end Go.Pl


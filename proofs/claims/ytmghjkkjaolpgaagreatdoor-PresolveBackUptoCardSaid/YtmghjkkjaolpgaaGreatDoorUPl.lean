/- A text of the prover's own. -/
import Derived.Test.YtmghjkkjaolpgaaGreatDoorUVz
import Derived.Test.YtmghjkkjaolpgaaGreatDoorUVy
open Nat renaming le_refl→amk,div_lt_self→anf,pos_of_ne_zero→ang,strongRecOn→anh,mod_add_div→ani,pow_succ→anj,mul_add→ank,mul_comm→anl,mul_assoc→anm,mul_le_mul_left→ann,lt_of_lt_of_le→amR,pow_le_pow_right→ano
open List renaming length_map→anp,cons_append→amF,mem_cons→amM,length_cons→al4
namespace Go.Sv
open Go Go.RowKit
def Om:Code:=.cond (.const .nilIface) .skip .skip
def jK:Nat→Code→Code
 | 0,_=>.skip
 | n+1,.seq x y=>.seq x (jK n y)
 | _+1,_=>Om
def fk:Nat→Code→Code
 | 0,c=>c
 | n+1,.seq _ y=>fk n y
 | _+1,c=>c
@[simp] theorem aE(c:Code):jK 0 c=.skip:=by cases c<;>rfl
@[simp] theorem aG(n:Nat)(x y:Code):jK (n+1) (.seq x y)=.seq x (jK n y):=rfl
@[simp] theorem au(c:Code):fk 0 c=c:=by cases c<;>rfl
@[simp] theorem ax(n:Nat)(x y:Code):fk (n+1) (.seq x y)=fk n y:=rfl
section
variable {P:Program} {C:Ctx} {st:St} {Q:aV}
def iK(C:Ctx)(I:St→Prop)(Q:aV):aV:=qE (fun st'=>∃st'',I st''∧ar C st' st'') Q
@[simp] theorem MJ{I:St→Prop}:iK C I Q .normal st=∃st'',I st''∧ar C st st'':=rfl
@[simp] theorem SY{I:St→Prop}:iK C I Q .ret st=Q .ret st:=rfl
@[simp] theorem Nv{I:St→Prop}{c:List PanicEntry}:iK C I Q (.panic c) st=Q (.panic c) st:=rfl
theorem ae.cutAt:∀(n:Nat) {c:Code} {st:St} (I:St→Prop),vc P C (jK n c) st (iK C I Q) (iK C I Q)→(∀st'',I st''→ae P C (fk n c) st'' Q)→ae P C c st Q
 | 0,c,st,I,h1,h2=>fun a w hs=>by
  rw[aE]at h1;rw[au]at h2;obtain⟨st'',h3,h4⟩:=h1;exact h2 st'' h3 a w (Le.ct h4 a w hs)
 | n+1,.seq x y,st,I,h1,h2=>fun a w hs=>by
  have hx:=lN x st (R:=qE (fun st'=>ae P C y st' Q) Q) (fun e st' h'=>by
   cases e<;>simp only[qE]at h' ⊢<;>first | exact h' | exact ae.cutAt n I h' h2) (fun e st' h'=>by
   cases e<;>simp only[qE]at h' ⊢<;>first | exact h' | exact ae.cutAt n I h' h2) h1
  refine wp_seq (wp_mono (hx a w hs) ?_);rintro e a' w' ⟨st',h3,h4⟩;cases e<;>simp only[qE,Exit.then]at h3 ⊢<;>first | exact h3 a' w' h4 | exact⟨st',h3,h4⟩
 | _+1,.skip,_,_,h1,_=>h1.elim
 | _+1,.region ..,_,_,h1,_=>h1.elim
 | _+1,.cond ..,_,_,h1,_=>h1.elim
 | _+1,.block ..,_,_,h1,_=>h1.elim
 | _+1,.loop ..,_,_,h1,_=>h1.elim
 | _+1,.rangeFunc ..,_,_,h1,_=>h1.elim
 | _+1,.exit ..,_,_,h1,_=>h1.elim
 | _+1,.scope ..,_,_,h1,_=>h1.elim
 | _+1,.label ..,_,_,h1,_=>h1.elim
 | _+1,.goto ..,_,_,h1,_=>h1.elim
 | _+1,.ret,_,_,h1,_=>h1.elim
 | _+1,.refuse ..,_,_,h1,_=>h1.elim
theorem ir{f:FuncId}{fn:Func}{c:Code}{args:List SV}{Φ:SV→Prop}(hf:P.funcs[f]?=some fn)(hb:fn.body=some c)(hn:args.length≤fn.ntmps)
  (h:∀C:Ctx,C.fx=[]→ae P C c ⟨fn.ntmps,kO 0 args,[]⟩ (jX P fn.results.toList Φ)):nS P f args Φ:=by
 intro H w vals hi hd;refine calls_of_wp hf hb ?_;have hj:=h ⟨w,H,[],lF,[]⟩ rfl;refine wp_mono (hj _ w ⟨lF,H,rm hd hn hi.2 rfl (by simp),?_⟩) ?_
 ·exact⟨rfl,rfl,rfl,amk _,fun _ _ _=>rfl,fun _ _ h=>h,fun _ _ h=>.inl h,hi.1,fun k e hk=>by simp at hk,fun k e d hk=>by simp at hk,fun k k' e e' d d' hk=>by simp at hk,fun _ _=>rfl,(fun k d hk=>by cases hk),hi.2⟩
 ·rintro e a w' ⟨st,hq,β,H',hF,hW⟩;have key:(match jS P st fn.results.toList with | some (c,x)=>c∧∃y,Sub st.M x y∧Φ y | none=>False) →
    a.defers=[]∧∃v,(results fn a.tmps).run P w'=.ok v w'∧∃H' v' x,Ending.returned v=.returned v'∧Den lF H' x v'∧Φ x∧(∀b cs,H b=some cs→H' b=some cs)∧(∀b cs,H' b=some cs→H b=some cs∨w.heap.size≤b)∧mn H' w'∧Below w.heap.size w w':=by
   intro hq;refine⟨hF.1.1,?_⟩;split at hq
   ·rename_i c' x hr;obtain⟨hc,y,hs,hΦ⟩:=hq;obtain⟨v,hv1,hv2⟩:=u5 hF hW hr hc;obtain⟨H1,h1,h2,h3⟩:=nq x.ks hW (nD hs);have hd':=oL h2 hs ⟨fun k e he hk=>by
     obtain⟨e',g1,g2, -,g4⟩:=h3 k e he;exact⟨e',g1,g2,g4 (.inr hk)⟩⟩ (Den.up hv2 (fun _ _ h=>h) h1)
    exact⟨v,hv1,H1,v,y,rfl,hd',hΦ,h2.ext,fun b cs hb=>(h2.new b cs hb).imp id (fun h=>h.resolve_right (by simp)),h2.zj,h2.os,h2.tape,h2.output,h2.size,fun k hk=>h2.frame k hk (by simp)⟩
   ·exact hq.elim
  cases e<;>simp only[jX]at hq<;>simp only[bodyPost]
  case normal=>exact key hq
  case ret=>exact key hq
end
end Go.Sv
namespace Go.Sv
open Go Go.RowKit
def u32(x:Nat):SV:=.val (.int .u32 (x:Int))
def i64(x:Nat):SV:=.val (.int .i64 (x:Int))
def u8(x:Nat):SV:=.val (.int .u8 (x:Int))
@[simp] theorem Nj(x:Nat):u8 x=.val (.int .u8 (x:Int)):=rfl
@[simp] theorem DW(x:Nat):u32 x=.val (.int .u32 (x:Int)):=rfl
@[simp] theorem Kn(x:Nat):i64 x=.val (.int .i64 (x:Int)):=rfl
section
variable {α:Type} (f:α→SV)
@[simp] theorem Gf(l r:List SV)(x:SV):aA (l++x::r) l.length=x:=by
 induction l with
 | nil=>rfl
 | cons y l ih=>simpa using ih
@[simp] theorem xu(l:List α)(r:List SV)(x:SV):aA (l.map f++x::r) l.length=x:=by
 have:=Gf (l.map f) r x
 rwa [anp]at this
theorem uh{l:List α}{r:List SV}{x:SV}{i:Nat}(h:i=l.length):aA (l.map f++x::r) i=x:=by rw[h,xu]
@[simp] theorem Fg(l r:List SV)(x y:SV):bD (l++x::r) l.length y=l++y::r:=by
 induction l with
 | nil=>rfl
 | cons z l ih=>simpa using ih
@[simp] theorem JN(l:List α)(r:List SV)(x y:SV):bD (l.map f++x::r) l.length y=l.map f++y::r:=by
 have:=Fg (l.map f) r x y
 rwa [anp]at this
@[simp] theorem K9(l:List α)(r:List SV):(l.map f++r).take l.length=l.map f:=by
 have:=List.take_left (l₁:=l.map f) (l₂:=r)
 rwa [anp]at this
theorem Cc{l r:List SV}{i:Nat}(h:i<l.length):aA (l++r) i=aA l i:=by
 induction l generalizing i with
 | nil=>simp at h
 | cons y l ih=>cases i with
  | zero=>rfl
  | succ i=>simp at h;simpa using ih h
@[simp] theorem Xq(s:Nat)(x:SV)(l:List SV):uy s (x::l)=(x.fj=s∧x.aM=false):=by simp[uy]
@[simp] theorem acD(l:List Nat):uy 1 (l.map u32)=True:=by cases l<;>simp[uy]
@[simp] theorem aaT(l:List Nat):uy 1 (l.map i64)=True:=by cases l<;>simp[uy]
@[simp] theorem No(l:List Nat)(r:List SV):uy 1 (l.map u32++r)=(l=[]→uy 1 r):=by cases l<;>simp[uy]
end
@[simp] theorem OX(n:Nat)(l r:List SV):SV.lS n (l++r)=(SV.lS n l&&SV.lS n r):=by
 induction l with
 | nil=>simp[SV.lS]
 | cons x l ih=>simp[SV.lS,ih,Bool.and_assoc]
@[simp] theorem Kx(l r:List SV):SV.ba (l++r)=(SV.ba l&&SV.ba r):=by
 induction l with
 | nil=>simp[SV.ba]
 | cons x l ih=>simp[SV.ba,ih,Bool.and_assoc]
@[simp] theorem Ks(k:Nat)(l r:List SV):SV.aX k (l++r)=(SV.aX k l||SV.aX k r):=by
 induction l with
 | nil=>simp[SV.aX]
 | cons x l ih=>simp[SV.aX,ih,Bool.or_assoc]
@[simp] theorem Pk(a b:Nat):((a:Int)+(b:Int)).toNat=a+b:=by omega
@[simp] theorem NM(a:Nat):((a:Int) - 2).toNat=a - 2:=by omega
@[simp] theorem JL(a b:Nat):((a:Int)+(b:Int) - 2).toNat=a+b - 2:=by omega
/-! tables that are not told whole -/
@[simp] theorem Hi:∀M:aJ,iS M M
 | []=>trivial
 | _::M=>⟨.inr rfl,Hi M⟩
theorem gm{M:aJ}{k:Nat}{e':cx}(e:cx)(h:ao M k=some e'):ao (aN M k (some e)) k=some e:=by
 rw[nw _ _ _ _ ⟨e',h⟩,if_pos rfl]
@[simp] theorem PV(M:aJ)(k:Nat)(x y:Option cx):aN (aN M k x) k y=aN M k y:=by
 simp[ez]
@[simp] theorem rn(M:aJ)(k:Nat)(x:Option cx):(aN M k x).length=M.length:=by simp[ez]
theorem lL{M:aJ}{k:Nat}{e:cx}(h:ao M k=some e):aN M k (some e)=M:=by
 induction M generalizing k with
 | nil=>rfl
 | cons x l ih=>cases k with
  | zero=>simp only[ao]at h;simp[aN,h]
  | succ k=>simp only[aN];rw[ih h]
@[simp] theorem FY(M:aJ)(x:Option cx):ao (M++[x]) M.length=x:=by
 induction M with
 | nil=>rfl
 | cons y M ih=>simpa[ao]using ih
@[simp] theorem RR(M:aJ)(x y:Option cx):aN (M++[x]) M.length y=M++[y]:=by
 induction M with
 | nil=>rfl
 | cons z M ih=>simpa[aN]using ih
theorem mu{M:aJ}{k:Nat}{e:cx}(x:Option cx)(h:ao M k=some e):ao (M++[x]) k=some e:=by
 induction M generalizing k with
 | nil=>simp[ao]at h
 | cons y M ih=>cases k with
  | zero=>exact h
  | succ k=>exact ih h
theorem IL{M:aJ}{n:Nat}(x:Option cx)(h:n=M.length):ao (M++[x]) n=x:=by rw[h,FY]
theorem qN{M:aJ}{k:Nat}{e:cx}(x y:Option cx)(h:ao M k=some e):aN (M++[x]) k y=aN M k y++[x]:=by
 induction M generalizing k with
 | nil=>simp[ao]at h
 | cons z M ih=>cases k with
  | zero=>rfl
  | succ k=>simp only[amF,aN];rw[ih h]
theorem uR{M:aJ}{k j:Nat}{e':cx}(e:cx)(h:ao M k=some e')(hj:j≠k):ao (aN M k (some e)) j=ao M j:=by
 rw[nw _ _ _ _ ⟨e',h⟩,if_neg hj]
/-! numbers -/
@[simp] theorem WV:IntKind.u64.bits=64:=rfl
@[simp] theorem VE:IntKind.u32.bits=32:=rfl
theorem Am(n:Int):IntKind.u64.wrap n=n % 18446744073709551616:=by simp[IntKind.wrap,IntKind.bits,IntKind.signed]
theorem gE(n:Int):IntKind.u32.wrap n=n % 4294967296:=by simp[IntKind.wrap,IntKind.bits,IntKind.signed]
theorem L5(n:Int):IntKind.u8.wrap n=n % 256:=by simp[IntKind.wrap,IntKind.bits,IntKind.signed]
theorem aP(n:Int)(h : -9223372036854775808≤n∧n≤9223372036854775807):IntKind.i64.wrap n=n:=by rw[IntKind.wrap_i64];omega
theorem gx(n:Int)(h:0≤n∧n≤18446744073709551615):IntKind.u64.wrap n=n:=by simp[IntKind.wrap,IntKind.bits,IntKind.signed];omega
theorem LR(n:Int)(h:0≤n∧n≤4294967295):IntKind.u32.wrap n=n:=by rw[IntKind.wrap_u32];omega
end Go.Sv
namespace Go.Pl
def val(B:Nat):List Nat→Nat
 | []=>0
 | d::l=>d+B*val B l
def cu:List Nat→List Nat
 | []=>[]
 | d::l=>match cu l with
  | []=>if d=0 then[] else[d]
  | e::r=>d::e::r
def BJ(B:Nat):Nat→Nat→List Nat
 | 0,_=>[]
 | f+1,n=>if n=0 then[] else n % B::BJ B f (n / B)
def bB(B n:Nat):List Nat:=BJ B n n
theorem DE{B:Nat}(hB:2≤B):∀(f g n:Nat),n≤f→n≤g→BJ B f n=BJ B g n
 | 0,g,n,h,_=>by
  have:n=0:=by omega
  subst this;cases g<;>simp[BJ]
 | f+1,0,n,_,h=>by
  have:n=0:=by omega
  subst this;simp[BJ]
 | f+1,g+1,n,h1,h2=>by
  simp only[BJ];split
  ·rfl
  ·rename_i hn;have:=anf (ang hn) hB;rw[DE hB f g (n / B) (by omega) (by omega)]
theorem bf(B:Nat):bB B 0=[]:=rfl
theorem kL{B n:Nat}(hB:2≤B)(hn:n≠0):bB B n=n % B::bB B (n / B):=by
 obtain⟨m,rfl⟩:∃m,n=m+1:=⟨n - 1,by omega⟩;have:=anf (ang hn) hB;simp only[bB,BJ,hn,if_false];rw[DE hB m ((m+1) / B) _ (by omega) (amk _)]
theorem bL{B n:Nat}(hB:2≤B):bB B n=[]↔n=0:=by
 constructor
 ·intro h;by_cases hn:n=0
  ·exact hn
  ·rw[kL hB hn]at h;cases h
 ·rintro rfl;rfl
theorem bX{B:Nat}(hB:2≤B)(n:Nat):val B (bB B n)=n:=by
 induction n using anh with
 | _ n ih =>
  by_cases hn:n=0
  ·subst hn;rfl
  ·rw[kL hB hn];simp only[val];rw[ih _ (anf (ang hn) hB)];exact ani n B
theorem cQ{B:Nat}(hB:2≤B)(n:Nat):∀d∈bB B n,d<B:=by
 induction n using anh with
 | _ n ih =>
  by_cases hn:n=0
  ·subst hn;simp[bf]
  ·rw[kL hB hn];intro d hd;rcases amM.1 hd with rfl | hd
   ·exact Nat.mod_lt _ (by omega)
   ·exact ih _ (anf (ang hn) hB) d hd
theorem fT{B:Nat}(hB:2≤B):∀(l:List Nat),(∀d∈l,d<B)→bB B (val B l)=cu l
 | [],_=>rfl
 | d::l,h=>by
  have ih:=fT hB l fun e he=>h e (by simp[he]);have hd:=h d (by simp);simp only[val,cu];by_cases hz:d+B*val B l=0
  ·have h1:d=0:=by omega
   have h2:val B l=0:=by
    have:B*val B l=0:=by omega
    rcases Nat.mul_eq_zero.1 this with h | h<;>omega
   rw[h2,bf]at ih;rw[hz,←ih];simp[h1,bf]
  ·rw[kL hB hz];have h1:(d+B*val B l) % B=d:=by rw[Nat.add_mul_mod_self_left];exact Nat.mod_eq_of_lt hd
   have h2:(d+B*val B l) / B=val B l:=by rw[Nat.add_mul_div_left _ _ (by omega)];rw[Nat.div_eq_of_lt hd];omega
   rw[h1,h2,ih];cases ht:cu l with
   | nil =>
    have h3:val B l=0:=by rw[ht]at ih;exact(bL hB).1 ih
    rw[if_neg (by rw[h3]at hz;simpa using hz)]
   | cons e r=>rfl
theorem yn{B:Nat}(hB:2≤B)(n:Nat):cu (bB B n)=bB B n:=by
 rw[←fT hB _ (cQ hB n),bX hB]
theorem mD(l:List Nat):cu (l++[0])=cu l:=by
 induction l with
 | nil=>rfl
 | cons d l ih=>simp[cu,ih]
theorem pF(l:List Nat){d:Nat}(hd:d≠0):cu (l++[d])=l++[d]:=by
 induction l with
 | nil=>simp[cu,hd]
 | cons e l ih =>
  simp only[amF,cu,ih];cases l<;>simp
theorem rC(l:List Nat):(cu l).length≤l.length:=by
 induction l with
 | nil=>simp[cu]
 | cons d l ih =>
  simp only[cu];split
  ·split<;>simp
  ·rename_i e r h;rw[h]at ih;simpa using ih
theorem Bi{B:Nat}(l:List Nat)(h:∀d∈l,d<B):∀d∈cu l,d<B:=by
 induction l with
 | nil=>simp[cu]
 | cons e l ih =>
  have ih:=ih fun d hd=>h d (by simp[hd]);simp only[cu];split
  ·split
   ·simp
   ·intro d hd;simp at hd;subst hd;exact h d (by simp)
  ·rename_i x r hx;rw[hx]at ih;intro d hd;rcases amM.1 hd with rfl | hd
   ·exact h d (by simp)
   ·exact ih d hd
theorem cP(B:Nat)(l r:List Nat):val B (l++r)=val B l+B^l.length*val B r:=by
 induction l with
 | nil=>simp[val]
 | cons d l ih=>simp only[amF,val,ih,al4,anj];rw[ank,anl (B^l.length) B,anm];omega
theorem kc{B:Nat}(l:List Nat)(h:∀d∈l,d<B):val B l<B^l.length:=by
 induction l with
 | nil=>simp[val]
 | cons d l ih =>
  have ih:=ih fun e he=>h e (by simp[he]);have hd:=h d (by simp);simp only[val,al4,anj]
  calc d+B*val B l<B+B*val B l:=by omega
   _=B*(val B l+1):=by rw[ank];omega
   _≤B*B^l.length:=ann _ ih
   _=B^l.length*B:=anl _ _
theorem Bv(B:Nat)(l:List Nat):val B (cu l)=val B l:=by
 induction l with
 | nil=>rfl
 | cons d l ih =>
  simp only[cu];cases h:cu l with
  | nil =>
   rw[h]at ih;simp only[val]at ih ⊢;split
   ·simp[val,←ih];omega
   ·simp[val,←ih]
  | cons e r=>rw[h]at ih;simp only[val]at ih ⊢;rw[ih]
def wid(B n:Nat):Nat:=(bB B n).length
theorem gZ{B n k:Nat}(hB:2≤B)(h:n<B^k):wid B n≤k:=by
 induction k generalizing n with
 | zero=>simp at h;subst h;simp[wid,bf]
 | succ k ih =>
  by_cases hn:n=0
  ·subst hn;simp[wid,bf]
  ·simp only[wid];rw[kL hB hn];simp only[al4];have:n / B<B^k:=by rw[Nat.div_lt_iff_lt_mul (by omega)];rwa [anj]at h
   have:=ih this;simp only[wid]at this;omega
theorem m7{B:Nat}(hB:2≤B)(n:Nat):n<B^wid B n:=by
 have:=kc (bB B n) (cQ hB n)
 rwa [bX hB]at this
theorem bY{B m n:Nat}(hB:2≤B)(h:m≤n):wid B m≤wid B n:=gZ hB (Nat.lt_of_le_of_lt h (m7 hB n))
theorem By{A B:Nat}(hA:2≤A)(h:A≤B)(n:Nat):wid B n≤wid A n:=gZ (by omega) (amR (m7 hA n) (Nat.pow_le_pow_left h _))
theorem zc{B:Nat}(hB:2≤B)(m n:Nat):wid B (m*n)≤wid B m+wid B n:=by
 refine gZ hB ?_;rw[Nat.pow_add];exact Nat.mul_lt_mul'' (m7 hB m) (m7 hB n)
theorem LC{B:Nat}(hB:2≤B)(m n:Nat):wid B (m+n)≤max (wid B m) (wid B n)+1:=by
 refine gZ hB ?_;have h1:=amR (m7 hB m) (ano (by omega:0<B) (Nat.le_max_left (wid B m) (wid B n)));have h2:=amR (m7 hB n) (ano (by omega:0<B) (Nat.le_max_right (wid B m) (wid B n)));rw[anj];have:B^max (wid B m) (wid B n)*2≤B^max (wid B m) (wid B n)*B:=ann _ hB;omega
theorem uk{B:Nat}{la lb r:List Nat}{x y:Nat}(hla:∀d∈la,d<B)(hl:la.length=lb.length)(h:x<y):val B (la++x::r)<val B (lb++y::r):=by
 rw[cP,cP,hl];simp only[val];have h1:=kc la hla;rw[hl]at h1;have h2:B^lb.length*(x+B*val B r)+B^lb.length≤B^lb.length*(y+B*val B r):=by
  rw[←Nat.mul_succ];exact ann _ (by omega)
 omega
theorem u9(B:Nat)(out:List Nat)(x r:Nat):val B (out++[x % B])+B^(out.length+1)*(x / B+r)=val B out+B^out.length*(x+B*r):=by
 have h:=ani x B;rw[cP]
 conv=>rhs;rw[←h]
 simp only[val,anj,ank,Nat.mul_zero,Nat.add_zero,anm,Nat.add_assoc]
def dZ(m n:Nat):Int:=if m<n then -1 else if n<m then 1 else 0
theorem oI{B m n:Nat}(hB:2≤B)(h:(bB B m).length<(bB B n).length):m<n:=by
 rcases Nat.lt_or_ge m n with h' | h'
 ·exact h'
 ·have:=bY hB h';simp only[wid]at this;omega
end Go.Pl


/- A text of the prover's own. -/
import Derived.Test.YtnimjdcaajmfcaaGreatDoorUVz
import Derived.Test.YtnimjdcaajmfcaaGreatDoorUVy
namespace Go.Sv
open Go Go.RowKit
def noCode:Code:=.cond (.const .nilIface) .skip .skip
def takeC:Nat→Code→Code
 | 0,_=>.skip
 | n+1,.seq x y=>.seq x (takeC n y)
 | _+1,_=>noCode
def dropC:Nat→Code→Code
 | 0,c=>c
 | n+1,.seq _ y=>dropC n y
 | _+1,c=>c
@[simp] theorem takeC_zero (c:Code):takeC 0 c=.skip:=by cases c<;>rfl
@[simp] theorem takeC_succ (n:Nat) (x y:Code):takeC (n+1) (.seq x y)=.seq x (takeC n y):=rfl
@[simp] theorem dropC_zero (c:Code):dropC 0 c=c:=by cases c<;>rfl
@[simp] theorem dropC_succ (n:Nat) (x y:Code):dropC (n+1) (.seq x y)=dropC n y:=rfl
section
variable {P:Program} {C:Ctx} {st:St} {Q:Post}
def cutQ (C:Ctx) (I:St→Prop) (Q:Post):Post:=thn (fun st'=>∃st'',I st''∧leS C st' st'') Q
@[simp] theorem cutQ_normal {I:St→Prop}:cutQ C I Q .normal st=∃st'',I st''∧leS C st st'':=rfl
@[simp] theorem cutQ_ret {I:St→Prop}:cutQ C I Q .ret st=Q .ret st:=rfl
@[simp] theorem cutQ_panic {I:St→Prop} {c:List PanicEntry}:cutQ C I Q (.panic c) st=Q (.panic c) st:=rfl
theorem CodeJ.cutAt:∀(n:Nat) {c:Code} {st:St} (I:St→Prop),vc P C (takeC n c) st (cutQ C I Q) (cutQ C I Q)→(∀st'',I st''→CodeJ P C (dropC n c) st'' Q)→CodeJ P C c st Q
 | 0,c,st,I,h1,h2=>fun a w hs=>by
  rw [takeC_zero] at h1
  rw [dropC_zero] at h2
  obtain ⟨st'',h3,h4⟩:=h1
  exact h2 st'' h3 a w (Le.syn h4 a w hs)
 | n+1,.seq x y,st,I,h1,h2=>fun a w hs=>by
  have hx:=vc_ok x st (R:=thn (fun st'=>CodeJ P C y st' Q) Q) (fun e st' h'=>by
   cases e<;>simp only [thn] at h' ⊢<;>first | exact h' | exact CodeJ.cutAt n I h' h2) (fun e st' h'=>by
   cases e<;>simp only [thn] at h' ⊢<;>first | exact h' | exact CodeJ.cutAt n I h' h2) h1
  refine wp_seq (wp_mono (hx a w hs) ?_)
  rintro e a' w' ⟨st',h3,h4⟩
  cases e<;>simp only [thn,Exit.then] at h3 ⊢<;>first | exact h3 a' w' h4 | exact ⟨st',h3,h4⟩
 | _+1,.skip,_,_,h1,_=>h1.elim
 | _+1,.region ..,_,_,h1,_=>h1.elim
 | _+1,.cond ..,_,_,h1,_=>h1.elim
 | _+1,.block ..,_,_,h1,_=>h1.elim
 | _+1,.loop ..,_,_,h1,_=>h1.elim
 | _+1,.rangeFunc ..,_,_,h1,_=>h1.elim
 | _+1,.exit ..,_,_,h1,_=>h1.elim
 | _+1,.scope ..,_,_,h1,_=>h1.elim
 | _+1,.label ..,_,_,h1,_=>h1.elim
 | _+1,.goto ..,_,_,h1,_=>h1.elim
 | _+1,.ret,_,_,h1,_=>h1.elim
 | _+1,.refuse ..,_,_,h1,_=>h1.elim
theorem pure_enterJ {f:FuncId} {fn:Func} {c:Code} {args:List SV} {Φ:SV→Prop} (hf:P.funcs[f]?=some fn) (hb:fn.body=some c) (hn:args.length≤fn.ntmps)
  (h:∀C:Ctx,C.fx=[]→CodeJ P C c ⟨fn.ntmps,argFr 0 args,[]⟩ (retQ P fn.results.toList Φ)):PureC P f args Φ:=by
 intro H w vals hi hd
 refine calls_of_wp hf hb ?_
 have hj:=h ⟨w,H,[],noB,[]⟩ rfl
 refine wp_mono (hj _ w ⟨noB,H,arg_fok hd hn hi.2 rfl (by simp),?_⟩) ?_
 ·exact ⟨rfl,rfl,rfl,Nat.le_refl _,fun _ _ _=>rfl,fun _ _ h=>h,fun _ _ h=>.inl h,hi.1,fun k e hk=>by simp at hk,fun k e d hk=>by simp at hk,fun k k' e e' d d' hk=>by simp at hk,fun _ _=>rfl,(fun k d hk=>by cases hk),hi.2⟩
 ·rintro e a w' ⟨st,hq,β,H',hF,hW⟩
  have key:(match retSV P st fn.results.toList with | some (c,x)=>c∧∃y,Sub st.M x y∧Φ y | none=>False) →
    a.defers=[]∧∃v,(results fn a.tmps).run P w'=.ok v w'∧∃H' v' x,Ending.returned v=.returned v'∧Den noB H' x v'∧Φ x∧(∀b cs,H b=some cs→H' b=some cs)∧(∀b cs,H' b=some cs→H b=some cs∨w.heap.size≤b)∧InvH H' w'∧Below w.heap.size w w':=by
   intro hq
   refine ⟨hF.1.1,?_⟩
   split at hq
   ·rename_i c' x hr
    obtain ⟨hc,y,hs,hΦ⟩:=hq
    obtain ⟨v,hv1,hv2⟩:=ret_ok hF hW hr hc
    obtain ⟨H1,h1,h2,h3⟩:=fzL_ok x.ks hW (Sub_pure hs)
    have hd':=Sub_den h2 hs ⟨fun k e he hk=>by
     obtain ⟨e',g1,g2, -,g4⟩:=h3 k e he
     exact ⟨e',g1,g2,g4 (.inr hk)⟩⟩ (Den.up hv2 (fun _ _ h=>h) h1)
    exact ⟨v,hv1,H1,v,y,rfl,hd',hΦ,h2.ext,fun b cs hb=>(h2.new b cs hb).imp id (fun h=>h.resolve_right (by simp)),h2.invH,h2.os,h2.tape,h2.output,h2.size,fun k hk=>h2.frame k hk (by simp)⟩
   ·exact hq.elim
  cases e<;>simp only [retQ] at hq<;>simp only [bodyPost]
  case normal=>exact key hq
  case ret=>exact key hq
end
end Go.Sv
namespace Go.Sv
open Go Go.RowKit
def u32 (x:Nat):SV:=.val (.int .u32 (x:Int))
def i64 (x:Nat):SV:=.val (.int .i64 (x:Int))
def u8 (x:Nat):SV:=.val (.int .u8 (x:Int))
@[simp] theorem u8_val (x:Nat):u8 x=.val (.int .u8 (x:Int)):=rfl
@[simp] theorem u32_val (x:Nat):u32 x=.val (.int .u32 (x:Int)):=rfl
@[simp] theorem i64_val (x:Nat):i64 x=.val (.int .i64 (x:Int)):=rfl
section
variable {α:Type} (f:α→SV)
@[simp] theorem lget_snoc (l r:List SV) (x:SV):lget (l++x::r) l.length=x:=by
 induction l with
 | nil=>rfl
 | cons y l ih=>simpa using ih
@[simp] theorem lget_map_snoc (l:List α) (r:List SV) (x:SV):lget (l.map f++x::r) l.length=x:=by
 have:=lget_snoc (l.map f) r x
 rwa [List.length_map] at this
theorem lget_at {l:List α} {r:List SV} {x:SV} {i:Nat} (h:i=l.length):lget (l.map f++x::r) i=x:=by rw [h,lget_map_snoc]
@[simp] theorem lset_snoc (l r:List SV) (x y:SV):lset (l++x::r) l.length y=l++y::r:=by
 induction l with
 | nil=>rfl
 | cons z l ih=>simpa using ih
@[simp] theorem lset_map_snoc (l:List α) (r:List SV) (x y:SV):lset (l.map f++x::r) l.length y=l.map f++y::r:=by
 have:=lset_snoc (l.map f) r x y
 rwa [List.length_map] at this
@[simp] theorem take_map_app (l:List α) (r:List SV):(l.map f++r).take l.length=l.map f:=by
 have:=List.take_left (l₁:=l.map f) (l₂:=r)
 rwa [List.length_map] at this
theorem lget_app_lt {l r:List SV} {i:Nat} (h:i<l.length):lget (l++r) i=lget l i:=by
 induction l generalizing i with
 | nil=>simp at h
 | cons y l ih=>cases i with
  | zero=>rfl
  | succ i=>simp at h;simpa using ih h
@[simp] theorem okE_cons (s:Nat) (x:SV) (l:List SV):okE s (x::l)=(x.csz=s∧x.isTup=false):=by simp [okE]
@[simp] theorem okE_u32 (l:List Nat):okE 1 (l.map u32)=True:=by cases l<;>simp [okE]
@[simp] theorem okE_i64 (l:List Nat):okE 1 (l.map i64)=True:=by cases l<;>simp [okE]
@[simp] theorem okE_u32app (l:List Nat) (r:List SV):okE 1 (l.map u32++r)=(l=[]→okE 1 r):=by cases l<;>simp [okE]
end
@[simp] theorem ltL_append (n:Nat) (l r:List SV):SV.ltL n (l++r)=(SV.ltL n l&&SV.ltL n r):=by
 induction l with
 | nil=>simp [SV.ltL]
 | cons x l ih=>simp [SV.ltL,ih,Bool.and_assoc]
@[simp] theorem pureL_append (l r:List SV):SV.pureL (l++r)=(SV.pureL l&&SV.pureL r):=by
 induction l with
 | nil=>simp [SV.pureL]
 | cons x l ih=>simp [SV.pureL,ih,Bool.and_assoc]
@[simp] theorem usesL_append (k:Nat) (l r:List SV):SV.usesL k (l++r)=(SV.usesL k l||SV.usesL k r):=by
 induction l with
 | nil=>simp [SV.usesL]
 | cons x l ih=>simp [SV.usesL,ih,Bool.or_assoc]
@[simp] theorem toNat_add2 (a b:Nat):((a:Int)+(b:Int)).toNat=a+b:=by omega
@[simp] theorem toNat_sub2 (a:Nat):((a:Int) - 2).toNat=a - 2:=by omega
@[simp] theorem toNat_addsub2 (a b:Nat):((a:Int)+(b:Int) - 2).toNat=a+b - 2:=by omega
/-! tables that are not told whole -/
@[simp] theorem leM_self:∀M:Tab,leM M M
 | []=>trivial
 | _::M=>⟨.inr rfl,leM_self M⟩
theorem tget_same {M:Tab} {k:Nat} {e':Ent} (e:Ent) (h:tget M k=some e'):tget (tset M k (some e)) k=some e:=by
 rw [tget_set _ _ _ _ ⟨e',h⟩,if_pos rfl]
@[simp] theorem tset_tset (M:Tab) (k:Nat) (x y:Option Ent):tset (tset M k x) k y=tset M k y:=by
 simp [tset_eq]
@[simp] theorem tset_len (M:Tab) (k:Nat) (x:Option Ent):(tset M k x).length=M.length:=by simp [tset_eq]
theorem tset_self {M:Tab} {k:Nat} {e:Ent} (h:tget M k=some e):tset M k (some e)=M:=by
 induction M generalizing k with
 | nil=>rfl
 | cons x l ih=>cases k with
  | zero=>simp only [tget] at h;simp [tset,h]
  | succ k=>simp only [tset];rw [ih h]
@[simp] theorem tget_snoc (M:Tab) (x:Option Ent):tget (M++[x]) M.length=x:=by
 induction M with
 | nil=>rfl
 | cons y M ih=>simpa [tget] using ih
@[simp] theorem tset_snoc (M:Tab) (x y:Option Ent):tset (M++[x]) M.length y=M++[y]:=by
 induction M with
 | nil=>rfl
 | cons z M ih=>simpa [tset] using ih
theorem tget_snoc_lt {M:Tab} {k:Nat} {e:Ent} (x:Option Ent) (h:tget M k=some e):tget (M++[x]) k=some e:=by
 induction M generalizing k with
 | nil=>simp [tget] at h
 | cons y M ih=>cases k with
  | zero=>exact h
  | succ k=>exact ih h
theorem tget_len {M:Tab} {n:Nat} (x:Option Ent) (h:n=M.length):tget (M++[x]) n=x:=by rw [h,tget_snoc]
theorem tset_snoc_lt {M:Tab} {k:Nat} {e:Ent} (x y:Option Ent) (h:tget M k=some e):tset (M++[x]) k y=tset M k y++[x]:=by
 induction M generalizing k with
 | nil=>simp [tget] at h
 | cons z M ih=>cases k with
  | zero=>rfl
  | succ k=>simp only [List.cons_append,tset];rw [ih h]
theorem tget_other {M:Tab} {k j:Nat} {e':Ent} (e:Ent) (h:tget M k=some e') (hj:j≠k):tget (tset M k (some e)) j=tget M j:=by
 rw [tget_set _ _ _ _ ⟨e',h⟩,if_neg hj]
/-! numbers -/
@[simp] theorem bits_u64:IntKind.u64.bits=64:=rfl
@[simp] theorem bits_u32:IntKind.u32.bits=32:=rfl
theorem u64w (n:Int):IntKind.u64.wrap n=n % 18446744073709551616:=by simp [IntKind.wrap,IntKind.bits,IntKind.signed]
theorem u32w (n:Int):IntKind.u32.wrap n=n % 4294967296:=by simp [IntKind.wrap,IntKind.bits,IntKind.signed]
theorem u8w (n:Int):IntKind.u8.wrap n=n % 256:=by simp [IntKind.wrap,IntKind.bits,IntKind.signed]
theorem w64 (n:Int) (h : -9223372036854775808≤n∧n≤9223372036854775807):IntKind.i64.wrap n=n:=by rw [IntKind.wrap_i64];omega
theorem wu64 (n:Int) (h:0≤n∧n≤18446744073709551615):IntKind.u64.wrap n=n:=by simp [IntKind.wrap,IntKind.bits,IntKind.signed];omega
theorem wu32 (n:Int) (h:0≤n∧n≤4294967295):IntKind.u32.wrap n=n:=by rw [IntKind.wrap_u32];omega
end Go.Sv
namespace Go.Pl
def val (B:Nat):List Nat→Nat
 | []=>0
 | d::l=>d+B*val B l
def trimL:List Nat→List Nat
 | []=>[]
 | d::l=>match trimL l with
  | []=>if d=0 then [] else [d]
  | e::r=>d::e::r
def digF (B:Nat):Nat→Nat→List Nat
 | 0,_=>[]
 | f+1,n=>if n=0 then [] else n % B::digF B f (n / B)
def dig (B n:Nat):List Nat:=digF B n n
theorem digF_eq {B:Nat} (hB:2≤B):∀(f g n:Nat),n≤f→n≤g→digF B f n=digF B g n
 | 0,g,n,h,_=>by
  have:n=0:=by omega
  subst this;cases g<;>simp [digF]
 | f+1,0,n,_,h=>by
  have:n=0:=by omega
  subst this;simp [digF]
 | f+1,g+1,n,h1,h2=>by
  simp only [digF]
  split
  ·rfl
  ·rename_i hn
   have:=Nat.div_lt_self (Nat.pos_of_ne_zero hn) hB
   rw [digF_eq hB f g (n / B) (by omega) (by omega)]
theorem dig_zero (B:Nat):dig B 0=[]:=rfl
theorem dig_pos {B n:Nat} (hB:2≤B) (hn:n≠0):dig B n=n % B::dig B (n / B):=by
 obtain ⟨m,rfl⟩:∃m,n=m+1:=⟨n - 1,by omega⟩
 have:=Nat.div_lt_self (Nat.pos_of_ne_zero hn) hB
 simp only [dig,digF,hn,if_false]
 rw [digF_eq hB m ((m+1) / B) _ (by omega) (Nat.le_refl _)]
theorem dig_eq_nil {B n:Nat} (hB:2≤B):dig B n=[]↔n=0:=by
 constructor
 ·intro h
  by_cases hn:n=0
  ·exact hn
  ·rw [dig_pos hB hn] at h;cases h
 ·rintro rfl;rfl
theorem val_dig {B:Nat} (hB:2≤B) (n:Nat):val B (dig B n)=n:=by
 induction n using Nat.strongRecOn with
 | _ n ih =>
  by_cases hn:n=0
  ·subst hn;rfl
  ·rw [dig_pos hB hn]
   simp only [val]
   rw [ih _ (Nat.div_lt_self (Nat.pos_of_ne_zero hn) hB)]
   exact Nat.mod_add_div n B
theorem dig_lt {B:Nat} (hB:2≤B) (n:Nat):∀d∈dig B n,d<B:=by
 induction n using Nat.strongRecOn with
 | _ n ih =>
  by_cases hn:n=0
  ·subst hn;simp [dig_zero]
  ·rw [dig_pos hB hn]
   intro d hd
   rcases List.mem_cons.1 hd with rfl | hd
   ·exact Nat.mod_lt _ (by omega)
   ·exact ih _ (Nat.div_lt_self (Nat.pos_of_ne_zero hn) hB) d hd
theorem dig_val {B:Nat} (hB:2≤B):∀(l:List Nat),(∀d∈l,d<B)→dig B (val B l)=trimL l
 | [],_=>rfl
 | d::l,h=>by
  have ih:=dig_val hB l fun e he=>h e (by simp [he])
  have hd:=h d (by simp)
  simp only [val,trimL]
  by_cases hz:d+B*val B l=0
  ·have h1:d=0:=by omega
   have h2:val B l=0:=by
    have:B*val B l=0:=by omega
    rcases Nat.mul_eq_zero.1 this with h | h<;>omega
   rw [h2,dig_zero] at ih
   rw [hz,←ih]
   simp [h1,dig_zero]
  ·rw [dig_pos hB hz]
   have h1:(d+B*val B l) % B=d:=by rw [Nat.add_mul_mod_self_left];exact Nat.mod_eq_of_lt hd
   have h2:(d+B*val B l) / B=val B l:=by rw [Nat.add_mul_div_left _ _ (by omega)];rw [Nat.div_eq_of_lt hd];omega
   rw [h1,h2,ih]
   cases ht:trimL l with
   | nil =>
    have h3:val B l=0:=by rw [ht] at ih;exact (dig_eq_nil hB).1 ih
    rw [if_neg (by rw [h3] at hz;simpa using hz)]
   | cons e r=>rfl
theorem trimL_dig {B:Nat} (hB:2≤B) (n:Nat):trimL (dig B n)=dig B n:=by
 rw [←dig_val hB _ (dig_lt hB n),val_dig hB]
theorem trimL_zero (l:List Nat):trimL (l++[0])=trimL l:=by
 induction l with
 | nil=>rfl
 | cons d l ih=>simp [trimL,ih]
theorem trimL_snoc (l:List Nat) {d:Nat} (hd:d≠0):trimL (l++[d])=l++[d]:=by
 induction l with
 | nil=>simp [trimL,hd]
 | cons e l ih =>
  simp only [List.cons_append,trimL,ih]
  cases l<;>simp
theorem trimL_le (l:List Nat):(trimL l).length≤l.length:=by
 induction l with
 | nil=>simp [trimL]
 | cons d l ih =>
  simp only [trimL]
  split
  ·split<;>simp
  ·rename_i e r h;rw [h] at ih;simpa using ih
theorem trimL_lt {B:Nat} (l:List Nat) (h:∀d∈l,d<B):∀d∈trimL l,d<B:=by
 induction l with
 | nil=>simp [trimL]
 | cons e l ih =>
  have ih:=ih fun d hd=>h d (by simp [hd])
  simp only [trimL]
  split
  ·split
   ·simp
   ·intro d hd;simp at hd;subst hd;exact h d (by simp)
  ·rename_i x r hx
   rw [hx] at ih
   intro d hd
   rcases List.mem_cons.1 hd with rfl | hd
   ·exact h d (by simp)
   ·exact ih d hd
theorem val_app (B:Nat) (l r:List Nat):val B (l++r)=val B l+B^l.length*val B r:=by
 induction l with
 | nil=>simp [val]
 | cons d l ih=>simp only [List.cons_append,val,ih,List.length_cons,Nat.pow_succ];rw [Nat.mul_add,Nat.mul_comm (B^l.length) B,Nat.mul_assoc];omega
theorem val_lt {B:Nat} (l:List Nat) (h:∀d∈l,d<B):val B l<B^l.length:=by
 induction l with
 | nil=>simp [val]
 | cons d l ih =>
  have ih:=ih fun e he=>h e (by simp [he])
  have hd:=h d (by simp)
  simp only [val,List.length_cons,Nat.pow_succ]
  calc d+B*val B l<B+B*val B l:=by omega
   _=B*(val B l+1):=by rw [Nat.mul_add];omega
   _≤B*B^l.length:=Nat.mul_le_mul_left _ ih
   _=B^l.length*B:=Nat.mul_comm _ _
theorem val_trim (B:Nat) (l:List Nat):val B (trimL l)=val B l:=by
 induction l with
 | nil=>rfl
 | cons d l ih =>
  simp only [trimL]
  cases h:trimL l with
  | nil =>
   rw [h] at ih;simp only [val] at ih ⊢
   split
   ·simp [val,←ih];omega
   ·simp [val,←ih]
  | cons e r=>rw [h] at ih;simp only [val] at ih ⊢;rw [ih]
def wid (B n:Nat):Nat:=(dig B n).length
theorem wid_le {B n k:Nat} (hB:2≤B) (h:n<B^k):wid B n≤k:=by
 induction k generalizing n with
 | zero=>simp at h;subst h;simp [wid,dig_zero]
 | succ k ih =>
  by_cases hn:n=0
  ·subst hn;simp [wid,dig_zero]
  ·simp only [wid];rw [dig_pos hB hn]
   simp only [List.length_cons]
   have:n / B<B^k:=by rw [Nat.div_lt_iff_lt_mul (by omega)];rwa [Nat.pow_succ] at h
   have:=ih this
   simp only [wid] at this;omega
theorem lt_wid {B:Nat} (hB:2≤B) (n:Nat):n<B^wid B n:=by
 have:=val_lt (dig B n) (dig_lt hB n)
 rwa [val_dig hB] at this
theorem wid_mono {B m n:Nat} (hB:2≤B) (h:m≤n):wid B m≤wid B n:=wid_le hB (Nat.lt_of_le_of_lt h (lt_wid hB n))
theorem wid_base {A B:Nat} (hA:2≤A) (h:A≤B) (n:Nat):wid B n≤wid A n:=wid_le (by omega) (Nat.lt_of_lt_of_le (lt_wid hA n) (Nat.pow_le_pow_left h _))
theorem wid_mul {B:Nat} (hB:2≤B) (m n:Nat):wid B (m*n)≤wid B m+wid B n:=by
 refine wid_le hB ?_
 rw [Nat.pow_add]
 exact Nat.mul_lt_mul'' (lt_wid hB m) (lt_wid hB n)
theorem wid_add {B:Nat} (hB:2≤B) (m n:Nat):wid B (m+n)≤max (wid B m) (wid B n)+1:=by
 refine wid_le hB ?_
 have h1:=Nat.lt_of_lt_of_le (lt_wid hB m) (Nat.pow_le_pow_right (by omega:0<B) (Nat.le_max_left (wid B m) (wid B n)))
 have h2:=Nat.lt_of_lt_of_le (lt_wid hB n) (Nat.pow_le_pow_right (by omega:0<B) (Nat.le_max_right (wid B m) (wid B n)))
 rw [Nat.pow_succ]
 have:B^max (wid B m) (wid B n)*2≤B^max (wid B m) (wid B n)*B:=Nat.mul_le_mul_left _ hB
 omega
theorem cmp_top {B:Nat} {la lb r:List Nat} {x y:Nat} (hla:∀d∈la,d<B) (hl:la.length=lb.length) (h:x<y):val B (la++x::r)<val B (lb++y::r):=by
 rw [val_app,val_app,hl]
 simp only [val]
 have h1:=val_lt la hla
 rw [hl] at h1
 have h2:B^lb.length*(x+B*val B r)+B^lb.length≤B^lb.length*(y+B*val B r):=by
  rw [←Nat.mul_succ];exact Nat.mul_le_mul_left _ (by omega)
 omega
theorem step_val (B:Nat) (out:List Nat) (x r:Nat):val B (out++[x % B])+B^(out.length+1)*(x / B+r)=val B out+B^out.length*(x+B*r):=by
 have h:=Nat.mod_add_div x B
 rw [val_app]
 conv=>rhs;rw [←h]
 simp only [val,Nat.pow_succ,Nat.mul_add,Nat.mul_zero,Nat.add_zero,Nat.mul_assoc,Nat.add_assoc]
def cmp3 (m n:Nat):Int:=if m<n then -1 else if n<m then 1 else 0
theorem lt_of_wid {B m n:Nat} (hB:2≤B) (h:(dig B m).length<(dig B n).length):m<n:=by
 rcases Nat.lt_or_ge m n with h' | h'
 ·exact h'
 ·have:=wid_mono hB h';simp only [wid] at this;omega
end Go.Pl


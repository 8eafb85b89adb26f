/- A text of the prover's own. -/
import Derived.Test.YtmghjkkjaolpgaaGreatDoorUVx
import Derived.OrdersHeld
open Nat renaming lt_or_ge→amz,le_refl→amk,le_trans→amQ,le_max_left→amT
open Array renaming ext'→amq,replicate→amU
open List renaming mem_cons→amM,not_mem_nil→amV,isEmpty_iff→amW,contains_iff_mem→amX,mem_append_right→amY,mem_append_left→amZ,mem_append→amO,range→amP,mem_filter→am0,all_eq_true→am1
open Bool renaming and_eq_true→amS,or_eq_true→am2
namespace Go.Sv
open Go Go.RowKit
section
variable {P:Program} {ops:Array Oper} {Q:Exit→Act→World→Prop} {G G':Nat→World→World→Prop}
def pj(P:Program)(ops:Array Oper)(Q:Exit→Act→World→Prop)(G:Nat→World→World→Prop):Nat→Array Bool→Act→World→Prop
 | 0,L,a,w=>Region.ready .any ops L=[]∧Q .normal a w
 | n+1,L,a,w=>(Region.ready .any ops L=[]→Q .normal a w) ∧
  ∀j∈Region.ready .any ops L,wpOp P ops Q j (fun a' w'=>G j w w'∧pj P ops Q G n (L.setIfInBounds j true) a' w') a w
theorem ur:∀(n:Nat) (L:Array Bool) (a:Act) (w:World),pj P ops Q G n L a w→wpAny P .any ops Q n L a w
 | 0,_,_,_,h=>h
 | n+1,_,_,_,h=>⟨h.1,fun i hi=>wpOp_mono (fun a' w' h'=>ur n _ a' w' h'.2) (h.2 i hi)⟩
theorem px{L:Array Bool}{i j:Nat}(h:(L.setIfInBounds i true).getD j true=false):L.getD j true=false:=by
 by_cases e:i=j
 ·subst e;rcases amz i L.size with h' | h'<;>simp[h']at h ⊢
 ·rwa [getD_set_ne true e]at h
theorem ki:∀(n:Nat) (L:Array Bool) (a:Act) (w:World),(∀j w w',L.getD j true=false→G' j w w'→G j w w')→pj P ops Q G' n L a w→pj P ops Q G n L a w
 | 0,_,_,_,_,h=>h
 | n+1,L,_,_,hG,h=>⟨h.1,fun i hi=>wpOp_mono (fun a' w' h'=>⟨hG i _ _ (mem_ready.1 hi).1 h'.1,ki n _ a' w' (fun j w w' hj=>hG j w w' (px hj)) h'.2⟩) (h.2 i hi)⟩
theorem sF{i:Nat}{oi:Oper}{v:Value}{D:Nat→Bool}{S:World→Prop}(hi:ops[i]?=some oi)(hsel:∀(j:Nat) (o:Oper) cs b,ops[j]?=some o→o.op≠.select cs b)
  (hQ:∀c a w,Q (.panic c) (a.put oi.dst v) w→Q (.panic c) a w)
  (hD:∀j oj,D j=true→ops[j]?=some oj→∃e∈oj.after,Region.binds .any e=true∧(e.on=i∨D e.on=true)) (hr0:∀w,S w→G i w w) :
  ∀(n:Nat) (L:Array Bool) (a:Act) (w:World),(∀j w w',j<ops.size→j≠i→D j=false→L.getD j true=false→S w→G j w w'→S w') →
   (∀j,D j=true→L.getD j true=false) →
   (∀j oj,ops[j]?=some oj→j≠i→L.getD j true=false→(∀e∈oj.after,Region.binds .any e=true→e.on≠i)→oi.apart ops oj=true) →
   i∈Region.ready .any ops L→YieldsIf P ops S oi v a→S w→pj P ops Q G n (L.setIfInBounds i true) (a.put oi.dst v) w→pj P ops Q G (n+1) L a w:=by
 intro n
 induction n with
 | zero =>
  intro L a w _ _ _ hr hy hS H;refine⟨fun h=>(by rw[h]at hr;cases hr),fun j hj=>?_⟩;by_cases hji:j=i
  ·subst hji;exact hy.wpOp hi hS ⟨hr0 w hS,H⟩
  ·have:=ready_mono hj hji;rw[H.1]at this;cases this
 | succ n ih =>
  intro L a w hG hDL hfree hr hy hS H;refine⟨fun h=>(by rw[h]at hr;cases hr),fun j hj=>?_⟩;by_cases hji:j=i
  ·subst hji;exact hy.wpOp hi hS ⟨hr0 w hS,H⟩
  have h1:=H.2 j (ready_mono hj hji);obtain⟨hjun,oj,hoj,hall⟩:=mem_ready.1 hj;have hin:∀k,L.getD k true=false→L.getD k false=false:=fun k hk=>by
   rcases amz k L.size with h' | h'<;>simp[h']at hk ⊢;exact hk
  have hnot:∀e∈oj.after,Region.binds .any e=true→e.on≠i:=fun e he hb heq=>by
   have h1:=hall e he hb;rw[heq,hin i (mem_ready.1 hr).1]at h1;cases h1
  have hDj:D j=false:=by
   cases hd:D j with
   | false=>rfl
   | true =>
    obtain⟨e,he,hb,h'⟩:=hD j oj hd hoj;have h1:=hall e he hb;rcases h' with h' | h'
    ·exact absurd h' (hnot e he hb)
    ·rw[hin _ (hDL _ h')]at h1;cases h1
  have h2:=wpOp_putIf hoj (hfree j oj hoj hji hjun hnot) (fun cs b=>hsel i oi cs b hi) (fun cs b=>hsel j oj cs b hoj) hQ hy h1;refine wpOp_mono (fun a' w' h3=>⟨h3.2.1,ih (L.setIfInBounds j true) a' w' (fun k w w' hs hk hd hl=>hG k w w' hs hk hd (px hl)) (fun k hk=>?_) (fun k ok hk hki hun hno=>?_) (ready_mono hr (Ne.symm hji)) h3.1
   (hG j w w' (Array.getElem?_eq_some_iff.1 hoj).1 hji hDj hjun hS h3.2.1) ?_⟩) h2
  ·have hne:j≠k:=fun e=>by subst e;rw[hDj]at hk;cases hk
   rw[getD_set_ne true hne];exact hDL k hk
  ·exact hfree k ok hk hki (px hun) hno
  ·rw[Array.setIfInBounds_comm _ _ hji];exact h3.2.2
theorem Kq{i:Nat}{n:Nat}{L:Array Bool}{a:Act}{w:World}(hr:Region.ready .any ops L=[i])
  (h:wpOp P ops Q i (fun a' w'=>G i w w'∧pj P ops Q G n (L.setIfInBounds i true) a' w') a w):pj P ops Q G (n+1) L a w :=
 ⟨fun h0=>(by rw[hr]at h0;cases h0),fun j hj=>(by rw[hr]at hj;simp only[List.mem_singleton]at hj;subst hj;exact h)⟩
theorem L0{i j:Nat}{n:Nat}{L:Array Bool}{a:Act}{w:World}(hr:Region.ready .any ops L=[i,j])
  (h:wpOp P ops Q i (fun a' w'=>G i w w'∧pj P ops Q G n (L.setIfInBounds i true) a' w') a w)
  (h':wpOp P ops Q j (fun a' w'=>G j w w'∧pj P ops Q G n (L.setIfInBounds j true) a' w') a w):pj P ops Q G (n+1) L a w :=
 ⟨fun h0=>(by rw[hr]at h0;cases h0),fun k hk=>(by
  rw[hr]at hk;simp only[amM,amV,or_false]at hk;rcases hk with rfl | rfl<;>assumption)⟩
theorem LB{l:List Nat}{n:Nat}{L:Array Bool}{a:Act}{w:World}(hr:Region.ready .any ops L=l)(hl:l≠[])
  (h:∀i∈l,wpOp P ops Q i (fun a' w'=>G i w w'∧pj P ops Q G n (L.setIfInBounds i true) a' w') a w):pj P ops Q G (n+1) L a w :=
 ⟨fun h0=>(by rw[hr]at h0;exact absurd h0 hl),fun k hk=>h k (hr ▸ hk)⟩
theorem Bz:∀(n:Nat) (L:Array Bool) (a:Act) (w:World),pj P ops Q G n L a w→pj P ops Q G (n+1) L a w
 | 0,_,_,_,h=>⟨fun _=>h.2,fun j hj=>by rw[h.1]at hj;cases hj⟩
 | n+1,_,_,_,h=>⟨h.1,fun j hj=>wpOp_mono (fun _ _ h'=>⟨h'.1,Bz n _ _ _ h'.2⟩) (h.2 j hj)⟩
theorem yC{n m:Nat}(h:n≤m){L:Array Bool}{a:Act}{w:World}(hw:pj P ops Q G n L a w):pj P ops Q G m L a w:=by
 induction h with
 | refl=>exact hw
 | step _ ih=>exact Bz _ _ _ _ ih
end
def RS(U:Nat→Prop)(w w':World):Prop:=w.heap.size≤w'.heap.size∧∀b,b<w.heap.size→¬U b→w'.heap[b]?=w.heap[b]?
theorem RS.xc{U:Nat→Prop}(w:World):RS U w w:=⟨amk _,fun _ _ _=>rfl⟩
theorem RS.trans{U V:Nat→Prop}{a b c:World}(h:RS U a b)(k:RS V b c)(hv:∀x,x<a.heap.size→V x→U x):RS U a c :=
 ⟨amQ h.1 k.1,fun x hx hu=>by rw[k.2 x (Nat.lt_of_lt_of_le hx h.1) (fun hV=>hu (hv x hx hV)),h.2 x hx hu]⟩
def o8:Nat:=1000000
def nb(ks:List Nat):List Nat:=ks.filter fun k=>k != o8
def Wb(β:bO)(s:Nat)(ks:List Nat)(b:Nat):Prop:=ks≠[]∧(o8∈ks∨s≤b∨∃k∈ks,∃d,β k=some (some d)∧d.b=b)
def nG(H:Hp)(w:World):Prop:=∀b cs,H b=some cs→∃T z,w.heap[b]?=some (.cells cs T z)
def GG(H:Hp)(U:Nat→Prop)(w w':World):Prop:=RS U w w'∧nG H w'
inductive Pl
 | nil
 | q (i:Nat) (ks:List Nat) (r:Pl)
 | l (i:Nat) (ks:List Nat) (r:Pl)
 | m (i:Nat) (ks:List Nat) (r:Pl) (j:Nat) (ks':List Nat) (r':Pl)
 /-- one of some that may come up; the others are told by p -/
 | alt (i:Nat) (ks:List Nat) (r p:Pl)
 | stop
def Pl.qs:List Nat→Pl→Pl
 | [],r=>r
 | i::is,r=>.q i [] (Pl.qs is r)
def one(i:Nat)(ks:List Nat)(j:Nat):List Nat:=if i=j then ks else[]
def Pl.Y:Pl→Nat→List Nat
 | .nil,_=>[]
 | .stop,_=>[]
 | .alt i ks r p,x=>one i ks x++(r.Y x++p.Y x)
 | .q _ _ r,x=>r.Y x
 | .l i ks r,x=>one i ks x++r.Y x
 | .m i ks r j ks' r',x=>one i ks x++(one j ks' x++(r.Y x++r'.Y x))
def Pl.AE:Pl→List Nat
 | .alt i _ _ p=>i::p.AE
 | _=>[]
def Pl.len:Pl→Nat
 | .alt _ _ r p=>max (r.len+1) p.len
 | .stop=>0
 | .nil=>0
 | .q _ _ r=>r.len+1
 | .l _ _ r=>r.len+1
 | .m _ _ r _ _ r'=>max r.len r'.len+1
def Pl.j9:Pl→Bool
 | .nil=>true
 | .stop=>true
 | .alt _ ks r p=>(ks.isEmpty||ks.contains o8)&&(r.j9&&p.j9)
 | .q _ _ r=>r.j9
 | .l _ ks r=>(ks.isEmpty||ks.contains o8)&&r.j9
 | .m _ ks r _ ks' r'=>(ks.isEmpty||ks.contains o8)&&((ks'.isEmpty||ks'.contains o8)&&(r.j9&&r'.j9))
theorem Pl.pI:∀(pl:Pl),pl.j9=true→∀j,pl.Y j≠[]→o8∈pl.Y j
 | .nil,_,j,h=>absurd rfl h
 | .stop,_,j,h=>absurd rfl h
 | .alt i ks r p,h,j,hn=>by
  simp only[Pl.j9,amS,am2,amW,amX]at h;simp only[Pl.Y,one]at hn ⊢;by_cases hr:r.Y j=[]
  ·by_cases hr':p.Y j=[]
   ·rw[hr,hr']at hn ⊢;split at hn
    ·rename_i e;rw[if_pos e];rcases h.1 with h1 | h1
     ·simp[h1]at hn
     ·simp[h1]
    ·simp at hn
   ·exact amY _ (amY _ (p.pI h.2.2 j hr'))
  ·exact amY _ (amZ _ (r.pI h.2.1 j hr))
 | .q _ _ r,h,j,hn=>r.pI h j hn
 | .l i ks r,h,j,hn=>by
  simp only[Pl.j9,amS,am2,amW,amX]at h;simp only[Pl.Y,one]at hn ⊢;by_cases hr:r.Y j=[]
  ·rw[hr]at hn ⊢;split at hn
   ·rename_i e;rw[if_pos e];rcases h.1 with h1 | h1
    ·simp[h1]at hn
    ·simp[h1]
   ·simp at hn
  ·exact amY _ (r.pI h.2 j hr)
 | .m i ks r i' ks' r',h,j,hn=>by
  simp only[Pl.j9,amS,am2,amW,amX]at h;simp only[Pl.Y,one]at hn ⊢;by_cases hr:r.Y j=[]
  ·by_cases hr':r'.Y j=[]
   ·rw[hr,hr']at hn ⊢;simp only[List.append_nil,amO]at hn ⊢;split
    ·rename_i e;rcases h.1 with h1 | h1
     ·subst h1;split
      ·rename_i e';rcases h.2.1 with h2 | h2
       ·subst h2;simp at hn
       ·exact .inr h2
      ·rename_i e';simp[e']at hn
     ·exact .inl h1
    ·rename_i e;split
     ·rename_i e';rcases h.2.1 with h2 | h2
      ·subst h2;simp[e]at hn
      ·exact .inr h2
     ·rename_i e';simp[e,e']at hn
   ·exact amY _ (amY _ (amY _ (r'.pI h.2.2.2 j hr')))
  ·exact amY _ (amY _ (amZ _ (r.pI h.2.2.1 j hr)))
def tW:Op→Bool
 | .store .. | .alloc .. | .box .. | .buildSlice .. | .makeSlice .. | .call ⟨.value _,_,_⟩ | .call ⟨.builtin .append,_,_⟩ | .call ⟨.builtin .copy,_,_⟩
 | .lookup .. | .mapUpdate .. | .insert .. | .mapEntry .. | .entryStore .. | .makeMap ..=>false
 | _=>true
def LQ(ops:Array Oper)(i:Nat):List Nat:=(amP ops.size).foldl (fun acc j=>match ops[j]? with
 | some o=>if o.after.any (fun e=>Region.binds .any e&&(e.on==i||acc.contains e.on)) then acc++[j] else acc
 | none=>acc) []
def Ve(ops:Array Oper)(L:Array Bool)(i:Nat)(ks:List Nat)(Y:Nat→List Nat):Bool :=
 (match ops[i]? with
   | some o=>tW o.op
   | none=>false)&&(Region.free .any ops L i&&((Region.ready .any ops L).contains i &&
   ((
    (LQ ops i).all fun j=>!L.getD j true&&match ops[j]? with
    | some o=>o.after.any fun e=>Region.binds .any e&&(e.on==i||(LQ ops i).contains e.on)
    | none=>false) &&
   (match ops[i]? with
   | some ⟨_,.load _ _,_,_,_,_⟩=>(amP ops.size).all fun j=>j==i||(L.getD j true||((LQ ops i).contains j||(Y j).all fun k=>ks.contains k))
   | _=>true))))
mutual
def fO(ops:Array Oper):Array Bool→Pl→Bool
 | _,.stop=>false
 | L,.alt i _ r p=>Region.ready .any ops L==i::p.AE&&(fO ops (L.setIfInBounds i true) r&&tu ops L p)
 | L,.nil=>(Region.ready .any ops L).isEmpty
 | L,.l i _ r=>Region.ready .any ops L==[i]&&fO ops (L.setIfInBounds i true) r
 | L,.m i _ r j _ r'=>Region.ready .any ops L==[i,j]&&(fO ops (L.setIfInBounds i true) r&&fO ops (L.setIfInBounds j true) r')
 | L,.q i ks r=>Ve ops L i ks r.Y&&fO ops (L.setIfInBounds i true) r
def tu(ops:Array Oper):Array Bool→Pl→Bool
 | _,.stop=>true
 | L,.alt i _ r p=>fO ops (L.setIfInBounds i true) r&&tu ops L p
 | _,.nil=>false
 | _,.l _ _ _=>false
 | _,.m _ _ _ _ _ _=>false
 | _,.q _ _ _=>false
end
def OF(P:Program)(C:Ctx)(ops:Array Oper)(pl:Pl)(st:St)(Q:aV):Prop :=
 Region.noSelect ops=true→∀L,fO ops L pl=true→∀β H a w,gI β H st.n st.fr a→cv C β H st.M w→pj P ops (QQ C Q) (fun j w1 w2=>GG H (Wb β w.heap.size (pl.Y j)) w1 w2) pl.len L a w
def qc(M:aJ)(k:Nat):Prop:=match ao M k with
 | some e=>e.fz=false
 | none=>False
def Qg(x:Option SV):Prop:=match x with
 | some (.view _ _ _)=>False
 | _=>True
def GD(x:Option SV):Prop:=match x with
 | some (.mp _)=>False
 | some (.val (.map none))=>False
 | _=>True
def JB(l:List (Option SV)):Prop:=match l with
 | [x]=>GD x
 | _=>True
def w8(ks:List Nat)(st:St)(o:Op):Prop :=
 match o with
 | .load _ x=>ks=[]∨match ev st.fr x with
  | some (.ptr k _ _)=>k∉ks∧o8∉ks∧∀j∈ks,qc st.M j
  | some (.bU _ _)=>True
  | _=>False
 | .convert _ _ x=>Qg (ev st.fr x)
 | .call ⟨.builtin .len,args,_⟩=>JB (args.toList.map (ev st.fr))
 | _=>True
def okW(ks:List Nat)(st:St)(o:Op):Prop :=
 match o with
 | .store t x y=>∀k∈zb st.fr (.store t x y),k∈ks
 | .call ⟨.builtin .copy,args,ts⟩=>∀k∈zb st.fr (.call ⟨.builtin .copy,args,ts⟩),k∈ks
 | .mapUpdate _ m _ _=>∀k∈DV (ev st.fr m),k∈ks
 | .insert _ m _ _=>∀k∈DV (ev st.fr m),k∈ks
 | .mapEntry _ m _=>∀k∈DV (ev st.fr m),k∈ks
 | .entryStore _ m _ _=>∀k∈DV (ev st.fr m),k∈ks
 | _=>True
def FM(args:Array Operand):Bool:=match args.toList with
 | .const (.slice none 0 0)::_=>true
 | _=>false
def z9(ks:List Nat)(r:Pl)(o:Op):Prop :=
 match o with
 | .call ⟨.builtin .append,args,_⟩=>FM args=true∨(o8∈ks∧r.j9=true)
 | _=>True
def Pl.there(M:aJ):Pl→Prop
 | .nil=>True
 | .stop=>True
 | .alt _ ks r p=>(o8∈ks∨∀k∈ks,ao M k≠none)∧r.there M∧p.there M
 | .q _ _ r=>r.there M
 | .l _ ks r=>(o8∈ks∨∀k∈ks,ao M k≠none)∧r.there M
 | .m _ ks r _ ks' r'=>(o8∈ks∨∀k∈ks,ao M k≠none)∧(o8∈ks'∨∀k∈ks',ao M k≠none)∧r.there M∧r'.there M
theorem Pl.mm{M:aJ}:∀(pl:Pl),pl.there M→∀j,∀k∈pl.Y j,o8∈pl.Y j∨ao M k≠none
 | .nil,_,j,k,hk=>by simp[Pl.Y]at hk
 | .stop,_,j,k,hk=>by simp[Pl.Y]at hk
 | .alt i ks r p,h,j,k,hk=>by
  simp only[Pl.Y,amO,one]at hk ⊢;rcases hk with hk | hk | hk
  ·split at hk
   ·rename_i e;simp only[e,if_true];exact h.1.imp .inl fun h=>h k hk
   ·cases hk
  ·exact(r.mm h.2.1 j k hk).imp (fun h=>.inr (.inl h)) id
  ·exact(p.mm h.2.2 j k hk).imp (fun h=>.inr (.inr h)) id
 | .q _ _ r,h,j,k,hk=>r.mm h j k hk
 | .l i ks r,h,j,k,hk=>by
  simp only[Pl.Y,amO,one]at hk ⊢;rcases hk with hk | hk
  ·split at hk
   ·rename_i e;simp only[e,if_true];exact h.1.imp .inl fun h=>h k hk
   ·cases hk
  ·exact(r.mm h.2 j k hk).imp .inr id
 | .m i ks r i' ks' r',h,j,k,hk=>by
  simp only[Pl.Y,amO,one]at hk ⊢;rcases hk with hk | hk | hk | hk
  ·split at hk
   ·rename_i e;simp only[e,if_true];exact h.1.imp .inl fun h=>h k hk
   ·cases hk
  ·split at hk
   ·rename_i e;simp only[e,if_true];exact h.2.1.imp (fun h=>.inr (.inl h)) fun h=>h k hk
   ·cases hk
  ·exact(r.mm h.2.2.1 j k hk).imp (fun h=>.inr (.inr (.inl h))) id
  ·exact(r'.mm h.2.2.2 j k hk).imp (fun h=>.inr (.inr (.inr h))) id
section
variable {P:Program} {C:Ctx} {ops:Array Oper} {L:Array Bool} {Q QJ:aV} {st:St} {β:bO} {H:Hp} {a:Act} {w:World}
theorem uU{M:aJ}{ti:Option TI}{x:Option SV}{u:Value}{c:Prop}{r:SV}(hW:cv C β H M w)(h:g9 M ti x=.q c r)(hx:∀s,x=some s→Den β H s u) :
  ∃b o p,u=.pointer (some ⟨b,o,p⟩)∧b<w.heap.size∧((∃k i j d e,x=some (.ptr k i j)∧β k=some (some d)∧d.b=b∧ao M k=some e)∨(∃y j cs,x=some (.bU y j)∧H b=some cs)):=by
 unfold g9 at h;split at h
 ·rename_i ti k i j;have hu:=hx _ rfl;simp only[Den]at hu;obtain⟨d,hd,rfl⟩:=hu;split at h
  ·rename_i e he;exact⟨_,_,_,rfl,hW.lt (aL he) hd,.inl ⟨k,i,j,d,e,rfl,hd,rfl,he⟩⟩
  ·cases h
 ·rename_i ti x j;have hu:=hx _ rfl;simp only[Den]at hu;obtain⟨b,o,cs,v,rfl,h2,h3,h4⟩:=hu;exact⟨_,_,_,rfl,hW.aF h2,.inr ⟨x,j,cs,rfl,h2⟩⟩
 ·cases h
theorem HX{ks:List Nat}{o:Oper}{c:Prop}{x:SV}{U:Nat→Prop}(hW:cv C β H st.M w)(hF:gI β H st.n st.fr a)(hq:xA P st.M st.fr o.op=.q c x)(hc:c)(hi:w8 ks st o.op)
  (hU:(∃t x,o.op=.load t x)→∀b,U b→b<w.heap.size→o8∈ks∨∃k∈ks,∃d,β k=some (some d)∧d.b=b) :
  ∃v,(∀w',(RS U w w'∧nG H w')→(execOp a.eval o).run P w'=.ok (.value v) w')∧Den β H x v:=by
 by_cases hl:∃t x,o.op=.load t x
 ·obtain⟨t,y,ho⟩:=hl;obtain⟨dst,op,type,pos,after,guard⟩:=o;simp only at ho;subst ho;simp only[xA]at hq;by_cases hr:∃y' j',ev st.fr y=some (.bU y' j')
  ·obtain⟨y',j',hr⟩:=hr;have hden:=iJ hF y _ hr;rw[hr]at hq;obtain⟨z,h1,h2⟩:=vL (P:=P) hq hc hden;refine⟨z,fun w' hs=>?_,h2⟩;have:=h1 w' hs.2;simp[execOp,this]
  ·obtain⟨z,h1,h2⟩:=oR (P:=P) hW hq hc (iJ hF y);obtain⟨b,o,p,hu,hb,hk⟩:=uU hW hq (iJ hF y);refine⟨z,fun w' hs=>?_,h2⟩;have:=h1 w' (fun b' o' p' he=>by
    rw[hu]at he;simp only[Value.pointer.injEq,Option.some.injEq]at he;cases he;refine hs.1.2 b hb (fun hUb=>?_);rcases hk with⟨k,i,j,d,e,hx,hd,hdb,he⟩ | ⟨y',j,cs,hx,hH⟩
    ·simp only[w8,hx]at hi;rcases hi with rfl | ⟨hne,hbig,hlv⟩
     ·rcases hU ⟨_,_,rfl⟩ b hUb hb with h | ⟨k',hk',_⟩
      ·cases h
      ·cases hk'
     ·rcases hU ⟨_,_,rfl⟩ b hUb hb with h | ⟨k',hk',d',hd',hb'⟩
      ·exact hbig h
      ·have hl:=hlv k' hk';unfold qc at hl;split at hl
       ·rename_i e' he';have:=hW.inj k k' e e' d d' (aL he) (aL he') hd hd' (hdb.trans hb'.symm);subst this;exact hne hk'
       ·exact hl.elim
    ·exact hr ⟨y',j,hx⟩)
   simp[execOp,this]
 ·by_cases hcv:∃s d x el a b z,o.op=.convert s d x∧az P s=some ⟨.sl el,a,b,z⟩
  ·obtain⟨s,d,y,el,a',b,z,ho,hts⟩:=hcv;obtain⟨dst,op,type,pos,after,guard⟩:=o;simp only at ho;subst ho;obtain⟨v,h1,h2,h3⟩:=wL hW hF hq hc hts;refine⟨v,fun w' hs=>h3 (fun k i n e=>?_) w' hs.2,h2⟩;simp only[w8,e,Qg]at hi
  ·obtain⟨v,h1,h2⟩:=sB (P:=P) hW.pW hF hq hc (fun t x e=>hl ⟨t,x,e⟩) (fun s d x e el a' b z e'=>hcv ⟨s,d,x,el,a',b,z,e,e'⟩);exact⟨v,fun w' _=>h1 w',h2⟩
def gd(ops:Array Oper)(o:Oper)(st:St)(yes no:St→Prop):Prop :=
 match o.guard with
 | none=>yes st
 | some (j,b)=>match m6 ops j with
  | some t=>match get st.fr t with
   | some (.val (.bool c))=>(c=b→yes ⟨st.n,(t,.val (.bool b))::st.fr,st.M⟩)∧(c=!b→no ⟨st.n,fc st.n o.dst ((t,.val (.bool (!b)))::st.fr),st.M⟩)
   | some (.bG [])=>no ⟨st.n,fc st.n o.dst st.fr,st.M⟩
   | _=>False
  | none=>False
theorem Mb{o:Oper}{yes no:St→Prop}(h:gd ops o st yes no)(hF:gI β H st.n st.fr a) :
  (Region.wanted o (yielded ops a.tmps)=true∧∃fr,gI β H st.n fr a∧yes ⟨st.n,fr,st.M⟩)∨(Region.wanted o (yielded ops a.tmps)=false∧∃fr,gI β H st.n fr (a.put o.dst undef)∧no ⟨st.n,fr,st.M⟩):=by
 unfold gd at h;split at h
 ·rename_i hg;exact .inl ⟨by simp[Region.wanted,hg],_,hF,h⟩
 ·rename_i j b hg;split at h
  ·rename_i t ht;split at h
   ·rename_i c hc;obtain⟨v,hv,hden⟩:=hF.2.2 t _ hc;simp only[Den]at hden;obtain⟨rfl, -⟩:=hden;have hy:yielded ops a.tmps j=some c:=by
     unfold yielded;simp only[m6]at ht;rw[ht];simp[hv]
    have hsub:∀b',c=b'→gI β H st.n ((t,.val (.bool b'))::st.fr) a:=fun b' hb=>by
     subst hb;refine hF.sub fun t' x' hg'=>?_;simp only[get]at hg';split at hg'
     ·rename_i e;subst e;simp only[Option.some.injEq]at hg';subst hg';exact hc
     ·exact hg'
    by_cases hcb:c=b
    ·exact .inl ⟨by simp[Region.wanted,hg,hy,hcb],_,hsub b hcb,h.1 hcb⟩
    ·have hcb':c=!b:=by cases c<;>cases b<;>simp_all
     exact .inr ⟨by simp[Region.wanted,hg,hy,hcb],_,(hsub _ hcb').fc o.dst,h.2 hcb'⟩
   ·rename_i hc;obtain⟨v,hv,hden⟩:=hF.2.2 t _ hc;obtain rfl:=wR hden;have hy:yielded ops a.tmps j=none:=by
     unfold yielded;simp only[m6]at ht;rw[ht];simp[hv]
    exact .inr ⟨by simp[Region.wanted,hg,hy],_,hF.fc o.dst,h⟩
   ·exact h.elim
  ·exact h.elim
theorem sG{fx:List Nat}{fr:List (Nat × SV)}{M:aJ}{o:Op}(h:tW o=true)(hl:∀args ts,o=.call ⟨.builtin .len,args,ts⟩→JB (args.toList.map (ev fr))):CD P fx M fr o=.stuck∧∀f args ts,o≠.call ⟨.value f,args,ts⟩:=by
 unfold tW at h;split at h;all_goals first | (cases h;done) | skip
 rename_i h1 h2 h3 h4 h5 h6 h7 h8 h9 h10 h11 h12 h13 h14;refine⟨?_,fun f args ts e=>h6 _ _ _ e⟩;unfold CD;split<;>first | rfl | (exfalso;first | exact h1 _ _ _ rfl | exact h2 _ rfl | exact h3 _ _ rfl | exact h4 _ _ _ rfl | exact h5 _ _ _ rfl | exact h7 _ _ rfl | exact h8 _ _ rfl | exact h9 _ _ _ _ rfl | exact h10 _ _ _ _ rfl | exact h11 _ _ _ _ rfl | exact h12 _ _ _ rfl | exact h13 _ _ _ _ rfl | exact h14 _ _ rfl) | skip
 rename_i args ts;have:=hl _ _ rfl;split
 ·rename_i x hx;rw[hx]at this;simp only[List.map_cons,List.map_nil,JB]at this;unfold fK;split
  ·rename_i he;rw[he]at this;exact this.elim
  ·rename_i he;rw[he]at this;exact this.elim
  ·rfl
 ·rfl
theorem pM{o:Oper}{ks:List Nat}{W:Option (List Nat)}{next nextJ:St→Prop}(hq:tW o.op=true)(hi:w8 ks st o.op)(h:cE P C W o st next nextJ):∃c x,xA P st.M st.fr o.op=.q c x∧c∧sS o.dst st.n∧next ⟨st.n,dd o.dst (some x) st.fr,st.M⟩:=by
 have hl:∀args ts,o.op=.call ⟨.builtin .len,args,ts⟩→JB (args.toList.map (ev st.fr)):=fun args ts e=>by rw[e]at hi;exact hi
 unfold cE at h;split at h
 ·rename_i c x hx;exact⟨c,x,hx,h⟩
 ·rw[(sG hq hl).1]at h;simp only at h;split at h
  ·rename_i f args ts hop;exact absurd hop ((sG (P:=P) (fx:=[]) (fr:=st.fr) (M:=st.M) hq hl).2 _ _ _)
  ·rename_i f args ts hop;exact absurd hop ((sG (P:=P) (fx:=[]) (fr:=st.fr) (M:=st.M) hq hl).2 _ _ _)
  ·exact h.elim
theorem AF{M:aJ}{ti:Option TI}{x i:Option SV}{ok:Bool}{c:Prop}{M':aJ}{pk:List Nat}{r:Option SV}(h:j8 P M ti x i ok=.m c M' pk r):pk=[]:=by
 unfold j8 RC lkN Ka at h
 repeat' split at h
 all_goals first | (simp only[cr.m.injEq]at h;exact h.2.2.1.symm) | cases h
theorem th{M:aJ}{ti:Option TI}{x i y:Option SV}{c:Prop}{M':aJ}{pk:List Nat}{r:Option SV}(h:jF P M ti x i y=.m c M' pk r):pk=[]:=by
 unfold jF RK ID at h
 repeat' split at h
 all_goals first | (simp only[cr.m.injEq]at h;exact h.2.2.1.symm) | cases h
theorem xj{M:aJ}{ti:Option TI}{x i:Option SV}{c:Prop}{M':aJ}{pk:List Nat}{r:Option SV}(h:kD P M ti x i=.m c M' pk r):pk=[]:=by
 unfold kD enE enR at h
 repeat' split at h
 all_goals first | (simp only[cr.m.injEq]at h;exact h.2.2.1.symm) | cases h
theorem tL{M:aJ}{x i y:Option SV}{c:Prop}{M':aJ}{pk:List Nat}{r:Option SV}(h:iD M x i y=.m c M' pk r):pk=[]:=by
 unfold iD esE at h
 repeat' split at h
 all_goals first | (simp only[cr.m.injEq]at h;exact h.2.2.1.symm) | cases h
theorem yL{M:aJ}{ti:Option TI}{x:Option (Option SV)}{c:Prop}{M':aJ}{pk:List Nat}{r:Option SV}(h:jq M ti x=.m c M' pk r):pk=[]:=by
 unfold jq at h
 repeat' split at h
 all_goals first | (simp only[cr.m.injEq]at h;exact h.2.2.1.symm) | cases h
theorem Bl{M:aJ}{ti:Option TI}{x:Option SV}{c:Prop}{M':aJ}{pk:List Nat}{r:Option SV}(h:fK M ti x=.m c M' pk r):pk=[]:=by
 unfold fK Sj at h
 repeat' split at h
 all_goals first | (simp only[cr.m.injEq]at h;exact h.2.2.1.symm) | cases h
theorem NQ{fr:List (Nat × SV)}{M M':aJ}{o:Op}{c:Prop}{pk:List Nat}{x:Option SV}(ha:∀args ts,o≠.call ⟨.builtin .append,args,ts⟩){fx:List Nat}(h:CD P fx M fr o=.m c M' pk x):pk=[]:=by
 unfold CD at h;split at h
 ·unfold mH at h;split at h
  ·split at h
   ·simp only[cr.m.injEq]at h;exact h.2.2.1.symm
   ·cases h
  ·cases h
 ·unfold ow at h;split at h
  ·simp only[cr.m.injEq]at h;exact h.2.2.1.symm
  ·cases h
 ·unfold xY at h;split at h
  ·simp only[cr.m.injEq]at h;exact h.2.2.1.symm
  ·cases h
 ·unfold fG at h;split at h
  ·split at h
   ·split at h
    ·split at h
     ·simp only[cr.m.injEq]at h;exact h.2.2.1.symm
     ·cases h
    ·cases h
   ·cases h
  ·cases h
 ·unfold fZ at h;split at h
  ·split at h
   ·simp only[cr.m.injEq]at h;exact h.2.2.1.symm
   ·cases h
  ·cases h
 ·exact absurd rfl (ha _ _)
 ·split at h
  ·unfold yB at h;split at h
   ·split at h
    ·split at h
     ·simp only[cr.m.injEq]at h;exact h.2.2.1.symm
     ·cases h
    ·cases h
   ·cases h
  ·cases h
 ·exact AF h
 ·exact th h
 ·exact th h
 ·exact xj h
 ·exact tL h
 ·exact yL h
 ·split at h
  ·exact Bl h
  ·cases h
 ·cases h
def eN(P:Program)(C:Ctx)(ops:Array Oper):Pl→St→aV→aV→Prop
 | .stop,_,_,_=>True
 | .alt i ks r p,st,Q,QJ=>(match ops[i]? with
  | none=>False
  | some o=>gd ops o st (fun st'=>((okW ks st' o.op∧z9 ks r o.op)∧r.there st'.M)∧cE P C (some (nb ks)) o st' (fun st''=>eN P C ops r st'' Q QJ) (fun st''=>eN P C ops r st'' QJ QJ)) (fun st'=>eN P C ops r st' Q QJ))∧eN P C ops p st Q QJ
 | .nil,st,Q,_=>Q .normal st
 | .q i ks r,st,Q,QJ=>match ops[i]? with
  | none=>False
  | some o=>gd ops o st (fun st'=>w8 ks st' o.op∧cE P C none o st' (fun st''=>eN P C ops r st'' Q QJ) (fun _=>False)) (fun st'=>eN P C ops r st' Q QJ)
 | .l i ks r,st,Q,QJ=>match ops[i]? with
  | none=>False
  | some o=>gd ops o st (fun st'=>((okW ks st' o.op∧z9 ks r o.op)∧r.there st'.M)∧cE P C (some (nb ks)) o st' (fun st''=>eN P C ops r st'' Q QJ) (fun st''=>eN P C ops r st'' QJ QJ)) (fun st'=>eN P C ops r st' Q QJ)
 | .m i ks r j ks' r',st,Q,QJ=>match ops[i]?,ops[j]? with
  | some o,some o'=>gd ops o st (fun st'=>((okW ks st' o.op∧z9 ks r o.op)∧r.there st'.M)∧cE P C (some (nb ks)) o st' (fun st''=>eN P C ops r st'' Q QJ) (fun st''=>eN P C ops r st'' QJ QJ)) (fun st'=>eN P C ops r st' Q QJ) ∧
   gd ops o' st (fun st'=>((okW ks' st' o'.op∧z9 ks' r' o'.op)∧r'.there st'.M)∧cE P C (some (nb ks')) o' st' (fun st''=>eN P C ops r' st'' Q QJ) (fun st''=>eN P C ops r' st'' QJ QJ)) (fun st'=>eN P C ops r' st' Q QJ)
  | _,_=>False
theorem RS.mono{U V:Nat→Prop}{w':World}(h:RS U w w')(hv:∀b,b<w.heap.size→U b→V b):RS V w w':=⟨h.1,fun b hb hn=>h.2 b hb fun hu=>hn (hv b hb hu)⟩
theorem Wb.mono{s:Nat}{ks ks':List Nat}{b:Nat}(h:Wb β s ks b)(hk:∀k∈ks,k∈ks'):Wb β s ks' b:=by
 obtain⟨h1,h2⟩:=h;refine⟨fun e=>?_,h2.imp (hk _) (Or.imp id fun⟨k,h3,h4⟩=>⟨k,hk k h3,h4⟩)⟩;cases ks with
 | nil=>exact h1 rfl
 | cons k r=>have:=hk k (by simp);rw[e]at this;cases this
theorem Wb.back{H':Hp}{β':bO}{w':World}{ks ks':List Nat}{b:Nat}(hW:cv C β H st.M w)(hβ:(∀k d,β k=some d→β' k=some d)∨(ks≠[]→o8∈ks))(hs:w.heap.size≤w'.heap.size)(hth:∀k∈ks,o8∈ks∨ao st.M k≠none)
  (hk:∀k∈ks,k∈ks') (h:Wb β' w'.heap.size ks b):Wb β w.heap.size ks' b:=by
 refine Wb.mono ?_ hk;obtain⟨h1,h2⟩:=h;refine⟨h1,?_⟩;rcases h2 with h2 | h2 | ⟨k,h3,d,h4,h5⟩
 ·exact .inl h2
 ·exact .inr (.inl (amQ hs h2))
 ·rcases hβ with hβ | hβ
  ·rcases hth k h3 with hb | hne
   ·exact .inl hb
   ·refine .inr (.inr ⟨k,h3,d,?_,h5⟩);cases he:ao st.M k with
    | none=>exact absurd he hne
    | some e =>
     rcases hW.da k e (aL he)with⟨h6, -⟩ | ⟨d',_,_,_,h6, -⟩ | ⟨d',_,h6, -⟩
     ·rw[hβ k _ h6]at h4;simp at h4
     ·rw[hβ k _ h6]at h4;rw[h6];exact h4
     ·rw[hβ k _ h6]at h4;rw[h6];exact h4
  ·exact .inl (hβ h1)
theorem nG.mono{H H':Hp}{w:World}(h:nG H' w)(hH:∀b cs,H b=some cs→H' b=some cs):nG H w:=fun b cs hb=>h b cs (hH b cs hb)
theorem Ex{fr:List (Nat × SV)}{M M':aJ}{args:Array Operand}{ts:Array TypeId}{c:Prop}{pk:List Nat}{x:Option SV}{fx:List Nat}(hn:FM args=true)(h:CD P fx M fr (.call ⟨.builtin .append,args,ts⟩)=.m c M' pk x) :
  pk=[M.length]∧zb fr (.call ⟨.builtin .append,args,ts⟩)=[]:=by
 unfold FM at hn;split at hn
 ·rename_i l hl;unfold CD at h;simp only[hl]at h;split at h
  ·rename_i b x' hb;simp only[List.cons.injEq]at hb;obtain⟨rfl,hb⟩:=hb;have ew:zb fr (.call ⟨.builtin .append,args,ts⟩)=[]:=by
    simp only[zb,hl,hb];rfl
   refine⟨?_,ew⟩;unfold gX j7 at h;split at h
   ·rename_i hv;simp[ev,yQ]at hv
   ·split at h
    ·split at h
     ·simp only[cr.m.injEq,List.cons.injEq,and_true]at h;rw[←h.2.2.1,B0]
     ·cases h
    ·cases h
   ·cases h
  ·cases h
 ·cases hn
theorem Kr{o:Oper}{ks Yi:List Nat}{Y':Nat→List Nat}{r:Pl}{L':Array Bool}{next nextJ:St→Prop}(hns:Region.noSelect ops=true)(hpl:fO ops L' r=true)(hn:∀st',next st'→OF P C ops r st' QJ)(hnJ:∀st',nextJ st'→OF P C ops r st' QJ)(hok:okW ks st o.op)(hoA:z9 ks r o.op)
  (hth:r.there st.M) (h:cE P C (some (nb ks)) o st next nextJ) (hF:gI β H st.n st.fr a) (hW:cv C β H st.M w) (hYi:∀k∈ks,k∈Yi) (hY:∀j,∀k∈r.Y j,k∈Y' j) :
  o.wp P a w (fun a' w'=>GG H (Wb β w.heap.size Yi) w w'∧pj P ops (QQ C QJ) (fun j w1 w2=>GG H (Wb β w.heap.size (Y' j)) w1 w2) r.len L' a' w') (QQ C QJ):=by
 have tail:∀{β' H' a' w' st'},OF P C ops r st' QJ→gI β' H' st'.n st'.fr a'→cv C β' H' st'.M w'→((∀k d,β k=some d→β' k=some d)∨r.j9=true)→(∀b cs,H b=some cs→H' b=some cs)→w.heap.size≤w'.heap.size →
   pj P ops (QQ C QJ) (fun j w1 w2=>GG H (Wb β w.heap.size (Y' j)) w1 w2) r.len L' a' w':=fun{β' H' a' w' st'} hp hF' hW' hβ hH hs=>by
  refine ki _ _ _ _ (fun j w1 w2 _ hr=>⟨hr.1.mono fun b _ hb=>?_,hr.2.mono hH⟩) (hp hns L' hpl β' H' a' w' hF' hW');exact Wb.back (H':=H') (w':=w') hW (hβ.imp id fun h=>r.pI h j) hs (r.mm hth j) (hY j) hb
 unfold cE at h;split at h
 ·rename_i c x hq;obtain⟨hc,hd,hnx⟩:=h;obtain⟨v,h1,h2⟩:=IB hW hF hq hc;simp only[Oper.wp,h1,Oper.upon];exact⟨⟨RS.xc w,hW.inv⟩,tail (hn _ hnx) (hF.dd hd h2) hW (.inl fun _ _ h=>h) (fun _ _ h=>h) (amk _)⟩
 ·split at h
  ·rename_i c M' pk x hm;obtain⟨hc,hd,hnx⟩:=h;obtain⟨nx,v,w',β',h1,h2,h3,h4,h5,h6,h7⟩:=GL hW hF hm hc hd;have hβ:(∀k d,β k=some d→β' k=some d)∨r.j9=true:=by
    by_cases hap:∃args ts,o.op=.call ⟨.builtin .append,args,ts⟩
    ·obtain⟨args,ts,e⟩:=hap;rw[e]at hoA hm;rcases hoA with hnil | hoA
     ·have hpk:=(Ex hnil hm).1;subst hpk;refine .inl fun k d hk=>h5 k d ?_ hk;intro hmem;simp only[amM,amV,or_false]at hmem;subst hmem;rw[hW.fresh _ (amk _)]at hk;cases hk
     ·exact .inr hoA.2
    ·have hpk:=NQ (fun args ts e=>hap ⟨args,ts,e⟩) hm;subst hpk;exact .inl fun k d hk=>h5 k d (by simp) hk
   have hRS:RS (Wb β w.heap.size Yi) w w':=by
    refine⟨h6,fun b hb hu=>h7 b hb fun k hk d hd' e=>?_⟩;by_cases hap:∃args ts,o.op=.call ⟨.builtin .append,args,ts⟩
    ·obtain⟨args,ts,e⟩:=hap;rw[e]at hoA hm hk;rcases hoA with hnil | hoA
     ·rw[(Ex hnil hm).2]at hk;cases hk
     ·exact hu ⟨fun e'=>(by have:=hYi _ hoA.1;rw[e']at this;cases this),.inl (hYi _ hoA.1)⟩
    ·have hwr:∀k∈zb st.fr o.op,k∈ks:=by
      unfold okW at hok;unfold zb;split
      ·rename_i t' x' y' hop;rw[hop]at hok;simpa[zb]using hok
      ·rename_i args' ts' hop;exact absurd ⟨_,_,hop⟩ hap
      ·rename_i args' ts' hop;rw[hop]at hok;simpa[zb]using hok
      ·rename_i hop;rw[hop]at hok;exact hok
      ·rename_i hop;rw[hop]at hok;exact hok
      ·rename_i hop;rw[hop]at hok;exact hok
      ·rename_i hop;rw[hop]at hok;exact hok
      ·intro k hk;cases hk
     exact hu ⟨fun e'=>(by have:=hYi k (hwr k hk);rw[e']at this;cases this),.inr (.inr ⟨k,hYi k (hwr k hk),d,hd',e.symm⟩)⟩
   simp only[Oper.wp,h1];rcases h2 with rfl | ⟨rfl,rfl⟩<;>simp only[Oper.upon]<;>exact⟨⟨hRS,h3.inv⟩,tail (hn _ hnx) h4 h3 hβ (fun _ _ h=>h) h6⟩
  ·split at h
   ·rename_i f args ts hop;split at h
    ·rename_i xs hxs;obtain⟨hf,hd,hcall⟩:=h;have hrun:(execOp a.eval o).run P w=.ok (.enter f (args.map a.eval)) w:=by
      obtain⟨dst,op,type,pos,after,guard⟩:=o;simp only at hop;subst hop;simp only[execOp,resolve,Act.eval,Deferred.ofValue,Sem.run_bind,Sem.run_pure,Result.andThen_ok,invoke];simpa using hf (args.map a.eval) w
     simp only[Oper.wp,hrun,Oper.upon];have hvals:=jr hF _ _ hxs;have:=hcall β H w _ hvals hW;rw[show(args.toList.map a.eval).toArray=args.map a.eval from by apply amq;simp]at this;refine Calls.mono this ?_;rintro e w' ⟨β',H',M',v,x,pk,rfl,g1,g2,g3,g4,g5,g6,g7⟩;obtain⟨rfl,g8⟩:=g7 (nb ks) rfl;rw[dm]at g5;have g3':∀k d,β k=some d→β' k=some d:=fun k d h=>g3 k d (by simp) h;have hnb:∀k∈nb ks,k∈ks:=fun k hk=>(am0.1 hk).1;refine⟨⟨⟨g6,fun b hb hu=>g8 b hb fun k hk d hd' e=>hu ⟨fun e'=>(by have:=hYi k (hnb k hk);rw[e']at this;cases this),.inr (.inr ⟨k,hYi k (hnb k hk),d,hd',e.symm⟩)⟩⟩,nG.mono (H':=H') g2.inv g4⟩,?_⟩;exact tail (hnJ _ g5) ((hF.mono g3' g4).dd hd g1) g2 (.inl g3') g4 g6
    ·exact h.elim
   ·rename_i t args ts hop;split at h
    ·rename_i f l r' xs hfn hxs;obtain⟨hf,hd,hcall⟩:=h;obtain⟨vf,hv,hden⟩:=hF.2.2 t _ hfn;simp only[Den]at hden;obtain⟨vl,vr,rfl,hdl,hdr⟩:=hden;have hgv:a.eval (.tmp t)=.func (.func f) vl.toArray vr.toArray:=by
      simp only[Act.eval,Array.getD_eq_getD_getElem?,hv];rfl
     have hrun:(execOp a.eval o).run P w=.ok (.enter f (vl.toArray++args.map a.eval++vr.toArray)) w:=by
      obtain⟨dst,op,type,pos,after,guard⟩:=o;simp only at hop;subst hop;simp only[execOp,resolve,hgv,Deferred.ofValue,Sem.run_bind,Sem.run_pure,Result.andThen_ok,invoke];simpa using hf (vl.toArray++args.map a.eval++vr.toArray) w
     simp only[Oper.wp,hrun,Oper.upon];have hvals:=gf (gf hdl (jr hF _ _ hxs)) hdr;have:=hcall β H w _ hvals hW;rw[show(vl++args.toList.map a.eval++vr).toArray=vl.toArray++args.map a.eval++vr.toArray from by apply amq;simp]at this;refine Calls.mono this ?_;rintro e w' ⟨β',H',M',v,x,pk,rfl,g1,g2,g3,g4,g5,g6,g7⟩;obtain⟨rfl,g8⟩:=g7 (nb ks) rfl;rw[dm]at g5;have g3':∀k d,β k=some d→β' k=some d:=fun k d h=>g3 k d (by simp) h;have hnb:∀k∈nb ks,k∈ks:=fun k hk=>(am0.1 hk).1;refine⟨⟨⟨g6,fun b hb hu=>g8 b hb fun k hk d hd' e=>hu ⟨fun e'=>(by have:=hYi k (hnb k hk);rw[e']at this;cases this),.inr (.inr ⟨k,hYi k (hnb k hk),d,hd',e.symm⟩)⟩⟩,nG.mono (H':=H') g2.inv g4⟩,?_⟩;exact tail (hnJ _ g5) ((hF.mono g3' g4).dd hd g1) g2 (.inl g3') g4 g6
    ·exact h.elim
   ·exact h.elim
theorem lK{i:Nat}{o:Oper}{ks:List Nat}{Y':Nat→List Nat}{r:Pl}{n:Nat}(hi:ops[i]?=some o)(hns:Region.noSelect ops=true)(hpl:fO ops (L.setIfInBounds i true) r=true){next nextJ no:St→Prop}(hn:∀st',next st'→OF P C ops r st' QJ)(hnJ:∀st',nextJ st'→OF P C ops r st' QJ)
  (hno:∀st',no st'→OF P C ops r st' QJ)
  (h:gd ops o st (fun st'=>((okW ks st' o.op∧z9 ks r o.op)∧r.there st'.M)∧cE P C (some (nb ks)) o st' next nextJ) no)
  (hF:gI β H st.n st.fr a) (hW:cv C β H st.M w) (hYi:∀k∈ks,k∈Y' i) (hY:∀j,∀k∈r.Y j,k∈Y' j) (hlen:r.len≤n) :
  wpOp P ops (QQ C QJ) i (fun a' w'=>GG H (Wb β w.heap.size (Y' i)) w w'∧pj P ops (QQ C QJ) (fun j w1 w2=>GG H (Wb β w.heap.size (Y' j)) w1 w2) n (L.setIfInBounds i true) a' w') a w:=by
 refine wpOp_mono (K:=fun a' w'=>GG H (Wb β w.heap.size (Y' i)) w w'∧pj P ops (QQ C QJ) (fun j w1 w2=>GG H (Wb β w.heap.size (Y' j)) w1 w2) r.len (L.setIfInBounds i true) a' w') (fun a' w' h'=>⟨h'.1,yC hlen h'.2⟩) ?_;unfold wpOp;simp only[hi];rcases Mb h hF with⟨hw,fr,hF',hyes⟩ | ⟨hw,fr,hF',hno'⟩
 ·rw[if_pos hw];exact .inl (Kr (st:=⟨st.n,fr,st.M⟩) hns hpl hn hnJ hyes.1.1.1 hyes.1.1.2 hyes.1.2 hyes.2 hF' hW hYi hY)
 ·rw[if_neg (by simp[hw])];exact⟨⟨RS.xc w,hW.inv⟩,ki _ _ _ _ (fun j w1 w2 _ hr=>⟨hr.1.mono fun b _ hb=>hb.mono (hY j),hr.2⟩) (hno _ hno' hns _ hpl β H _ w hF' hW)⟩
def aeQ(P:Program)(C:Ctx)(ops:Array Oper)(p:Pl)(st:St)(Q:aV):Prop :=
 Region.noSelect ops=true→∀L,tu ops L p=true→∀β H a w,gI β H st.n st.fr a→cv C β H st.M w→∀(Y':Nat→List Nat) (n:Nat),(∀j,∀k∈p.Y j,k∈Y' j)→p.len≤n+1 →
  ∀j∈p.AE,wpOp P ops (QQ C Q) j (fun a' w'=>GG H (Wb β w.heap.size (Y' j)) w w'∧pj P ops (QQ C Q) (fun j w1 w2=>GG H (Wb β w.heap.size (Y' j)) w1 w2) n (L.setIfInBounds j true) a' w') a w
mutual
theorem dS{R:aV}(np:∀c st,¬R (.panic c) st):∀(pl:Pl) (st:St) {Q QJ:aV},(∀e st,Q e st→R e st)→(∀e st,QJ e st→R e st)→eN P C ops pl st Q QJ→OF P C ops pl st R
 | .nil,st,Q,QJ,hQ,hJ,h=>fun _ L hL β H a w hF hW=>by
  simp only[fO,amW]at hL;exact⟨hL,st,hQ _ _ h,β,H,hF,hW⟩
 | .stop,st,Q,QJ,hQ,hJ,h=>fun _ L hL β H a w hF hW=>by
  simp[fO]at hL
 | .alt i ks r p,st,Q,QJ,hQ,hJ,h=>fun hns L hL β H a w hF hW=>by
  simp only[fO,amS,beq_iff_eq]at hL;simp only[eN]at h;obtain⟨h,hp⟩:=h;split at h
  ·exact h.elim
  ·rename_i o ho;have hlen:(Pl.alt i ks r p).len=(max r.len (p.len - 1))+1:=by simp only[Pl.len];omega
   rw[hlen];refine LB hL.1 (by simp) fun j hj=>?_;rcases amM.1 hj with rfl | hj
   ·exact lK ho hns hL.2.1 (fun st'=>dS np r st' hQ hJ) (fun st'=>dS np r st' hJ hJ) (fun st'=>dS np r st' hQ hJ) h hF hW (fun k hk=>by simp[Pl.Y,one,hk]) (fun j k hk=>by simp[Pl.Y,hk]) (amT _ _)
   ·exact BF np p st hQ hJ hp hns L hL.2.2 β H a w hF hW _ _ (fun j k hk=>by simp[Pl.Y,hk]) (by omega) j hj
 | .l i ks r,st,Q,QJ,hQ,hJ,h=>fun hns L hL β H a w hF hW=>by
  simp only[fO,amS,beq_iff_eq]at hL;simp only[eN]at h;split at h
  ·exact h.elim
  ·rename_i o ho;exact Kq hL.1 (lK ho hns hL.2 (fun st'=>dS np r st' hQ hJ) (fun st'=>dS np r st' hJ hJ) (fun st'=>dS np r st' hQ hJ) h hF hW (fun k hk=>by simp[Pl.Y,one,hk]) (fun j k hk=>by simp[Pl.Y,hk]) (amk _))
 | .m i ks r j ks' r',st,Q,QJ,hQ,hJ,h=>fun hns L hL β H a w hF hW=>by
  simp only[fO,amS,beq_iff_eq]at hL;simp only[eN]at h;split at h
  ·rename_i o o' ho ho';exact L0 hL.1 (lK ho hns hL.2.1 (fun st'=>dS np r st' hQ hJ) (fun st'=>dS np r st' hJ hJ) (fun st'=>dS np r st' hQ hJ) h.1 hF hW (fun k hk=>by simp[Pl.Y,one,hk]) (fun j k hk=>by simp[Pl.Y,hk]) (amT _ _))
    (lK ho' hns hL.2.2 (fun st'=>dS np r' st' hQ hJ) (fun st'=>dS np r' st' hJ hJ) (fun st'=>dS np r' st' hQ hJ) h.2 hF hW (fun k hk=>by simp[Pl.Y,one,hk]) (fun j k hk=>by simp[Pl.Y,hk]) (Nat.le_max_right _ _))
  ·exact h.elim
 | .q i ks r,st,Q,QJ,hQ,hJ,h=>fun hns L hL β H a w hF hW=>by
  simp only[fO,amS]at hL;obtain⟨hq,hL⟩:=hL;simp only[eN]at h;split at h
  ·exact h.elim
  ·rename_i o ho;simp only[Ve,ho,amS]at hq;obtain⟨h1,h2,h3,h4,h5⟩:=hq;simp only[am1,amS,Bool.not_eq_true']at h4
   let D:Nat→Bool:=fun j=>(LQ ops i).contains j
   let U:Nat→Prop:=fun b=>∃j,j<ops.size∧j≠i∧D j=false∧L.getD j true=false∧Wb β w.heap.size (r.Y j) b
   have hUk:(∃t x,o.op=.load t x)→∀b,U b→b<w.heap.size→o8∈ks∨∃k∈ks,∃d,β k=some (some d)∧d.b=b:=by
    rintro⟨t',x',hop⟩ b ⟨j,hj1,hj2,hj3,hj4,hw1,hw2⟩ hb;obtain⟨dst,op,type,pos,after,guard⟩:=o;simp only at hop;subst hop;simp only[am1,List.mem_range,am2,beq_iff_eq]at h5;have hks:∀k∈r.Y j,k∈ks:=fun k hk=>by
     rcases h5 j hj1 with h | h | h | h
     ·exact absurd h hj2
     ·rw[hj4]at h;cases h
     ·rw[show(LQ ops i).contains j=false from hj3]at h;cases h
     ·have:=h k hk;simpa using this
    rcases hw2 with hw2 | hw2 | ⟨k,hk,d,hd,hdb⟩
    ·exact .inl (hks _ hw2)
    ·omega
    ·exact .inr ⟨k,hks k hk,d,hd,hdb⟩
   have core:∀v,YieldsIf P ops (fun w'=>RS U w w'∧nG H w') o v a→(∃fr,gI β H st.n fr (a.put o.dst v)∧eN P C ops r ⟨st.n,fr,st.M⟩ Q QJ)→pj P ops (QQ C R) (fun j w1 w2=>GG H (Wb β w.heap.size ((Pl.q i ks r).Y j)) w1 w2) (Pl.q i ks r).len L a w:=by
    rintro v hy ⟨fr,hF',hv⟩;refine sF (D:=D) (S:=fun w'=>RS U w w'∧nG H w') ho (Region.noSelect_spec hns) (fun c a' w' ⟨st',hp,_⟩=>absurd hp (np c st')) (fun j oj hj hoj=>?_) (fun w1 hs=>⟨RS.xc w1,hs.2⟩) _ L a w ?_ (fun j hj=>?_) (Region.free_spec ho h2) (by simpa using h3) hy ⟨RS.xc w,hW.inv⟩ ?_
    ·have:=h4 j (by simpa[D]using hj);rw[hoj]at this;simp only[Array.any_eq_true',amS,am2,beq_iff_eq]at this;exact this.2
    ·intro j w1 w2 hj1 hj2 hj3 hj4 hs hg;exact⟨hs.1.trans hg.1 fun b _ hb=>⟨j,hj1,hj2,hj3,hj4,hb⟩,hg.2⟩
    ·exact(h4 j (by simpa[D]using hj)).1
    ·exact dS np r _ hQ hJ hv hns _ hL β H _ w hF' hW
   rcases Mb h hF with⟨hw,fr,hF',hi,hyes⟩ | ⟨hw,fr,hF',hno'⟩
   ·obtain⟨c,x,hx,hc,hd,hnx⟩:=pM h1 hi hyes;obtain⟨v,hv1,hv2⟩:=HX (st:=⟨st.n,fr,st.M⟩) hW hF' hx hc hi hUk;exact core v (.inl ⟨hw,hv1⟩) ⟨_,hF'.dd hd hv2,hnx⟩
   ·exact core undef (.inr ⟨hw,rfl⟩) ⟨fr,hF',hno'⟩
theorem BF{R:aV}(np:∀c st,¬R (.panic c) st):∀(pl:Pl) (st:St) {Q QJ:aV},(∀e st,Q e st→R e st)→(∀e st,QJ e st→R e st)→eN P C ops pl st Q QJ→aeQ P C ops pl st R
 | .nil,st,Q,QJ,hQ,hJ,h=>fun _ L hL=>by simp[tu]at hL
 | .q _ _ _,st,Q,QJ,hQ,hJ,h=>fun _ L hL=>by simp[tu]at hL
 | .l _ _ _,st,Q,QJ,hQ,hJ,h=>fun _ L hL=>by simp[tu]at hL
 | .m _ _ _ _ _ _,st,Q,QJ,hQ,hJ,h=>fun _ L hL=>by simp[tu]at hL
 | .stop,st,Q,QJ,hQ,hJ,h=>fun _ L hL β H a w hF hW Y' n hY hn j hj=>by simp[Pl.AE]at hj
 | .alt i ks r p,st,Q,QJ,hQ,hJ,h=>fun hns L hL β H a w hF hW Y' n hY hn j hj=>by
  simp only[tu,amS]at hL;simp only[eN]at h;obtain⟨h,hp⟩:=h;split at h
  ·exact h.elim
  ·rename_i o ho;simp only[Pl.len]at hn;simp only[Pl.AE,amM]at hj;rcases hj with rfl | hj
   ·exact lK ho hns hL.1 (fun st'=>dS np r st' hQ hJ) (fun st'=>dS np r st' hJ hJ) (fun st'=>dS np r st' hQ hJ) h hF hW (fun k hk=>hY j k (by simp[Pl.Y,one,hk])) (fun j' k hk=>hY j' k (by simp[Pl.Y,hk])) (by omega)
   ·exact BF np p st hQ hJ hp hns L hL.2 β H a w hF hW Y' n (fun j' k hk=>hY j' k (by simp[Pl.Y,hk])) (by omega) j hj
end
theorem ae.draw{id:Nat}(pl:Pl)(hm:P.follows .mixedOrders=true)(hp:(Region.noSelect ops&&(fO ops (amU ops.size false) pl&&decide (pl.len≤ops.size)))=true)(np:∀c st,¬QJ (.panic c) st)
  (h:eN P C ops pl st QJ QJ):ae P C (.region id ops true) st QJ:=by
 simp only[amS,decide_eq_true_eq]at hp;rintro a w ⟨β,H,hF,hW⟩;exact wp_region_any hm (ur _ _ _ _ (yC hp.2.2 (dS np pl st (fun _ _ h=>h) (fun _ _ h=>h) h hp.1 _ hp.2.1 β H a _ hF hW.drew)))
theorem ae.alS{P:Program}{C:Ctx}{ops:Array Oper}{st:St}{Q:aV}{id:Nat}(pl:Pl)(h:eN P C ops pl st Q Q)(m:P.follows .mixedOrders=true:=by kernel_rfl)(p:(Region.noSelect ops&&(fO ops (amU ops.size false) pl&&decide (pl.len≤ops.size)))=true:=by kernel_rfl)(n:∀c st,¬Q (.panic c) st:=by simp):ae P C (.region id ops true) st Q:=ae.draw pl m p n h
def xF(C:Ctx)(st1:St):aV:=fun e s=>match e with
 | .normal=>ar C s st1
 | _=>False
@[simp] theorem KE{st1 s:St}:xF C st1 .normal s=ar C s st1:=rfl
theorem ae.OG{id:Nat}(pl:Pl)(st1:St)(hm:P.follows .mixedOrders=true)(hp:(Region.noSelect ops&&(fO ops (amU ops.size false) pl&&decide (pl.len≤ops.size)))=true)
  (h:eN P C ops pl st (xF C st1) (xF C st1)) (k:QJ .normal st1):ae P C (.region id ops true) st QJ:=by
 refine ae.cut (xF C st1) (ae.draw pl hm hp (fun c st h=>by simp[xF]at h) h) (fun e st' h'=>?_);cases e<;>simp only[xF]at h';exact⟨st1,h',k⟩
end
end Go.Sv


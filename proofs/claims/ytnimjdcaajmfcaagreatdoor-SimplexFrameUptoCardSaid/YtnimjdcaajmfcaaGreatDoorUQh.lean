/- A text of the prover's own. -/
import Derived.Test.YtnimjdcaajmfcaaGreatDoorUQe
import Derived.Test.YtnimjdcaajmfcaaGreatDoorUQg
import Derived.Test.YtnimjdcaajmfcaaGreatDoorUPl
set_option maxRecDepth 10000
namespace Go.Pl
open Go Go.Sv
def isAt (s:ByteArray) (i c:Nat):Prop:=i<s.size∧byt s i=c
instance (s:ByteArray) (i c:Nat):Decidable (isAt s i c):=inferInstanceAs (Decidable (_∧_))
def sgnd (s:ByteArray) (n:Nat):Int:=if minus s then -(n:Int) else n
def expAt (s:ByteArray) (e:Nat):Nat:=if isAt s (e+1) 45∨isAt s (e+1) 43 then e+2 else e+1
def qtail (s:ByteArray) (num places e:Nat):Rat × Nat × Nat :=
 if isAt s e 101 then
  if expAt s e+300<dend s (expAt s e) then (0,2,expAt s e+300)
  else if dend s (expAt s e)=expAt s e∨dend s (expAt s e)<s.size then (0,1,dend s (expAt s e))
  else if 60<nv s (expAt s e) (s.size - expAt s e) then (0,2,expAt s e)
  else if isAt s (e+1) 45 then (Rat.divInt (sgnd s num) ((10^(places+nv s (expAt s e) (s.size - expAt s e)):Nat):Int),0,0)
  else (Rat.divInt (sgnd s (num*10^nv s (expAt s e) (s.size - expAt s e))) ((10^places:Nat):Int),0,0)
 else if e<s.size then (0,1,e)
 else (Rat.divInt (sgnd s num) ((10^places:Nat):Int),0,0)
def qrd (m:Nat) (s:ByteArray):Rat × Nat × Nat :=
 if sgnAt s+m<dend s (sgnAt s) then (0,2,sgnAt s+m)
 else if dend s (sgnAt s)=sgnAt s then (0,1,sgnAt s)
 else if isAt s (dend s (sgnAt s)) 47 then
  if dend s (sgnAt s)+1+m<dend s (dend s (sgnAt s)+1) then (0,2,dend s (sgnAt s)+1+m)
  else if dend s (dend s (sgnAt s)+1)=dend s (sgnAt s)+1∨dend s (dend s (sgnAt s)+1)<s.size then (0,1,dend s (dend s (sgnAt s)+1))
  else if nv s (dend s (sgnAt s)+1) (s.size - (dend s (sgnAt s)+1))=0 then (0,3,dend s (sgnAt s)+1)
  else (Rat.divInt (sgnd s (nv s (sgnAt s) (dend s (sgnAt s) - sgnAt s))) (nv s (dend s (sgnAt s)+1) (s.size - (dend s (sgnAt s)+1)):Int),0,0)
 else if isAt s (dend s (sgnAt s)) 46 then
  if dend s (sgnAt s)+1+m<dend s (dend s (sgnAt s)+1) then (0,2,dend s (sgnAt s)+1+m)
  else if dend s (dend s (sgnAt s)+1)=dend s (sgnAt s)+1 then (0,1,dend s (sgnAt s)+1)
  else qtail s (nv s (sgnAt s) (dend s (sgnAt s) - sgnAt s)*10^(dend s (dend s (sgnAt s)+1) - (dend s (sgnAt s)+1))+nv s (dend s (sgnAt s)+1) (dend s (dend s (sgnAt s)+1) - (dend s (sgnAt s)+1)))
   (dend s (dend s (sgnAt s)+1) - (dend s (sgnAt s)+1)) (dend s (dend s (sgnAt s)+1))
 else qtail s (nv s (sgnAt s) (dend s (sgnAt s) - sgnAt s)) 0 (dend s (sgnAt s))
end Go.Pl
namespace Go.Proofs
open Go.Sv Go Go.Pl
def rdr (s:ByteArray) (a:Nat) (x:SV):Option Ent:=some ⟨3,[.agg [.val (.string s),.val (.int .i64 a),x]],false⟩
theorem byt_eq {s:ByteArray} {a c:Nat}:((sget s a).toNat:Int)=c↔byt s a=c:=by unfold byt;omega
theorem is_here {C:Ctx} {M:Tab} {k:Nat} {W:Option (List Nat)} {K:Tab→List Nat→SV→Prop} (s:ByteArray) (a c:Nat) (hk:tget M k=rdr s a (.val .nilIface)) (hs:s.size≤4611686018427387904) (hc:c<256)
  (hW:∀ks,W=some ks→∀i e,tget M i=some e→i∈ks)
  (h1:isAt s a c→K (tset M k (rdr s (a+1) (.val .nilIface))) [] (.val (.bool true))) (h2:¬isAt s a c→K M [] (.val (.bool false))):CallJ Tryz.prog C 155 [.ptr k 0 0,.val (.int .u8 c)] M W K:=by
 refine call_here Tryz.func155 rfl (by simp) [] (by simp) (fun ks h=>⟨rfl,hW ks h⟩) (fun C' hC=>?_)
 unfold rdr at hk
 simp
 refine CodeJ.draw (.qs [0,1,2,3,4,5,6,7,8,9,10,11,12,13,14,15,16,17,18,19,20,21,22,23,24,25,26,27,28,29]<|.nil) (by kernel_rfl) (by kernel_rfl) (by simp) ?_
 by_cases hlt:a<s.size
 ·have hlt':¬s.size≤a:=by omega
  by_cases he:byt s a=c
  ·have he':=byt_eq.2 he
   have:=h1 ⟨hlt,he⟩
   unfold rdr at this
   simp (disch:=omega) [hk,hlt,hlt',he',w64]
   exact this
  ·have he':¬((sget s a).toNat:Int)=c:=fun h=>he (byt_eq.1 h)
   have:=h2 fun h=>he h.2
   simp (disch:=omega) [hk,hlt,hlt',he',w64]
   exact this
 ·have hlt':s.size≤a:=by omega
  have:=h2 fun h=>hlt h.1
  simp (disch:=omega) [hk,hlt,hlt',w64]
  exact this
theorem is_err {C:Ctx} {M:Tab} {k k2:Nat} {W:Option (List Nat)} {K:Tab→List Nat→SV→Prop} (s:ByteArray) (a c:Nat) (hk:tget M k=rdr s a (.ifc tFault (.ptr k2 0 0)))
  (hW:∀ks,W=some ks→∀i e,tget M i=some e→i∈ks) (h2:K M [] (.val (.bool false))):CallJ Tryz.prog C 155 [.ptr k 0 0,.val (.int .u8 c)] M W K:=by
 refine call_here Tryz.func155 rfl (by simp) [] (by simp) (fun ks h=>⟨rfl,hW ks h⟩) (fun C' hC=>?_)
 unfold rdr at hk
 simp
 refine CodeJ.draw (.qs [0,1,2,3,4,5,6,7,8,9,10,11,12,13,14,15,16,17,18,19,20,21,22,23,24,25,26,27,28,29]<|.nil) (by kernel_rfl) (by kernel_rfl) (by simp) ?_
 simp [hk,h2]
theorem fail_err {C:Ctx} {M:Tab} {k k2:Nat} {W:Option (List Nat)} {K:Tab→List Nat→SV→Prop} (s:ByteArray) (a:Nat) (e:SV) (p:Int) (hk:tget M k=rdr s a (.ifc tFault (.ptr k2 0 0)))
  (hW:∀ks,W=some ks→∀i e,tget M i=some e→i∈ks) (h2:K M [] (.tup [])):CallJ Tryz.prog C 157 [.ptr k 0 0,e,.val (.int .i64 p)] M W K:=by
 refine call_here Tryz.func157 rfl (by simp) [] (by simp) (fun ks h=>⟨rfl,hW ks h⟩) (fun C' hC=>?_)
 unfold rdr at hk
 simp [hk,h2]
theorem fail_here {C:Ctx} {M:Tab} {k:Nat} {W:Option (List Nat)} {K:Tab→List Nat→SV→Prop} (s:ByteArray) (a g:Nat) (p:Int) (hk:tget M k=rdr s a (.val .nilIface))
  (hW:∀ks,W=some ks→∀i e,tget M i=some e→i∈ks)
  (h2:K (tset M k (rdr s a (.ifc tFault (.ptr M.length 0 0)))++[some ⟨2,[.agg [.val (.int .i64 p),.sen sent g]],false⟩]) [] (.tup [])):CallJ Tryz.prog C 157 [.ptr k 0 0,.sen sent g,.val (.int .i64 p)] M W K:=by
 refine call_here Tryz.func157 rfl (by simp) [] (by simp) (fun ks h=>⟨rfl,hW ks h⟩) (fun C' hC=>?_)
 have q1:=fun x=>tget_snoc_lt x (show tget M k=some ⟨3,[.agg [.val (.string s),.val (.int .i64 a),.val .nilIface]],false⟩ from hk)
 have q3:=fun x y=>tset_snoc_lt x y (show tget M k=some ⟨3,[.agg [.val (.string s),.val (.int .i64 a),.val .nilIface]],false⟩ from hk)
 unfold rdr at hk h2
 simp [hk,q1,q3]
 exact h2
theorem tget_lt {M:Tab} {i:Nat} {e:Ent} (h:tget M i=some e):i<M.length:=by
 have:=tget_some h
 exact (List.getElem?_eq_some_iff.1 this).1
theorem nb_range {n i:Nat} (hn:n<1000000) (h:i<n):i∈nb (List.range n):=by
 simp [nb,big];omega
theorem digits_here {C:Ctx} {M:Tab} {k:Nat} {K:Tab→List Nat→SV→Prop} (s:ByteArray) (a:Nat) (hk:tget M k=rdr s a (.val .nilIface)) (hs:s.size≤4611686018427387904) (ha:a≤s.size) (hM:M.length<1000000)
  (h1:a+300<dend s a→K (tset M k (rdr s (a+300) (.ifc tFault (.ptr M.length 0 0)))++[some ⟨2,[.agg [.val (.int .i64 ((a+300:Nat):Int)),.sen sent (gErr 2)]],false⟩]) [] (.val (.string ⟨#[]⟩)))
  (h2:dend s a=a→K (tset M k (rdr s a (.ifc tFault (.ptr M.length 0 0)))++[some ⟨2,[.agg [.val (.int .i64 a),.sen sent (gErr 1)]],false⟩]) [] (.val (.string ⟨#[]⟩)))
  (h3:¬a+300<dend s a→a<dend s a→K (tset M k (rdr s (dend s a) (.val .nilIface))) [] (.val (.string (s.extract a (dend s a))))) :
  CallJ Tryz.prog C 156 [.ptr k 0 0] M none K:=by
 refine call_here Tryz.func156 rfl (by simp) [] (by simp) (by simp) (fun C' hC=>?_)
 have hk0:tget M k=some ⟨3,[.agg [.val (.string s),.val (.int .i64 a),.val .nilIface]],false⟩:=hk
 have hall:∀(x:Option Ent) ks,some (nb (List.range M.length))=some ks→∀(i:Nat) e,tget (tset M k x) i=some e→i∈ks:=fun x ks hks i e he=>by
  simp only [Option.some.injEq] at hks
  rw [←hks]
  have:=tget_lt he
  rw [tset_len] at this
  exact nb_range hM this
 simp [hk0]
 refine CodeJ.loop (ι:=Nat) (fun i=>⟨93,[(0,.ptr k 0 0),(2,.val (.string ⟨#[]⟩)),(3,.val (.int .i64 a))],tset M k (rdr s i (.val .nilIface))⟩)
  (fun i=>a≤i∧i≤s.size∧i≤a+300∧∀j,a≤j→j<i→digAt s j) (fun i=>s.size - i) a ?_ ?_ ?_
 ·exact ⟨Nat.le_refl _,ha,by omega,fun j h h'=>by omega⟩
 ·simp [leS,rdr,tset_self hk0]
 ·rintro i ⟨g1,g2,g3,g4⟩
  have hk1:tget (tset M k (rdr s i (.val .nilIface))) k=some ⟨3,[.agg [.val (.string s),.val (.int .i64 i),.val .nilIface]],false⟩:=tget_same _ hk0
  have stop:¬digAt s i→dend s a=i:=fun h=>dend_eq g1 g4 h
  simp
  refine CodeJ.draw (.qs [0,1,2,3,4,5,6,7,8,9,10,11,12,13,14,15,16,17,18,19,20,21,22,23,24,25,26,27,28,29,30,31,32,33,34,35,36,37,38,39,40]<|.nil) (by kernel_rfl) (by kernel_rfl) (by simp) ?_
  by_cases hd:digAt s i
  ·have hlt:=hd.1
   have hc1:(48:Int)≤(sget s i).toNat:=by have:=hd.2.1;unfold byt at this;omega
   have hc2:((sget s i).toNat:Int)≤57:=by have:=hd.2.2;unfold byt at this;omega
   have all:∀j,a≤j→j<i+1→digAt s j:=fun j k1 k2=>by
    by_cases e:j=i
    ·subst e;exact hd
    ·exact g4 j k1 (by omega)
   by_cases hb:i=a+300
   ·have hb':(i:Int) - a=300:=by omega
    have hgt:=dend_gt g1 fun j k1 k2=>all j k1 (by omega)
    have:=h1 (by omega)
    rw [←hb] at this
    simp (disch:=omega) [hk1,hlt,hc1,hc2,hb',w64]
    refine CodeJ.draw (.qs [0,1,2,3,4,5]<|.l 6 (List.range M.length)<|.nil) (by kernel_rfl) (by kernel_rfl) (by simp) ?_
    simp [hk1]
    refine fail_here s i _ _ (tget_same _ hk0) (hall _) ?_
    simp [rdr]
    exact this
   ·have hb':¬(i:Int) - a=300:=by omega
    simp (disch:=omega) [hk1,hlt,hc1,hc2,hb',w64]
    exact ⟨i+1,⟨by omega,by omega,by omega,all⟩,by omega,by simp [leS,rdr]⟩
  ·have hE:=stop hd
   have fin:(¬i<s.size∨i<s.size∧¬(48:Int)≤(sget s i).toNat)∨i<s.size∧(48:Int)≤(sget s i).toNat∧¬((sget s i).toNat:Int)≤57:=by
    by_cases h1:i<s.size
    ·by_cases h2:(48:Int)≤(sget s i).toNat
     ·refine .inr ⟨h1,h2,fun h3=>hd ⟨h1,?_,?_⟩⟩<;>unfold byt<;>omega
     ·exact .inl (.inr ⟨h1,h2⟩)
    ·exact .inl (.inl h1)
   rcases fin with (n1 | ⟨n1,n2⟩) | ⟨n1,n2,n3⟩
   all_goals first | simp (disch:=omega) [hk1,n1,n2,n3,w64] | simp (disch:=omega) [hk1,n1,n2,w64] | simp (disch:=omega) [hk1,n1,w64]
   all_goals
    by_cases he:i=a
    ·have h2':=h2 (hE.trans he)
     subst he
     simp [hk1]
     refine CodeJ.draw (.qs [0,1,2,3,4,5]<|.l 6 (List.range M.length)<|.nil) (by kernel_rfl) (by kernel_rfl) (by simp) ?_
     simp [hk1]
     refine fail_here s i _ _ (tget_same _ hk0) (hall _) ?_
     have q1:=fun x=>tget_snoc_lt x (tget_same (M:=M) (k:=k) ⟨3,[.agg [.val (.string s),.val (.int .i64 i),.ifc tFault (.ptr M.length 0 0)]],false⟩ hk0)
     simp [rdr]
     refine CodeJ.draw (.qs [0,1,2,3,4,5,6,7,8,9,10]<|.nil) (by kernel_rfl) (by kernel_rfl) (by simp) ?_
     simp [rdr,q1]
     exact ⟨by omega,h2'⟩
    ·have he':¬(i:Int)=a:=by omega
     have h3':=h3 (by omega) (by omega)
     rw [hE] at h3'
     simp [he']
     refine CodeJ.draw (.qs [0,1,2,3,4,5,6,7,8,9,10]<|.nil) (by kernel_rfl) (by kernel_rfl) (by simp) ?_
     simp [hk1]
     exact ⟨by omega,h3'⟩
end Go.Proofs


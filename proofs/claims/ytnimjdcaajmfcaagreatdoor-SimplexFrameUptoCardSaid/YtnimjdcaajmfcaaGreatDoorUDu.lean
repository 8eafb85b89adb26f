/- A text of the prover's own. -/
import Derived.Test.YtnimjdcaajmfcaaGreatDoorUPl
namespace Go.Dt
open Go
abbrev Mat:=Nat→Nat→Rat
def sumR (f:Nat→Rat):Nat→Rat
 | 0=>0
 | k+1=>sumR f k+f k
theorem sumR_congr {f g:Nat→Rat}:∀n,(∀i,i<n→f i=g i)→sumR f n=sumR g n
 | 0,_=>rfl
 | n+1,h=>by simp only [sumR];rw [sumR_congr n fun i hi=>h i (by omega),h n (by omega)]
theorem sumR_zero {f:Nat→Rat} (n:Nat) (h:∀i,i<n→f i=0):sumR f n=0:=by
 induction n with
 | zero=>rfl
 | succ n ih=>simp only [sumR];rw [ih fun i hi=>h i (by omega),h n (by omega)];grind
theorem sumR_add (f g:Nat→Rat):∀n,sumR (fun i=>f i+g i) n=sumR f n+sumR g n
 | 0=>by simp only [sumR];grind
 | n+1=>by simp only [sumR];rw [sumR_add f g n];grind
theorem sumR_mul (c:Rat) (f:Nat→Rat):∀n,sumR (fun i=>c*f i) n=c*sumR f n
 | 0=>by simp only [sumR];grind
 | n+1=>by simp only [sumR];rw [sumR_mul c f n];grind
theorem sumR_neg (f:Nat→Rat):∀n,sumR (fun i => -f i) n = -sumR f n
 | 0=>by simp only [sumR];grind
 | n+1=>by simp only [sumR];rw [sumR_neg f n];grind
theorem sumR_one {f:Nat→Rat} {p:Nat}:∀n,p<n→(∀i,i<n→i≠p→f i=0)→sumR f n=f p
 | n+1,hp,h=>by
  simp only [sumR]
  by_cases e:p=n
  ·subst e
   rw [sumR_zero p fun i hi=>h i (by omega) (by omega)];grind
  ·rw [sumR_one n (by omega) fun i hi=>h i (by omega),h n (by omega) (fun q=>e q.symm)];grind
theorem sumR_two {f:Nat→Rat} {p q:Nat} (hpq:p<q):∀n,q<n→(∀i,i<n→i≠p→i≠q→f i=0)→sumR f n=f p+f q
 | n+1,hq,h=>by
  simp only [sumR]
  by_cases e:q=n
  ·subst e
   rw [sumR_one (p:=p) q hpq fun i hi hne=>h i (by omega) hne (by omega)]
  ·rw [sumR_two hpq n (by omega) fun i hi=>h i (by omega),h n (by omega) (by omega) (fun q=>e q.symm)];grind
theorem sumR_swap (f:Nat→Nat→Rat) (m:Nat):∀n,sumR (fun i=>sumR (fun j=>f i j) m) n=sumR (fun j=>sumR (fun i=>f i j) n) m
 | 0=>by
  simp only [sumR]
  exact (sumR_zero m fun j _=>rfl).symm
 | n+1=>by
  simp only [sumR]
  rw [sumR_swap f m n,←sumR_add]
def sg (i:Nat):Rat:=if i % 2=1 then -1 else 1
theorem sg_succ (i:Nat):sg (i+1) = -sg i:=by
 unfold sg
 by_cases h:i % 2=1
 ·rw [if_pos h,if_neg (by omega)];grind
 ·rw [if_neg h,if_pos (by omega)]
def minr (A:Mat) (i:Nat):Mat:=fun r c=>A (if r<i then r else r+1) (c+1)
def det:Nat→Mat→Rat
 | 0,_=>1
 | n+1,A=>sumR (fun i=>sg i*A i 0*det n (minr A i)) (n+1)
/-! columns -/
def setC (A:Mat) (p:Nat) (v:Nat→Rat):Mat:=fun r c=>if c=p then v r else A r c
end Go.Dt
namespace Go.Dt
open Go
theorem sumR_sub (f g:Nat→Rat):∀n,sumR (fun i=>f i - g i) n=sumR f n - sumR g n
 | 0=>by simp only [sumR];grind
 | n+1=>by simp only [sumR];rw [sumR_sub f g n];grind
theorem sumR_mulr (c:Rat) (f:Nat→Rat):∀n,sumR (fun i=>f i*c) n=sumR f n*c
 | 0=>by simp only [sumR];grind
 | n+1=>by simp only [sumR];rw [sumR_mulr c f n];grind
theorem sumR_cut {f:Nat→Rat} {m:Nat}:∀n,m≤n→(∀i,m≤i→i<n→f i=0)→sumR f n=sumR f m
 | 0,h,_=>by rw [show m=0 by omega]
 | n+1,h,hz=>by
  by_cases e:m=n+1
  ·rw [e]
  ·simp only [sumR]
   rw [sumR_cut n (by omega) fun i hi hi'=>hz i hi (by omega),hz n (by omega) (by omega)];grind
def ut (M:Mat) (j c:Nat):Rat:=if j≤c then M j c else 0
def upM (k:Nat) (M:Mat):Mat:=fun i c=>if c<i∧c<k then 0 else M i c
def sgn (odd:Bool):Rat:=if odd=true then -1 else 1
structure LuI (n:Nat) (A:Mat) (k:Nat) (M:Mat) (ord:Nat→Nat) (odd:Bool):Prop where
 lt:∀i,i<n→ord i<n
 inj:∀i j,i<n→j<n→ord i=ord j→i=j
 sur:∀r,r<n→∃i,i<n∧ord i=r
 eq:∀i c,i<n→c<n→A (ord i) c=sumR (fun j=>M i j*ut M j c) (min i k)+(if i<k then ut M i c else if c<k then 0 else M i c)
 piv:∀j,j<k→M j j≠0
 det:Dt.det n (upM k M)=sgn odd*Dt.det n A
def elim (M:Mat) (k:Nat):Mat:=fun i c=>if i≤k∨c<k then M i c else if c=k then M i k / M k k else M i c - M k c*(M i k / M k k)
theorem sumR_perm {f:Nat→Rat}:∀{n:Nat} {ord:Nat→Nat},(∀i,i<n→ord i<n)→(∀i j,i<n→j<n→ord i=ord j→i=j)→sumR (fun i=>f (ord i)) n=sumR f n:=fun {n} {ord} hl hi=>by
 have a:sumR (fun i=>sumR (fun r=>if ord i=r then f r else 0) n) n=sumR (fun i=>f (ord i)) n:=sumR_congr n fun i h=>by
  rw [sumR_one (p:=ord i) n (hl i h) fun r _ hne=>if_neg (fun q=>hne q.symm),if_pos rfl]
 rw [←a,sumR_swap]
 have sur:∀r,r<n→∃i,i<n∧ord i=r:=by
  have count:∀(m:Nat) (o:Nat→Nat),(∀i,i<m→o i<m)→(∀i j,i<m→j<m→o i=o j→i=j)→∀r,r<m→∃i,i<m∧o i=r:=fun m=>by
   induction m with
   | zero=>intro _ _ _ r hr;omega
   | succ m ih =>
    intro o h1 h2 r hr
    by_cases e:o m=m
    ·by_cases er:r=m
     ·exact ⟨m,by omega,by rw [er];exact e⟩
     ·obtain ⟨i,hi,q⟩:=ih o (fun i hi=>by
       have:=h1 i (by omega)
       have:o i≠m:=fun w=>by have:=h2 i m (by omega) (by omega) (by rw [w,e]);omega
       omega) (fun i j hi hj=>h2 i j (by omega) (by omega)) r (by omega)
      exact ⟨i,by omega,q⟩
    ·have hm:=h1 m (by omega)
     obtain ⟨g1,g2⟩:(∀i,i<m→(if o i=m then o m else o i)<m)∧(∀i j,i<m→j<m→(if o i=m then o m else o i)=(if o j=m then o m else o j)→i=j):=by
      refine ⟨fun i hi=>?_,fun i j hi hj w=>?_⟩
      ·have:=h1 i (by omega)
       split<;>omega
      ·by_cases a1:o i=m<;>by_cases a2:o j=m
       ·exact h2 i j (by omega) (by omega) (by omega)
       ·rw [if_pos a1,if_neg a2] at w
        have:=h2 m j (by omega) (by omega) w;omega
       ·rw [if_neg a1,if_pos a2] at w
        have:=h2 i m (by omega) (by omega) w;omega
       ·rw [if_neg a1,if_neg a2] at w
        exact h2 i j (by omega) (by omega) w
     by_cases er:r=m
     ·subst er
      refine Classical.byContradiction fun no=>?_
      have no':∀i,i<r+1→o i≠r:=fun i hi w=>no ⟨i,hi,w⟩
      obtain ⟨i,hi,w⟩:=ih o (fun i hi=>by have:=h1 i (by omega);have:=no' i (by omega);omega) (fun i j hi hj=>h2 i j (by omega) (by omega)) (o r) (by have:=no' r (by omega);omega)
      have:=h2 i r (by omega) (by omega) w;omega
     ·obtain ⟨i,hi,w⟩:=ih (fun i=>if o i=m then o m else o i) g1 g2 r (by omega)
      by_cases a1:o i=m
      ·simp only [if_pos a1] at w
       exact ⟨m,by omega,w⟩
      ·simp only [if_neg a1] at w
       exact ⟨i,by omega,w⟩
  exact count n ord hl hi
 refine sumR_congr n fun r hr=>?_
 obtain ⟨i,h,rfl⟩:=sur r hr
 rw [sumR_one (p:=i) n h fun j hj hne=>if_neg (fun q=>hne (hi j i hj h q)),if_pos rfl]
def tl (f:Nat→Rat) (i n:Nat):Rat:=sumR (fun c=>if i<c then f c else 0) n
theorem sumR_lt (f:Nat→Rat) {i n:Nat} (h:i≤n):sumR (fun j=>if j<i then f j else 0) n=sumR f i:=by
 rw [sumR_cut n h fun j hj _=>if_neg (by omega)]
 exact sumR_congr i fun j hj=>if_pos hj
end Go.Dt


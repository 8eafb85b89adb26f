/- A text of the prover's own. -/
import Derived.Test.YtnimjdcaajmfcaaGreatDoorUSh
import Derived.Test.YtnimjdcaajmfcaaGreatDoorUSi
import Derived.Test.YtnimjdcaajmfcaaGreatDoorUKd
set_option maxRecDepth 10000
set_option maxHeartbeats 1000000
namespace Go.Sx
open Go Go.Sv Go.Pl Go.Proofs Go.Tb Go.Ut Go.Mx Go.Li Go.Dt
def zi (N:Nat):List SV:=List.replicate N (.val (.int .i64 0))
def zr (N:Nat):List SV:=List.replicate N (.agg [.val (.bool false),.val (.slice none 0 0),.val (.bool false),.val (.slice none 0 0)])
theorem renL_rep {σ:Nat→Nat} {N:Nat} {x:SV} (h:ren σ x=x):renL σ (List.replicate N x)=List.replicate N x:=by
 induction N with
 | zero=>simp
 | succ n ih=>simp only [List.replicate_succ,renL_cons,ih,h]
theorem renL_ri {σ:Nat→Nat} {N:Nat} {v:Value}:renL σ (List.replicate N (.val v))=List.replicate N (.val v):=renL_rep (by simp)
theorem renL_rr {σ:Nat→Nat} {N:Nat}:renL σ (List.replicate N (.agg [.val (.bool false),.val (.slice none 0 0),.val (.bool false),.val (.slice none 0 0)]))=List.replicate N (.agg [.val (.bool false),.val (.slice none 0 0),.val (.bool false),.val (.slice none 0 0)]):=renL_rep (by simp)
end Go.Sx
namespace Go.Proofs
open Go.Sv Go Go.Tb Go.Pl Go.Ut Go.Mx Go.Li Go.Dt Go.Sx
noncomputable def freshBody:Code:=Tryz.f77.body.getD .skip
def r3:Code→Array Oper
 | .region _ o _=>o
 | .seq x _=>r3 x
 | _=>#[]
noncomputable def frops:Array Oper:=r3 (dropC 3 freshBody)
def frp0:Pl:=.nil
def frl0:Array Bool:=#[true,true,true,true,true,true,true,true,true,true,true,true,true,true,true,true,true,true,true,true,true,true,true,true]
theorem fro0:planOK frops frl0 frp0=true:=by
 unfold frp0
 kernel_rfl
def frp1:Pl:=.q 21 [] (.q 22 [] (.l 23 [0] frp0))
def frl1:Array Bool:=#[true,true,true,true,true,true,true,true,true,true,true,true,true,true,true,true,true,true,true,true,true,false,false,false]
theorem fro1:planOK frops frl1 frp1=true:=by
 unfold frp1
 refine planOK_q (by kernel_rfl) ?_
 refine planOK_q (by kernel_rfl) ?_
 refine planOK_l (by kernel_rfl) ?_
 exact planOK_at fro0 (by kernel_rfl)
def frp2:Pl:=.q 18 [] (.q 19 [] (.l 20 [0] frp1))
def frl2:Array Bool:=#[true,true,true,true,true,true,true,true,true,true,true,true,true,true,true,true,true,true,false,false,false,false,false,false]
theorem fro2:planOK frops frl2 frp2=true:=by
 unfold frp2
 refine planOK_q (by kernel_rfl) ?_
 refine planOK_q (by kernel_rfl) ?_
 refine planOK_l (by kernel_rfl) ?_
 exact planOK_at fro1 (by kernel_rfl)
def frp3:Pl:=.q 15 [] (.q 16 [] (.l 17 [0] frp2))
def frl3:Array Bool:=#[true,true,true,true,true,true,true,true,true,true,true,true,true,true,true,false,false,false,false,false,false,false,false,false]
theorem fro3:planOK frops frl3 frp3=true:=by
 unfold frp3
 refine planOK_q (by kernel_rfl) ?_
 refine planOK_q (by kernel_rfl) ?_
 refine planOK_l (by kernel_rfl) ?_
 exact planOK_at fro2 (by kernel_rfl)
def frp4:Pl:=.l 14 [0] frp3
def frl4:Array Bool:=#[true,true,true,true,true,true,true,true,true,true,true,true,true,true,false,false,false,false,false,false,false,false,false,false]
theorem fro4:planOK frops frl4 frp4=true:=by
 unfold frp4
 refine planOK_l (by kernel_rfl) ?_
 exact planOK_at fro3 (by kernel_rfl)
def frp5:Pl:=.l 17 [0] frp2
def frl5:Array Bool:=#[true,true,true,true,true,true,true,true,true,true,true,true,true,true,true,true,true,false,false,false,false,false,false,false]
theorem fro5:planOK frops frl5 frp5=true:=by
 unfold frp5
 refine planOK_l (by kernel_rfl) ?_
 exact planOK_at fro2 (by kernel_rfl)
def frp6:Pl:=.l 20 [0] frp1
def frl6:Array Bool:=#[true,true,true,true,true,true,true,true,true,true,true,true,true,true,true,true,true,true,true,true,false,false,false,false]
theorem fro6:planOK frops frl6 frp6=true:=by
 unfold frp6
 refine planOK_l (by kernel_rfl) ?_
 exact planOK_at fro1 (by kernel_rfl)
def frp7:Pl:=.l 11 [] frp1
def frl7:Array Bool:=#[true,true,true,true,true,true,true,true,true,true,true,false,true,true,true,true,true,true,true,true,true,false,false,false]
theorem fro7:planOK frops frl7 frp7=true:=by
 unfold frp7
 refine planOK_l (by kernel_rfl) ?_
 exact planOK_at fro1 (by kernel_rfl)
def frp8:Pl:=.q 18 [] (.q 19 [] (.alt 11 [] frp6 (.alt 20 [0] frp7 (.stop))))
def frl8:Array Bool:=#[true,true,true,true,true,true,true,true,true,true,true,false,true,true,true,true,true,true,false,false,false,false,false,false]
theorem fro8:planOK frops frl8 frp8=true:=by
 unfold frp8
 refine planOK_q (by kernel_rfl) ?_
 refine planOK_q (by kernel_rfl) ?_
 refine planOK_alt (by kernel_rfl) ?_
 refine altOK_c (planOK_at fro6 (by kernel_rfl)) ?_
 refine altOK_c (planOK_at fro7 (by kernel_rfl)) ?_
 rfl
def frp9:Pl:=.q 15 [] (.q 16 [] (.alt 11 [] frp5 (.alt 17 [0] frp8 (.stop))))
def frl9:Array Bool:=#[true,true,true,true,true,true,true,true,true,true,true,false,true,true,true,false,false,false,false,false,false,false,false,false]
theorem fro9:planOK frops frl9 frp9=true:=by
 unfold frp9
 refine planOK_q (by kernel_rfl) ?_
 refine planOK_q (by kernel_rfl) ?_
 refine planOK_alt (by kernel_rfl) ?_
 refine altOK_c (planOK_at fro5 (by kernel_rfl)) ?_
 refine altOK_c (planOK_at fro8 (by kernel_rfl)) ?_
 rfl
def frp10:Pl:=.alt 11 [] frp4 (.alt 14 [0] frp9 (.stop))
def frl10:Array Bool:=#[true,true,true,true,true,true,true,true,true,true,true,false,true,true,false,false,false,false,false,false,false,false,false,false]
theorem fro10:planOK frops frl10 frp10=true:=by
 unfold frp10
 refine planOK_alt (by kernel_rfl) ?_
 refine altOK_c (planOK_at fro4 (by kernel_rfl)) ?_
 refine altOK_c (planOK_at fro9 (by kernel_rfl)) ?_
 rfl
def frp11:Pl:=.l 9 [] frp2
def frl11:Array Bool:=#[true,true,true,true,true,true,true,true,true,false,true,true,true,true,true,true,true,true,false,false,false,false,false,false]
theorem fro11:planOK frops frl11 frp11=true:=by
 unfold frp11
 refine planOK_l (by kernel_rfl) ?_
 exact planOK_at fro2 (by kernel_rfl)
def frp12:Pl:=.q 15 [] (.q 16 [] (.alt 9 [] frp5 (.alt 17 [0] frp11 (.stop))))
def frl12:Array Bool:=#[true,true,true,true,true,true,true,true,true,false,true,true,true,true,true,false,false,false,false,false,false,false,false,false]
theorem fro12:planOK frops frl12 frp12=true:=by
 unfold frp12
 refine planOK_q (by kernel_rfl) ?_
 refine planOK_q (by kernel_rfl) ?_
 refine planOK_alt (by kernel_rfl) ?_
 refine altOK_c (planOK_at fro5 (by kernel_rfl)) ?_
 refine altOK_c (planOK_at fro11 (by kernel_rfl)) ?_
 rfl
def frp13:Pl:=.alt 9 [] frp4 (.alt 14 [0] frp12 (.stop))
def frl13:Array Bool:=#[true,true,true,true,true,true,true,true,true,false,true,true,true,true,false,false,false,false,false,false,false,false,false,false]
theorem fro13:planOK frops frl13 frp13=true:=by
 unfold frp13
 refine planOK_alt (by kernel_rfl) ?_
 refine altOK_c (planOK_at fro4 (by kernel_rfl)) ?_
 refine altOK_c (planOK_at fro12 (by kernel_rfl)) ?_
 rfl
def frp14:Pl:=.alt 11 [] frp5 (.alt 17 [0] frp8 (.stop))
def frl14:Array Bool:=#[true,true,true,true,true,true,true,true,true,true,true,false,true,true,true,true,true,false,false,false,false,false,false,false]
theorem fro14:planOK frops frl14 frp14=true:=by
 unfold frp14
 refine planOK_alt (by kernel_rfl) ?_
 refine altOK_c (planOK_at fro5 (by kernel_rfl)) ?_
 refine altOK_c (planOK_at fro8 (by kernel_rfl)) ?_
 rfl
def frp15:Pl:=.alt 9 [] frp5 (.alt 17 [0] frp11 (.stop))
def frl15:Array Bool:=#[true,true,true,true,true,true,true,true,true,false,true,true,true,true,true,true,true,false,false,false,false,false,false,false]
theorem fro15:planOK frops frl15 frp15=true:=by
 unfold frp15
 refine planOK_alt (by kernel_rfl) ?_
 refine altOK_c (planOK_at fro5 (by kernel_rfl)) ?_
 refine altOK_c (planOK_at fro11 (by kernel_rfl)) ?_
 rfl
def frp16:Pl:=.alt 9 [] frp8 (.alt 11 [] frp11 (.stop))
def frl16:Array Bool:=#[true,true,true,true,true,true,true,true,true,false,true,false,true,true,true,true,true,true,false,false,false,false,false,false]
theorem fro16:planOK frops frl16 frp16=true:=by
 unfold frp16
 refine planOK_alt (by kernel_rfl) ?_
 refine altOK_c (planOK_at fro8 (by kernel_rfl)) ?_
 refine altOK_c (planOK_at fro11 (by kernel_rfl)) ?_
 rfl
def frp17:Pl:=.q 15 [] (.q 16 [] (.alt 9 [] frp14 (.alt 11 [] frp15 (.alt 17 [0] frp16 (.stop)))))
def frl17:Array Bool:=#[true,true,true,true,true,true,true,true,true,false,true,false,true,true,true,false,false,false,false,false,false,false,false,false]
theorem fro17:planOK frops frl17 frp17=true:=by
 unfold frp17
 refine planOK_q (by kernel_rfl) ?_
 refine planOK_q (by kernel_rfl) ?_
 refine planOK_alt (by kernel_rfl) ?_
 refine altOK_c (planOK_at fro14 (by kernel_rfl)) ?_
 refine altOK_c (planOK_at fro15 (by kernel_rfl)) ?_
 refine altOK_c (planOK_at fro16 (by kernel_rfl)) ?_
 rfl
def frp18:Pl:=.alt 9 [] frp10 (.alt 11 [] frp13 (.alt 14 [0] frp17 (.stop)))
def frl18:Array Bool:=#[true,true,true,true,true,true,true,true,true,false,true,false,true,true,false,false,false,false,false,false,false,false,false,false]
theorem fro18:planOK frops frl18 frp18=true:=by
 unfold frp18
 refine planOK_alt (by kernel_rfl) ?_
 refine altOK_c (planOK_at fro10 (by kernel_rfl)) ?_
 refine altOK_c (planOK_at fro13 (by kernel_rfl)) ?_
 refine altOK_c (planOK_at fro17 (by kernel_rfl)) ?_
 rfl
def frp19:Pl:=.l 7 [] frp3
def frl19:Array Bool:=#[true,true,true,true,true,true,true,false,true,true,true,true,true,true,true,false,false,false,false,false,false,false,false,false]
theorem fro19:planOK frops frl19 frp19=true:=by
 unfold frp19
 refine planOK_l (by kernel_rfl) ?_
 exact planOK_at fro3 (by kernel_rfl)
def frp20:Pl:=.alt 7 [] frp4 (.alt 14 [0] frp19 (.stop))
def frl20:Array Bool:=#[true,true,true,true,true,true,true,false,true,true,true,true,true,true,false,false,false,false,false,false,false,false,false,false]
theorem fro20:planOK frops frl20 frp20=true:=by
 unfold frp20
 refine planOK_alt (by kernel_rfl) ?_
 refine altOK_c (planOK_at fro4 (by kernel_rfl)) ?_
 refine altOK_c (planOK_at fro19 (by kernel_rfl)) ?_
 rfl
def frp21:Pl:=.alt 7 [] frp9 (.alt 11 [] frp19 (.stop))
def frl21:Array Bool:=#[true,true,true,true,true,true,true,false,true,true,true,false,true,true,true,false,false,false,false,false,false,false,false,false]
theorem fro21:planOK frops frl21 frp21=true:=by
 unfold frp21
 refine planOK_alt (by kernel_rfl) ?_
 refine altOK_c (planOK_at fro9 (by kernel_rfl)) ?_
 refine altOK_c (planOK_at fro19 (by kernel_rfl)) ?_
 rfl
def frp22:Pl:=.alt 7 [] frp10 (.alt 11 [] frp20 (.alt 14 [0] frp21 (.stop)))
def frl22:Array Bool:=#[true,true,true,true,true,true,true,false,true,true,true,false,true,true,false,false,false,false,false,false,false,false,false,false]
theorem fro22:planOK frops frl22 frp22=true:=by
 unfold frp22
 refine planOK_alt (by kernel_rfl) ?_
 refine altOK_c (planOK_at fro10 (by kernel_rfl)) ?_
 refine altOK_c (planOK_at fro20 (by kernel_rfl)) ?_
 refine altOK_c (planOK_at fro21 (by kernel_rfl)) ?_
 rfl
def frp23:Pl:=.alt 7 [] frp12 (.alt 9 [] frp19 (.stop))
def frl23:Array Bool:=#[true,true,true,true,true,true,true,false,true,false,true,true,true,true,true,false,false,false,false,false,false,false,false,false]
theorem fro23:planOK frops frl23 frp23=true:=by
 unfold frp23
 refine planOK_alt (by kernel_rfl) ?_
 refine altOK_c (planOK_at fro12 (by kernel_rfl)) ?_
 refine altOK_c (planOK_at fro19 (by kernel_rfl)) ?_
 rfl
def frp24:Pl:=.alt 7 [] frp13 (.alt 9 [] frp20 (.alt 14 [0] frp23 (.stop)))
def frl24:Array Bool:=#[true,true,true,true,true,true,true,false,true,false,true,true,true,true,false,false,false,false,false,false,false,false,false,false]
theorem fro24:planOK frops frl24 frp24=true:=by
 unfold frp24
 refine planOK_alt (by kernel_rfl) ?_
 refine altOK_c (planOK_at fro13 (by kernel_rfl)) ?_
 refine altOK_c (planOK_at fro20 (by kernel_rfl)) ?_
 refine altOK_c (planOK_at fro23 (by kernel_rfl)) ?_
 rfl
def frp25:Pl:=.alt 7 [] frp17 (.alt 9 [] frp21 (.alt 11 [] frp23 (.stop)))
def frl25:Array Bool:=#[true,true,true,true,true,true,true,false,true,false,true,false,true,true,true,false,false,false,false,false,false,false,false,false]
theorem fro25:planOK frops frl25 frp25=true:=by
 unfold frp25
 refine planOK_alt (by kernel_rfl) ?_
 refine altOK_c (planOK_at fro17 (by kernel_rfl)) ?_
 refine altOK_c (planOK_at fro21 (by kernel_rfl)) ?_
 refine altOK_c (planOK_at fro23 (by kernel_rfl)) ?_
 rfl
def frp26:Pl:=.q 12 [] (.q 13 [] (.alt 7 [] frp18 (.alt 9 [] frp22 (.alt 11 [] frp24 (.alt 14 [0] frp25 (.stop))))))
def frl26:Array Bool:=#[true,true,true,true,true,true,true,false,true,false,true,false,false,false,false,false,false,false,false,false,false,false,false,false]
theorem fro26:planOK frops frl26 frp26=true:=by
 unfold frp26
 refine planOK_q (by kernel_rfl) ?_
 refine planOK_q (by kernel_rfl) ?_
 refine planOK_alt (by kernel_rfl) ?_
 refine altOK_c (planOK_at fro18 (by kernel_rfl)) ?_
 refine altOK_c (planOK_at fro22 (by kernel_rfl)) ?_
 refine altOK_c (planOK_at fro24 (by kernel_rfl)) ?_
 refine altOK_c (planOK_at fro25 (by kernel_rfl)) ?_
 rfl
def frp27:Pl:=.q 12 [] (.q 13 [] (.alt 9 [] frp10 (.alt 11 [] frp13 (.alt 14 [0] frp17 (.stop)))))
def frl27:Array Bool:=#[true,true,true,true,true,true,true,true,true,false,true,false,false,false,false,false,false,false,false,false,false,false,false,false]
theorem fro27:planOK frops frl27 frp27=true:=by
 unfold frp27
 refine planOK_q (by kernel_rfl) ?_
 refine planOK_q (by kernel_rfl) ?_
 refine planOK_alt (by kernel_rfl) ?_
 refine altOK_c (planOK_at fro10 (by kernel_rfl)) ?_
 refine altOK_c (planOK_at fro13 (by kernel_rfl)) ?_
 refine altOK_c (planOK_at fro17 (by kernel_rfl)) ?_
 rfl
def frp28:Pl:=.q 12 [] (.q 13 [] (.alt 11 [] frp4 (.alt 14 [0] frp9 (.stop))))
def frl28:Array Bool:=#[true,true,true,true,true,true,true,true,true,true,true,false,false,false,false,false,false,false,false,false,false,false,false,false]
theorem fro28:planOK frops frl28 frp28=true:=by
 unfold frp28
 refine planOK_q (by kernel_rfl) ?_
 refine planOK_q (by kernel_rfl) ?_
 refine planOK_alt (by kernel_rfl) ?_
 refine altOK_c (planOK_at fro4 (by kernel_rfl)) ?_
 refine altOK_c (planOK_at fro9 (by kernel_rfl)) ?_
 rfl
def frp29:Pl:=.q 12 [] (.q 13 [] (.l 14 [0] frp3))
def frl29:Array Bool:=#[true,true,true,true,true,true,true,true,true,true,true,true,false,false,false,false,false,false,false,false,false,false,false,false]
theorem fro29:planOK frops frl29 frp29=true:=by
 unfold frp29
 refine planOK_q (by kernel_rfl) ?_
 refine planOK_q (by kernel_rfl) ?_
 refine planOK_l (by kernel_rfl) ?_
 exact planOK_at fro3 (by kernel_rfl)
def frp30:Pl:=.l 5 [] frp29
def frl30:Array Bool:=#[true,true,true,true,true,false,true,true,true,true,true,true,false,false,false,false,false,false,false,false,false,false,false,false]
theorem fro30:planOK frops frl30 frp30=true:=by
 unfold frp30
 refine planOK_l (by kernel_rfl) ?_
 exact planOK_at fro29 (by kernel_rfl)
def frp31:Pl:=.alt 5 [] frp28 (.alt 11 [] frp30 (.stop))
def frl31:Array Bool:=#[true,true,true,true,true,false,true,true,true,true,true,false,false,false,false,false,false,false,false,false,false,false,false,false]
theorem fro31:planOK frops frl31 frp31=true:=by
 unfold frp31
 refine planOK_alt (by kernel_rfl) ?_
 refine altOK_c (planOK_at fro28 (by kernel_rfl)) ?_
 refine altOK_c (planOK_at fro30 (by kernel_rfl)) ?_
 rfl
def frp32:Pl:=.q 12 [] (.q 13 [] (.alt 9 [] frp4 (.alt 14 [0] frp12 (.stop))))
def frl32:Array Bool:=#[true,true,true,true,true,true,true,true,true,false,true,true,false,false,false,false,false,false,false,false,false,false,false,false]
theorem fro32:planOK frops frl32 frp32=true:=by
 unfold frp32
 refine planOK_q (by kernel_rfl) ?_
 refine planOK_q (by kernel_rfl) ?_
 refine planOK_alt (by kernel_rfl) ?_
 refine altOK_c (planOK_at fro4 (by kernel_rfl)) ?_
 refine altOK_c (planOK_at fro12 (by kernel_rfl)) ?_
 rfl
def frp33:Pl:=.alt 5 [] frp32 (.alt 9 [] frp30 (.stop))
def frl33:Array Bool:=#[true,true,true,true,true,false,true,true,true,false,true,true,false,false,false,false,false,false,false,false,false,false,false,false]
theorem fro33:planOK frops frl33 frp33=true:=by
 unfold frp33
 refine planOK_alt (by kernel_rfl) ?_
 refine altOK_c (planOK_at fro32 (by kernel_rfl)) ?_
 refine altOK_c (planOK_at fro30 (by kernel_rfl)) ?_
 rfl
def frp34:Pl:=.alt 5 [] frp27 (.alt 9 [] frp31 (.alt 11 [] frp33 (.stop)))
def frl34:Array Bool:=#[true,true,true,true,true,false,true,true,true,false,true,false,false,false,false,false,false,false,false,false,false,false,false,false]
theorem fro34:planOK frops frl34 frp34=true:=by
 unfold frp34
 refine planOK_alt (by kernel_rfl) ?_
 refine altOK_c (planOK_at fro27 (by kernel_rfl)) ?_
 refine altOK_c (planOK_at fro31 (by kernel_rfl)) ?_
 refine altOK_c (planOK_at fro33 (by kernel_rfl)) ?_
 rfl
def frp35:Pl:=.q 12 [] (.q 13 [] (.alt 7 [] frp10 (.alt 11 [] frp20 (.alt 14 [0] frp21 (.stop)))))
def frl35:Array Bool:=#[true,true,true,true,true,true,true,false,true,true,true,false,false,false,false,false,false,false,false,false,false,false,false,false]
theorem fro35:planOK frops frl35 frp35=true:=by
 unfold frp35
 refine planOK_q (by kernel_rfl) ?_
 refine planOK_q (by kernel_rfl) ?_
 refine planOK_alt (by kernel_rfl) ?_
 refine altOK_c (planOK_at fro10 (by kernel_rfl)) ?_
 refine altOK_c (planOK_at fro20 (by kernel_rfl)) ?_
 refine altOK_c (planOK_at fro21 (by kernel_rfl)) ?_
 rfl
def frp36:Pl:=.q 12 [] (.q 13 [] (.alt 7 [] frp4 (.alt 14 [0] frp19 (.stop))))
def frl36:Array Bool:=#[true,true,true,true,true,true,true,false,true,true,true,true,false,false,false,false,false,false,false,false,false,false,false,false]
theorem fro36:planOK frops frl36 frp36=true:=by
 unfold frp36
 refine planOK_q (by kernel_rfl) ?_
 refine planOK_q (by kernel_rfl) ?_
 refine planOK_alt (by kernel_rfl) ?_
 refine altOK_c (planOK_at fro4 (by kernel_rfl)) ?_
 refine altOK_c (planOK_at fro19 (by kernel_rfl)) ?_
 rfl
def frp37:Pl:=.alt 5 [] frp36 (.alt 7 [] frp30 (.stop))
def frl37:Array Bool:=#[true,true,true,true,true,false,true,false,true,true,true,true,false,false,false,false,false,false,false,false,false,false,false,false]
theorem fro37:planOK frops frl37 frp37=true:=by
 unfold frp37
 refine planOK_alt (by kernel_rfl) ?_
 refine altOK_c (planOK_at fro36 (by kernel_rfl)) ?_
 refine altOK_c (planOK_at fro30 (by kernel_rfl)) ?_
 rfl
def frp38:Pl:=.alt 5 [] frp35 (.alt 7 [] frp31 (.alt 11 [] frp37 (.stop)))
def frl38:Array Bool:=#[true,true,true,true,true,false,true,false,true,true,true,false,false,false,false,false,false,false,false,false,false,false,false,false]
theorem fro38:planOK frops frl38 frp38=true:=by
 unfold frp38
 refine planOK_alt (by kernel_rfl) ?_
 refine altOK_c (planOK_at fro35 (by kernel_rfl)) ?_
 refine altOK_c (planOK_at fro31 (by kernel_rfl)) ?_
 refine altOK_c (planOK_at fro37 (by kernel_rfl)) ?_
 rfl
def frp39:Pl:=.q 12 [] (.q 13 [] (.alt 7 [] frp13 (.alt 9 [] frp20 (.alt 14 [0] frp23 (.stop)))))
def frl39:Array Bool:=#[true,true,true,true,true,true,true,false,true,false,true,true,false,false,false,false,false,false,false,false,false,false,false,false]
theorem fro39:planOK frops frl39 frp39=true:=by
 unfold frp39
 refine planOK_q (by kernel_rfl) ?_
 refine planOK_q (by kernel_rfl) ?_
 refine planOK_alt (by kernel_rfl) ?_
 refine altOK_c (planOK_at fro13 (by kernel_rfl)) ?_
 refine altOK_c (planOK_at fro20 (by kernel_rfl)) ?_
 refine altOK_c (planOK_at fro23 (by kernel_rfl)) ?_
 rfl
def frp40:Pl:=.alt 5 [] frp39 (.alt 7 [] frp33 (.alt 9 [] frp37 (.stop)))
def frl40:Array Bool:=#[true,true,true,true,true,false,true,false,true,false,true,true,false,false,false,false,false,false,false,false,false,false,false,false]
theorem fro40:planOK frops frl40 frp40=true:=by
 unfold frp40
 refine planOK_alt (by kernel_rfl) ?_
 refine altOK_c (planOK_at fro39 (by kernel_rfl)) ?_
 refine altOK_c (planOK_at fro33 (by kernel_rfl)) ?_
 refine altOK_c (planOK_at fro37 (by kernel_rfl)) ?_
 rfl
def frp41:Pl:=.q 0 [] (.q 1 [] (.q 2 [] (.q 3 [] (.q 4 [] (.q 6 [] (.q 8 [] (.q 10 [] (.alt 5 [] frp26 (.alt 7 [] frp34 (.alt 9 [] frp38 (.alt 11 [] frp40 (.stop))))))))))))
def frl41:Array Bool:=#[false,false,false,false,false,false,false,false,false,false,false,false,false,false,false,false,false,false,false,false,false,false,false,false]
theorem fro41:planOK frops frl41 frp41=true:=by
 unfold frp41
 refine planOK_q (by kernel_rfl) ?_
 refine planOK_q (by kernel_rfl) ?_
 refine planOK_q (by kernel_rfl) ?_
 refine planOK_q (by kernel_rfl) ?_
 refine planOK_q (by kernel_rfl) ?_
 refine planOK_q (by kernel_rfl) ?_
 refine planOK_q (by kernel_rfl) ?_
 refine planOK_q (by kernel_rfl) ?_
 refine planOK_alt (by kernel_rfl) ?_
 refine altOK_c (planOK_at fro26 (by kernel_rfl)) ?_
 refine altOK_c (planOK_at fro34 (by kernel_rfl)) ?_
 refine altOK_c (planOK_at fro38 (by kernel_rfl)) ?_
 refine altOK_c (planOK_at fro40 (by kernel_rfl)) ?_
 rfl
def frs0 (p:Prob) (n m N:Nat):St:=⟨217,[(0,.rop (probQ p) 0),(3,.ptr 0 0 0),(4,iv N),(34,.ptr 0 0 0),(35,.ptr 0 0 0),(36,.ptr 0 0 0),(37,.ptr 0 0 0),(38,iv N),(40,iv N),(42,iv N),(44,iv N),(46,.ptr 0 0 0),(47,.ptr 0 0 6),(48,.ptr 0 0 0),(49,.ptr 0 0 7),(50,.ptr 0 0 0),(51,.ptr 0 0 9),(52,.ptr 0 0 0),(53,.ptr 0 0 5),(39,.view 1 0 N),(41,.view 2 0 N),(43,.view 3 0 N),(45,.view 4 0 N)],[some ⟨11,[.agg [.rop (probQ p) 0,iv n,iv m,.val (.slice none 0 0),.val (.slice none 0 0),.view 4 0 N,.view 1 0 N,.view 2 0 N,.val (.slice none 0 0),.view 3 0 N,.val (.slice none 0 0)]],false⟩,some ⟨1,zi N,false⟩,some ⟨4,zr N,false⟩,some ⟨1,zi N,false⟩,some ⟨4,zr N,false⟩]⟩
theorem frt0 (x:Ent) (M:Tab):Pl.there (some x::M) frp0=True:=by unfold frp0;simp [Pl.there,tget]
theorem fry0:∀j,∀k∈Pl.Y frp0 j,k=0:=by
 intro j k h
 unfold frp0 at h
 simp only [Pl.Y,List.mem_append,one] at h
 simp at h
def frs1 (p:Prob) (n m N:Nat):St:=⟨217,[(0,.rop (probQ p) 0),(3,.ptr 0 0 0),(4,iv N),(34,.ptr 0 0 0),(35,.ptr 0 0 0),(36,.ptr 0 0 0),(37,.ptr 0 0 0),(38,iv N),(40,iv N),(42,iv N),(44,iv N),(46,.ptr 0 0 0),(47,.ptr 0 0 6),(48,.ptr 0 0 0),(49,.ptr 0 0 7),(50,.ptr 0 0 0),(51,.ptr 0 0 9),(39,.view 1 0 N),(41,.view 2 0 N),(43,.view 3 0 N),(45,.view 4 0 N)],[some ⟨11,[.agg [.rop (probQ p) 0,iv n,iv m,.val (.slice none 0 0),.val (.slice none 0 0),.val (.slice none 0 0),.view 1 0 N,.view 2 0 N,.val (.slice none 0 0),.view 3 0 N,.val (.slice none 0 0)]],false⟩,some ⟨1,zi N,false⟩,some ⟨4,zr N,false⟩,some ⟨1,zi N,false⟩,some ⟨4,zr N,false⟩]⟩
theorem frt1 (x:Ent) (M:Tab):Pl.there (some x::M) frp1=True:=by unfold frp1;simp [Pl.there,tget,frt0]
theorem fry1:∀j,∀k∈Pl.Y frp1 j,k=0:=by
 intro j k h
 unfold frp1 at h
 simp only [Pl.Y,List.mem_append,one] at h
 have y0:=fry0 j k
 grind
def frs2 (p:Prob) (n m N:Nat):St:=⟨217,[(0,.rop (probQ p) 0),(3,.ptr 0 0 0),(4,iv N),(34,.ptr 0 0 0),(35,.ptr 0 0 0),(36,.ptr 0 0 0),(37,.ptr 0 0 0),(38,iv N),(40,iv N),(42,iv N),(44,iv N),(46,.ptr 0 0 0),(47,.ptr 0 0 6),(48,.ptr 0 0 0),(49,.ptr 0 0 7),(39,.view 1 0 N),(41,.view 2 0 N),(43,.view 3 0 N),(45,.view 4 0 N)],[some ⟨11,[.agg [.rop (probQ p) 0,iv n,iv m,.val (.slice none 0 0),.val (.slice none 0 0),.val (.slice none 0 0),.view 1 0 N,.view 2 0 N,.val (.slice none 0 0),.val (.slice none 0 0),.val (.slice none 0 0)]],false⟩,some ⟨1,zi N,false⟩,some ⟨4,zr N,false⟩,some ⟨1,zi N,false⟩,some ⟨4,zr N,false⟩]⟩
theorem frt2 (x:Ent) (M:Tab):Pl.there (some x::M) frp2=True:=by unfold frp2;simp [Pl.there,tget,frt1]
theorem fry2:∀j,∀k∈Pl.Y frp2 j,k=0:=by
 intro j k h
 unfold frp2 at h
 simp only [Pl.Y,List.mem_append,one] at h
 have y1:=fry1 j k
 grind
def frs3 (p:Prob) (n m N:Nat):St:=⟨217,[(0,.rop (probQ p) 0),(3,.ptr 0 0 0),(4,iv N),(34,.ptr 0 0 0),(35,.ptr 0 0 0),(36,.ptr 0 0 0),(37,.ptr 0 0 0),(38,iv N),(40,iv N),(42,iv N),(44,iv N),(46,.ptr 0 0 0),(47,.ptr 0 0 6),(39,.view 1 0 N),(41,.view 2 0 N),(43,.view 3 0 N),(45,.view 4 0 N)],[some ⟨11,[.agg [.rop (probQ p) 0,iv n,iv m,.val (.slice none 0 0),.val (.slice none 0 0),.val (.slice none 0 0),.view 1 0 N,.val (.slice none 0 0),.val (.slice none 0 0),.val (.slice none 0 0),.val (.slice none 0 0)]],false⟩,some ⟨1,zi N,false⟩,some ⟨4,zr N,false⟩,some ⟨1,zi N,false⟩,some ⟨4,zr N,false⟩]⟩
theorem frt3 (x:Ent) (M:Tab):Pl.there (some x::M) frp3=True:=by unfold frp3;simp [Pl.there,tget,frt2]
theorem fry3:∀j,∀k∈Pl.Y frp3 j,k=0:=by
 intro j k h
 unfold frp3 at h
 simp only [Pl.Y,List.mem_append,one] at h
 have y2:=fry2 j k
 grind
def frs4 (p:Prob) (n m N:Nat):St:=⟨217,[(0,.rop (probQ p) 0),(3,.ptr 0 0 0),(4,iv N),(34,.ptr 0 0 0),(35,.ptr 0 0 0),(36,.ptr 0 0 0),(37,.ptr 0 0 0),(38,iv N),(40,iv N),(42,iv N),(44,iv N),(46,.ptr 0 0 0),(47,.ptr 0 0 6),(39,.view 1 0 N),(41,.view 2 0 N),(43,.view 3 0 N),(45,.view 4 0 N)],[some ⟨11,[.agg [.rop (probQ p) 0,iv n,iv m,.val (.slice none 0 0),.val (.slice none 0 0),.val (.slice none 0 0),.val (.slice none 0 0),.val (.slice none 0 0),.val (.slice none 0 0),.val (.slice none 0 0),.val (.slice none 0 0)]],false⟩,some ⟨1,zi N,false⟩,some ⟨4,zr N,false⟩,some ⟨1,zi N,false⟩,some ⟨4,zr N,false⟩]⟩
theorem frt4 (x:Ent) (M:Tab):Pl.there (some x::M) frp4=True:=by unfold frp4;simp [Pl.there,tget,frt3]
theorem fry4:∀j,∀k∈Pl.Y frp4 j,k=0:=by
 intro j k h
 unfold frp4 at h
 simp only [Pl.Y,List.mem_append,one] at h
 have y3:=fry3 j k
 grind
def frs5 (p:Prob) (n m N:Nat):St:=⟨217,[(0,.rop (probQ p) 0),(3,.ptr 0 0 0),(4,iv N),(34,.ptr 0 0 0),(35,.ptr 0 0 0),(36,.ptr 0 0 0),(37,.ptr 0 0 0),(38,iv N),(40,iv N),(42,iv N),(44,iv N),(46,.ptr 0 0 0),(47,.ptr 0 0 6),(48,.ptr 0 0 0),(49,.ptr 0 0 7),(39,.view 1 0 N),(41,.view 2 0 N),(43,.view 3 0 N),(45,.view 4 0 N)],[some ⟨11,[.agg [.rop (probQ p) 0,iv n,iv m,.val (.slice none 0 0),.val (.slice none 0 0),.val (.slice none 0 0),.view 1 0 N,.val (.slice none 0 0),.val (.slice none 0 0),.val (.slice none 0 0),.val (.slice none 0 0)]],false⟩,some ⟨1,zi N,false⟩,some ⟨4,zr N,false⟩,some ⟨1,zi N,false⟩,some ⟨4,zr N,false⟩]⟩
theorem frt5 (x:Ent) (M:Tab):Pl.there (some x::M) frp5=True:=by unfold frp5;simp [Pl.there,tget,frt2]
theorem fry5:∀j,∀k∈Pl.Y frp5 j,k=0:=by
 intro j k h
 unfold frp5 at h
 simp only [Pl.Y,List.mem_append,one] at h
 have y2:=fry2 j k
 grind
def frs6 (p:Prob) (n m N:Nat):St:=⟨217,[(0,.rop (probQ p) 0),(3,.ptr 0 0 0),(4,iv N),(34,.ptr 0 0 0),(35,.ptr 0 0 0),(36,.ptr 0 0 0),(37,.ptr 0 0 0),(38,iv N),(40,iv N),(42,iv N),(44,iv N),(46,.ptr 0 0 0),(47,.ptr 0 0 6),(48,.ptr 0 0 0),(49,.ptr 0 0 7),(50,.ptr 0 0 0),(51,.ptr 0 0 9),(39,.view 1 0 N),(41,.view 2 0 N),(43,.view 3 0 N),(45,.view 4 0 N)],[some ⟨11,[.agg [.rop (probQ p) 0,iv n,iv m,.val (.slice none 0 0),.val (.slice none 0 0),.val (.slice none 0 0),.view 1 0 N,.view 2 0 N,.val (.slice none 0 0),.val (.slice none 0 0),.val (.slice none 0 0)]],false⟩,some ⟨1,zi N,false⟩,some ⟨4,zr N,false⟩,some ⟨1,zi N,false⟩,some ⟨4,zr N,false⟩]⟩
theorem frt6 (x:Ent) (M:Tab):Pl.there (some x::M) frp6=True:=by unfold frp6;simp [Pl.there,tget,frt1]
theorem fry6:∀j,∀k∈Pl.Y frp6 j,k=0:=by
 intro j k h
 unfold frp6 at h
 simp only [Pl.Y,List.mem_append,one] at h
 have y1:=fry1 j k
 grind
def frs7 (p:Prob) (n m N:Nat):St:=⟨217,[(0,.rop (probQ p) 0),(3,.ptr 0 0 0),(4,iv N),(34,.ptr 0 0 0),(35,.ptr 0 0 0),(36,.ptr 0 0 0),(37,.ptr 0 0 0),(38,iv N),(40,iv N),(42,iv N),(44,iv N),(46,.ptr 0 0 0),(47,.ptr 0 0 6),(48,.ptr 0 0 0),(49,.ptr 0 0 7),(50,.ptr 0 0 0),(51,.ptr 0 0 9),(39,.view 1 0 N),(41,.view 2 0 N),(43,.view 3 0 N)],[some ⟨11,[.agg [.rop (probQ p) 0,iv n,iv m,.val (.slice none 0 0),.val (.slice none 0 0),.val (.slice none 0 0),.view 1 0 N,.view 2 0 N,.val (.slice none 0 0),.view 3 0 N,.val (.slice none 0 0)]],false⟩,some ⟨1,zi N,false⟩,some ⟨4,zr N,false⟩,some ⟨1,zi N,false⟩]⟩
theorem frt7 (x:Ent) (M:Tab):Pl.there (some x::M) frp7=True:=by unfold frp7;simp [Pl.there,tget,frt1]
theorem fry7:∀j,∀k∈Pl.Y frp7 j,k=0:=by
 intro j k h
 unfold frp7 at h
 simp only [Pl.Y,List.mem_append,one] at h
 have y1:=fry1 j k
 grind
def frs8 (p:Prob) (n m N:Nat):St:=⟨217,[(0,.rop (probQ p) 0),(3,.ptr 0 0 0),(4,iv N),(34,.ptr 0 0 0),(35,.ptr 0 0 0),(36,.ptr 0 0 0),(37,.ptr 0 0 0),(38,iv N),(40,iv N),(42,iv N),(44,iv N),(46,.ptr 0 0 0),(47,.ptr 0 0 6),(48,.ptr 0 0 0),(49,.ptr 0 0 7),(39,.view 1 0 N),(41,.view 2 0 N),(43,.view 3 0 N)],[some ⟨11,[.agg [.rop (probQ p) 0,iv n,iv m,.val (.slice none 0 0),.val (.slice none 0 0),.val (.slice none 0 0),.view 1 0 N,.view 2 0 N,.val (.slice none 0 0),.val (.slice none 0 0),.val (.slice none 0 0)]],false⟩,some ⟨1,zi N,false⟩,some ⟨4,zr N,false⟩,some ⟨1,zi N,false⟩]⟩
theorem frt8 (x:Ent) (M:Tab):Pl.there (some x::M) frp8=True:=by unfold frp8;simp [Pl.there,tget,frt6,frt7]
theorem fry8:∀j,∀k∈Pl.Y frp8 j,k=0:=by
 intro j k h
 unfold frp8 at h
 simp only [Pl.Y,List.mem_append,one] at h
 have y6:=fry6 j k
 have y7:=fry7 j k
 grind
def frs9 (p:Prob) (n m N:Nat):St:=⟨217,[(0,.rop (probQ p) 0),(3,.ptr 0 0 0),(4,iv N),(34,.ptr 0 0 0),(35,.ptr 0 0 0),(36,.ptr 0 0 0),(37,.ptr 0 0 0),(38,iv N),(40,iv N),(42,iv N),(44,iv N),(46,.ptr 0 0 0),(47,.ptr 0 0 6),(39,.view 1 0 N),(41,.view 2 0 N),(43,.view 3 0 N)],[some ⟨11,[.agg [.rop (probQ p) 0,iv n,iv m,.val (.slice none 0 0),.val (.slice none 0 0),.val (.slice none 0 0),.view 1 0 N,.val (.slice none 0 0),.val (.slice none 0 0),.val (.slice none 0 0),.val (.slice none 0 0)]],false⟩,some ⟨1,zi N,false⟩,some ⟨4,zr N,false⟩,some ⟨1,zi N,false⟩]⟩
theorem frt9 (x:Ent) (M:Tab):Pl.there (some x::M) frp9=True:=by unfold frp9;simp [Pl.there,tget,frt5,frt8]
theorem fry9:∀j,∀k∈Pl.Y frp9 j,k=0:=by
 intro j k h
 unfold frp9 at h
 simp only [Pl.Y,List.mem_append,one] at h
 have y5:=fry5 j k
 have y8:=fry8 j k
 grind
def frs10 (p:Prob) (n m N:Nat):St:=⟨217,[(0,.rop (probQ p) 0),(3,.ptr 0 0 0),(4,iv N),(34,.ptr 0 0 0),(35,.ptr 0 0 0),(36,.ptr 0 0 0),(37,.ptr 0 0 0),(38,iv N),(40,iv N),(42,iv N),(44,iv N),(46,.ptr 0 0 0),(47,.ptr 0 0 6),(39,.view 1 0 N),(41,.view 2 0 N),(43,.view 3 0 N)],[some ⟨11,[.agg [.rop (probQ p) 0,iv n,iv m,.val (.slice none 0 0),.val (.slice none 0 0),.val (.slice none 0 0),.val (.slice none 0 0),.val (.slice none 0 0),.val (.slice none 0 0),.val (.slice none 0 0),.val (.slice none 0 0)]],false⟩,some ⟨1,zi N,false⟩,some ⟨4,zr N,false⟩,some ⟨1,zi N,false⟩]⟩
theorem frt10 (x:Ent) (M:Tab):Pl.there (some x::M) frp10=True:=by unfold frp10;simp [Pl.there,tget,frt4,frt9]
theorem fry10:∀j,∀k∈Pl.Y frp10 j,k=0:=by
 intro j k h
 unfold frp10 at h
 simp only [Pl.Y,List.mem_append,one] at h
 have y4:=fry4 j k
 have y9:=fry9 j k
 grind
def frs11 (p:Prob) (n m N:Nat):St:=⟨217,[(0,.rop (probQ p) 0),(3,.ptr 0 0 0),(4,iv N),(34,.ptr 0 0 0),(35,.ptr 0 0 0),(36,.ptr 0 0 0),(37,.ptr 0 0 0),(38,iv N),(40,iv N),(42,iv N),(44,iv N),(46,.ptr 0 0 0),(47,.ptr 0 0 6),(48,.ptr 0 0 0),(49,.ptr 0 0 7),(39,.view 1 0 N),(41,.view 2 0 N),(45,.view 3 0 N)],[some ⟨11,[.agg [.rop (probQ p) 0,iv n,iv m,.val (.slice none 0 0),.val (.slice none 0 0),.val (.slice none 0 0),.view 1 0 N,.view 2 0 N,.val (.slice none 0 0),.val (.slice none 0 0),.val (.slice none 0 0)]],false⟩,some ⟨1,zi N,false⟩,some ⟨4,zr N,false⟩,some ⟨4,zr N,false⟩]⟩
theorem frt11 (x:Ent) (M:Tab):Pl.there (some x::M) frp11=True:=by unfold frp11;simp [Pl.there,tget,frt2]
theorem fry11:∀j,∀k∈Pl.Y frp11 j,k=0:=by
 intro j k h
 unfold frp11 at h
 simp only [Pl.Y,List.mem_append,one] at h
 have y2:=fry2 j k
 grind
def frs12 (p:Prob) (n m N:Nat):St:=⟨217,[(0,.rop (probQ p) 0),(3,.ptr 0 0 0),(4,iv N),(34,.ptr 0 0 0),(35,.ptr 0 0 0),(36,.ptr 0 0 0),(37,.ptr 0 0 0),(38,iv N),(40,iv N),(42,iv N),(44,iv N),(46,.ptr 0 0 0),(47,.ptr 0 0 6),(39,.view 1 0 N),(41,.view 2 0 N),(45,.view 3 0 N)],[some ⟨11,[.agg [.rop (probQ p) 0,iv n,iv m,.val (.slice none 0 0),.val (.slice none 0 0),.val (.slice none 0 0),.view 1 0 N,.val (.slice none 0 0),.val (.slice none 0 0),.val (.slice none 0 0),.val (.slice none 0 0)]],false⟩,some ⟨1,zi N,false⟩,some ⟨4,zr N,false⟩,some ⟨4,zr N,false⟩]⟩
theorem frt12 (x:Ent) (M:Tab):Pl.there (some x::M) frp12=True:=by unfold frp12;simp [Pl.there,tget,frt5,frt11]
theorem fry12:∀j,∀k∈Pl.Y frp12 j,k=0:=by
 intro j k h
 unfold frp12 at h
 simp only [Pl.Y,List.mem_append,one] at h
 have y5:=fry5 j k
 have y11:=fry11 j k
 grind
def frs13 (p:Prob) (n m N:Nat):St:=⟨217,[(0,.rop (probQ p) 0),(3,.ptr 0 0 0),(4,iv N),(34,.ptr 0 0 0),(35,.ptr 0 0 0),(36,.ptr 0 0 0),(37,.ptr 0 0 0),(38,iv N),(40,iv N),(42,iv N),(44,iv N),(46,.ptr 0 0 0),(47,.ptr 0 0 6),(39,.view 1 0 N),(41,.view 2 0 N),(45,.view 3 0 N)],[some ⟨11,[.agg [.rop (probQ p) 0,iv n,iv m,.val (.slice none 0 0),.val (.slice none 0 0),.val (.slice none 0 0),.val (.slice none 0 0),.val (.slice none 0 0),.val (.slice none 0 0),.val (.slice none 0 0),.val (.slice none 0 0)]],false⟩,some ⟨1,zi N,false⟩,some ⟨4,zr N,false⟩,some ⟨4,zr N,false⟩]⟩
theorem frt13 (x:Ent) (M:Tab):Pl.there (some x::M) frp13=True:=by unfold frp13;simp [Pl.there,tget,frt4,frt12]
theorem fry13:∀j,∀k∈Pl.Y frp13 j,k=0:=by
 intro j k h
 unfold frp13 at h
 simp only [Pl.Y,List.mem_append,one] at h
 have y4:=fry4 j k
 have y12:=fry12 j k
 grind
def frs14 (p:Prob) (n m N:Nat):St:=⟨217,[(0,.rop (probQ p) 0),(3,.ptr 0 0 0),(4,iv N),(34,.ptr 0 0 0),(35,.ptr 0 0 0),(36,.ptr 0 0 0),(37,.ptr 0 0 0),(38,iv N),(40,iv N),(42,iv N),(44,iv N),(46,.ptr 0 0 0),(47,.ptr 0 0 6),(48,.ptr 0 0 0),(49,.ptr 0 0 7),(39,.view 1 0 N),(41,.view 2 0 N),(43,.view 3 0 N)],[some ⟨11,[.agg [.rop (probQ p) 0,iv n,iv m,.val (.slice none 0 0),.val (.slice none 0 0),.val (.slice none 0 0),.view 1 0 N,.val (.slice none 0 0),.val (.slice none 0 0),.val (.slice none 0 0),.val (.slice none 0 0)]],false⟩,some ⟨1,zi N,false⟩,some ⟨4,zr N,false⟩,some ⟨1,zi N,false⟩]⟩
theorem frt14 (x:Ent) (M:Tab):Pl.there (some x::M) frp14=True:=by unfold frp14;simp [Pl.there,tget,frt5,frt8]
theorem fry14:∀j,∀k∈Pl.Y frp14 j,k=0:=by
 intro j k h
 unfold frp14 at h
 simp only [Pl.Y,List.mem_append,one] at h
 have y5:=fry5 j k
 have y8:=fry8 j k
 grind
def frs15 (p:Prob) (n m N:Nat):St:=⟨217,[(0,.rop (probQ p) 0),(3,.ptr 0 0 0),(4,iv N),(34,.ptr 0 0 0),(35,.ptr 0 0 0),(36,.ptr 0 0 0),(37,.ptr 0 0 0),(38,iv N),(40,iv N),(42,iv N),(44,iv N),(46,.ptr 0 0 0),(47,.ptr 0 0 6),(48,.ptr 0 0 0),(49,.ptr 0 0 7),(39,.view 1 0 N),(41,.view 2 0 N),(45,.view 3 0 N)],[some ⟨11,[.agg [.rop (probQ p) 0,iv n,iv m,.val (.slice none 0 0),.val (.slice none 0 0),.val (.slice none 0 0),.view 1 0 N,.val (.slice none 0 0),.val (.slice none 0 0),.val (.slice none 0 0),.val (.slice none 0 0)]],false⟩,some ⟨1,zi N,false⟩,some ⟨4,zr N,false⟩,some ⟨4,zr N,false⟩]⟩
theorem frt15 (x:Ent) (M:Tab):Pl.there (some x::M) frp15=True:=by unfold frp15;simp [Pl.there,tget,frt5,frt11]
theorem fry15:∀j,∀k∈Pl.Y frp15 j,k=0:=by
 intro j k h
 unfold frp15 at h
 simp only [Pl.Y,List.mem_append,one] at h
 have y5:=fry5 j k
 have y11:=fry11 j k
 grind
def frs16 (p:Prob) (n m N:Nat):St:=⟨217,[(0,.rop (probQ p) 0),(3,.ptr 0 0 0),(4,iv N),(34,.ptr 0 0 0),(35,.ptr 0 0 0),(36,.ptr 0 0 0),(37,.ptr 0 0 0),(38,iv N),(40,iv N),(42,iv N),(44,iv N),(46,.ptr 0 0 0),(47,.ptr 0 0 6),(48,.ptr 0 0 0),(49,.ptr 0 0 7),(39,.view 1 0 N),(41,.view 2 0 N)],[some ⟨11,[.agg [.rop (probQ p) 0,iv n,iv m,.val (.slice none 0 0),.val (.slice none 0 0),.val (.slice none 0 0),.view 1 0 N,.view 2 0 N,.val (.slice none 0 0),.val (.slice none 0 0),.val (.slice none 0 0)]],false⟩,some ⟨1,zi N,false⟩,some ⟨4,zr N,false⟩]⟩
theorem frt16 (x:Ent) (M:Tab):Pl.there (some x::M) frp16=True:=by unfold frp16;simp [Pl.there,tget,frt8,frt11]
theorem fry16:∀j,∀k∈Pl.Y frp16 j,k=0:=by
 intro j k h
 unfold frp16 at h
 simp only [Pl.Y,List.mem_append,one] at h
 have y8:=fry8 j k
 have y11:=fry11 j k
 grind
def frs17 (p:Prob) (n m N:Nat):St:=⟨217,[(0,.rop (probQ p) 0),(3,.ptr 0 0 0),(4,iv N),(34,.ptr 0 0 0),(35,.ptr 0 0 0),(36,.ptr 0 0 0),(37,.ptr 0 0 0),(38,iv N),(40,iv N),(42,iv N),(44,iv N),(46,.ptr 0 0 0),(47,.ptr 0 0 6),(39,.view 1 0 N),(41,.view 2 0 N)],[some ⟨11,[.agg [.rop (probQ p) 0,iv n,iv m,.val (.slice none 0 0),.val (.slice none 0 0),.val (.slice none 0 0),.view 1 0 N,.val (.slice none 0 0),.val (.slice none 0 0),.val (.slice none 0 0),.val (.slice none 0 0)]],false⟩,some ⟨1,zi N,false⟩,some ⟨4,zr N,false⟩]⟩
theorem frt17 (x:Ent) (M:Tab):Pl.there (some x::M) frp17=True:=by unfold frp17;simp [Pl.there,tget,frt14,frt15,frt16]
theorem fry17:∀j,∀k∈Pl.Y frp17 j,k=0:=by
 intro j k h
 unfold frp17 at h
 simp only [Pl.Y,List.mem_append,one] at h
 have y14:=fry14 j k
 have y15:=fry15 j k
 have y16:=fry16 j k
 grind
def frs18 (p:Prob) (n m N:Nat):St:=⟨217,[(0,.rop (probQ p) 0),(3,.ptr 0 0 0),(4,iv N),(34,.ptr 0 0 0),(35,.ptr 0 0 0),(36,.ptr 0 0 0),(37,.ptr 0 0 0),(38,iv N),(40,iv N),(42,iv N),(44,iv N),(46,.ptr 0 0 0),(47,.ptr 0 0 6),(39,.view 1 0 N),(41,.view 2 0 N)],[some ⟨11,[.agg [.rop (probQ p) 0,iv n,iv m,.val (.slice none 0 0),.val (.slice none 0 0),.val (.slice none 0 0),.val (.slice none 0 0),.val (.slice none 0 0),.val (.slice none 0 0),.val (.slice none 0 0),.val (.slice none 0 0)]],false⟩,some ⟨1,zi N,false⟩,some ⟨4,zr N,false⟩]⟩
theorem frt18 (x:Ent) (M:Tab):Pl.there (some x::M) frp18=True:=by unfold frp18;simp [Pl.there,tget,frt10,frt13,frt17]
theorem fry18:∀j,∀k∈Pl.Y frp18 j,k=0:=by
 intro j k h
 unfold frp18 at h
 simp only [Pl.Y,List.mem_append,one] at h
 have y10:=fry10 j k
 have y13:=fry13 j k
 have y17:=fry17 j k
 grind
def frs19 (p:Prob) (n m N:Nat):St:=⟨217,[(0,.rop (probQ p) 0),(3,.ptr 0 0 0),(4,iv N),(34,.ptr 0 0 0),(35,.ptr 0 0 0),(36,.ptr 0 0 0),(37,.ptr 0 0 0),(38,iv N),(40,iv N),(42,iv N),(44,iv N),(46,.ptr 0 0 0),(47,.ptr 0 0 6),(39,.view 1 0 N),(43,.view 2 0 N),(45,.view 3 0 N)],[some ⟨11,[.agg [.rop (probQ p) 0,iv n,iv m,.val (.slice none 0 0),.val (.slice none 0 0),.val (.slice none 0 0),.view 1 0 N,.val (.slice none 0 0),.val (.slice none 0 0),.val (.slice none 0 0),.val (.slice none 0 0)]],false⟩,some ⟨1,zi N,false⟩,some ⟨1,zi N,false⟩,some ⟨4,zr N,false⟩]⟩
theorem frt19 (x:Ent) (M:Tab):Pl.there (some x::M) frp19=True:=by unfold frp19;simp [Pl.there,tget,frt3]
theorem fry19:∀j,∀k∈Pl.Y frp19 j,k=0:=by
 intro j k h
 unfold frp19 at h
 simp only [Pl.Y,List.mem_append,one] at h
 have y3:=fry3 j k
 grind
def frs20 (p:Prob) (n m N:Nat):St:=⟨217,[(0,.rop (probQ p) 0),(3,.ptr 0 0 0),(4,iv N),(34,.ptr 0 0 0),(35,.ptr 0 0 0),(36,.ptr 0 0 0),(37,.ptr 0 0 0),(38,iv N),(40,iv N),(42,iv N),(44,iv N),(46,.ptr 0 0 0),(47,.ptr 0 0 6),(39,.view 1 0 N),(43,.view 2 0 N),(45,.view 3 0 N)],[some ⟨11,[.agg [.rop (probQ p) 0,iv n,iv m,.val (.slice none 0 0),.val (.slice none 0 0),.val (.slice none 0 0),.val (.slice none 0 0),.val (.slice none 0 0),.val (.slice none 0 0),.val (.slice none 0 0),.val (.slice none 0 0)]],false⟩,some ⟨1,zi N,false⟩,some ⟨1,zi N,false⟩,some ⟨4,zr N,false⟩]⟩
theorem frt20 (x:Ent) (M:Tab):Pl.there (some x::M) frp20=True:=by unfold frp20;simp [Pl.there,tget,frt4,frt19]
theorem fry20:∀j,∀k∈Pl.Y frp20 j,k=0:=by
 intro j k h
 unfold frp20 at h
 simp only [Pl.Y,List.mem_append,one] at h
 have y4:=fry4 j k
 have y19:=fry19 j k
 grind
def frs21 (p:Prob) (n m N:Nat):St:=⟨217,[(0,.rop (probQ p) 0),(3,.ptr 0 0 0),(4,iv N),(34,.ptr 0 0 0),(35,.ptr 0 0 0),(36,.ptr 0 0 0),(37,.ptr 0 0 0),(38,iv N),(40,iv N),(42,iv N),(44,iv N),(46,.ptr 0 0 0),(47,.ptr 0 0 6),(39,.view 1 0 N),(43,.view 2 0 N)],[some ⟨11,[.agg [.rop (probQ p) 0,iv n,iv m,.val (.slice none 0 0),.val (.slice none 0 0),.val (.slice none 0 0),.view 1 0 N,.val (.slice none 0 0),.val (.slice none 0 0),.val (.slice none 0 0),.val (.slice none 0 0)]],false⟩,some ⟨1,zi N,false⟩,some ⟨1,zi N,false⟩]⟩
theorem frt21 (x:Ent) (M:Tab):Pl.there (some x::M) frp21=True:=by unfold frp21;simp [Pl.there,tget,frt9,frt19]
theorem fry21:∀j,∀k∈Pl.Y frp21 j,k=0:=by
 intro j k h
 unfold frp21 at h
 simp only [Pl.Y,List.mem_append,one] at h
 have y9:=fry9 j k
 have y19:=fry19 j k
 grind
def frs22 (p:Prob) (n m N:Nat):St:=⟨217,[(0,.rop (probQ p) 0),(3,.ptr 0 0 0),(4,iv N),(34,.ptr 0 0 0),(35,.ptr 0 0 0),(36,.ptr 0 0 0),(37,.ptr 0 0 0),(38,iv N),(40,iv N),(42,iv N),(44,iv N),(46,.ptr 0 0 0),(47,.ptr 0 0 6),(39,.view 1 0 N),(43,.view 2 0 N)],[some ⟨11,[.agg [.rop (probQ p) 0,iv n,iv m,.val (.slice none 0 0),.val (.slice none 0 0),.val (.slice none 0 0),.val (.slice none 0 0),.val (.slice none 0 0),.val (.slice none 0 0),.val (.slice none 0 0),.val (.slice none 0 0)]],false⟩,some ⟨1,zi N,false⟩,some ⟨1,zi N,false⟩]⟩
theorem frt22 (x:Ent) (M:Tab):Pl.there (some x::M) frp22=True:=by unfold frp22;simp [Pl.there,tget,frt10,frt20,frt21]
theorem fry22:∀j,∀k∈Pl.Y frp22 j,k=0:=by
 intro j k h
 unfold frp22 at h
 simp only [Pl.Y,List.mem_append,one] at h
 have y10:=fry10 j k
 have y20:=fry20 j k
 have y21:=fry21 j k
 grind
def frs23 (p:Prob) (n m N:Nat):St:=⟨217,[(0,.rop (probQ p) 0),(3,.ptr 0 0 0),(4,iv N),(34,.ptr 0 0 0),(35,.ptr 0 0 0),(36,.ptr 0 0 0),(37,.ptr 0 0 0),(38,iv N),(40,iv N),(42,iv N),(44,iv N),(46,.ptr 0 0 0),(47,.ptr 0 0 6),(39,.view 1 0 N),(45,.view 2 0 N)],[some ⟨11,[.agg [.rop (probQ p) 0,iv n,iv m,.val (.slice none 0 0),.val (.slice none 0 0),.val (.slice none 0 0),.view 1 0 N,.val (.slice none 0 0),.val (.slice none 0 0),.val (.slice none 0 0),.val (.slice none 0 0)]],false⟩,some ⟨1,zi N,false⟩,some ⟨4,zr N,false⟩]⟩
theorem frt23 (x:Ent) (M:Tab):Pl.there (some x::M) frp23=True:=by unfold frp23;simp [Pl.there,tget,frt12,frt19]
theorem fry23:∀j,∀k∈Pl.Y frp23 j,k=0:=by
 intro j k h
 unfold frp23 at h
 simp only [Pl.Y,List.mem_append,one] at h
 have y12:=fry12 j k
 have y19:=fry19 j k
 grind
def frs24 (p:Prob) (n m N:Nat):St:=⟨217,[(0,.rop (probQ p) 0),(3,.ptr 0 0 0),(4,iv N),(34,.ptr 0 0 0),(35,.ptr 0 0 0),(36,.ptr 0 0 0),(37,.ptr 0 0 0),(38,iv N),(40,iv N),(42,iv N),(44,iv N),(46,.ptr 0 0 0),(47,.ptr 0 0 6),(39,.view 1 0 N),(45,.view 2 0 N)],[some ⟨11,[.agg [.rop (probQ p) 0,iv n,iv m,.val (.slice none 0 0),.val (.slice none 0 0),.val (.slice none 0 0),.val (.slice none 0 0),.val (.slice none 0 0),.val (.slice none 0 0),.val (.slice none 0 0),.val (.slice none 0 0)]],false⟩,some ⟨1,zi N,false⟩,some ⟨4,zr N,false⟩]⟩
theorem frt24 (x:Ent) (M:Tab):Pl.there (some x::M) frp24=True:=by unfold frp24;simp [Pl.there,tget,frt13,frt20,frt23]
theorem fry24:∀j,∀k∈Pl.Y frp24 j,k=0:=by
 intro j k h
 unfold frp24 at h
 simp only [Pl.Y,List.mem_append,one] at h
 have y13:=fry13 j k
 have y20:=fry20 j k
 have y23:=fry23 j k
 grind
def frs25 (p:Prob) (n m N:Nat):St:=⟨217,[(0,.rop (probQ p) 0),(3,.ptr 0 0 0),(4,iv N),(34,.ptr 0 0 0),(35,.ptr 0 0 0),(36,.ptr 0 0 0),(37,.ptr 0 0 0),(38,iv N),(40,iv N),(42,iv N),(44,iv N),(46,.ptr 0 0 0),(47,.ptr 0 0 6),(39,.view 1 0 N)],[some ⟨11,[.agg [.rop (probQ p) 0,iv n,iv m,.val (.slice none 0 0),.val (.slice none 0 0),.val (.slice none 0 0),.view 1 0 N,.val (.slice none 0 0),.val (.slice none 0 0),.val (.slice none 0 0),.val (.slice none 0 0)]],false⟩,some ⟨1,zi N,false⟩]⟩
theorem frt25 (x:Ent) (M:Tab):Pl.there (some x::M) frp25=True:=by unfold frp25;simp [Pl.there,tget,frt17,frt21,frt23]
theorem fry25:∀j,∀k∈Pl.Y frp25 j,k=0:=by
 intro j k h
 unfold frp25 at h
 simp only [Pl.Y,List.mem_append,one] at h
 have y17:=fry17 j k
 have y21:=fry21 j k
 have y23:=fry23 j k
 grind
def frs26 (p:Prob) (n m N:Nat):St:=⟨217,[(0,.rop (probQ p) 0),(3,.ptr 0 0 0),(4,iv N),(34,.ptr 0 0 0),(35,.ptr 0 0 0),(36,.ptr 0 0 0),(37,.ptr 0 0 0),(38,iv N),(40,iv N),(42,iv N),(44,iv N),(39,.view 1 0 N)],[some ⟨11,[.agg [.rop (probQ p) 0,iv n,iv m,.val (.slice none 0 0),.val (.slice none 0 0),.val (.slice none 0 0),.val (.slice none 0 0),.val (.slice none 0 0),.val (.slice none 0 0),.val (.slice none 0 0),.val (.slice none 0 0)]],false⟩,some ⟨1,zi N,false⟩]⟩
theorem frt26 (x:Ent) (M:Tab):Pl.there (some x::M) frp26=True:=by unfold frp26;simp [Pl.there,tget,frt18,frt22,frt24,frt25]
theorem fry26:∀j,∀k∈Pl.Y frp26 j,k=0:=by
 intro j k h
 unfold frp26 at h
 simp only [Pl.Y,List.mem_append,one] at h
 have y18:=fry18 j k
 have y22:=fry22 j k
 have y24:=fry24 j k
 have y25:=fry25 j k
 grind
def frs27 (p:Prob) (n m N:Nat):St:=⟨217,[(0,.rop (probQ p) 0),(3,.ptr 0 0 0),(4,iv N),(34,.ptr 0 0 0),(35,.ptr 0 0 0),(36,.ptr 0 0 0),(37,.ptr 0 0 0),(38,iv N),(40,iv N),(42,iv N),(44,iv N),(39,.view 1 0 N),(41,.view 2 0 N)],[some ⟨11,[.agg [.rop (probQ p) 0,iv n,iv m,.val (.slice none 0 0),.val (.slice none 0 0),.val (.slice none 0 0),.val (.slice none 0 0),.val (.slice none 0 0),.val (.slice none 0 0),.val (.slice none 0 0),.val (.slice none 0 0)]],false⟩,some ⟨1,zi N,false⟩,some ⟨4,zr N,false⟩]⟩
theorem frt27 (x:Ent) (M:Tab):Pl.there (some x::M) frp27=True:=by unfold frp27;simp [Pl.there,tget,frt10,frt13,frt17]
theorem fry27:∀j,∀k∈Pl.Y frp27 j,k=0:=by
 intro j k h
 unfold frp27 at h
 simp only [Pl.Y,List.mem_append,one] at h
 have y10:=fry10 j k
 have y13:=fry13 j k
 have y17:=fry17 j k
 grind
def frs28 (p:Prob) (n m N:Nat):St:=⟨217,[(0,.rop (probQ p) 0),(3,.ptr 0 0 0),(4,iv N),(34,.ptr 0 0 0),(35,.ptr 0 0 0),(36,.ptr 0 0 0),(37,.ptr 0 0 0),(38,iv N),(40,iv N),(42,iv N),(44,iv N),(39,.view 1 0 N),(41,.view 2 0 N),(43,.view 3 0 N)],[some ⟨11,[.agg [.rop (probQ p) 0,iv n,iv m,.val (.slice none 0 0),.val (.slice none 0 0),.val (.slice none 0 0),.val (.slice none 0 0),.val (.slice none 0 0),.val (.slice none 0 0),.val (.slice none 0 0),.val (.slice none 0 0)]],false⟩,some ⟨1,zi N,false⟩,some ⟨4,zr N,false⟩,some ⟨1,zi N,false⟩]⟩
theorem frt28 (x:Ent) (M:Tab):Pl.there (some x::M) frp28=True:=by unfold frp28;simp [Pl.there,tget,frt4,frt9]
theorem fry28:∀j,∀k∈Pl.Y frp28 j,k=0:=by
 intro j k h
 unfold frp28 at h
 simp only [Pl.Y,List.mem_append,one] at h
 have y4:=fry4 j k
 have y9:=fry9 j k
 grind
def frs29 (p:Prob) (n m N:Nat):St:=⟨217,[(0,.rop (probQ p) 0),(3,.ptr 0 0 0),(4,iv N),(34,.ptr 0 0 0),(35,.ptr 0 0 0),(36,.ptr 0 0 0),(37,.ptr 0 0 0),(38,iv N),(40,iv N),(42,iv N),(44,iv N),(39,.view 1 0 N),(41,.view 2 0 N),(43,.view 3 0 N),(45,.view 4 0 N)],[some ⟨11,[.agg [.rop (probQ p) 0,iv n,iv m,.val (.slice none 0 0),.val (.slice none 0 0),.val (.slice none 0 0),.val (.slice none 0 0),.val (.slice none 0 0),.val (.slice none 0 0),.val (.slice none 0 0),.val (.slice none 0 0)]],false⟩,some ⟨1,zi N,false⟩,some ⟨4,zr N,false⟩,some ⟨1,zi N,false⟩,some ⟨4,zr N,false⟩]⟩
theorem frt29 (x:Ent) (M:Tab):Pl.there (some x::M) frp29=True:=by unfold frp29;simp [Pl.there,tget,frt3]
theorem fry29:∀j,∀k∈Pl.Y frp29 j,k=0:=by
 intro j k h
 unfold frp29 at h
 simp only [Pl.Y,List.mem_append,one] at h
 have y3:=fry3 j k
 grind
def frs30 (p:Prob) (n m N:Nat):St:=⟨217,[(0,.rop (probQ p) 0),(3,.ptr 0 0 0),(4,iv N),(34,.ptr 0 0 0),(35,.ptr 0 0 0),(36,.ptr 0 0 0),(37,.ptr 0 0 0),(38,iv N),(40,iv N),(42,iv N),(44,iv N),(41,.view 1 0 N),(43,.view 2 0 N),(45,.view 3 0 N)],[some ⟨11,[.agg [.rop (probQ p) 0,iv n,iv m,.val (.slice none 0 0),.val (.slice none 0 0),.val (.slice none 0 0),.val (.slice none 0 0),.val (.slice none 0 0),.val (.slice none 0 0),.val (.slice none 0 0),.val (.slice none 0 0)]],false⟩,some ⟨4,zr N,false⟩,some ⟨1,zi N,false⟩,some ⟨4,zr N,false⟩]⟩
theorem frt30 (x:Ent) (M:Tab):Pl.there (some x::M) frp30=True:=by unfold frp30;simp [Pl.there,tget,frt29]
theorem fry30:∀j,∀k∈Pl.Y frp30 j,k=0:=by
 intro j k h
 unfold frp30 at h
 simp only [Pl.Y,List.mem_append,one] at h
 have y29:=fry29 j k
 grind
def frs31 (p:Prob) (n m N:Nat):St:=⟨217,[(0,.rop (probQ p) 0),(3,.ptr 0 0 0),(4,iv N),(34,.ptr 0 0 0),(35,.ptr 0 0 0),(36,.ptr 0 0 0),(37,.ptr 0 0 0),(38,iv N),(40,iv N),(42,iv N),(44,iv N),(41,.view 1 0 N),(43,.view 2 0 N)],[some ⟨11,[.agg [.rop (probQ p) 0,iv n,iv m,.val (.slice none 0 0),.val (.slice none 0 0),.val (.slice none 0 0),.val (.slice none 0 0),.val (.slice none 0 0),.val (.slice none 0 0),.val (.slice none 0 0),.val (.slice none 0 0)]],false⟩,some ⟨4,zr N,false⟩,some ⟨1,zi N,false⟩]⟩
theorem frt31 (x:Ent) (M:Tab):Pl.there (some x::M) frp31=True:=by unfold frp31;simp [Pl.there,tget,frt28,frt30]
theorem fry31:∀j,∀k∈Pl.Y frp31 j,k=0:=by
 intro j k h
 unfold frp31 at h
 simp only [Pl.Y,List.mem_append,one] at h
 have y28:=fry28 j k
 have y30:=fry30 j k
 grind
def frs32 (p:Prob) (n m N:Nat):St:=⟨217,[(0,.rop (probQ p) 0),(3,.ptr 0 0 0),(4,iv N),(34,.ptr 0 0 0),(35,.ptr 0 0 0),(36,.ptr 0 0 0),(37,.ptr 0 0 0),(38,iv N),(40,iv N),(42,iv N),(44,iv N),(39,.view 1 0 N),(41,.view 2 0 N),(45,.view 3 0 N)],[some ⟨11,[.agg [.rop (probQ p) 0,iv n,iv m,.val (.slice none 0 0),.val (.slice none 0 0),.val (.slice none 0 0),.val (.slice none 0 0),.val (.slice none 0 0),.val (.slice none 0 0),.val (.slice none 0 0),.val (.slice none 0 0)]],false⟩,some ⟨1,zi N,false⟩,some ⟨4,zr N,false⟩,some ⟨4,zr N,false⟩]⟩
theorem frt32 (x:Ent) (M:Tab):Pl.there (some x::M) frp32=True:=by unfold frp32;simp [Pl.there,tget,frt4,frt12]
theorem fry32:∀j,∀k∈Pl.Y frp32 j,k=0:=by
 intro j k h
 unfold frp32 at h
 simp only [Pl.Y,List.mem_append,one] at h
 have y4:=fry4 j k
 have y12:=fry12 j k
 grind
def frs33 (p:Prob) (n m N:Nat):St:=⟨217,[(0,.rop (probQ p) 0),(3,.ptr 0 0 0),(4,iv N),(34,.ptr 0 0 0),(35,.ptr 0 0 0),(36,.ptr 0 0 0),(37,.ptr 0 0 0),(38,iv N),(40,iv N),(42,iv N),(44,iv N),(41,.view 1 0 N),(45,.view 2 0 N)],[some ⟨11,[.agg [.rop (probQ p) 0,iv n,iv m,.val (.slice none 0 0),.val (.slice none 0 0),.val (.slice none 0 0),.val (.slice none 0 0),.val (.slice none 0 0),.val (.slice none 0 0),.val (.slice none 0 0),.val (.slice none 0 0)]],false⟩,some ⟨4,zr N,false⟩,some ⟨4,zr N,false⟩]⟩
theorem frt33 (x:Ent) (M:Tab):Pl.there (some x::M) frp33=True:=by unfold frp33;simp [Pl.there,tget,frt32,frt30]
theorem fry33:∀j,∀k∈Pl.Y frp33 j,k=0:=by
 intro j k h
 unfold frp33 at h
 simp only [Pl.Y,List.mem_append,one] at h
 have y32:=fry32 j k
 have y30:=fry30 j k
 grind
def frs34 (p:Prob) (n m N:Nat):St:=⟨217,[(0,.rop (probQ p) 0),(3,.ptr 0 0 0),(4,iv N),(34,.ptr 0 0 0),(35,.ptr 0 0 0),(36,.ptr 0 0 0),(37,.ptr 0 0 0),(38,iv N),(40,iv N),(42,iv N),(44,iv N),(41,.view 1 0 N)],[some ⟨11,[.agg [.rop (probQ p) 0,iv n,iv m,.val (.slice none 0 0),.val (.slice none 0 0),.val (.slice none 0 0),.val (.slice none 0 0),.val (.slice none 0 0),.val (.slice none 0 0),.val (.slice none 0 0),.val (.slice none 0 0)]],false⟩,some ⟨4,zr N,false⟩]⟩
theorem frt34 (x:Ent) (M:Tab):Pl.there (some x::M) frp34=True:=by unfold frp34;simp [Pl.there,tget,frt27,frt31,frt33]
theorem fry34:∀j,∀k∈Pl.Y frp34 j,k=0:=by
 intro j k h
 unfold frp34 at h
 simp only [Pl.Y,List.mem_append,one] at h
 have y27:=fry27 j k
 have y31:=fry31 j k
 have y33:=fry33 j k
 grind
def frs35 (p:Prob) (n m N:Nat):St:=⟨217,[(0,.rop (probQ p) 0),(3,.ptr 0 0 0),(4,iv N),(34,.ptr 0 0 0),(35,.ptr 0 0 0),(36,.ptr 0 0 0),(37,.ptr 0 0 0),(38,iv N),(40,iv N),(42,iv N),(44,iv N),(39,.view 1 0 N),(43,.view 2 0 N)],[some ⟨11,[.agg [.rop (probQ p) 0,iv n,iv m,.val (.slice none 0 0),.val (.slice none 0 0),.val (.slice none 0 0),.val (.slice none 0 0),.val (.slice none 0 0),.val (.slice none 0 0),.val (.slice none 0 0),.val (.slice none 0 0)]],false⟩,some ⟨1,zi N,false⟩,some ⟨1,zi N,false⟩]⟩
theorem frt35 (x:Ent) (M:Tab):Pl.there (some x::M) frp35=True:=by unfold frp35;simp [Pl.there,tget,frt10,frt20,frt21]
theorem fry35:∀j,∀k∈Pl.Y frp35 j,k=0:=by
 intro j k h
 unfold frp35 at h
 simp only [Pl.Y,List.mem_append,one] at h
 have y10:=fry10 j k
 have y20:=fry20 j k
 have y21:=fry21 j k
 grind
def frs36 (p:Prob) (n m N:Nat):St:=⟨217,[(0,.rop (probQ p) 0),(3,.ptr 0 0 0),(4,iv N),(34,.ptr 0 0 0),(35,.ptr 0 0 0),(36,.ptr 0 0 0),(37,.ptr 0 0 0),(38,iv N),(40,iv N),(42,iv N),(44,iv N),(39,.view 1 0 N),(43,.view 2 0 N),(45,.view 3 0 N)],[some ⟨11,[.agg [.rop (probQ p) 0,iv n,iv m,.val (.slice none 0 0),.val (.slice none 0 0),.val (.slice none 0 0),.val (.slice none 0 0),.val (.slice none 0 0),.val (.slice none 0 0),.val (.slice none 0 0),.val (.slice none 0 0)]],false⟩,some ⟨1,zi N,false⟩,some ⟨1,zi N,false⟩,some ⟨4,zr N,false⟩]⟩
theorem frt36 (x:Ent) (M:Tab):Pl.there (some x::M) frp36=True:=by unfold frp36;simp [Pl.there,tget,frt4,frt19]
theorem fry36:∀j,∀k∈Pl.Y frp36 j,k=0:=by
 intro j k h
 unfold frp36 at h
 simp only [Pl.Y,List.mem_append,one] at h
 have y4:=fry4 j k
 have y19:=fry19 j k
 grind
def frs37 (p:Prob) (n m N:Nat):St:=⟨217,[(0,.rop (probQ p) 0),(3,.ptr 0 0 0),(4,iv N),(34,.ptr 0 0 0),(35,.ptr 0 0 0),(36,.ptr 0 0 0),(37,.ptr 0 0 0),(38,iv N),(40,iv N),(42,iv N),(44,iv N),(43,.view 1 0 N),(45,.view 2 0 N)],[some ⟨11,[.agg [.rop (probQ p) 0,iv n,iv m,.val (.slice none 0 0),.val (.slice none 0 0),.val (.slice none 0 0),.val (.slice none 0 0),.val (.slice none 0 0),.val (.slice none 0 0),.val (.slice none 0 0),.val (.slice none 0 0)]],false⟩,some ⟨1,zi N,false⟩,some ⟨4,zr N,false⟩]⟩
theorem frt37 (x:Ent) (M:Tab):Pl.there (some x::M) frp37=True:=by unfold frp37;simp [Pl.there,tget,frt36,frt30]
theorem fry37:∀j,∀k∈Pl.Y frp37 j,k=0:=by
 intro j k h
 unfold frp37 at h
 simp only [Pl.Y,List.mem_append,one] at h
 have y36:=fry36 j k
 have y30:=fry30 j k
 grind
def frs38 (p:Prob) (n m N:Nat):St:=⟨217,[(0,.rop (probQ p) 0),(3,.ptr 0 0 0),(4,iv N),(34,.ptr 0 0 0),(35,.ptr 0 0 0),(36,.ptr 0 0 0),(37,.ptr 0 0 0),(38,iv N),(40,iv N),(42,iv N),(44,iv N),(43,.view 1 0 N)],[some ⟨11,[.agg [.rop (probQ p) 0,iv n,iv m,.val (.slice none 0 0),.val (.slice none 0 0),.val (.slice none 0 0),.val (.slice none 0 0),.val (.slice none 0 0),.val (.slice none 0 0),.val (.slice none 0 0),.val (.slice none 0 0)]],false⟩,some ⟨1,zi N,false⟩]⟩
theorem frt38 (x:Ent) (M:Tab):Pl.there (some x::M) frp38=True:=by unfold frp38;simp [Pl.there,tget,frt35,frt31,frt37]
theorem fry38:∀j,∀k∈Pl.Y frp38 j,k=0:=by
 intro j k h
 unfold frp38 at h
 simp only [Pl.Y,List.mem_append,one] at h
 have y35:=fry35 j k
 have y31:=fry31 j k
 have y37:=fry37 j k
 grind
def frs39 (p:Prob) (n m N:Nat):St:=⟨217,[(0,.rop (probQ p) 0),(3,.ptr 0 0 0),(4,iv N),(34,.ptr 0 0 0),(35,.ptr 0 0 0),(36,.ptr 0 0 0),(37,.ptr 0 0 0),(38,iv N),(40,iv N),(42,iv N),(44,iv N),(39,.view 1 0 N),(45,.view 2 0 N)],[some ⟨11,[.agg [.rop (probQ p) 0,iv n,iv m,.val (.slice none 0 0),.val (.slice none 0 0),.val (.slice none 0 0),.val (.slice none 0 0),.val (.slice none 0 0),.val (.slice none 0 0),.val (.slice none 0 0),.val (.slice none 0 0)]],false⟩,some ⟨1,zi N,false⟩,some ⟨4,zr N,false⟩]⟩
theorem frt39 (x:Ent) (M:Tab):Pl.there (some x::M) frp39=True:=by unfold frp39;simp [Pl.there,tget,frt13,frt20,frt23]
theorem fry39:∀j,∀k∈Pl.Y frp39 j,k=0:=by
 intro j k h
 unfold frp39 at h
 simp only [Pl.Y,List.mem_append,one] at h
 have y13:=fry13 j k
 have y20:=fry20 j k
 have y23:=fry23 j k
 grind
def frs40 (p:Prob) (n m N:Nat):St:=⟨217,[(0,.rop (probQ p) 0),(3,.ptr 0 0 0),(4,iv N),(34,.ptr 0 0 0),(35,.ptr 0 0 0),(36,.ptr 0 0 0),(37,.ptr 0 0 0),(38,iv N),(40,iv N),(42,iv N),(44,iv N),(45,.view 1 0 N)],[some ⟨11,[.agg [.rop (probQ p) 0,iv n,iv m,.val (.slice none 0 0),.val (.slice none 0 0),.val (.slice none 0 0),.val (.slice none 0 0),.val (.slice none 0 0),.val (.slice none 0 0),.val (.slice none 0 0),.val (.slice none 0 0)]],false⟩,some ⟨4,zr N,false⟩]⟩
theorem frt40 (x:Ent) (M:Tab):Pl.there (some x::M) frp40=True:=by unfold frp40;simp [Pl.there,tget,frt39,frt33,frt37]
theorem fry40:∀j,∀k∈Pl.Y frp40 j,k=0:=by
 intro j k h
 unfold frp40 at h
 simp only [Pl.Y,List.mem_append,one] at h
 have y39:=fry39 j k
 have y33:=fry33 j k
 have y37:=fry37 j k
 grind
def frs41 (p:Prob) (n m N:Nat):St:=⟨217,[(0,.rop (probQ p) 0),(3,.ptr 0 0 0),(4,iv N)],[some ⟨11,[.agg [.rop (probQ p) 0,iv n,iv m,.val (.slice none 0 0),.val (.slice none 0 0),.val (.slice none 0 0),.val (.slice none 0 0),.val (.slice none 0 0),.val (.slice none 0 0),.val (.slice none 0 0),.val (.slice none 0 0)]],false⟩]⟩
theorem frn0 (p:Prob) (n m N:Nat) {C:Ctx} (hC:C.fx=[]) {R:Post} (hp:∀c st,¬R (.panic c) st) (hN:N≤14) (hR:R .normal (frs0 p n m N)):PlJ Tryz.prog C frops frp0 (frs0 p n m N) R:=by
 exact PlJ.nilI hR
theorem frn1 (p:Prob) (n m N:Nat) {C:Ctx} (hC:C.fx=[]) {R:Post} (hp:∀c st,¬R (.panic c) st) (hN:N≤14) (hR:R .normal (frs0 p n m N)):PlJ Tryz.prog C frops frp1 (frs1 p n m N) R:=by
 unfold frp1 frs1 frops
 simp only [freshBody,Tryz.f77,Option.getD_some,dropC_succ,dropC_zero,r3]
 refine PlJ.qO rfl hp ?_
 simp (disch:=omega)
 refine PlJ.qO rfl hp ?_
 simp (disch:=omega)
 refine PlJ.lO rfl ?_
 simp (disch:=omega) [frt0]
 repeat (refine And.intro (by omega) ?_)
 exact PlJ.permL hC [0,1,2,3,4] (st':=frs0 p n m N) (by decide) rfl rfl rfl (by simp [frs0,pmL,zi,zr,renL_ri,renL_rr]) (by simp [frs0,pmL,leF,Go.Sv.get]) (fun j k h=>by rw [fry0 j k h];rfl) (frn0 p n m N hC hp hN hR)
theorem frn2 (p:Prob) (n m N:Nat) {C:Ctx} (hC:C.fx=[]) {R:Post} (hp:∀c st,¬R (.panic c) st) (hN:N≤14) (hR:R .normal (frs0 p n m N)):PlJ Tryz.prog C frops frp2 (frs2 p n m N) R:=by
 unfold frp2 frs2 frops
 simp only [freshBody,Tryz.f77,Option.getD_some,dropC_succ,dropC_zero,r3]
 refine PlJ.qO rfl hp ?_
 simp (disch:=omega)
 refine PlJ.qO rfl hp ?_
 simp (disch:=omega)
 refine PlJ.lO rfl ?_
 simp (disch:=omega) [frt1]
 repeat (refine And.intro (by omega) ?_)
 exact PlJ.permL hC [0,1,2,3,4] (st':=frs1 p n m N) (by decide) rfl rfl rfl (by simp [frs1,pmL,zi,zr,renL_ri,renL_rr]) (by simp [frs1,pmL,leF,Go.Sv.get]) (fun j k h=>by rw [fry1 j k h];rfl) (frn1 p n m N hC hp hN hR)
theorem frn3 (p:Prob) (n m N:Nat) {C:Ctx} (hC:C.fx=[]) {R:Post} (hp:∀c st,¬R (.panic c) st) (hN:N≤14) (hR:R .normal (frs0 p n m N)):PlJ Tryz.prog C frops frp3 (frs3 p n m N) R:=by
 unfold frp3 frs3 frops
 simp only [freshBody,Tryz.f77,Option.getD_some,dropC_succ,dropC_zero,r3]
 refine PlJ.qO rfl hp ?_
 simp (disch:=omega)
 refine PlJ.qO rfl hp ?_
 simp (disch:=omega)
 refine PlJ.lO rfl ?_
 simp (disch:=omega) [frt2]
 repeat (refine And.intro (by omega) ?_)
 exact PlJ.permL hC [0,1,2,3,4] (st':=frs2 p n m N) (by decide) rfl rfl rfl (by simp [frs2,pmL,zi,zr,renL_ri,renL_rr]) (by simp [frs2,pmL,leF,Go.Sv.get]) (fun j k h=>by rw [fry2 j k h];rfl) (frn2 p n m N hC hp hN hR)
theorem frn4 (p:Prob) (n m N:Nat) {C:Ctx} (hC:C.fx=[]) {R:Post} (hp:∀c st,¬R (.panic c) st) (hN:N≤14) (hR:R .normal (frs0 p n m N)):PlJ Tryz.prog C frops frp4 (frs4 p n m N) R:=by
 unfold frp4 frs4 frops
 simp only [freshBody,Tryz.f77,Option.getD_some,dropC_succ,dropC_zero,r3]
 refine PlJ.lO rfl ?_
 simp (disch:=omega) [frt3]
 repeat (refine And.intro (by omega) ?_)
 exact PlJ.permL hC [0,1,2,3,4] (st':=frs3 p n m N) (by decide) rfl rfl rfl (by simp [frs3,pmL,zi,zr,renL_ri,renL_rr]) (by simp [frs3,pmL,leF,Go.Sv.get]) (fun j k h=>by rw [fry3 j k h];rfl) (frn3 p n m N hC hp hN hR)
theorem frn5 (p:Prob) (n m N:Nat) {C:Ctx} (hC:C.fx=[]) {R:Post} (hp:∀c st,¬R (.panic c) st) (hN:N≤14) (hR:R .normal (frs0 p n m N)):PlJ Tryz.prog C frops frp5 (frs5 p n m N) R:=by
 unfold frp5 frs5 frops
 simp only [freshBody,Tryz.f77,Option.getD_some,dropC_succ,dropC_zero,r3]
 refine PlJ.lO rfl ?_
 simp (disch:=omega) [frt2]
 repeat (refine And.intro (by omega) ?_)
 exact PlJ.permL hC [0,1,2,3,4] (st':=frs2 p n m N) (by decide) rfl rfl rfl (by simp [frs2,pmL,zi,zr,renL_ri,renL_rr]) (by simp [frs2,pmL,leF,Go.Sv.get]) (fun j k h=>by rw [fry2 j k h];rfl) (frn2 p n m N hC hp hN hR)
theorem frn6 (p:Prob) (n m N:Nat) {C:Ctx} (hC:C.fx=[]) {R:Post} (hp:∀c st,¬R (.panic c) st) (hN:N≤14) (hR:R .normal (frs0 p n m N)):PlJ Tryz.prog C frops frp6 (frs6 p n m N) R:=by
 unfold frp6 frs6 frops
 simp only [freshBody,Tryz.f77,Option.getD_some,dropC_succ,dropC_zero,r3]
 refine PlJ.lO rfl ?_
 simp (disch:=omega) [frt1]
 repeat (refine And.intro (by omega) ?_)
 exact PlJ.permL hC [0,1,2,3,4] (st':=frs1 p n m N) (by decide) rfl rfl rfl (by simp [frs1,pmL,zi,zr,renL_ri,renL_rr]) (by simp [frs1,pmL,leF,Go.Sv.get]) (fun j k h=>by rw [fry1 j k h];rfl) (frn1 p n m N hC hp hN hR)
theorem frn7 (p:Prob) (n m N:Nat) {C:Ctx} (hC:C.fx=[]) {R:Post} (hp:∀c st,¬R (.panic c) st) (hN:N≤14) (hR:R .normal (frs0 p n m N)):PlJ Tryz.prog C frops frp7 (frs7 p n m N) R:=by
 unfold frp7 frs7 frops
 simp only [freshBody,Tryz.f77,Option.getD_some,dropC_succ,dropC_zero,r3]
 refine PlJ.lO rfl ?_
 simp (disch:=omega) [frt1]
 repeat (refine And.intro (by omega) ?_)
 exact PlJ.permL hC [0,1,2,3,4] (st':=frs1 p n m N) (by decide) rfl rfl rfl (by simp [frs1,pmL,zi,zr,renL_ri,renL_rr]) (by simp [frs1,pmL,leF,Go.Sv.get]) (fun j k h=>by rw [fry1 j k h];rfl) (frn1 p n m N hC hp hN hR)
theorem frn8 (p:Prob) (n m N:Nat) {C:Ctx} (hC:C.fx=[]) {R:Post} (hp:∀c st,¬R (.panic c) st) (hN:N≤14) (hR:R .normal (frs0 p n m N)):PlJ Tryz.prog C frops frp8 (frs8 p n m N) R:=by
 unfold frp8 frs8 frops
 simp only [freshBody,Tryz.f77,Option.getD_some,dropC_succ,dropC_zero,r3]
 refine PlJ.qO rfl hp ?_
 simp (disch:=omega)
 refine PlJ.qO rfl hp ?_
 simp (disch:=omega)
 refine PlJ.altI ?_
 refine AltJ.consO rfl ?_ ?_
 ·simp (disch:=omega) [frt6]
  repeat (refine And.intro (by omega) ?_)
  exact PlJ.permL hC [0,1,2,3,4] (st':=frs6 p n m N) (by decide) rfl rfl rfl (by simp [frs6,pmL,zi,zr,renL_ri,renL_rr]) (by simp [frs6,pmL,leF,Go.Sv.get]) (fun j k h=>by rw [fry6 j k h];rfl) (frn6 p n m N hC hp hN hR)
 refine AltJ.consO rfl ?_ ?_
 ·simp (disch:=omega) [frt7]
  repeat (refine And.intro (by omega) ?_)
  exact PlJ.permL hC [0,1,2,3] (st':=frs7 p n m N) (by decide) rfl rfl rfl (by simp [frs7,pmL,zi,zr,renL_ri,renL_rr]) (by simp [frs7,pmL,leF,Go.Sv.get]) (fun j k h=>by rw [fry7 j k h];rfl) (frn7 p n m N hC hp hN hR)
 exact AltJ.stop
theorem frn9 (p:Prob) (n m N:Nat) {C:Ctx} (hC:C.fx=[]) {R:Post} (hp:∀c st,¬R (.panic c) st) (hN:N≤14) (hR:R .normal (frs0 p n m N)):PlJ Tryz.prog C frops frp9 (frs9 p n m N) R:=by
 unfold frp9 frs9 frops
 simp only [freshBody,Tryz.f77,Option.getD_some,dropC_succ,dropC_zero,r3]
 refine PlJ.qO rfl hp ?_
 simp (disch:=omega)
 refine PlJ.qO rfl hp ?_
 simp (disch:=omega)
 refine PlJ.altI ?_
 refine AltJ.consO rfl ?_ ?_
 ·simp (disch:=omega) [frt5]
  repeat (refine And.intro (by omega) ?_)
  exact PlJ.permL hC [0,1,2,3,4] (st':=frs5 p n m N) (by decide) rfl rfl rfl (by simp [frs5,pmL,zi,zr,renL_ri,renL_rr]) (by simp [frs5,pmL,leF,Go.Sv.get]) (fun j k h=>by rw [fry5 j k h];rfl) (frn5 p n m N hC hp hN hR)
 refine AltJ.consO rfl ?_ ?_
 ·simp (disch:=omega) [frt8]
  repeat (refine And.intro (by omega) ?_)
  exact PlJ.permL hC [0,1,2,3] (st':=frs8 p n m N) (by decide) rfl rfl rfl (by simp [frs8,pmL,zi,zr,renL_ri,renL_rr]) (by simp [frs8,pmL,leF,Go.Sv.get]) (fun j k h=>by rw [fry8 j k h];rfl) (frn8 p n m N hC hp hN hR)
 exact AltJ.stop
theorem frn10 (p:Prob) (n m N:Nat) {C:Ctx} (hC:C.fx=[]) {R:Post} (hp:∀c st,¬R (.panic c) st) (hN:N≤14) (hR:R .normal (frs0 p n m N)):PlJ Tryz.prog C frops frp10 (frs10 p n m N) R:=by
 unfold frp10 frs10 frops
 simp only [freshBody,Tryz.f77,Option.getD_some,dropC_succ,dropC_zero,r3]
 refine PlJ.altI ?_
 refine AltJ.consO rfl ?_ ?_
 ·simp (disch:=omega) [frt4]
  repeat (refine And.intro (by omega) ?_)
  exact PlJ.permL hC [0,1,2,3,4] (st':=frs4 p n m N) (by decide) rfl rfl rfl (by simp [frs4,pmL,zi,zr,renL_ri,renL_rr]) (by simp [frs4,pmL,leF,Go.Sv.get]) (fun j k h=>by rw [fry4 j k h];rfl) (frn4 p n m N hC hp hN hR)
 refine AltJ.consO rfl ?_ ?_
 ·simp (disch:=omega) [frt9]
  repeat (refine And.intro (by omega) ?_)
  exact PlJ.permL hC [0,1,2,3] (st':=frs9 p n m N) (by decide) rfl rfl rfl (by simp [frs9,pmL,zi,zr,renL_ri,renL_rr]) (by simp [frs9,pmL,leF,Go.Sv.get]) (fun j k h=>by rw [fry9 j k h];rfl) (frn9 p n m N hC hp hN hR)
 exact AltJ.stop
theorem frn11 (p:Prob) (n m N:Nat) {C:Ctx} (hC:C.fx=[]) {R:Post} (hp:∀c st,¬R (.panic c) st) (hN:N≤14) (hR:R .normal (frs0 p n m N)):PlJ Tryz.prog C frops frp11 (frs11 p n m N) R:=by
 unfold frp11 frs11 frops
 simp only [freshBody,Tryz.f77,Option.getD_some,dropC_succ,dropC_zero,r3]
 refine PlJ.lO rfl ?_
 simp (disch:=omega) [frt2]
 repeat (refine And.intro (by omega) ?_)
 exact PlJ.permL hC [0,1,2,4,3] (st':=frs2 p n m N) (by decide) rfl rfl rfl (by simp [frs2,pmL,zi,zr,renL_ri,renL_rr]) (by simp [frs2,pmL,leF,Go.Sv.get]) (fun j k h=>by rw [fry2 j k h];rfl) (frn2 p n m N hC hp hN hR)
theorem frn12 (p:Prob) (n m N:Nat) {C:Ctx} (hC:C.fx=[]) {R:Post} (hp:∀c st,¬R (.panic c) st) (hN:N≤14) (hR:R .normal (frs0 p n m N)):PlJ Tryz.prog C frops frp12 (frs12 p n m N) R:=by
 unfold frp12 frs12 frops
 simp only [freshBody,Tryz.f77,Option.getD_some,dropC_succ,dropC_zero,r3]
 refine PlJ.qO rfl hp ?_
 simp (disch:=omega)
 refine PlJ.qO rfl hp ?_
 simp (disch:=omega)
 refine PlJ.altI ?_
 refine AltJ.consO rfl ?_ ?_
 ·simp (disch:=omega) [frt5]
  repeat (refine And.intro (by omega) ?_)
  exact PlJ.permL hC [0,1,2,4,3] (st':=frs5 p n m N) (by decide) rfl rfl rfl (by simp [frs5,pmL,zi,zr,renL_ri,renL_rr]) (by simp [frs5,pmL,leF,Go.Sv.get]) (fun j k h=>by rw [fry5 j k h];rfl) (frn5 p n m N hC hp hN hR)
 refine AltJ.consO rfl ?_ ?_
 ·simp (disch:=omega) [frt11]
  repeat (refine And.intro (by omega) ?_)
  exact PlJ.permL hC [0,1,2,3] (st':=frs11 p n m N) (by decide) rfl rfl rfl (by simp [frs11,pmL,zi,zr,renL_ri,renL_rr]) (by simp [frs11,pmL,leF,Go.Sv.get]) (fun j k h=>by rw [fry11 j k h];rfl) (frn11 p n m N hC hp hN hR)
 exact AltJ.stop
theorem frn13 (p:Prob) (n m N:Nat) {C:Ctx} (hC:C.fx=[]) {R:Post} (hp:∀c st,¬R (.panic c) st) (hN:N≤14) (hR:R .normal (frs0 p n m N)):PlJ Tryz.prog C frops frp13 (frs13 p n m N) R:=by
 unfold frp13 frs13 frops
 simp only [freshBody,Tryz.f77,Option.getD_some,dropC_succ,dropC_zero,r3]
 refine PlJ.altI ?_
 refine AltJ.consO rfl ?_ ?_
 ·simp (disch:=omega) [frt4]
  repeat (refine And.intro (by omega) ?_)
  exact PlJ.permL hC [0,1,2,4,3] (st':=frs4 p n m N) (by decide) rfl rfl rfl (by simp [frs4,pmL,zi,zr,renL_ri,renL_rr]) (by simp [frs4,pmL,leF,Go.Sv.get]) (fun j k h=>by rw [fry4 j k h];rfl) (frn4 p n m N hC hp hN hR)
 refine AltJ.consO rfl ?_ ?_
 ·simp (disch:=omega) [frt12]
  repeat (refine And.intro (by omega) ?_)
  exact PlJ.permL hC [0,1,2,3] (st':=frs12 p n m N) (by decide) rfl rfl rfl (by simp [frs12,pmL,zi,zr,renL_ri,renL_rr]) (by simp [frs12,pmL,leF,Go.Sv.get]) (fun j k h=>by rw [fry12 j k h];rfl) (frn12 p n m N hC hp hN hR)
 exact AltJ.stop
theorem frn14 (p:Prob) (n m N:Nat) {C:Ctx} (hC:C.fx=[]) {R:Post} (hp:∀c st,¬R (.panic c) st) (hN:N≤14) (hR:R .normal (frs0 p n m N)):PlJ Tryz.prog C frops frp14 (frs14 p n m N) R:=by
 unfold frp14 frs14 frops
 simp only [freshBody,Tryz.f77,Option.getD_some,dropC_succ,dropC_zero,r3]
 refine PlJ.altI ?_
 refine AltJ.consO rfl ?_ ?_
 ·simp (disch:=omega) [frt5]
  repeat (refine And.intro (by omega) ?_)
  exact PlJ.permL hC [0,1,2,3,4] (st':=frs5 p n m N) (by decide) rfl rfl rfl (by simp [frs5,pmL,zi,zr,renL_ri,renL_rr]) (by simp [frs5,pmL,leF,Go.Sv.get]) (fun j k h=>by rw [fry5 j k h];rfl) (frn5 p n m N hC hp hN hR)
 refine AltJ.consO rfl ?_ ?_
 ·simp (disch:=omega) [frt8]
  repeat (refine And.intro (by omega) ?_)
  exact PlJ.permL hC [0,1,2,3] (st':=frs8 p n m N) (by decide) rfl rfl rfl (by simp [frs8,pmL,zi,zr,renL_ri,renL_rr]) (by simp [frs8,pmL,leF,Go.Sv.get]) (fun j k h=>by rw [fry8 j k h];rfl) (frn8 p n m N hC hp hN hR)
 exact AltJ.stop
theorem frn15 (p:Prob) (n m N:Nat) {C:Ctx} (hC:C.fx=[]) {R:Post} (hp:∀c st,¬R (.panic c) st) (hN:N≤14) (hR:R .normal (frs0 p n m N)):PlJ Tryz.prog C frops frp15 (frs15 p n m N) R:=by
 unfold frp15 frs15 frops
 simp only [freshBody,Tryz.f77,Option.getD_some,dropC_succ,dropC_zero,r3]
 refine PlJ.altI ?_
 refine AltJ.consO rfl ?_ ?_
 ·simp (disch:=omega) [frt5]
  repeat (refine And.intro (by omega) ?_)
  exact PlJ.permL hC [0,1,2,4,3] (st':=frs5 p n m N) (by decide) rfl rfl rfl (by simp [frs5,pmL,zi,zr,renL_ri,renL_rr]) (by simp [frs5,pmL,leF,Go.Sv.get]) (fun j k h=>by rw [fry5 j k h];rfl) (frn5 p n m N hC hp hN hR)
 refine AltJ.consO rfl ?_ ?_
 ·simp (disch:=omega) [frt11]
  repeat (refine And.intro (by omega) ?_)
  exact PlJ.permL hC [0,1,2,3] (st':=frs11 p n m N) (by decide) rfl rfl rfl (by simp [frs11,pmL,zi,zr,renL_ri,renL_rr]) (by simp [frs11,pmL,leF,Go.Sv.get]) (fun j k h=>by rw [fry11 j k h];rfl) (frn11 p n m N hC hp hN hR)
 exact AltJ.stop
theorem frn16 (p:Prob) (n m N:Nat) {C:Ctx} (hC:C.fx=[]) {R:Post} (hp:∀c st,¬R (.panic c) st) (hN:N≤14) (hR:R .normal (frs0 p n m N)):PlJ Tryz.prog C frops frp16 (frs16 p n m N) R:=by
 unfold frp16 frs16 frops
 simp only [freshBody,Tryz.f77,Option.getD_some,dropC_succ,dropC_zero,r3]
 refine PlJ.altI ?_
 refine AltJ.consO rfl ?_ ?_
 ·simp (disch:=omega) [frt8]
  repeat (refine And.intro (by omega) ?_)
  exact PlJ.permL hC [0,1,2,3] (st':=frs8 p n m N) (by decide) rfl rfl rfl (by simp [frs8,pmL,zi,zr,renL_ri,renL_rr]) (by simp [frs8,pmL,leF,Go.Sv.get]) (fun j k h=>by rw [fry8 j k h];rfl) (frn8 p n m N hC hp hN hR)
 refine AltJ.consO rfl ?_ ?_
 ·simp (disch:=omega) [frt11]
  repeat (refine And.intro (by omega) ?_)
  exact PlJ.permL hC [0,1,2,3] (st':=frs11 p n m N) (by decide) rfl rfl rfl (by simp [frs11,pmL,zi,zr,renL_ri,renL_rr]) (by simp [frs11,pmL,leF,Go.Sv.get]) (fun j k h=>by rw [fry11 j k h];rfl) (frn11 p n m N hC hp hN hR)
 exact AltJ.stop
theorem frn17 (p:Prob) (n m N:Nat) {C:Ctx} (hC:C.fx=[]) {R:Post} (hp:∀c st,¬R (.panic c) st) (hN:N≤14) (hR:R .normal (frs0 p n m N)):PlJ Tryz.prog C frops frp17 (frs17 p n m N) R:=by
 unfold frp17 frs17 frops
 simp only [freshBody,Tryz.f77,Option.getD_some,dropC_succ,dropC_zero,r3]
 refine PlJ.qO rfl hp ?_
 simp (disch:=omega)
 refine PlJ.qO rfl hp ?_
 simp (disch:=omega)
 refine PlJ.altI ?_
 refine AltJ.consO rfl ?_ ?_
 ·simp (disch:=omega) [frt14]
  repeat (refine And.intro (by omega) ?_)
  exact PlJ.permL hC [0,1,2,3] (st':=frs14 p n m N) (by decide) rfl rfl rfl (by simp [frs14,pmL,zi,zr,renL_ri,renL_rr]) (by simp [frs14,pmL,leF,Go.Sv.get]) (fun j k h=>by rw [fry14 j k h];rfl) (frn14 p n m N hC hp hN hR)
 refine AltJ.consO rfl ?_ ?_
 ·simp (disch:=omega) [frt15]
  repeat (refine And.intro (by omega) ?_)
  exact PlJ.permL hC [0,1,2,3] (st':=frs15 p n m N) (by decide) rfl rfl rfl (by simp [frs15,pmL,zi,zr,renL_ri,renL_rr]) (by simp [frs15,pmL,leF,Go.Sv.get]) (fun j k h=>by rw [fry15 j k h];rfl) (frn15 p n m N hC hp hN hR)
 refine AltJ.consO rfl ?_ ?_
 ·simp (disch:=omega) [frt16]
  repeat (refine And.intro (by omega) ?_)
  exact PlJ.permL hC [0,1,2] (st':=frs16 p n m N) (by decide) rfl rfl rfl (by simp [frs16,pmL,zi,zr,renL_ri,renL_rr]) (by simp [frs16,pmL,leF,Go.Sv.get]) (fun j k h=>by rw [fry16 j k h];rfl) (frn16 p n m N hC hp hN hR)
 exact AltJ.stop
theorem frn18 (p:Prob) (n m N:Nat) {C:Ctx} (hC:C.fx=[]) {R:Post} (hp:∀c st,¬R (.panic c) st) (hN:N≤14) (hR:R .normal (frs0 p n m N)):PlJ Tryz.prog C frops frp18 (frs18 p n m N) R:=by
 unfold frp18 frs18 frops
 simp only [freshBody,Tryz.f77,Option.getD_some,dropC_succ,dropC_zero,r3]
 refine PlJ.altI ?_
 refine AltJ.consO rfl ?_ ?_
 ·simp (disch:=omega) [frt10]
  repeat (refine And.intro (by omega) ?_)
  exact PlJ.permL hC [0,1,2,3] (st':=frs10 p n m N) (by decide) rfl rfl rfl (by simp [frs10,pmL,zi,zr,renL_ri,renL_rr]) (by simp [frs10,pmL,leF,Go.Sv.get]) (fun j k h=>by rw [fry10 j k h];rfl) (frn10 p n m N hC hp hN hR)
 refine AltJ.consO rfl ?_ ?_
 ·simp (disch:=omega) [frt13]
  repeat (refine And.intro (by omega) ?_)
  exact PlJ.permL hC [0,1,2,3] (st':=frs13 p n m N) (by decide) rfl rfl rfl (by simp [frs13,pmL,zi,zr,renL_ri,renL_rr]) (by simp [frs13,pmL,leF,Go.Sv.get]) (fun j k h=>by rw [fry13 j k h];rfl) (frn13 p n m N hC hp hN hR)
 refine AltJ.consO rfl ?_ ?_
 ·simp (disch:=omega) [frt17]
  repeat (refine And.intro (by omega) ?_)
  exact PlJ.permL hC [0,1,2] (st':=frs17 p n m N) (by decide) rfl rfl rfl (by simp [frs17,pmL,zi,zr,renL_ri,renL_rr]) (by simp [frs17,pmL,leF,Go.Sv.get]) (fun j k h=>by rw [fry17 j k h];rfl) (frn17 p n m N hC hp hN hR)
 exact AltJ.stop
theorem frn19 (p:Prob) (n m N:Nat) {C:Ctx} (hC:C.fx=[]) {R:Post} (hp:∀c st,¬R (.panic c) st) (hN:N≤14) (hR:R .normal (frs0 p n m N)):PlJ Tryz.prog C frops frp19 (frs19 p n m N) R:=by
 unfold frp19 frs19 frops
 simp only [freshBody,Tryz.f77,Option.getD_some,dropC_succ,dropC_zero,r3]
 refine PlJ.lO rfl ?_
 simp (disch:=omega) [frt3]
 repeat (refine And.intro (by omega) ?_)
 exact PlJ.permL hC [0,1,4,2,3] (st':=frs3 p n m N) (by decide) rfl rfl rfl (by simp [frs3,pmL,zi,zr,renL_ri,renL_rr]) (by simp [frs3,pmL,leF,Go.Sv.get]) (fun j k h=>by rw [fry3 j k h];rfl) (frn3 p n m N hC hp hN hR)
theorem frn20 (p:Prob) (n m N:Nat) {C:Ctx} (hC:C.fx=[]) {R:Post} (hp:∀c st,¬R (.panic c) st) (hN:N≤14) (hR:R .normal (frs0 p n m N)):PlJ Tryz.prog C frops frp20 (frs20 p n m N) R:=by
 unfold frp20 frs20 frops
 simp only [freshBody,Tryz.f77,Option.getD_some,dropC_succ,dropC_zero,r3]
 refine PlJ.altI ?_
 refine AltJ.consO rfl ?_ ?_
 ·simp (disch:=omega) [frt4]
  repeat (refine And.intro (by omega) ?_)
  exact PlJ.permL hC [0,1,4,2,3] (st':=frs4 p n m N) (by decide) rfl rfl rfl (by simp [frs4,pmL,zi,zr,renL_ri,renL_rr]) (by simp [frs4,pmL,leF,Go.Sv.get]) (fun j k h=>by rw [fry4 j k h];rfl) (frn4 p n m N hC hp hN hR)
 refine AltJ.consO rfl ?_ ?_
 ·simp (disch:=omega) [frt19]
  repeat (refine And.intro (by omega) ?_)
  exact PlJ.permL hC [0,1,2,3] (st':=frs19 p n m N) (by decide) rfl rfl rfl (by simp [frs19,pmL,zi,zr,renL_ri,renL_rr]) (by simp [frs19,pmL,leF,Go.Sv.get]) (fun j k h=>by rw [fry19 j k h];rfl) (frn19 p n m N hC hp hN hR)
 exact AltJ.stop
theorem frn21 (p:Prob) (n m N:Nat) {C:Ctx} (hC:C.fx=[]) {R:Post} (hp:∀c st,¬R (.panic c) st) (hN:N≤14) (hR:R .normal (frs0 p n m N)):PlJ Tryz.prog C frops frp21 (frs21 p n m N) R:=by
 unfold frp21 frs21 frops
 simp only [freshBody,Tryz.f77,Option.getD_some,dropC_succ,dropC_zero,r3]
 refine PlJ.altI ?_
 refine AltJ.consO rfl ?_ ?_
 ·simp (disch:=omega) [frt9]
  repeat (refine And.intro (by omega) ?_)
  exact PlJ.permL hC [0,1,3,2] (st':=frs9 p n m N) (by decide) rfl rfl rfl (by simp [frs9,pmL,zi,zr,renL_ri,renL_rr]) (by simp [frs9,pmL,leF,Go.Sv.get]) (fun j k h=>by rw [fry9 j k h];rfl) (frn9 p n m N hC hp hN hR)
 refine AltJ.consO rfl ?_ ?_
 ·simp (disch:=omega) [frt19]
  repeat (refine And.intro (by omega) ?_)
  exact PlJ.permL hC [0,1,2,3] (st':=frs19 p n m N) (by decide) rfl rfl rfl (by simp [frs19,pmL,zi,zr,renL_ri,renL_rr]) (by simp [frs19,pmL,leF,Go.Sv.get]) (fun j k h=>by rw [fry19 j k h];rfl) (frn19 p n m N hC hp hN hR)
 exact AltJ.stop
theorem frn22 (p:Prob) (n m N:Nat) {C:Ctx} (hC:C.fx=[]) {R:Post} (hp:∀c st,¬R (.panic c) st) (hN:N≤14) (hR:R .normal (frs0 p n m N)):PlJ Tryz.prog C frops frp22 (frs22 p n m N) R:=by
 unfold frp22 frs22 frops
 simp only [freshBody,Tryz.f77,Option.getD_some,dropC_succ,dropC_zero,r3]
 refine PlJ.altI ?_
 refine AltJ.consO rfl ?_ ?_
 ·simp (disch:=omega) [frt10]
  repeat (refine And.intro (by omega) ?_)
  exact PlJ.permL hC [0,1,3,2] (st':=frs10 p n m N) (by decide) rfl rfl rfl (by simp [frs10,pmL,zi,zr,renL_ri,renL_rr]) (by simp [frs10,pmL,leF,Go.Sv.get]) (fun j k h=>by rw [fry10 j k h];rfl) (frn10 p n m N hC hp hN hR)
 refine AltJ.consO rfl ?_ ?_
 ·simp (disch:=omega) [frt20]
  repeat (refine And.intro (by omega) ?_)
  exact PlJ.permL hC [0,1,2,3] (st':=frs20 p n m N) (by decide) rfl rfl rfl (by simp [frs20,pmL,zi,zr,renL_ri,renL_rr]) (by simp [frs20,pmL,leF,Go.Sv.get]) (fun j k h=>by rw [fry20 j k h];rfl) (frn20 p n m N hC hp hN hR)
 refine AltJ.consO rfl ?_ ?_
 ·simp (disch:=omega) [frt21]
  repeat (refine And.intro (by omega) ?_)
  exact PlJ.permL hC [0,1,2] (st':=frs21 p n m N) (by decide) rfl rfl rfl (by simp [frs21,pmL,zi,zr,renL_ri,renL_rr]) (by simp [frs21,pmL,leF,Go.Sv.get]) (fun j k h=>by rw [fry21 j k h];rfl) (frn21 p n m N hC hp hN hR)
 exact AltJ.stop
theorem frn23 (p:Prob) (n m N:Nat) {C:Ctx} (hC:C.fx=[]) {R:Post} (hp:∀c st,¬R (.panic c) st) (hN:N≤14) (hR:R .normal (frs0 p n m N)):PlJ Tryz.prog C frops frp23 (frs23 p n m N) R:=by
 unfold frp23 frs23 frops
 simp only [freshBody,Tryz.f77,Option.getD_some,dropC_succ,dropC_zero,r3]
 refine PlJ.altI ?_
 refine AltJ.consO rfl ?_ ?_
 ·simp (disch:=omega) [frt12]
  repeat (refine And.intro (by omega) ?_)
  exact PlJ.permL hC [0,1,3,2] (st':=frs12 p n m N) (by decide) rfl rfl rfl (by simp [frs12,pmL,zi,zr,renL_ri,renL_rr]) (by simp [frs12,pmL,leF,Go.Sv.get]) (fun j k h=>by rw [fry12 j k h];rfl) (frn12 p n m N hC hp hN hR)
 refine AltJ.consO rfl ?_ ?_
 ·simp (disch:=omega) [frt19]
  repeat (refine And.intro (by omega) ?_)
  exact PlJ.permL hC [0,1,3,2] (st':=frs19 p n m N) (by decide) rfl rfl rfl (by simp [frs19,pmL,zi,zr,renL_ri,renL_rr]) (by simp [frs19,pmL,leF,Go.Sv.get]) (fun j k h=>by rw [fry19 j k h];rfl) (frn19 p n m N hC hp hN hR)
 exact AltJ.stop
theorem frn24 (p:Prob) (n m N:Nat) {C:Ctx} (hC:C.fx=[]) {R:Post} (hp:∀c st,¬R (.panic c) st) (hN:N≤14) (hR:R .normal (frs0 p n m N)):PlJ Tryz.prog C frops frp24 (frs24 p n m N) R:=by
 unfold frp24 frs24 frops
 simp only [freshBody,Tryz.f77,Option.getD_some,dropC_succ,dropC_zero,r3]
 refine PlJ.altI ?_
 refine AltJ.consO rfl ?_ ?_
 ·simp (disch:=omega) [frt13]
  repeat (refine And.intro (by omega) ?_)
  exact PlJ.permL hC [0,1,3,2] (st':=frs13 p n m N) (by decide) rfl rfl rfl (by simp [frs13,pmL,zi,zr,renL_ri,renL_rr]) (by simp [frs13,pmL,leF,Go.Sv.get]) (fun j k h=>by rw [fry13 j k h];rfl) (frn13 p n m N hC hp hN hR)
 refine AltJ.consO rfl ?_ ?_
 ·simp (disch:=omega) [frt20]
  repeat (refine And.intro (by omega) ?_)
  exact PlJ.permL hC [0,1,3,2] (st':=frs20 p n m N) (by decide) rfl rfl rfl (by simp [frs20,pmL,zi,zr,renL_ri,renL_rr]) (by simp [frs20,pmL,leF,Go.Sv.get]) (fun j k h=>by rw [fry20 j k h];rfl) (frn20 p n m N hC hp hN hR)
 refine AltJ.consO rfl ?_ ?_
 ·simp (disch:=omega) [frt23]
  repeat (refine And.intro (by omega) ?_)
  exact PlJ.permL hC [0,1,2] (st':=frs23 p n m N) (by decide) rfl rfl rfl (by simp [frs23,pmL,zi,zr,renL_ri,renL_rr]) (by simp [frs23,pmL,leF,Go.Sv.get]) (fun j k h=>by rw [fry23 j k h];rfl) (frn23 p n m N hC hp hN hR)
 exact AltJ.stop
theorem frn25 (p:Prob) (n m N:Nat) {C:Ctx} (hC:C.fx=[]) {R:Post} (hp:∀c st,¬R (.panic c) st) (hN:N≤14) (hR:R .normal (frs0 p n m N)):PlJ Tryz.prog C frops frp25 (frs25 p n m N) R:=by
 unfold frp25 frs25 frops
 simp only [freshBody,Tryz.f77,Option.getD_some,dropC_succ,dropC_zero,r3]
 refine PlJ.altI ?_
 refine AltJ.consO rfl ?_ ?_
 ·simp (disch:=omega) [frt17]
  repeat (refine And.intro (by omega) ?_)
  exact PlJ.permL hC [0,1,2] (st':=frs17 p n m N) (by decide) rfl rfl rfl (by simp [frs17,pmL,zi,zr,renL_ri,renL_rr]) (by simp [frs17,pmL,leF,Go.Sv.get]) (fun j k h=>by rw [fry17 j k h];rfl) (frn17 p n m N hC hp hN hR)
 refine AltJ.consO rfl ?_ ?_
 ·simp (disch:=omega) [frt21]
  repeat (refine And.intro (by omega) ?_)
  exact PlJ.permL hC [0,1,2] (st':=frs21 p n m N) (by decide) rfl rfl rfl (by simp [frs21,pmL,zi,zr,renL_ri,renL_rr]) (by simp [frs21,pmL,leF,Go.Sv.get]) (fun j k h=>by rw [fry21 j k h];rfl) (frn21 p n m N hC hp hN hR)
 refine AltJ.consO rfl ?_ ?_
 ·simp (disch:=omega) [frt23]
  repeat (refine And.intro (by omega) ?_)
  exact PlJ.permL hC [0,1,2] (st':=frs23 p n m N) (by decide) rfl rfl rfl (by simp [frs23,pmL,zi,zr,renL_ri,renL_rr]) (by simp [frs23,pmL,leF,Go.Sv.get]) (fun j k h=>by rw [fry23 j k h];rfl) (frn23 p n m N hC hp hN hR)
 exact AltJ.stop
theorem frn26 (p:Prob) (n m N:Nat) {C:Ctx} (hC:C.fx=[]) {R:Post} (hp:∀c st,¬R (.panic c) st) (hN:N≤14) (hR:R .normal (frs0 p n m N)):PlJ Tryz.prog C frops frp26 (frs26 p n m N) R:=by
 unfold frp26 frs26 frops
 simp only [freshBody,Tryz.f77,Option.getD_some,dropC_succ,dropC_zero,r3]
 refine PlJ.qO rfl hp ?_
 simp (disch:=omega)
 refine PlJ.qO rfl hp ?_
 simp (disch:=omega)
 refine PlJ.altI ?_
 refine AltJ.consO rfl ?_ ?_
 ·simp (disch:=omega) [frt18]
  repeat (refine And.intro (by omega) ?_)
  exact PlJ.permL hC [0,1,2] (st':=frs18 p n m N) (by decide) rfl rfl rfl (by simp [frs18,pmL,zi,zr,renL_ri,renL_rr]) (by simp [frs18,pmL,leF,Go.Sv.get]) (fun j k h=>by rw [fry18 j k h];rfl) (frn18 p n m N hC hp hN hR)
 refine AltJ.consO rfl ?_ ?_
 ·simp (disch:=omega) [frt22]
  repeat (refine And.intro (by omega) ?_)
  exact PlJ.permL hC [0,1,2] (st':=frs22 p n m N) (by decide) rfl rfl rfl (by simp [frs22,pmL,zi,zr,renL_ri,renL_rr]) (by simp [frs22,pmL,leF,Go.Sv.get]) (fun j k h=>by rw [fry22 j k h];rfl) (frn22 p n m N hC hp hN hR)
 refine AltJ.consO rfl ?_ ?_
 ·simp (disch:=omega) [frt24]
  repeat (refine And.intro (by omega) ?_)
  exact PlJ.permL hC [0,1,2] (st':=frs24 p n m N) (by decide) rfl rfl rfl (by simp [frs24,pmL,zi,zr,renL_ri,renL_rr]) (by simp [frs24,pmL,leF,Go.Sv.get]) (fun j k h=>by rw [fry24 j k h];rfl) (frn24 p n m N hC hp hN hR)
 refine AltJ.consO rfl ?_ ?_
 ·simp (disch:=omega) [frt25]
  repeat (refine And.intro (by omega) ?_)
  exact PlJ.permL hC [0,1] (st':=frs25 p n m N) (by decide) rfl rfl rfl (by simp [frs25,pmL,zi,zr,renL_ri,renL_rr]) (by simp [frs25,pmL,leF,Go.Sv.get]) (fun j k h=>by rw [fry25 j k h];rfl) (frn25 p n m N hC hp hN hR)
 exact AltJ.stop
theorem frn27 (p:Prob) (n m N:Nat) {C:Ctx} (hC:C.fx=[]) {R:Post} (hp:∀c st,¬R (.panic c) st) (hN:N≤14) (hR:R .normal (frs0 p n m N)):PlJ Tryz.prog C frops frp27 (frs27 p n m N) R:=by
 unfold frp27 frs27 frops
 simp only [freshBody,Tryz.f77,Option.getD_some,dropC_succ,dropC_zero,r3]
 refine PlJ.qO rfl hp ?_
 simp (disch:=omega)
 refine PlJ.qO rfl hp ?_
 simp (disch:=omega)
 refine PlJ.altI ?_
 refine AltJ.consO rfl ?_ ?_
 ·simp (disch:=omega) [frt10]
  repeat (refine And.intro (by omega) ?_)
  exact PlJ.permL hC [0,1,2,3] (st':=frs10 p n m N) (by decide) rfl rfl rfl (by simp [frs10,pmL,zi,zr,renL_ri,renL_rr]) (by simp [frs10,pmL,leF,Go.Sv.get]) (fun j k h=>by rw [fry10 j k h];rfl) (frn10 p n m N hC hp hN hR)
 refine AltJ.consO rfl ?_ ?_
 ·simp (disch:=omega) [frt13]
  repeat (refine And.intro (by omega) ?_)
  exact PlJ.permL hC [0,1,2,3] (st':=frs13 p n m N) (by decide) rfl rfl rfl (by simp [frs13,pmL,zi,zr,renL_ri,renL_rr]) (by simp [frs13,pmL,leF,Go.Sv.get]) (fun j k h=>by rw [fry13 j k h];rfl) (frn13 p n m N hC hp hN hR)
 refine AltJ.consO rfl ?_ ?_
 ·simp (disch:=omega) [frt17]
  repeat (refine And.intro (by omega) ?_)
  exact PlJ.permL hC [0,1,2] (st':=frs17 p n m N) (by decide) rfl rfl rfl (by simp [frs17,pmL,zi,zr,renL_ri,renL_rr]) (by simp [frs17,pmL,leF,Go.Sv.get]) (fun j k h=>by rw [fry17 j k h];rfl) (frn17 p n m N hC hp hN hR)
 exact AltJ.stop
theorem frn28 (p:Prob) (n m N:Nat) {C:Ctx} (hC:C.fx=[]) {R:Post} (hp:∀c st,¬R (.panic c) st) (hN:N≤14) (hR:R .normal (frs0 p n m N)):PlJ Tryz.prog C frops frp28 (frs28 p n m N) R:=by
 unfold frp28 frs28 frops
 simp only [freshBody,Tryz.f77,Option.getD_some,dropC_succ,dropC_zero,r3]
 refine PlJ.qO rfl hp ?_
 simp (disch:=omega)
 refine PlJ.qO rfl hp ?_
 simp (disch:=omega)
 refine PlJ.altI ?_
 refine AltJ.consO rfl ?_ ?_
 ·simp (disch:=omega) [frt4]
  repeat (refine And.intro (by omega) ?_)
  exact PlJ.permL hC [0,1,2,3,4] (st':=frs4 p n m N) (by decide) rfl rfl rfl (by simp [frs4,pmL,zi,zr,renL_ri,renL_rr]) (by simp [frs4,pmL,leF,Go.Sv.get]) (fun j k h=>by rw [fry4 j k h];rfl) (frn4 p n m N hC hp hN hR)
 refine AltJ.consO rfl ?_ ?_
 ·simp (disch:=omega) [frt9]
  repeat (refine And.intro (by omega) ?_)
  exact PlJ.permL hC [0,1,2,3] (st':=frs9 p n m N) (by decide) rfl rfl rfl (by simp [frs9,pmL,zi,zr,renL_ri,renL_rr]) (by simp [frs9,pmL,leF,Go.Sv.get]) (fun j k h=>by rw [fry9 j k h];rfl) (frn9 p n m N hC hp hN hR)
 exact AltJ.stop
theorem frn29 (p:Prob) (n m N:Nat) {C:Ctx} (hC:C.fx=[]) {R:Post} (hp:∀c st,¬R (.panic c) st) (hN:N≤14) (hR:R .normal (frs0 p n m N)):PlJ Tryz.prog C frops frp29 (frs29 p n m N) R:=by
 unfold frp29 frs29 frops
 simp only [freshBody,Tryz.f77,Option.getD_some,dropC_succ,dropC_zero,r3]
 refine PlJ.qO rfl hp ?_
 simp (disch:=omega)
 refine PlJ.qO rfl hp ?_
 simp (disch:=omega)
 refine PlJ.lO rfl ?_
 simp (disch:=omega) [frt3]
 repeat (refine And.intro (by omega) ?_)
 exact PlJ.permL hC [0,1,2,3,4] (st':=frs3 p n m N) (by decide) rfl rfl rfl (by simp [frs3,pmL,zi,zr,renL_ri,renL_rr]) (by simp [frs3,pmL,leF,Go.Sv.get]) (fun j k h=>by rw [fry3 j k h];rfl) (frn3 p n m N hC hp hN hR)
theorem frn30 (p:Prob) (n m N:Nat) {C:Ctx} (hC:C.fx=[]) {R:Post} (hp:∀c st,¬R (.panic c) st) (hN:N≤14) (hR:R .normal (frs0 p n m N)):PlJ Tryz.prog C frops frp30 (frs30 p n m N) R:=by
 unfold frp30 frs30 frops
 simp only [freshBody,Tryz.f77,Option.getD_some,dropC_succ,dropC_zero,r3]
 refine PlJ.lO rfl ?_
 simp (disch:=omega) [frt29]
 repeat (refine And.intro (by omega) ?_)
 exact PlJ.permL hC [0,4,1,2,3] (st':=frs29 p n m N) (by decide) rfl rfl rfl (by simp [frs29,pmL,zi,zr,renL_ri,renL_rr]) (by simp [frs29,pmL,leF,Go.Sv.get]) (fun j k h=>by rw [fry29 j k h];rfl) (frn29 p n m N hC hp hN hR)
theorem frn31 (p:Prob) (n m N:Nat) {C:Ctx} (hC:C.fx=[]) {R:Post} (hp:∀c st,¬R (.panic c) st) (hN:N≤14) (hR:R .normal (frs0 p n m N)):PlJ Tryz.prog C frops frp31 (frs31 p n m N) R:=by
 unfold frp31 frs31 frops
 simp only [freshBody,Tryz.f77,Option.getD_some,dropC_succ,dropC_zero,r3]
 refine PlJ.altI ?_
 refine AltJ.consO rfl ?_ ?_
 ·simp (disch:=omega) [frt28]
  repeat (refine And.intro (by omega) ?_)
  exact PlJ.permL hC [0,3,1,2] (st':=frs28 p n m N) (by decide) rfl rfl rfl (by simp [frs28,pmL,zi,zr,renL_ri,renL_rr]) (by simp [frs28,pmL,leF,Go.Sv.get]) (fun j k h=>by rw [fry28 j k h];rfl) (frn28 p n m N hC hp hN hR)
 refine AltJ.consO rfl ?_ ?_
 ·simp (disch:=omega) [frt30]
  repeat (refine And.intro (by omega) ?_)
  exact PlJ.permL hC [0,1,2,3] (st':=frs30 p n m N) (by decide) rfl rfl rfl (by simp [frs30,pmL,zi,zr,renL_ri,renL_rr]) (by simp [frs30,pmL,leF,Go.Sv.get]) (fun j k h=>by rw [fry30 j k h];rfl) (frn30 p n m N hC hp hN hR)
 exact AltJ.stop
theorem frn32 (p:Prob) (n m N:Nat) {C:Ctx} (hC:C.fx=[]) {R:Post} (hp:∀c st,¬R (.panic c) st) (hN:N≤14) (hR:R .normal (frs0 p n m N)):PlJ Tryz.prog C frops frp32 (frs32 p n m N) R:=by
 unfold frp32 frs32 frops
 simp only [freshBody,Tryz.f77,Option.getD_some,dropC_succ,dropC_zero,r3]
 refine PlJ.qO rfl hp ?_
 simp (disch:=omega)
 refine PlJ.qO rfl hp ?_
 simp (disch:=omega)
 refine PlJ.altI ?_
 refine AltJ.consO rfl ?_ ?_
 ·simp (disch:=omega) [frt4]
  repeat (refine And.intro (by omega) ?_)
  exact PlJ.permL hC [0,1,2,4,3] (st':=frs4 p n m N) (by decide) rfl rfl rfl (by simp [frs4,pmL,zi,zr,renL_ri,renL_rr]) (by simp [frs4,pmL,leF,Go.Sv.get]) (fun j k h=>by rw [fry4 j k h];rfl) (frn4 p n m N hC hp hN hR)
 refine AltJ.consO rfl ?_ ?_
 ·simp (disch:=omega) [frt12]
  repeat (refine And.intro (by omega) ?_)
  exact PlJ.permL hC [0,1,2,3] (st':=frs12 p n m N) (by decide) rfl rfl rfl (by simp [frs12,pmL,zi,zr,renL_ri,renL_rr]) (by simp [frs12,pmL,leF,Go.Sv.get]) (fun j k h=>by rw [fry12 j k h];rfl) (frn12 p n m N hC hp hN hR)
 exact AltJ.stop
theorem frn33 (p:Prob) (n m N:Nat) {C:Ctx} (hC:C.fx=[]) {R:Post} (hp:∀c st,¬R (.panic c) st) (hN:N≤14) (hR:R .normal (frs0 p n m N)):PlJ Tryz.prog C frops frp33 (frs33 p n m N) R:=by
 unfold frp33 frs33 frops
 simp only [freshBody,Tryz.f77,Option.getD_some,dropC_succ,dropC_zero,r3]
 refine PlJ.altI ?_
 refine AltJ.consO rfl ?_ ?_
 ·simp (disch:=omega) [frt32]
  repeat (refine And.intro (by omega) ?_)
  exact PlJ.permL hC [0,3,1,2] (st':=frs32 p n m N) (by decide) rfl rfl rfl (by simp [frs32,pmL,zi,zr,renL_ri,renL_rr]) (by simp [frs32,pmL,leF,Go.Sv.get]) (fun j k h=>by rw [fry32 j k h];rfl) (frn32 p n m N hC hp hN hR)
 refine AltJ.consO rfl ?_ ?_
 ·simp (disch:=omega) [frt30]
  repeat (refine And.intro (by omega) ?_)
  exact PlJ.permL hC [0,1,3,2] (st':=frs30 p n m N) (by decide) rfl rfl rfl (by simp [frs30,pmL,zi,zr,renL_ri,renL_rr]) (by simp [frs30,pmL,leF,Go.Sv.get]) (fun j k h=>by rw [fry30 j k h];rfl) (frn30 p n m N hC hp hN hR)
 exact AltJ.stop
theorem frn34 (p:Prob) (n m N:Nat) {C:Ctx} (hC:C.fx=[]) {R:Post} (hp:∀c st,¬R (.panic c) st) (hN:N≤14) (hR:R .normal (frs0 p n m N)):PlJ Tryz.prog C frops frp34 (frs34 p n m N) R:=by
 unfold frp34 frs34 frops
 simp only [freshBody,Tryz.f77,Option.getD_some,dropC_succ,dropC_zero,r3]
 refine PlJ.altI ?_
 refine AltJ.consO rfl ?_ ?_
 ·simp (disch:=omega) [frt27]
  repeat (refine And.intro (by omega) ?_)
  exact PlJ.permL hC [0,2,1] (st':=frs27 p n m N) (by decide) rfl rfl rfl (by simp [frs27,pmL,zi,zr,renL_ri,renL_rr]) (by simp [frs27,pmL,leF,Go.Sv.get]) (fun j k h=>by rw [fry27 j k h];rfl) (frn27 p n m N hC hp hN hR)
 refine AltJ.consO rfl ?_ ?_
 ·simp (disch:=omega) [frt31]
  repeat (refine And.intro (by omega) ?_)
  exact PlJ.permL hC [0,1,2] (st':=frs31 p n m N) (by decide) rfl rfl rfl (by simp [frs31,pmL,zi,zr,renL_ri,renL_rr]) (by simp [frs31,pmL,leF,Go.Sv.get]) (fun j k h=>by rw [fry31 j k h];rfl) (frn31 p n m N hC hp hN hR)
 refine AltJ.consO rfl ?_ ?_
 ·simp (disch:=omega) [frt33]
  repeat (refine And.intro (by omega) ?_)
  exact PlJ.permL hC [0,1,2] (st':=frs33 p n m N) (by decide) rfl rfl rfl (by simp [frs33,pmL,zi,zr,renL_ri,renL_rr]) (by simp [frs33,pmL,leF,Go.Sv.get]) (fun j k h=>by rw [fry33 j k h];rfl) (frn33 p n m N hC hp hN hR)
 exact AltJ.stop
theorem frn35 (p:Prob) (n m N:Nat) {C:Ctx} (hC:C.fx=[]) {R:Post} (hp:∀c st,¬R (.panic c) st) (hN:N≤14) (hR:R .normal (frs0 p n m N)):PlJ Tryz.prog C frops frp35 (frs35 p n m N) R:=by
 unfold frp35 frs35 frops
 simp only [freshBody,Tryz.f77,Option.getD_some,dropC_succ,dropC_zero,r3]
 refine PlJ.qO rfl hp ?_
 simp (disch:=omega)
 refine PlJ.qO rfl hp ?_
 simp (disch:=omega)
 refine PlJ.altI ?_
 refine AltJ.consO rfl ?_ ?_
 ·simp (disch:=omega) [frt10]
  repeat (refine And.intro (by omega) ?_)
  exact PlJ.permL hC [0,1,3,2] (st':=frs10 p n m N) (by decide) rfl rfl rfl (by simp [frs10,pmL,zi,zr,renL_ri,renL_rr]) (by simp [frs10,pmL,leF,Go.Sv.get]) (fun j k h=>by rw [fry10 j k h];rfl) (frn10 p n m N hC hp hN hR)
 refine AltJ.consO rfl ?_ ?_
 ·simp (disch:=omega) [frt20]
  repeat (refine And.intro (by omega) ?_)
  exact PlJ.permL hC [0,1,2,3] (st':=frs20 p n m N) (by decide) rfl rfl rfl (by simp [frs20,pmL,zi,zr,renL_ri,renL_rr]) (by simp [frs20,pmL,leF,Go.Sv.get]) (fun j k h=>by rw [fry20 j k h];rfl) (frn20 p n m N hC hp hN hR)
 refine AltJ.consO rfl ?_ ?_
 ·simp (disch:=omega) [frt21]
  repeat (refine And.intro (by omega) ?_)
  exact PlJ.permL hC [0,1,2] (st':=frs21 p n m N) (by decide) rfl rfl rfl (by simp [frs21,pmL,zi,zr,renL_ri,renL_rr]) (by simp [frs21,pmL,leF,Go.Sv.get]) (fun j k h=>by rw [fry21 j k h];rfl) (frn21 p n m N hC hp hN hR)
 exact AltJ.stop
theorem frn36 (p:Prob) (n m N:Nat) {C:Ctx} (hC:C.fx=[]) {R:Post} (hp:∀c st,¬R (.panic c) st) (hN:N≤14) (hR:R .normal (frs0 p n m N)):PlJ Tryz.prog C frops frp36 (frs36 p n m N) R:=by
 unfold frp36 frs36 frops
 simp only [freshBody,Tryz.f77,Option.getD_some,dropC_succ,dropC_zero,r3]
 refine PlJ.qO rfl hp ?_
 simp (disch:=omega)
 refine PlJ.qO rfl hp ?_
 simp (disch:=omega)
 refine PlJ.altI ?_
 refine AltJ.consO rfl ?_ ?_
 ·simp (disch:=omega) [frt4]
  repeat (refine And.intro (by omega) ?_)
  exact PlJ.permL hC [0,1,4,2,3] (st':=frs4 p n m N) (by decide) rfl rfl rfl (by simp [frs4,pmL,zi,zr,renL_ri,renL_rr]) (by simp [frs4,pmL,leF,Go.Sv.get]) (fun j k h=>by rw [fry4 j k h];rfl) (frn4 p n m N hC hp hN hR)
 refine AltJ.consO rfl ?_ ?_
 ·simp (disch:=omega) [frt19]
  repeat (refine And.intro (by omega) ?_)
  exact PlJ.permL hC [0,1,2,3] (st':=frs19 p n m N) (by decide) rfl rfl rfl (by simp [frs19,pmL,zi,zr,renL_ri,renL_rr]) (by simp [frs19,pmL,leF,Go.Sv.get]) (fun j k h=>by rw [fry19 j k h];rfl) (frn19 p n m N hC hp hN hR)
 exact AltJ.stop
theorem frn37 (p:Prob) (n m N:Nat) {C:Ctx} (hC:C.fx=[]) {R:Post} (hp:∀c st,¬R (.panic c) st) (hN:N≤14) (hR:R .normal (frs0 p n m N)):PlJ Tryz.prog C frops frp37 (frs37 p n m N) R:=by
 unfold frp37 frs37 frops
 simp only [freshBody,Tryz.f77,Option.getD_some,dropC_succ,dropC_zero,r3]
 refine PlJ.altI ?_
 refine AltJ.consO rfl ?_ ?_
 ·simp (disch:=omega) [frt36]
  repeat (refine And.intro (by omega) ?_)
  exact PlJ.permL hC [0,3,1,2] (st':=frs36 p n m N) (by decide) rfl rfl rfl (by simp [frs36,pmL,zi,zr,renL_ri,renL_rr]) (by simp [frs36,pmL,leF,Go.Sv.get]) (fun j k h=>by rw [fry36 j k h];rfl) (frn36 p n m N hC hp hN hR)
 refine AltJ.consO rfl ?_ ?_
 ·simp (disch:=omega) [frt30]
  repeat (refine And.intro (by omega) ?_)
  exact PlJ.permL hC [0,3,1,2] (st':=frs30 p n m N) (by decide) rfl rfl rfl (by simp [frs30,pmL,zi,zr,renL_ri,renL_rr]) (by simp [frs30,pmL,leF,Go.Sv.get]) (fun j k h=>by rw [fry30 j k h];rfl) (frn30 p n m N hC hp hN hR)
 exact AltJ.stop
theorem frn38 (p:Prob) (n m N:Nat) {C:Ctx} (hC:C.fx=[]) {R:Post} (hp:∀c st,¬R (.panic c) st) (hN:N≤14) (hR:R .normal (frs0 p n m N)):PlJ Tryz.prog C frops frp38 (frs38 p n m N) R:=by
 unfold frp38 frs38 frops
 simp only [freshBody,Tryz.f77,Option.getD_some,dropC_succ,dropC_zero,r3]
 refine PlJ.altI ?_
 refine AltJ.consO rfl ?_ ?_
 ·simp (disch:=omega) [frt35]
  repeat (refine And.intro (by omega) ?_)
  exact PlJ.permL hC [0,2,1] (st':=frs35 p n m N) (by decide) rfl rfl rfl (by simp [frs35,pmL,zi,zr,renL_ri,renL_rr]) (by simp [frs35,pmL,leF,Go.Sv.get]) (fun j k h=>by rw [fry35 j k h];rfl) (frn35 p n m N hC hp hN hR)
 refine AltJ.consO rfl ?_ ?_
 ·simp (disch:=omega) [frt31]
  repeat (refine And.intro (by omega) ?_)
  exact PlJ.permL hC [0,2,1] (st':=frs31 p n m N) (by decide) rfl rfl rfl (by simp [frs31,pmL,zi,zr,renL_ri,renL_rr]) (by simp [frs31,pmL,leF,Go.Sv.get]) (fun j k h=>by rw [fry31 j k h];rfl) (frn31 p n m N hC hp hN hR)
 refine AltJ.consO rfl ?_ ?_
 ·simp (disch:=omega) [frt37]
  repeat (refine And.intro (by omega) ?_)
  exact PlJ.permL hC [0,1,2] (st':=frs37 p n m N) (by decide) rfl rfl rfl (by simp [frs37,pmL,zi,zr,renL_ri,renL_rr]) (by simp [frs37,pmL,leF,Go.Sv.get]) (fun j k h=>by rw [fry37 j k h];rfl) (frn37 p n m N hC hp hN hR)
 exact AltJ.stop
theorem frn39 (p:Prob) (n m N:Nat) {C:Ctx} (hC:C.fx=[]) {R:Post} (hp:∀c st,¬R (.panic c) st) (hN:N≤14) (hR:R .normal (frs0 p n m N)):PlJ Tryz.prog C frops frp39 (frs39 p n m N) R:=by
 unfold frp39 frs39 frops
 simp only [freshBody,Tryz.f77,Option.getD_some,dropC_succ,dropC_zero,r3]
 refine PlJ.qO rfl hp ?_
 simp (disch:=omega)
 refine PlJ.qO rfl hp ?_
 simp (disch:=omega)
 refine PlJ.altI ?_
 refine AltJ.consO rfl ?_ ?_
 ·simp (disch:=omega) [frt13]
  repeat (refine And.intro (by omega) ?_)
  exact PlJ.permL hC [0,1,3,2] (st':=frs13 p n m N) (by decide) rfl rfl rfl (by simp [frs13,pmL,zi,zr,renL_ri,renL_rr]) (by simp [frs13,pmL,leF,Go.Sv.get]) (fun j k h=>by rw [fry13 j k h];rfl) (frn13 p n m N hC hp hN hR)
 refine AltJ.consO rfl ?_ ?_
 ·simp (disch:=omega) [frt20]
  repeat (refine And.intro (by omega) ?_)
  exact PlJ.permL hC [0,1,3,2] (st':=frs20 p n m N) (by decide) rfl rfl rfl (by simp [frs20,pmL,zi,zr,renL_ri,renL_rr]) (by simp [frs20,pmL,leF,Go.Sv.get]) (fun j k h=>by rw [fry20 j k h];rfl) (frn20 p n m N hC hp hN hR)
 refine AltJ.consO rfl ?_ ?_
 ·simp (disch:=omega) [frt23]
  repeat (refine And.intro (by omega) ?_)
  exact PlJ.permL hC [0,1,2] (st':=frs23 p n m N) (by decide) rfl rfl rfl (by simp [frs23,pmL,zi,zr,renL_ri,renL_rr]) (by simp [frs23,pmL,leF,Go.Sv.get]) (fun j k h=>by rw [fry23 j k h];rfl) (frn23 p n m N hC hp hN hR)
 exact AltJ.stop
theorem frn40 (p:Prob) (n m N:Nat) {C:Ctx} (hC:C.fx=[]) {R:Post} (hp:∀c st,¬R (.panic c) st) (hN:N≤14) (hR:R .normal (frs0 p n m N)):PlJ Tryz.prog C frops frp40 (frs40 p n m N) R:=by
 unfold frp40 frs40 frops
 simp only [freshBody,Tryz.f77,Option.getD_some,dropC_succ,dropC_zero,r3]
 refine PlJ.altI ?_
 refine AltJ.consO rfl ?_ ?_
 ·simp (disch:=omega) [frt39]
  repeat (refine And.intro (by omega) ?_)
  exact PlJ.permL hC [0,2,1] (st':=frs39 p n m N) (by decide) rfl rfl rfl (by simp [frs39,pmL,zi,zr,renL_ri,renL_rr]) (by simp [frs39,pmL,leF,Go.Sv.get]) (fun j k h=>by rw [fry39 j k h];rfl) (frn39 p n m N hC hp hN hR)
 refine AltJ.consO rfl ?_ ?_
 ·simp (disch:=omega) [frt33]
  repeat (refine And.intro (by omega) ?_)
  exact PlJ.permL hC [0,2,1] (st':=frs33 p n m N) (by decide) rfl rfl rfl (by simp [frs33,pmL,zi,zr,renL_ri,renL_rr]) (by simp [frs33,pmL,leF,Go.Sv.get]) (fun j k h=>by rw [fry33 j k h];rfl) (frn33 p n m N hC hp hN hR)
 refine AltJ.consO rfl ?_ ?_
 ·simp (disch:=omega) [frt37]
  repeat (refine And.intro (by omega) ?_)
  exact PlJ.permL hC [0,2,1] (st':=frs37 p n m N) (by decide) rfl rfl rfl (by simp [frs37,pmL,zi,zr,renL_ri,renL_rr]) (by simp [frs37,pmL,leF,Go.Sv.get]) (fun j k h=>by rw [fry37 j k h];rfl) (frn37 p n m N hC hp hN hR)
 exact AltJ.stop
theorem frn41 (p:Prob) (n m N:Nat) {C:Ctx} (hC:C.fx=[]) {R:Post} (hp:∀c st,¬R (.panic c) st) (hN:N≤14) (hR:R .normal (frs0 p n m N)):PlJ Tryz.prog C frops frp41 (frs41 p n m N) R:=by
 unfold frp41 frs41 frops
 simp only [freshBody,Tryz.f77,Option.getD_some,dropC_succ,dropC_zero,r3]
 refine PlJ.qO rfl hp ?_
 simp (disch:=omega)
 refine PlJ.qO rfl hp ?_
 simp (disch:=omega)
 refine PlJ.qO rfl hp ?_
 simp (disch:=omega)
 refine PlJ.qO rfl hp ?_
 simp (disch:=omega)
 refine PlJ.qO rfl hp ?_
 simp (disch:=omega)
 refine PlJ.qO rfl hp ?_
 simp (disch:=omega)
 refine PlJ.qO rfl hp ?_
 simp (disch:=omega)
 refine PlJ.qO rfl hp ?_
 simp (disch:=omega)
 refine PlJ.altI ?_
 refine AltJ.consO rfl ?_ ?_
 ·simp (disch:=omega) [frt26]
  repeat (refine And.intro (by omega) ?_)
  exact PlJ.permL hC [0,1] (st':=frs26 p n m N) (by decide) rfl rfl rfl (by simp [frs26,pmL,zi,zr,renL_ri,renL_rr]) (by simp [frs26,pmL,leF,Go.Sv.get]) (fun j k h=>by rw [fry26 j k h];rfl) (frn26 p n m N hC hp hN hR)
 refine AltJ.consO rfl ?_ ?_
 ·simp (disch:=omega) [frt34]
  repeat (refine And.intro (by omega) ?_)
  exact PlJ.permL hC [0,1] (st':=frs34 p n m N) (by decide) rfl rfl rfl (by simp [frs34,pmL,zi,zr,renL_ri,renL_rr]) (by simp [frs34,pmL,leF,Go.Sv.get]) (fun j k h=>by rw [fry34 j k h];rfl) (frn34 p n m N hC hp hN hR)
 refine AltJ.consO rfl ?_ ?_
 ·simp (disch:=omega) [frt38]
  repeat (refine And.intro (by omega) ?_)
  exact PlJ.permL hC [0,1] (st':=frs38 p n m N) (by decide) rfl rfl rfl (by simp [frs38,pmL,zi,zr,renL_ri,renL_rr]) (by simp [frs38,pmL,leF,Go.Sv.get]) (fun j k h=>by rw [fry38 j k h];rfl) (frn38 p n m N hC hp hN hR)
 refine AltJ.consO rfl ?_ ?_
 ·simp (disch:=omega) [frt40]
  repeat (refine And.intro (by omega) ?_)
  exact PlJ.permL hC [0,1] (st':=frs40 p n m N) (by decide) rfl rfl rfl (by simp [frs40,pmL,zi,zr,renL_ri,renL_rr]) (by simp [frs40,pmL,leF,Go.Sv.get]) (fun j k h=>by rw [fry40 j k h];rfl) (frn40 p n m N hC hp hN hR)
 exact AltJ.stop
theorem fr_plan:(Region.noSelect frops&&(planOK frops (Array.replicate frops.size false) frp41&&decide (frp41.len≤frops.size)))=true:=by
 rw [Bool.and_eq_true,Bool.and_eq_true]
 exact ⟨by kernel_rfl,planOK_at fro41 (by kernel_rfl),by kernel_rfl⟩
end Go.Proofs
set_option maxRecDepth 10000
namespace Go.Sx
open Go Go.Sv Go.Pl Go.Proofs Go.Tb Go.Ut Go.Mx Go.Li Go.Dt
def fA (p:Prob) (n m N:Nat):SV:=.agg [.rop (probQ p) 0,iv n,iv m,.val (.slice none 0 0),.val (.slice none 0 0),.view 4 0 N,.view 1 0 N,.view 2 0 N,.val (.slice none 0 0),.view 3 0 N,.val (.slice none 0 0)]
def fAT (p:Prob) (n m N:Nat):Tab:=[some ⟨11,[fA p n m N],false⟩,some ⟨1,zi N,false⟩,some ⟨4,zr N,false⟩,some ⟨1,zi N,false⟩,some ⟨4,zr N,false⟩]
end Go.Sx
namespace Go.Proofs
open Go.Sv Go Go.Tb Go.Pl Go.Ut Go.Mx Go.Li Go.Dt Go.Sx
theorem freshA (p:Prob) (n m N:Nat) (hn:p.cols.length=n) (hm:p.rows.length=m) (hN:n+m=N) (h14:N≤14) {C:Ctx} (hC:C.fx=[]) {Q:Post} (hQp:∀c st,¬Q (.panic c) st) (hQ:CodeJ Tryz.prog C (dropC 4 freshBody) ⟨217,[(0,.rop (probQ p) 0),(3,.ptr 0 0 0),(4,iv N)],fAT p n m N⟩ Q) :
  CodeJ Tryz.prog C freshBody ⟨217,[(0,.rop (probQ p) 0)],[]⟩ Q:=by
 refine CodeJ.cutAt 3 (fun st=>st=⟨217,[(0,.rop (probQ p) 0),(3,.ptr 0 0 0),(4,iv N)],[some ⟨11,[.agg [.rop (probQ p) 0,iv n,iv m,.val (.slice none 0 0),.val (.slice none 0 0),.val (.slice none 0 0),.val (.slice none 0 0),.val (.slice none 0 0),.val (.slice none 0 0),.val (.slice none 0 0),.val (.slice none 0 0)]],false⟩]⟩) ?_ ?_
 ·simp only [freshBody,Tryz.f77,Option.getD_some,takeC_succ,takeC_zero]
  simp
  refine CodeJ.draw (.qs [0,1,2,3,4,5,6,7,8,9,10,11]<|.l 12 []<|.qs [13]<|.nil) (by kernel_rfl) (by kernel_rfl) (by simpa using hQp) ?_
  simp (disch:=omega) [probQ,hn,hm]
  repeat (refine And.intro (by omega) ?_)
  refine CodeJ.draw (.qs [0,1,2,3,4,5,6,7,8,9]<|.nil) (by kernel_rfl) (by kernel_rfl) (by simpa using hQp) ?_
  have wr:IntKind.i64.wrap ((n:Int)+m)=(N:Int):=by simp (disch:=omega) [w64];omega
  simp (disch:=omega) [wr]
  repeat (refine And.intro (by omega) ?_)
  exact ⟨rfl,by simp [leF,Go.Sv.get],leM_self _,.inl rfl⟩
 ·rintro st rfl
  have fl:=frn41 p n m N hC (R:=thn (fun st'=>CodeJ Tryz.prog C (dropC 4 freshBody) st' Q) Q) (fun c st=>hQp c st) h14 ?_
  rotate_left 1
  ·show CodeJ _ _ _ _ _
   exact CodeJ.le (Le.syn (st:=frs0 p n m N) (st':=⟨217,[(0,.rop (probQ p) 0),(3,.ptr 0 0 0),(4,iv N)],fAT p n m N⟩) ⟨rfl,by simp [leF,Go.Sv.get,frs0],by rw [frs0];exact leM_self _,.inl rfl⟩) hQ
  simp only [freshBody,Tryz.f77,Option.getD_some,dropC_succ,dropC_zero] at fl ⊢
  exact CodeJ.seqI (CodeJ.drawP (ops:=frops) frp41 (by kernel_rfl) fr_plan (by rw [show frs41 p n m N=_ from rfl] at fl;exact fl))
end Go.Proofs


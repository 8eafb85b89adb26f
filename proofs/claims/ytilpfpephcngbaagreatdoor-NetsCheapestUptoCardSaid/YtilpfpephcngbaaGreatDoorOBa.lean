/- Nets, flows and plans as values: what shows that a plan is right. A text of the prover's own. -/
import Derived.Test.YtilpfpephcngbaaGreatDoorOUt
namespace Go.Ne
open Go Go.Sv Go.Pl Go.Proofs Go.Tb Go.Ut
structure ArcS where
  f : Int
  t : Int
  cap : ByteArray
  cost : ByteArray
instance : Inhabited ArcS := ⟨⟨0, 0, .empty, .empty⟩⟩
structure Arc where
  f : Int
  t : Int
  cap : Rat
  cost : Rat
instance : Inhabited Arc := ⟨⟨0, 0, 0, 0⟩⟩
structure Ship where
  none : Bool
  flow : List Rat
  prices : List Rat
  side : List Bool
  cost : Rat
def arcS (a : ArcS) : SV := .agg ([iv a.f, iv a.t, strv a.cap, strv a.cost])
@[simp] theorem arcS_csz (a : ArcS) : (arcS a).csz = 4 := rfl
@[simp] theorem arcS_isTup (a : ArcS) : (arcS a).isTup = false := rfl
@[simp] theorem arcS_isAgg (a : ArcS) : (arcS a).isAgg = true := rfl
@[simp] theorem arcS_one (a : ArcS) : (arcS a).one = false := rfl
@[simp] theorem arcS_pure (a : ArcS) : (arcS a).pure = true := rfl
@[simp] theorem arcS_lt (n : Nat) (a : ArcS) : (arcS a).lt n = true := rfl
@[simp] theorem arcS_uses (n : Nat) (a : ArcS) : (arcS a).uses n = false := rfl
@[simp] theorem arcS_ks (a : ArcS) : (arcS a).ks = [] := rfl
@[simp] theorem arcS_f0 (a : ArcS) : lget (arcS a).cells 0 = iv a.f := rfl
@[simp] theorem arcS_f1 (a : ArcS) : lget (arcS a).cells 1 = iv a.t := rfl
@[simp] theorem arcS_f2 (a : ArcS) : lget (arcS a).cells 2 = strv a.cap := rfl
@[simp] theorem arcS_f3 (a : ArcS) : lget (arcS a).cells 3 = strv a.cost := rfl
theorem lget_arcS {l : List _} {i : Nat} (h : i < l.length) : lget (l.map arcS) i = arcS (gt l i) := lget_m _ h
@[simp] theorem arcS_okE (l : List ArcS) : okE 4 (l.map arcS) = True := by cases l <;> simp [okE]
def arcQ (a : Arc) : SV := .agg ([iv a.f, iv a.t] ++ (rsv a.cap).cells ++ (rsv a.cost).cells)
@[simp] theorem arcQ_csz (a : Arc) : (arcQ a).csz = 10 := rfl
@[simp] theorem arcQ_isTup (a : Arc) : (arcQ a).isTup = false := rfl
@[simp] theorem arcQ_isAgg (a : Arc) : (arcQ a).isAgg = true := rfl
@[simp] theorem arcQ_one (a : Arc) : (arcQ a).one = false := rfl
@[simp] theorem arcQ_pure (a : Arc) : (arcQ a).pure = true := rfl
@[simp] theorem arcQ_lt (n : Nat) (a : Arc) : (arcQ a).lt n = true := rfl
@[simp] theorem arcQ_uses (n : Nat) (a : Arc) : (arcQ a).uses n = false := rfl
@[simp] theorem arcQ_ks (a : Arc) : (arcQ a).ks = [] := rfl
@[simp] theorem arcQ_f0 (a : Arc) : lget (arcQ a).cells 0 = iv a.f := rfl
@[simp] theorem arcQ_f1 (a : Arc) : lget (arcQ a).cells 1 = iv a.t := rfl
@[simp] theorem arcQ_f2 (a : Arc) : SV.agg (((arcQ a).cells.drop 2).take 4) = rsv a.cap := rfl
@[simp] theorem arcQ_f6 (a : Arc) : SV.agg (((arcQ a).cells.drop 6).take 4) = rsv a.cost := rfl
theorem lget_arcQ {l : List _} {i : Nat} (h : i < l.length) : lget (l.map arcQ) i = arcQ (gt l i) := lget_m _ h
def arcP (a : Arc) : SV := .agg ([iv a.f, iv a.t] ++ (qsv a.cap).cells ++ (qsv a.cost).cells)
@[simp] theorem arcP_csz (a : Arc) : (arcP a).csz = 10 := rfl
@[simp] theorem arcP_isTup (a : Arc) : (arcP a).isTup = false := rfl
@[simp] theorem arcP_isAgg (a : Arc) : (arcP a).isAgg = true := rfl
@[simp] theorem arcP_one (a : Arc) : (arcP a).one = false := rfl
@[simp] theorem arcP_pure (a : Arc) : (arcP a).pure = true := rfl
@[simp] theorem arcP_lt (n : Nat) (a : Arc) : (arcP a).lt n = true := rfl
@[simp] theorem arcP_uses (n : Nat) (a : Arc) : (arcP a).uses n = false := rfl
@[simp] theorem arcP_ks (a : Arc) : (arcP a).ks = [] := rfl
@[simp] theorem arcP_f0 (a : Arc) : lget (arcP a).cells 0 = iv a.f := rfl
@[simp] theorem arcP_f1 (a : Arc) : lget (arcP a).cells 1 = iv a.t := rfl
@[simp] theorem arcP_f2 (a : Arc) : SV.agg (((arcP a).cells.drop 2).take 4) = qsv a.cap := rfl
@[simp] theorem arcP_f6 (a : Arc) : SV.agg (((arcP a).cells.drop 6).take 4) = qsv a.cost := rfl
theorem lget_arcP {l : List _} {i : Nat} (h : i < l.length) : lget (l.map arcP) i = arcP (gt l i) := lget_m _ h
def shipQ (p : Ship) : SV := .agg ([bov p.none, .ro (p.flow.map rsv), .ro (p.prices.map rsv), .ro (p.side.map bov)] ++ (rsv p.cost).cells)
@[simp] theorem shipQ_csz (p : Ship) : (shipQ p).csz = 8 := rfl
@[simp] theorem shipQ_isTup (p : Ship) : (shipQ p).isTup = false := rfl
@[simp] theorem shipQ_isAgg (p : Ship) : (shipQ p).isAgg = true := rfl
@[simp] theorem shipQ_one (p : Ship) : (shipQ p).one = false := rfl
@[simp] theorem shipQ_pure (p : Ship) : (shipQ p).pure = true := rfl
@[simp] theorem shipQ_lt (n : Nat) (p : Ship) : (shipQ p).lt n = true := rfl
@[simp] theorem shipQ_uses (n : Nat) (p : Ship) : (shipQ p).uses n = false := rfl
@[simp] theorem shipQ_ks (p : Ship) : (shipQ p).ks = [] := rfl
@[simp] theorem shipQ_f0 (p : Ship) : lget (shipQ p).cells 0 = bov p.none := rfl
@[simp] theorem shipQ_f1 (p : Ship) : lget (shipQ p).cells 1 = .ro (p.flow.map rsv) := rfl
@[simp] theorem shipQ_f2 (p : Ship) : lget (shipQ p).cells 2 = .ro (p.prices.map rsv) := rfl
@[simp] theorem shipQ_f3 (p : Ship) : lget (shipQ p).cells 3 = .ro (p.side.map bov) := rfl
@[simp] theorem shipQ_f4 (p : Ship) : SV.agg (((shipQ p).cells.drop 4).take 4) = rsv p.cost := rfl
def shipP (p : Ship) : SV := .agg ([bov p.none, .ro (p.flow.map qsv), .ro (p.prices.map qsv), .ro (p.side.map bov)] ++ (qsv p.cost).cells)
@[simp] theorem shipP_csz (p : Ship) : (shipP p).csz = 8 := rfl
@[simp] theorem shipP_isTup (p : Ship) : (shipP p).isTup = false := rfl
@[simp] theorem shipP_isAgg (p : Ship) : (shipP p).isAgg = true := rfl
@[simp] theorem shipP_one (p : Ship) : (shipP p).one = false := rfl
@[simp] theorem shipP_pure (p : Ship) : (shipP p).pure = true := rfl
@[simp] theorem shipP_lt (n : Nat) (p : Ship) : (shipP p).lt n = true := rfl
@[simp] theorem shipP_uses (n : Nat) (p : Ship) : (shipP p).uses n = false := rfl
@[simp] theorem shipP_ks (p : Ship) : (shipP p).ks = [] := rfl
@[simp] theorem shipP_f0 (p : Ship) : lget (shipP p).cells 0 = bov p.none := rfl
@[simp] theorem shipP_f1 (p : Ship) : lget (shipP p).cells 1 = .ro (p.flow.map qsv) := rfl
@[simp] theorem shipP_f2 (p : Ship) : lget (shipP p).cells 2 = .ro (p.prices.map qsv) := rfl
@[simp] theorem shipP_f3 (p : Ship) : lget (shipP p).cells 3 = .ro (p.side.map bov) := rfl
@[simp] theorem shipP_f4 (p : Ship) : SV.agg (((shipP p).cells.drop 4).take 4) = qsv p.cost := rfl
@[simp] theorem okE_arcQ (l : List Arc) (r : List SV) : okE 10 (l.map arcQ ++ r) = (l = [] → okE 10 r) := by cases l <;> simp [okE]
@[simp] theorem okE_arcP (l : List Arc) (r : List SV) : okE 10 (l.map arcP ++ r) = (l = [] → okE 10 r) := by cases l <;> simp [okE]
theorem arcQ_mk {f t : Int} {c k : Rat} : SV.agg (.val (.int .i64 f) :: .val (.int .i64 t) :: ((rsv c).cells ++ (rsv k).cells)) = arcQ ⟨f, t, c, k⟩ := rfl
theorem arcP_mk {f t : Int} {c k : Rat} : SV.agg (.val (.int .i64 f) :: .val (.int .i64 t) :: ((qsv c).cells ++ (qsv k).cells)) = arcP ⟨f, t, c, k⟩ := rfl
/-- what is wrong with an arc -/
def bad (n : Int) (a : Arc) : Prop := a.f < 0 ∨ n ≤ a.f ∨ a.t < 0 ∨ n ≤ a.t ∨ a.cap < 0
instance (n : Int) (a : Arc) : Decidable (bad n a) := by unfold bad; infer_instance
/-- what is wrong with a net, by number -/
def netC (n : Int) (l : List Arc) : Nat := if n < 1 ∨ 60 < n ∨ 300 < l.length then 2 else if l.any (fun a => decide (bad n a)) then 4 else 0
theorem netC_2 {n : Int} {l : List Arc} (h : n < 1 ∨ 60 < n ∨ 300 < l.length) : netC n l = 2 := by unfold netC; rw [if_pos h]
theorem netC_4 {n : Int} {l : List Arc} (h : ¬ (n < 1 ∨ 60 < n ∨ 300 < l.length)) {i : Nat} (hi : i < l.length) (hb : bad n (gt l i)) : netC n l = 4 := by
  unfold netC; rw [if_neg h, if_pos]
  exact List.any_eq_true.2 ⟨_, gt_mem hi, decide_eq_true hb⟩
theorem netC_0 {n : Int} {l : List Arc} (h : ¬ (n < 1 ∨ 60 < n ∨ 300 < l.length)) (hb : ∀ i, i < l.length → ¬ bad n (gt l i)) : netC n l = 0 := by
  unfold netC; rw [if_neg h, if_neg]
  intro hh
  obtain ⟨a, ha, hb'⟩ := List.any_eq_true.1 hh
  obtain ⟨i, hi, rfl⟩ := List.getElem_of_mem ha
  rw [gt_get hi] at hb'
  exact hb i hi (of_decide_eq_true hb')
theorem netC_le (n : Int) (l : List Arc) : netC n l = 0 ∨ netC n l = 2 ∨ netC n l = 4 := by
  unfold netC; split
  · exact .inr (.inl rfl)
  · split
    · exact .inr (.inr rfl)
    · exact .inl rfl
/-- a net that is one -/
structure Net (n : Nat) (l : List Arc) : Prop where
  n1 : 1 ≤ n
  n2 : n ≤ 60
  m : l.length ≤ 300
  a : ∀ i, i < l.length → ∃ f t : Nat, (gt l i).f = f ∧ (gt l i).t = t ∧ f < n ∧ t < n
theorem net_of {n : Int} {l : List Arc} (h : netC n l = 0) : ∃ k : Nat, n = k ∧ Net k l := by
  unfold netC at h
  split at h
  · omega
  · rename_i h0
    split at h
    · omega
    · rename_i h1
      refine ⟨n.toNat, by omega, by omega, by omega, by omega, fun i hi => ?_⟩
      have hb : ¬ bad n (gt l i) := fun hb => h1 (List.any_eq_true.2 ⟨_, gt_mem hi, decide_eq_true hb⟩)
      unfold bad at hb
      exact ⟨(gt l i).f.toNat, (gt l i).t.toNat, by omega, by omega, by omega, by omega⟩
/-- arcs whose numbers are not great -/
structure ArcW (l : List Arc) : Prop where
  n : l.length ≤ 1048576
  cap : ∀ i, i < l.length → qw 2200 (gt l i).cap
  cost : ∀ i, i < l.length → qw 2200 (gt l i).cost
/-! arcs out of texts -/
def okA (l : List ArcS) : Bool := l.all fun a => decide ((qrd 300 a.cap).2.1 = 0 ∧ (qrd 300 a.cost).2.1 = 0)
def arcOf (a : ArcS) : Arc := ⟨a.f, a.t, num a.cap, num a.cost⟩
def arcs (l : List ArcS) : List Arc := l.map arcOf
@[simp] theorem arcs_len (l : List ArcS) : (arcs l).length = l.length := by simp [arcs]
theorem gt_arcs {l : List ArcS} {i : Nat} (h : i < l.length) : gt (arcs l) i = arcOf (gt l i) := gt_map _ h
theorem arcs_take {l : List ArcS} {i : Nat} (h : i < l.length) : (arcs l).take (i + 1) = (arcs l).take i ++ [arcOf (gt l i)] := by
  rw [take_gt (by simpa using h), gt_arcs h]
theorem okA_false {l : List ArcS} {i : Nat} (h : i < l.length) (h' : ¬ ((qrd 300 (gt l i).cap).2.1 = 0 ∧ (qrd 300 (gt l i).cost).2.1 = 0)) : okA l = false := by
  cases hh : okA l with
  | false => rfl
  | true => exact absurd (of_decide_eq_true (List.all_eq_true.1 hh _ (gt_mem h))) h'
theorem okA_true {l : List ArcS} (h : ∀ i, i < l.length → (qrd 300 (gt l i).cap).2.1 = 0 ∧ (qrd 300 (gt l i).cost).2.1 = 0) : okA l = true := by
  refine List.all_eq_true.2 fun s hs => decide_eq_true ?_
  obtain ⟨i, hi, rfl⟩ := List.getElem_of_mem hs
  rw [gt_get hi]; exact h i hi
structure SmA (l : List ArcS) : Prop where
  n : l.length ≤ 1048576
  cap : ∀ i, i < l.length → (gt l i).cap.size ≤ 1048576
  cost : ∀ i, i < l.length → (gt l i).cost.size ≤ 1048576
theorem arcW (l : List ArcS) (h : l.length ≤ 1048576) : ArcW (arcs l) where
  n := by simpa using h
  cap i hi := by rw [arcs_len] at hi; rw [gt_arcs hi]; exact qw_qrd _
  cost i hi := by rw [arcs_len] at hi; rw [gt_arcs hi]; exact qw_qrd _
def arcsP (l : List ArcS) : List SV := if okA l then (arcs l).map arcP else []
def arcsQ (l : List ArcS) : List SV := if okA l then (arcs l).map arcQ else []
/-! sums -/
/-- do the caps of the i-th arc count? -/
def over (l : List Arc) (side : List Bool) (i : Nat) : Bool := gt side (gt l i).f.toNat && !gt side (gt l i).t.toNat
def thr (l : List Arc) (side : List Bool) : Nat → Rat
  | 0 => 0
  | i + 1 => if over l side i = true then thr l side i + (gt l i).cap else thr l side i
def hasv (k : List Rat) (side : List Bool) : Nat → Rat
  | 0 => 0
  | v + 1 => if gt side v = true then hasv k side v + gt k v else hasv k side v
def costv (l : List Arc) (flow : List Rat) : Nat → Rat
  | 0 => 0
  | i + 1 => costv l flow i + (gt l i).cost * gt flow i
/-- what node v sends more than it gets by the first arcs -/
def dl (l : List Arc) (flow : List Rat) (v : Nat) : Nat → Rat
  | 0 => 0
  | i + 1 => (dl l flow v i + if (gt l i).f.toNat = v then gt flow i else 0) - if (gt l i).t.toNat = v then gt flow i else 0
def outs (n : Nat) (l : List Arc) (flow : List Rat) (i : Nat) : List Rat := (List.range n).map fun v => dl l flow v i
def lefts (n : Nat) (k : List Rat) (l : List Arc) (flow : List Rat) (i : Nat) : List Rat := (List.range n).map fun v => gt k v - dl l flow v i
@[simp] theorem outs_len (n : Nat) (l : List Arc) (flow : List Rat) (i : Nat) : (outs n l flow i).length = n := by simp [outs]
@[simp] theorem lefts_len (n : Nat) (k : List Rat) (l : List Arc) (flow : List Rat) (i : Nat) : (lefts n k l flow i).length = n := by simp [lefts]
theorem gt_range {n v : Nat} {f : Nat → Rat} (h : v < n) : gt ((List.range n).map f) v = f v := by simp [gt, h]
theorem gt_outs {n v i : Nat} {l : List Arc} {flow : List Rat} (h : v < n) : gt (outs n l flow i) v = dl l flow v i := gt_range h
theorem gt_lefts {n v i : Nat} {k : List Rat} {l : List Arc} {flow : List Rat} (h : v < n) : gt (lefts n k l flow i) v = gt k v - dl l flow v i := gt_range h
theorem outs_zero {n : Nat} {l : List Arc} {flow : List Rat} : outs n l flow 0 = List.replicate n 0 := by
  refine ext_gt' (by simp) fun v hv => ?_
  simp only [outs_len] at hv
  rw [gt_outs hv]; simp [dl, gt, hv]
theorem lefts_zero {n : Nat} {k : List Rat} {l : List Arc} {flow : List Rat} (h : k.length = n) : lefts n k l flow 0 = k := by
  refine ext_gt' (by simp [h]) fun v hv => ?_
  simp only [lefts_len] at hv
  rw [gt_lefts hv]; simp [dl]; grind
/-- the list when the i-th arc's first node is done -/
def outs1 (n : Nat) (l : List Arc) (flow : List Rat) (i : Nat) : List Rat := (List.range n).map fun v => dl l flow v i + if (gt l i).f.toNat = v then gt flow i else 0
def lefts1 (n : Nat) (k : List Rat) (l : List Arc) (flow : List Rat) (i : Nat) : List Rat := (List.range n).map fun v => gt k v - (dl l flow v i + if (gt l i).f.toNat = v then gt flow i else 0)
@[simp] theorem outs1_len (n : Nat) (l : List Arc) (flow : List Rat) (i : Nat) : (outs1 n l flow i).length = n := by simp [outs1]
@[simp] theorem lefts1_len (n : Nat) (k : List Rat) (l : List Arc) (flow : List Rat) (i : Nat) : (lefts1 n k l flow i).length = n := by simp [lefts1]
theorem gt_outs1 {n v i : Nat} {l : List Arc} {flow : List Rat} (h : v < n) : gt (outs1 n l flow i) v = dl l flow v i + if (gt l i).f.toNat = v then gt flow i else 0 := gt_range h
theorem gt_lefts1 {n v i : Nat} {k : List Rat} {l : List Arc} {flow : List Rat} (h : v < n) : gt (lefts1 n k l flow i) v = gt k v - (dl l flow v i + if (gt l i).f.toNat = v then gt flow i else 0) := gt_range h
theorem outs_set {n i f : Nat} {l : List Arc} {flow : List Rat} (hf : (gt l i).f = f) (h : f < n) : (outs n l flow i).set f (dl l flow f i + gt flow i) = outs1 n l flow i := by
  have hf' : (gt l i).f.toNat = f := by omega
  refine ext_gt' (by simp) fun v hv => ?_
  simp only [List.length_set, outs_len] at hv
  rw [gt_set (by simpa using hv), gt_outs1 hv, gt_outs hv, hf']
  split
  · rename_i e; subst e; rfl
  · grind
theorem outs1_set {n i t : Nat} {l : List Arc} {flow : List Rat} (ht : (gt l i).t = t) (h : t < n) : (outs1 n l flow i).set t ((dl l flow t i + if (gt l i).f.toNat = t then gt flow i else 0) - gt flow i) = outs n l flow (i + 1) := by
  have ht' : (gt l i).t.toNat = t := by omega
  refine ext_gt' (by simp) fun v hv => ?_
  simp only [List.length_set, outs1_len] at hv
  rw [gt_set (by simpa using hv), gt_outs1 hv, gt_outs hv]
  simp only [dl, ht']
  by_cases e : t = v
  · subst e; simp
  · rw [if_neg e, if_neg e]; grind
theorem lefts_set {n i f : Nat} {k : List Rat} {l : List Arc} {flow : List Rat} (hf : (gt l i).f = f) (h : f < n) : (lefts n k l flow i).set f (gt k f - dl l flow f i - gt flow i) = lefts1 n k l flow i := by
  have hf' : (gt l i).f.toNat = f := by omega
  refine ext_gt' (by simp) fun v hv => ?_
  simp only [List.length_set, lefts_len] at hv
  rw [gt_set (by simpa using hv), gt_lefts1 hv, gt_lefts hv, hf']
  split
  · rename_i e; subst e; grind
  · grind
theorem lefts1_set {n i t : Nat} {k : List Rat} {l : List Arc} {flow : List Rat} (ht : (gt l i).t = t) (h : t < n) : (lefts1 n k l flow i).set t (gt k t - (dl l flow t i + if (gt l i).f.toNat = t then gt flow i else 0) + gt flow i) = lefts n k l flow (i + 1) := by
  have ht' : (gt l i).t.toNat = t := by omega
  refine ext_gt' (by simp) fun v hv => ?_
  simp only [List.length_set, lefts1_len] at hv
  rw [gt_set (by simpa using hv), gt_lefts1 hv, gt_lefts hv]
  simp only [dl, ht']
  by_cases e : t = v
  · subst e; simp; grind
  · rw [if_neg e, if_neg e]; grind
/-! widths -/
theorem qw_if {k : Nat} {c : Prop} [Decidable c] {x : Rat} (h : qw k x) (h1 : 1 ≤ k) : qw k (if c then x else 0) := by
  split
  · exact h
  · exact qw_zero _ h1
theorem qw_thr {l : List Arc} (hw : ArcW l) (side : List Bool) : ∀ i, i ≤ l.length → qw (1 + 2201 * i) (thr l side i)
  | 0, _ => qw_zero _ (by omega)
  | i + 1, h => by
    unfold thr; split
    · exact qw_mono (qw_add (qw_thr hw side i (by omega)) (hw.cap i (by omega))) (by omega)
    · exact qw_mono (qw_thr hw side i (by omega)) (by omega)
theorem qw_hasv {k : List Rat} (hw : Wd 2200 k) (side : List Bool) : ∀ i, i ≤ k.length → qw (1 + 2201 * i) (hasv k side i)
  | 0, _ => qw_zero _ (by omega)
  | i + 1, h => by
    unfold hasv; split
    · exact qw_mono (qw_add (qw_hasv hw side i (by omega)) (hw i (by omega))) (by omega)
    · exact qw_mono (qw_hasv hw side i (by omega)) (by omega)
theorem qw_dl1 {l : List Arc} {flow : List Rat} (hf : Wd 2200 flow) (hl : flow.length = l.length) (v : Nat) {i : Nat} (h : i < l.length) {k : Nat} (hd : qw k (dl l flow v i)) : qw (k + 2201) (dl l flow v i + if (gt l i).f.toNat = v then gt flow i else 0) :=
  qw_mono (qw_add hd (qw_if (hf i (by omega)) (by omega))) (by omega)
theorem qw_dl {l : List Arc} {flow : List Rat} (hf : Wd 2200 flow) (hl : flow.length = l.length) (v : Nat) : ∀ i, i ≤ l.length → qw (1 + 4402 * i) (dl l flow v i)
  | 0, _ => qw_zero _ (by omega)
  | i + 1, h => qw_mono (qw_sub (qw_dl1 hf hl v (by omega) (qw_dl hf hl v i (by omega))) (qw_if (hf i (by omega)) (by omega))) (by omega)
/-! what shows that a plan is right -/
/-- what an arc costs beyond what the prices of its ends pay -/
def red (a : Arc) (p : Ship) : Rat := a.cost + gt p.prices a.f.toNat - gt p.prices a.t.toNat
def slack (l : List Arc) (p : Ship) (i : Nat) : Prop := (red (gt l i) p < 0 ∧ gt p.flow i < (gt l i).cap) ∨ (0 < red (gt l i) p ∧ 0 < gt p.flow i)
structure Within (l : List Arc) (flow : List Rat) : Prop where
  n : flow.length = l.length
  a : ∀ i, i < l.length → 0 ≤ gt flow i ∧ gt flow i ≤ (gt l i).cap
structure ShipF (n : Nat) (l : List Arc) (k : List Rat) (p : Ship) : Prop where
  w : Within l p.flow
  pr : p.prices.length = n
  d : ∀ v, v < n → dl l p.flow v l.length = gt k v
  s : ∀ i, i < l.length → ¬ slack l p i
  c : costv l p.flow l.length = p.cost
structure ShipN (n : Nat) (l : List Arc) (k : List Rat) (p : Ship) : Prop where
  sn : p.side.length = n
  c : thr l p.side l.length < hasv k p.side n
def ShipOK (n : Nat) (l : List Arc) (k : List Rat) (p : Ship) : Prop := if p.none = true then ShipN n l k p else ShipF n l k p
noncomputable def shipB (n : Nat) (l : List Arc) (k : List Rat) (p : Ship) : Bool := @decide (ShipOK n l k p) (Classical.propDecidable _)
theorem shipB_no {n : Nat} {l : List Arc} {k : List Rat} {p : Ship} (h : ¬ ShipOK n l k p) : shipB n l k p = false := by unfold shipB; simp [h]
theorem shipB_yes {n : Nat} {l : List Arc} {k : List Rat} {p : Ship} (h : ShipOK n l k p) : shipB n l k p = true := by unfold shipB; simp [h]
theorem noN {n : Nat} {l : List Arc} {k : List Rat} {p : Ship} (hn : p.none = true) (h : ¬ ShipN n l k p) : shipB n l k p = false := shipB_no (by unfold ShipOK; rwa [if_pos hn])
theorem noF {n : Nat} {l : List Arc} {k : List Rat} {p : Ship} (hn : p.none = false) (h : ¬ ShipF n l k p) : shipB n l k p = false := shipB_no (by unfold ShipOK; rwa [if_neg (by simp [hn])])
theorem yesN {n : Nat} {l : List Arc} {k : List Rat} {p : Ship} (hn : p.none = true) (h : ShipN n l k p) : shipB n l k p = true := shipB_yes (by unfold ShipOK; rwa [if_pos hn])
theorem yesF {n : Nat} {l : List Arc} {k : List Rat} {p : Ship} (hn : p.none = false) (h : ShipF n l k p) : shipB n l k p = true := shipB_yes (by unfold ShipOK; rwa [if_neg (by simp [hn])])
noncomputable def withB (l : List Arc) (flow : List Rat) : Bool := @decide (Within l flow) (Classical.propDecidable _)
theorem withB_no {l : List Arc} {flow : List Rat} (h : ¬ Within l flow) : withB l flow = false := by unfold withB; simp [h]
theorem withB_yes {l : List Arc} {flow : List Rat} (h : Within l flow) : withB l flow = true := by unfold withB; simp [h]
/-- a plan whose numbers are not great -/
structure ShipW (p : Ship) : Prop where
  fn : p.flow.length ≤ 1048576
  pn : p.prices.length ≤ 1048576
  sn : p.side.length ≤ 1048576
  wf : Wd 2200 p.flow
  wp : Wd 2200 p.prices
  wc : qw 2200 p.cost
end Go.Ne


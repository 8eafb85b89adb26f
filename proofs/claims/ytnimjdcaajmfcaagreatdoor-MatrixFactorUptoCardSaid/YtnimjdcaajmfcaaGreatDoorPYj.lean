/- A table taken apart column by column, as lists. What matrix.Factor returns. What matrix.Factor returns: the walk. A text of the prover's own. -/
import Derived.Test.YtnimjdcaajmfcaaGreatDoorPEg
import Derived.Test.YtnimjdcaajmfcaaGreatDoorPMx
namespace Go.Dt
open Go Go.Sv Go.Pl Go.Proofs Go.Tb Go.Ut Go.Mx
theorem LuI.congr {n : Nat} {A : Mat} {k : Nat} {M M' : Mat} {ord ord' : Nat → Nat} {odd : Bool} (h : LuI n A k M ord odd) (hk : k ≤ n) (hM : ∀ r c, r < n → c < n → M' r c = M r c) (ho : ∀ i, i < n → ord' i = ord i) : LuI n A k M' ord' odd where
  lt i hi := by rw [ho i hi]; exact h.lt i hi
  inj i j hi hj e := by rw [ho i hi, ho j hj] at e; exact h.inj i j hi hj e
  sur r hr := by
    obtain ⟨i, hi, e⟩ := h.sur r hr
    exact ⟨i, hi, by rw [ho i hi]; exact e⟩
  eq i c hi hc := by
    have e1 : sumR (fun j => M' i j * ut M' j c) (min i k) = sumR (fun j => M i j * ut M j c) (min i k) := sumR_congr _ fun j hj => by
      unfold ut; rw [hM i j hi (by omega), hM j c (by omega) hc]
    have e2 : ut M' i c = ut M i c := by unfold ut; rw [hM i c hi hc]
    rw [ho i hi, h.eq i c hi hc, e1, e2, hM i c hi hc]
  piv j hj := by rw [hM j j (by omega) (by omega)]; exact h.piv j hj
  det := by
    rw [det_congr (B := upM k M) fun r c hr hc => by unfold upM; rw [hM r c hr hc]]; exact h.det
def facBy (m : List (List Rat)) (k x : Nat) : Rat := gt (gt m x) k / gt (gt m k) k
def facRow (m : List (List Rat)) (n k x : Nat) : List Rat := (subO (gt m x) (gt m k) (facBy m k x) (k + 1) (n - (k + 1))).set k (facBy m k x)
/-- the rows below k, those ahead of i done -/
def facF (m : List (List Rat)) (n k i x : Nat) : List Rat := if k < x ∧ x < i then facRow m n k x else gt m x
def facL (m : List (List Rat)) (n k : Nat) : List (List Rat) := (List.range n).map (facF m n k n)
@[simp] theorem facRow_len (m : List (List Rat)) (n k x : Nat) : (facRow m n k x).length = (gt m x).length := by simp [facRow]
@[simp] theorem facL_len (m : List (List Rat)) (n k : Nat) : (facL m n k).length = n := by simp [facL]
theorem gt_facRow {n W : Nat} {m : List (List Rat)} (h : Tw n n W m) {k x c : Nat} (hx : x < n) (hc : c < n) (hkx : k < x) : gt (facRow m n k x) c = elim (ofL m) k x c := by
  have hl := h.r x hx
  unfold facRow elim
  rw [gt_set (by simp; omega), gt_subO (by omega)]
  by_cases e : k = c
  · rw [if_pos e, if_neg (by omega), if_pos e.symm]; rfl
  · rw [if_neg e]
    by_cases l : c < k
    · rw [if_neg (fun q => by omega), if_pos (.inr l)]; rfl
    · rw [if_pos ⟨by omega, by omega⟩, if_neg (fun q => by omega), if_neg (fun q => e q.symm)]; rfl
theorem Tw.facL {n W : Nat} {m : List (List Rat)} (h : Tw n n W m) {k : Nat} (hk : k < n) (h1 : 1 ≤ W) : Tw n n (5 * W) (facL m n k) where
  l := by simp
  r i hi := by
    unfold Dt.facL; rw [gt_range _ hi]; unfold facF; split
    · rw [facRow_len]; exact h.r i hi
    · exact h.r i hi
  q i j hi hj := by
    unfold Dt.facL; rw [gt_range _ hi]; unfold facF; split
    · rename_i g
      rw [gt_facRow h hi hj g.1]
      unfold elim
      split
      · exact qw_mono (h.q i j hi hj) (by omega)
      · split
        · exact qw_mono (qw_div (h.q i k hi hk) (h.q k k hk hk) h1) (by omega)
        · exact qw_mono (qw_sub (h.q i j hi hj) (qw_mul (h.q k j hk hj) (qw_div (h.q i k hi hk) (h.q k k hk hk) h1) (by omega))) (by omega)
    · exact qw_mono (h.q i j hi hj) (by omega)
theorem LuI.facL {n W k : Nat} {A : Mat} {m : List (List Rat)} {ord : List Nat} {odd : Bool} (h : LuI n A k (ofL m) (gt ord) odd) (t : Tw n n W m) (hk : k < n) (hp : gt (gt m k) k ≠ 0) : LuI n A (k + 1) (ofL (facL m n k)) (gt ord) odd :=
  (h.step hk hp).congr (by omega) (fun r c hr hc => by
    show gt (gt (Dt.facL m n k) r) c = _
    unfold Dt.facL; rw [gt_range _ hr]; unfold facF; split
    · rename_i g; exact gt_facRow t hr hc g.1
    · rename_i g; unfold elim; rw [if_pos (.inl (by omega))]; rfl) (fun _ _ => rfl)
def swpL (m : List (List Rat)) (k t : Nat) : List (List Rat) := (List.range m.length).map (swp m k t)
def swpN (ord : List Nat) (k t : Nat) : List Nat := (ord.set k (gt ord t)).set t (gt ord k)
@[simp] theorem swpL_len (m : List (List Rat)) (k t : Nat) : (swpL m k t).length = m.length := by simp [swpL]
@[simp] theorem swpN_len (ord : List Nat) (k t : Nat) : (swpN ord k t).length = ord.length := by simp [swpN]
theorem gt_swpL {m : List (List Rat)} {k t i : Nat} (h : i < m.length) : gt (swpL m k t) i = swp m k t i := by unfold swpL; rw [gt_range _ h]
theorem LuI.swpL {n k t : Nat} {A : Mat} {m : List (List Rat)} {ord : List Nat} {odd : Bool} (h : LuI n A k (ofL m) (gt ord) odd) (hl : m.length = n) (ho : ord.length = n) (hk : k < n) (hkt : k < t) (ht : t < n) : LuI n A k (ofL (swpL m k t)) (gt (swpN ord k t)) (!odd) :=
  (h.swap hk hkt ht).congr (by omega) (fun r c hr hc => by
    show gt (gt (Dt.swpL m k t) r) c = _
    rw [gt_swpL (by omega)]; unfold swp swpR
    split
    · rfl
    · split <;> rfl) (fun i hi => by
    unfold swpN swpO
    rw [gt_set (by simp; omega), gt_set (by omega)]
    by_cases e1 : i = k
    · rw [if_neg (by omega), if_pos e1.symm, if_pos e1]
    · rw [if_neg e1]
      by_cases e2 : i = t
      · rw [if_pos e2.symm, if_pos e2]
      · rw [if_neg (fun q => e2 q.symm), if_neg (fun q => e1 q.symm), if_neg e2])
theorem Tw.swpL {n W : Nat} {m : List (List Rat)} (h : Tw n n W m) {k t : Nat} (hk : k < n) (ht : t < n) : Tw n n W (swpL m k t) where
  l := by rw [swpL_len, h.l]
  r i hi := by rw [gt_swpL (by rw [h.l]; exact hi)]; exact (swp_w h hk ht hi).1
  q i j hi hj := by rw [gt_swpL (by rw [h.l]; exact hi)]; exact (swp_w h hk ht hi).2 j hj
/-- how far it has come: the table, its rows' places in the first one, whether their order is odd -/
structure Fac (n : Nat) (a : List (List Rat)) (k : Nat) (m : List (List Rat)) (ord : List Nat) (odd : Bool) : Prop where
  i : LuI n (ofL a) k (ofL m) (gt ord) odd
  w : Tw n n (2200 * 5 ^ k) m
  o : ord.length = n
theorem Fac.init {n : Nat} {a : List (List Rat)} (h : Tw n n 2200 a) : Fac n a 0 a (List.range n) false where
  i := LuI.init.congr (by omega) (fun _ _ _ _ => rfl) (fun i hi => by simp [gt, hi])
  w := h
  o := by simp
theorem Fac.swap {n : Nat} {a : List (List Rat)} {k : Nat} {m : List (List Rat)} {ord : List Nat} {odd : Bool} (h : Fac n a k m ord odd) {t : Nat} (hk : k < n) (hkt : k < t) (ht : t < n) : Fac n a k (swpL m k t) (swpN ord k t) (!odd) where
  i := h.i.swpL h.w.l h.o hk hkt ht
  w := Tw.swpL h.w hk ht
  o := by rw [swpN_len, h.o]
theorem pow5_pos (k : Nat) : 1 ≤ 2200 * 5 ^ k := by have := Nat.pow_pos (n := k) (show 0 < 5 by omega); omega
theorem Fac.step {n : Nat} {a : List (List Rat)} {k : Nat} {m : List (List Rat)} {ord : List Nat} {odd : Bool} (h : Fac n a k m ord odd) (hk : k < n) (hp : gt (gt m k) k ≠ 0) : Fac n a (k + 1) (facL m n k) ord odd where
  i := h.i.facL h.w hk hp
  w := (Tw.facL h.w hk (pow5_pos k)).mono (by rw [Nat.pow_succ]; omega)
  o := h.o
theorem Fac.done {n : Nat} {a : List (List Rat)} {m : List (List Rat)} {ord : List Nat} {odd : Bool} (ha : Tw n n 2200 a) (h : Fac n a n m ord odd) (n6 : n ≤ 6) : LuOK n (ofL a) ⟨ord, m, odd, []⟩ (ofL a) where
  w := ⟨n6, h.o, h.w.mono (pow5_le (Nat.le_refl n) n6), by simp, fun i hi => by simp at hi⟩
  i := h.i
  z k hk := by simp at hk
  s r c _ _ := rfl
  q k hk r c hr hc := by
    obtain rfl : k = 0 := by simpa using hk
    exact qw_mono (ha.q r c hr hc) (by omega)
theorem Fac.none {n : Nat} {a : List (List Rat)} {k : Nat} {m : List (List Rat)} {ord : List Nat} {odd : Bool} (h : Fac n a k m ord odd) (hk : k < n) (hz : ∀ r, k ≤ r → r < n → gt (gt m r) k = 0) : Dt.det n (ofL a) = 0 := h.i.none hk hz
end Go.Dt
namespace Go.Mx
open Go Go.Sv Go.Pl Go.Proofs Go.Tb Go.Ut
theorem sbM_app {k : Nat} {es : List SV} (A B : Tab) : sbM k es (A ++ B) = sbM k es A ++ sbM k es B := by simp [sbM]
theorem leM_app2 : ∀ {A A' B B' : Tab}, A.length = A'.length → leM A A' → leM B B' → leM (A ++ B) (A' ++ B')
  | [], [], _, _, _, _, h => h
  | [], _ :: _, _, _, e, _, _ => by simp at e
  | _ :: _, [], _, _, e, _, _ => by simp at e
  | _ :: _, _ :: _, _, _, e, h, h' => ⟨h.1, leM_app2 (by simpa using e) h.2 h'⟩
theorem nlM_app (A B : Tab) : nlM (A ++ B) = nlM A ++ nlM B := by simp [nlM]
theorem nlL_r (x : List Rat) : nlL (x.map rsv) = x.map rsv := by
  induction x with
  | nil => rfl
  | cons y x ih => simp only [List.map_cons, nlL, ih]; congr 1
theorem nlM_rwT (C : List (List Rat)) : nlM (rwT C) = rwT C := by
  unfold rwT nlM
  rw [List.map_map]
  refine List.map_congr_left fun r _ => ?_
  simp [nlL_r]
theorem nlL_outV (w : Nat) (π : List Nat) : nlL (outV w π) = outV w π := by
  unfold outV
  induction π with
  | nil => rfl
  | cons y x ih => simp only [List.map_cons, nlL, ih]; congr 1
theorem fgtM_app (k : Nat) (A B : Tab) : fgtM k (A ++ B) = fgtM k A ++ fgtM k B := by simp [fgtM]
theorem usesL_r (k : Nat) (x : List Rat) : SV.usesL k (x.map rsv) = false := by
  rw [usesL_map, List.any_eq_false]; simp
theorem fgtM_rwT (k : Nat) (C : List (List Rat)) : fgtM k (rwT C) = rwT C := by
  unfold rwT fgtM
  rw [List.map_map]
  refine List.map_congr_left fun r _ => ?_
  simp [usesL_r]
theorem frz_rowT {C : Ctx} {N w n j : Nat} {R : List (List Rat)} {π : List Nat} {fr : List (Nat × SV)} {tl : Tab} (hR : R.length = n) (hj : j < n) (h : ∀ e ∈ π, (gt R e).length = w) (hf : sbF (j + 1) ((gt R j).map rsv) fr = fr) (hF : leF fr fr) (ht : sbM (j + 1) ((gt R j).map rsv) tl = tl) :
    Le C ⟨N, fr, some ⟨1, outF w R j π, false⟩ :: (rwN R j ++ tl)⟩ ⟨N, fr, some ⟨1, outF w R (j + 1) π, false⟩ :: (rwN R (j + 1) ++ tl)⟩ := by
  have hk : tget (some ⟨1, outF w R j π, false⟩ :: (rwN R j ++ tl)) (j + 1) = some ⟨4, (gt R j).map rsv, false⟩ := by
    show tget (rwN R j ++ tl) j = _
    rw [tget_ap (by simp; omega)]
    refine tget_of ?_
    rw [rwN_at (by omega), if_neg (by omega)]
  refine (Le.frz (j + 1) hk (by simp)).trans (Le.syn ?_)
  unfold frzS
  simp only [hk]
  rw [hf]
  refine ⟨rfl, hF, ?_, .inl ?_⟩
  · simp only [tset]
    rw [sbM_some, outF_next h, tset_eq, List.set_append_left _ _ (by simp; omega), sbM_app, ht]
    refine ⟨.inr rfl, leM_app2 (by simp [sbM]) (leM_idx ?_ fun k hk => ?_) (leM_self _)⟩
    · simp [sbM]
    · have hk : k < R.length := by simpa using hk
      rw [rwN_at hk]
      by_cases e1 : k < j + 1
      · rw [if_pos e1]; exact .inl rfl
      · rw [if_neg e1]
        right
        rw [sbM, List.getElem?_map, List.getElem?_set_ne (by omega), rwN_at hk, if_neg (by omega)]
        simp [sbL_map, sbV_rsv]
  · simp [sbM, tset_eq, tset]
theorem frz_rowsT {C : Ctx} {N w n : Nat} {R : List (List Rat)} {π : List Nat} {fr : List (Nat × SV)} {tl : Tab} (hR : R.length = n) (h : ∀ e ∈ π, (gt R e).length = w) (hf : ∀ j es, j < n → sbF (j + 1) es fr = fr) (hF : leF fr fr) (ht : ∀ j es, j < n → sbM (j + 1) es tl = tl) :
    ∀ j, j ≤ n → Le C ⟨N, fr, some ⟨1, outV w π, false⟩ :: (rwT R ++ tl)⟩ ⟨N, fr, some ⟨1, outF w R j π, false⟩ :: (rwN R j ++ tl)⟩
  | 0, _ => by rw [outF_zero, rwN_zero]; exact Le.refl _ _
  | j + 1, hj => (frz_rowsT hR h hf hF ht j (by omega)).trans (frz_rowT hR (by omega) h (hf j _ (by omega)) hF (ht j _ (by omega)))
theorem lget_nat {l : List Nat} {i : Nat} (h : i < l.length) : lget (l.map natV) i = iv ((gt l i : Nat) : Int) := by rw [lget_m _ h]; rfl
theorem lset_nat {l : List Nat} {i x : Nat} : lset (l.map natV) i (.val (.int .i64 ((x : Nat) : Int))) = (l.set i x).map natV := by rw [lset_eq, List.map_set]; rfl
theorem lset_rat {l : List Rat} {i : Nat} {x : Rat} : lset (l.map rsv) i (rsv x) = (l.set i x).map rsv := by rw [lset_eq, List.map_set]
theorem tsC {n : Nat} {R : List (List Rat)} {tl : Tab} {y : Option Ent} (h : R.length = n) : tset (rwT R ++ tl) (n + 2) y = rwT R ++ tset tl 2 y := tset_ap2 (i := 2) (by simpa using h)
theorem le_mx {C : Ctx} {N n w : Nat} {π : List Nat} {R : List (List Rat)} {fr fr' : List (Nat × SV)} {tl tl' : Tab} (hC : C.fx = []) (hr : ∀ y, y < π.length → gt π y < n) (hR : R.length = n) (hf : leF fr fr') (ht : leM tl tl') (h2 : ltF (n + (tl'.length + 1)) fr') (h3 : ltM (n + (tl'.length + 1)) tl') :
    Le C ⟨N, fr, some ⟨1, outV w π, false⟩ :: (rwT R ++ tl)⟩ ⟨N, fr', some ⟨1, outV w π, false⟩ :: (rwT R ++ tl')⟩ := by
  have e : (some (⟨1, outV w π, false⟩ : Ent) :: (rwT R ++ tl')).length = n + (tl'.length + 1) := by simp [hR]; omega
  refine Le.syn ⟨rfl, hf, ⟨.inr rfl, leM_ap _ ht⟩, .inr ⟨?_, ⟨?_, ?_⟩, by simp [hC]⟩⟩
  · rw [e]; exact h2
  · rw [e]; exact ltL_outV hr (by omega)
  · rw [e]; exact ltM_ap (ltM_rwT _ _) h3
end Go.Mx
namespace Go.Dt
open Go Go.Sv Go.Pl Go.Proofs Go.Tb Go.Ut Go.Mx
/-- the table taken apart, as it is made -/
def luE (n i : Nat) (odd : Bool) (l : SV) : Option Ent := some ⟨4, [.agg [.view (n + 2) 0 i, .view 0 0 n, bov odd, l]], false⟩
def orE (ord : List Nat) : Option Ent := some ⟨1, ord.map natV, false⟩
/-- the value that is handed over -/
theorem frz_lu {C : Ctx} {N n : Nat} {R : List (List Rat)} {π : List Nat} {m : List (List Rat)} {ord : List Nat} {odd : Bool} (hC : C.fx = []) (hr : Rep n π R (gt m)) (hm : m.length = n) (hw : ∀ i, i < n → (gt m i).length = n) (ho : ord.length = n) {fr : List (Nat × SV)} {tl : Tab}
    (hfr : leF fr [(2, .ptr (n + 1) 0 0), (3, .val .nilIface)]) :
    ∃ M', Le C ⟨N, fr, mxT n π R (luE n n odd (.ro []) :: orE ord :: tl)⟩ ⟨N, [(2, .rop (luV ⟨ord, m, odd, []⟩) 0), (3, .val .nilIface)], M'⟩ := by
  have lp := hr.lp
  have lc := hr.lc
  have pf : SV.pureL (ord.map natV) = true := by simp
  have wr : ∀ e ∈ π, (gt R e).length = n := fun e he => by
    obtain ⟨i, hi, rfl⟩ := List.getElem_of_mem he
    rw [gt_get hi, hr.e i (by omega)]; exact hw i (by omega)
  have un : ∀ k, n < k → ∀ es, sbL k es (outV n π) = outV n π := fun k hk es => by
    unfold outV
    rw [sbL_map]
    refine List.map_congr_left fun e he => ?_
    obtain ⟨i, hi, rfl⟩ := List.getElem_of_mem he
    have := hr.b i (by omega)
    rw [gt_get hi]
    simp [vw]; omega
  have sr : ∀ k es, sbM k es (rwT R) = rwT R := fun k es => by
    unfold rwT sbM
    rw [List.map_map]
    refine List.map_congr_left fun r _ => ?_
    simp [sbL_map, sbV_rsv]
  have s1 : Le C ⟨N, fr, mxT n π R (luE n n odd (.ro []) :: orE ord :: tl)⟩ ⟨N, [(2, .ptr (n + 1) 0 0), (3, .val .nilIface)], mxT n π R [luE n n odd (.ro []), orE ord]⟩ := by
    refine Le.syn ⟨rfl, hfr, ⟨.inr rfl, leM_ap _ (by simp [leM])⟩, .inr ⟨?_, ⟨ltL_outV (n := n) (fun y hy => hr.b y (by omega)) (by simp [mxT, lc]; omega), ltM_ap (ltM_rwT _ _) ?_⟩, by simp [hC]⟩⟩
    · simp [ltF, mxT, lc]
    · simp [luE, orE, ltM, mxT, lc]
  have hk : tget (mxT n π R [luE n n odd (.ro []), orE ord]) (n + 2) = some ⟨1, ord.map natV, false⟩ := by
    have := tget_ap2 (A := rwT R) (B := [luE n n odd (.ro []), orE ord]) (i := 1) (n := n) (by simpa using lc)
    simpa [mxT, tget, orE] using this
  have s2 := Le.frz (C := C) (st := ⟨N, [(2, .ptr (n + 1) 0 0), (3, .val .nilIface)], mxT n π R [luE n n odd (.ro []), orE ord]⟩) (n + 2) hk pf
  have tk : (ord.map natV).take n = ord.map natV := List.take_of_length_le (by simp; omega)
  have s3 : Le C (frzS (n + 2) ⟨N, [(2, .ptr (n + 1) 0 0), (3, .val .nilIface)], mxT n π R [luE n n odd (.ro []), orE ord]⟩)
      ⟨N, [(2, .ptr (n + 1) 0 0), (3, .val .nilIface)], some ⟨1, outV n π, false⟩ :: (rwT R ++ [some ⟨4, [.agg [.ro (ord.map natV), .view 0 0 n, bov odd, .ro []]], false⟩])⟩ := by
    refine Le.syn ?_
    unfold frzS
    simp only [hk]
    refine ⟨rfl, ?_, ?_, .inr ⟨?_, ?_, ?_⟩⟩
    · simp [leF, Go.Sv.get]
    · simp only [mxT, tset]
      rw [sbM_some, un _ (by omega), tsB lc, sbM_app, sr]
      refine ⟨.inr rfl, leM_ap _ ?_⟩
      simp [luE, leM, tset, ho, tk]
    · simp [ltF, lc]
    · exact ⟨ltL_outV (fun i hi => hr.b i (by omega)) (by simp; omega), ltM_ap (ltM_rwT _ _) (by simp [ltM])⟩
    · simp [hC]
  have s4 := frz_rowsT (C := C) (N := N) (w := n) (π := π) (fr := [(2, .ptr (n + 1) 0 0), (3, .val .nilIface)]) (tl := [some ⟨4, [.agg [.ro (ord.map natV), .view 0 0 n, bov odd, .ro []]], false⟩]) lc wr
    (fun j es hj => by simp; omega) (by simp [leF, Go.Sv.get]) (fun j es hj => by simp [sbM]) n (Nat.le_refl _)
  rw [outF_end hr hm] at s4
  have s5 := Le.frz (C := C) (st := ⟨N, [(2, .ptr (n + 1) 0 0), (3, .val .nilIface)], some ⟨1, m.map rlv, false⟩ :: (rwN R n ++ [some ⟨4, [.agg [.ro (ord.map natV), .view 0 0 n, bov odd, .ro []]], false⟩])⟩) 0 rfl (by simp)
  have tk2 : (m.map rlv).take n = m.map rlv := List.take_of_length_le (by simp; omega)
  have s6 : Le C (frzS 0 ⟨N, [(2, .ptr (n + 1) 0 0), (3, .val .nilIface)], some ⟨1, m.map rlv, false⟩ :: (rwN R n ++ [some ⟨4, [.agg [.ro (ord.map natV), .view 0 0 n, bov odd, .ro []]], false⟩])⟩)
      ⟨N, [(2, .ptr (n + 1) 0 0), (3, .val .nilIface)], List.replicate (n + 1) none ++ [some ⟨4, [.agg [.ro (ord.map natV), .ro (m.map rlv), bov odd, .ro []]], false⟩]⟩ := by
    refine Le.syn ?_
    simp only [frzS, tget, tset]
    refine ⟨rfl, by simp [leF, Go.Sv.get], ?_, .inl ?_⟩
    · rw [sbM_some, sbM_app, List.replicate_succ, List.cons_append]
      refine ⟨.inl rfl, leM_app2 (by simp [sbM, lc]) ?_ ?_⟩
      · refine leM_idx (by simp [sbM, lc]) fun k hk => .inl ?_
        have hk : k < n := by simpa using hk
        simp [hk]
      · simp [sbM, leM, hm, tk2]
    · simp [sbM, lc]
  have hk7 : tget (List.replicate (n + 1) none ++ [some ⟨4, [.agg [.ro (ord.map natV), .ro (m.map rlv), bov odd, .ro []]], false⟩]) (n + 1) = some ⟨4, [.agg [.ro (ord.map natV), .ro (m.map rlv), bov odd, .ro []]], false⟩ :=
    tget_ap2 (A := List.replicate (n + 1) none) (i := 0) (by simp)
  have s7 := Le.frz (C := C) (st := ⟨N, [(2, .ptr (n + 1) 0 0), (3, .val .nilIface)], List.replicate (n + 1) none ++ [some ⟨4, [.agg [.ro (ord.map natV), .ro (m.map rlv), bov odd, .ro []]], false⟩]⟩) (n + 1) hk7 (by simp)
  have e7 : (frzS (n + 1) ⟨N, [(2, .ptr (n + 1) 0 0), (3, .val .nilIface)], List.replicate (n + 1) none ++ [some ⟨4, [.agg [.ro (ord.map natV), .ro (m.map rlv), bov odd, .ro []]], false⟩]⟩).fr = [(2, .rop (luV ⟨ord, m, odd, []⟩) 0), (3, .val .nilIface)] := by
    simp only [frzS, hk7]
    simp [luV]
  refine ⟨(frzS (n + 1) ⟨N, [(2, .ptr (n + 1) 0 0), (3, .val .nilIface)], List.replicate (n + 1) none ++ [some ⟨4, [.agg [.ro (ord.map natV), .ro (m.map rlv), bov odd, .ro []]], false⟩]⟩).M, s1.trans (s2.trans (s3.trans (s4.trans (s5.trans (s6.trans (s7.trans ?_))))))⟩
  exact Le.syn ⟨by simp only [frzS, hk7], by rw [e7]; simp [leF, Go.Sv.get], leM_self _, .inl rfl⟩
/-- how far it has come -/
structure FacS where
  k : Nat
  m : List (List Rat)
  ord : List Nat
  odd : Bool
  π : List Nat
  R : List (List Rat)
structure FacI (n : Nat) (a : List (List Rat)) (s : FacS) : Prop where
  k : s.k ≤ n
  f : Fac n a s.k s.m s.ord s.odd
  r : Rep n s.π s.R (gt s.m)
end Go.Dt
namespace Go.Proofs
open Go.Sv Go Go.Tb Go.Pl Go.Ut Go.Mx Go.Dt
set_option maxRecDepth 10000 in
/-- a square table taken apart, or its determinant is 0 -/
theorem qFactor_ok (a : List (List Rat)) (n : Nat) (h : Tw n n 2200 a) (hn : n ≤ 6) (he : widthQ a = .tup [.val (.int .i64 n), .val (.bool true)]) :
    PureC Tryz.prog 10 [.ro (a.map rlv)] (fun y => (Dt.det n (ofL a) = 0 ∧ y = .tup [.val (.pointer none), erV 5]) ∨ ∃ f, LuOK n (ofL a) f (ofL a) ∧ f.later = [] ∧ y = .tup [.rop (luV f) 0, .val .nilIface]) := by
  have hl := h.l
  have gw := width_ok a (by omega) (fun r hr => by
    obtain ⟨i, hi, rfl⟩ := List.getElem_of_mem hr
    rw [gt_get hi, h.r i (by omega)]; omega)
  rw [he] at gw
  refine pure_enterW Tryz.func10 rfl (by simp) (fun C hC => ?_)
  simp
  refine callS (gw) (by simp) ?_
  simp [hl]
  refine call_here Tryz.func39 rfl (by simp) [] (by simp) (by simp) (fun C' hC' => ?_)
  simp (disch := omega) [hl]
  repeat (refine And.intro (by omega) ?_)
  refine CodeJ.le (Le.nl _) ?_
  simp [nlS, hl]
  rw [nlL_many]
  refine CodeJ.loopL (ι := Nat) (fun i => ⟨23, [(0, .ro (a.map rlv)), (3, .view 0 0 n), (9, iv n), (10, iv i)], some ⟨1, outI n n i, false⟩ :: rwT (a.take i)⟩)
    (fun i => i ≤ n) (fun i => n - i) 0 (by simp) ?_ ?_
  · simp [leS, hC', rwT, outI_zero]
    done
  · rintro i hi
    by_cases hin : i < n
    · have li := lget_rlv (l := a) (i := i) (by omega)
      have wi := h.r i hin
      have um := usesL_outI (w := n) (n := n) (i := i) (k := i + 1) (by omega)
      have mi : min i n = i := by omega
      have os := outI_set (w := n) hin
      have lo := lget_outI (w := n) hin
      have rt := rwT_take (a := a) (i := i) (by omega)
      simp (disch := omega) [hin, li, wi, um, nouse_rwT, hl, mi, lo, os, rt]
      repeat (refine And.intro (by omega) ?_)
      exact ⟨i + 1, by omega, by omega, Le.syn (by simp (disch := omega) [leS, hC, w64])⟩
    · obtain rfl : i = n := by omega
      rw [outI_end, List.take_of_length_le (by omega)]
      simp [hl]
      refine CodeJ.le ((Le.nilCell (i + 1) 0 1 (e := ⟨4, [.agg [.val (.slice none 0 0), .view 0 0 i, bov false, .val (.slice none 0 0)]], false⟩) (by show tget (rwT a ++ _) i = _; rw [tgA hl]; rfl) rfl rfl rfl (by simp)).trans ((Le.nl _).trans
        (Le.syn (st' := ⟨182, [(6, .ptr (i + 1) 0 0), (33, iv i), (34, iv (0 : Nat))], mxT i (List.range i) a [luE i 0 false (.ro []), orE []]⟩) ?_))) ?_
      · have nr := nlM_rwT a
        refine ⟨rfl, ?_, ?_, ?_⟩
        · simp [nlS, leF, Go.Sv.get]
        · simp [nlS, hl, tset, tsA, lset, mxT, luE, orE, nlM_app, nlL_outV, nr]
        · left; simp [nlS, nlM, tset_eq, hl, mxT]
      refine CodeJ.loopL (ι := Nat) (fun j => ⟨182, [(6, .ptr (i + 1) 0 0), (33, iv i), (34, iv j)], mxT i (List.range i) a [luE i j false (.ro []), orE (List.range j)]⟩)
        (fun j => j ≤ i) (fun j => i - j) 0 (by simp) ?_ ?_
      · refine ⟨rfl, ?_, ?_, ?_⟩
        · simp [leF, Go.Sv.get]
        · exact leM_self _
        · left; rfl
      · rintro j hj
        by_cases hji : j < i
        · simp only [mxT, luE, orE]
          have uo := usesL_outV (w := i) (π := List.range i) (n := i) (k := i + 2) (fun y hy => by simp at hy; simp [gt, hy]) (by omega)
          simp (disch := omega) [hji, tgA, tgB, tgC, tsA, tsB, hl, nouse_app2, nouse_rwT, fgtM_app, fgtM_rwT, uo]
          repeat (refine And.intro (by omega) ?_)
          refine ⟨⟨by simp [hC], by omega⟩, j + 1, by omega, by omega, ?_⟩
          have er : List.map natV (List.range (j + 1)) = List.map natV (List.range j) ++ [iv j] := by rw [List.range_succ]; simp [natV]
          rw [er]
          exact le_mx hC (n := i) (fun y hy => by simp at hy; simp [gt, hy]) hl (by simp (disch := omega) [leF, Go.Sv.get, w64]) (by simp [leM]) (by simp [ltF]) (by simp [ltM])
        · obtain rfl : j = i := by omega
          simp only [mxT]
          simp [tgA, hl, luE]
          refine CodeJ.loopL (ι := FacS) (fun s => ⟨182, [(6, .ptr (j + 1) 0 0), (8, .view 0 0 j), (53, iv j), (54, iv s.k)], mxT j s.π s.R [luE j j s.odd (.ro []), orE s.ord]⟩)
            (FacI j a) (fun s => j - s.k) ⟨0, a, List.range j, false, List.range j, a⟩ ⟨by simp, Fac.init h, Rep.init hl⟩ ?_ ?_
          · simp [leS, hC, mxT, luE]
          · rintro ⟨k, m, ord, odd, π, R⟩ ⟨hk, hF, hr⟩
            dsimp only at hk hF hr
            dsimp only
            have lp := hr.lp
            have lc := hr.lc
            have lm := hF.w.l
            have lo := hF.o
            by_cases hkj : k < j
            · simp only [mxT, luE]
              simp (disch := omega) [hkj]
              repeat (refine And.intro (by omega) ?_)
              refine CodeJ.loopL (ι := Nat) (fun t => ⟨182, [(6, .ptr (j + 1) 0 0), (8, .view 0 0 j), (53, iv j), (54, iv k), (9, iv k), (10, iv t)], some ⟨1, outV j π, false⟩ :: (rwT R ++ [some ⟨4, [.agg [.view (j + 2) 0 j, .view 0 0 j, bov odd, .ro []]], false⟩, orE ord])⟩)
                (fun t => k ≤ t ∧ t ≤ j ∧ ∀ x, k ≤ x → x < t → gt (gt m x) k = 0) (fun t => j - t) k ⟨by omega, by omega, fun x h1 h2 => by omega⟩ ?_ ?_
              · simp [leS, hC]
              · rintro t ⟨t1, t2, t3⟩
                by_cases htj : t < j
                · have lot := lget_outV (w := j) (π := π) (i := t) (by omega)
                  have lb := hr.b t htj
                  have re := hr.e t htj
                  have tg := fun tl : Tab => tget_rw (C := R) (tl := tl) (e := gt π t) (by omega)
                  rw [re] at tg
                  have wt := hF.w.r t htj
                  have lr := lget_r (l := gt m t) (i := k) (by omega)
                  simp (disch := omega) [htj, lp, lot, tg, wt, lr]
                  repeat (refine And.intro (by omega) ?_)
                  refine callS (qSign_ok (gt (gt m t) k)) (by simp) ?_
                  simp (disch := omega) [w64, Int.sign_eq_zero_iff_zero, Rat.num_eq_zero]
                  repeat (refine And.intro (by omega) ?_)
                  have tj : ¬ (t : Int) = j := by omega
                  refine ⟨fun z => ⟨t + 1, ⟨by omega, by omega, fun x g1 g2 => ?_⟩, by omega, Le.syn (by simp (disch := omega) [leS, hC, w64])⟩, fun z => ⟨fun q => absurd q tj, fun _ => ?_⟩⟩
                  · by_cases xt : x = t
                    · rw [xt]; exact z
                    · exact t3 x g1 (by omega)
                  · refine ⟨fun tk => ?_, fun tk => ?_⟩
                    · have hkt : k < t := by omega
                      have lok := lget_outV (w := j) (π := π) (i := k) (by omega)
                      have l1 := lget_outV (w := j) (π := π.set k (gt π t)) (i := t) (by simp; omega)
                      have n1 := lget_nat (l := ord) (i := t) (by omega)
                      have n3 := lget_nat (l := ord.set k (gt ord t)) (i := t) (by simp; omega)
                      have n2 := lget_nat (l := ord) (i := k) (by omega)
                      have hF1 := hF.swap hkj hkt htj
                      have hr1 := (hr.swap hkj htj).same (g := gt (swpL m k t)) (fun i hi => gt_swpL (by omega))
                      have z1 : gt (gt (swpL m k t) k) k ≠ 0 := by
                        rw [gt_swpL (by omega)]; unfold swp; rw [if_pos rfl]; exact z
                      refine CodeJ.draw (.qs [0, 1, 2, 3, 4, 5, 6, 7, 8, 9, 10, 11, 12] <| .l 13 [0] <| .qs [14] <| .l 15 [0] <| .nil) (by kernel_rfl) (by kernel_rfl) (by simp) ?_
                      simp (disch := omega) [lp, lot, lok, htj, hkj, lset_outV, l1]
                      repeat (refine And.intro (by omega) ?_)
                      refine CodeJ.draw (.qs [0, 1, 2, 3, 4, 5, 6, 7, 8, 9, 10, 11, 12, 13, 14, 15, 16, 17, 18, 19, 20, 21, 22, 23, 24] <| .l 25 [j + 2] <| .qs [26] <| .l 27 [j + 2] <| .nil) (by kernel_rfl) (by kernel_rfl) (by simp) ?_
                      simp (disch := omega) [tgA, tgB, tsA, tsB, lc, orE, n1, n2, n3, lo, htj, hkj, lset_nat, -List.map_set]
                      repeat (refine And.intro (by omega) ?_)
                      have hr2 : Rep j ((π.set k (gt π t)).set t (gt π k)) R (gt (swpL m k t)) := hr1
                      have hF2 : Fac j a k (swpL m k t) ((ord.set k (gt ord t)).set t (gt ord k)) (!odd) := hF1
                      generalize (π.set k (gt π t)).set t (gt π k) = π1 at *
                      generalize (ord.set k (gt ord t)).set t (gt ord k) = ord1 at *
                      generalize (!odd) = odd1 at *
                      generalize swpL m k t = m1 at *
                      clear hr1 hF1 l1 n1 n2 n3 lot lok lb re tg wt lr tj tk hr hF lp lc lm lo t1 t2 t3
                      refine CodeJ.loopL (ι := Nat × List (List Rat)) (fun ⟨i, R⟩ => ⟨182, [(6, .ptr (j + 1) 0 0), (8, .view 0 0 j), (53, iv j), (54, iv k), (9, iv k), (11, iv i)], some ⟨1, outV j π1, false⟩ :: (rwT R ++ [some ⟨4, [.agg [.view (j + 2) 0 j, .view 0 0 j, bov odd1, .ro []]], false⟩, some ⟨1, ord1.map natV, false⟩])⟩)
                        (fun ⟨i, R⟩ => k + 1 ≤ i ∧ i ≤ j ∧ Rep j π1 R (facF m1 j k i)) (fun ⟨i, R⟩ => j - i) (k + 1, R) ⟨by omega, by omega, hr2.same fun x _ => by unfold facF; rw [if_neg (by omega)]⟩ ?_ ?_
                      · simp (disch := omega) [leS, hC, w64, orE]
                      · clear hr2
                        rintro ⟨i, R⟩ ⟨i1, i2, hr⟩
                        have lc := hr.lc
                        have lp := hr.lp
                        dsimp only
                        by_cases hij : i < j
                        · have re := hr.e i hij
                          have rek := hr.e k hkj
                          rw [show facF m1 j k i i = gt m1 i by unfold facF; rw [if_neg (by omega)]] at re
                          rw [show facF m1 j k i k = gt m1 k by unfold facF; rw [if_neg (by omega)]] at rek
                          have lbi := hr.b i hij
                          have lbk := hr.b k hkj
                          have pne : ¬ gt π1 i = gt π1 k := fun q => absurd (hr.inj i k hij hkj q) (by omega)
                          have tgi := fun tl : Tab => tget_rw (C := R) (tl := tl) (e := gt π1 i) (by omega)
                          rw [re] at tgi
                          have tgk := fun tl : Tab => tget_rw (C := R) (tl := tl) (e := gt π1 k) (by omega)
                          rw [rek] at tgk
                          have loi := lget_outV (w := j) (π := π1) (i := i) (by omega)
                          have lok := lget_outV (w := j) (π := π1) (i := k) (by omega)
                          have wi := hF2.w.r i hij
                          have wk := hF2.w.r k hkj
                          have li := lget_r (l := gt m1 i) (i := k) (by omega)
                          have lk := lget_r (l := gt m1 k) (i := k) (by omega)
                          have p5 : 2200 * 5 ^ k ≤ 34375000 := pow5_le (n := j) (by omega) hn
                          have p1 := pow5_pos k
                          have q1 := hF2.w.q i k hij hkj
                          have q2 := hF2.w.q k k hkj hkj
                          have q3 := qw_div q1 q2 p1
                          simp (disch := omega) [hij, lp]
                          repeat (refine And.intro (by omega) ?_)
                          refine CodeJ.drawZ (.d 18 <| .qs [0, 1, 2, 3, 4, 5, 6, 7, 8, 9, 10, 11, 12, 13] <| .p 14 <| .qs [15, 16, 17] <| .b (.l 19 [j + 3] <| .qs [20] <| .nil)) (by kernel_rfl) (by kernel_rfl) (by simp) ?_
                          simp (disch := omega) [hij, hkj, lp, loi, lok, tgi, tgk, li, lk, wi, wk]
                          repeat (refine And.intro (by omega) ?_)
                          refine callV (qQuo_ok _ _ (qok_of q1 (by omega)) (qok_of q2 (by omega))) (by simp) ?_
                          simp (disch := omega) [lc, tgA, tgB, tgC, tsA, tsB, tsC]
                          repeat (refine And.intro (by omega) ?_)
                          refine CodeJ.draw (.qs [0, 1, 2, 3, 4, 5, 6, 7, 8, 9, 10, 11, 12, 13, 14] <| .l 15 [gt π1 i + 1, gt π1 k + 1] <| .nil) (by kernel_rfl) (by kernel_rfl) (by simp) ?_
                          have gT := qTakeO_ok (gt m1 i) (gt m1 k) (gt (gt m1 i) k / gt (gt m1 k) k) (k + 1) (j - (k + 1)) (by omega) (by omega) (by omega) (fun y hy => qok_of (hF2.w.q i y hij (by omega)) (by omega)) (fun y hy => qok_of (hF2.w.q k y hkj (by omega)) (by omega)) (qok_of q3 (by omega))
                            (fun y hy => qok_of (qw_mul (hF2.w.q k y hkj (by omega)) q3 (by omega)) (by omega))
                          have wk1 : IntKind.i64.wrap ((k : Int) + 1) = (k : Int) + 1 := by simp (disch := omega) [w64]
                          have tn : ((k : Int) + 1).toNat = k + 1 := by omega
                          have n9 : ¬ gt π1 i = 999999 := by omega
                          have n8 : ¬ gt π1 k = 999999 := by omega
                          simp (disch := omega) [hij, hkj, lp, loi, lok, tgi, tgk, wi, wk, lc, tgC, wk1, tn, n9, n8]
                          repeat (refine And.intro (by omega) ?_)
                          refine callT gT [gt π1 i + 1, gt π1 k + 1] (by simp [pne]) (by simp [tgi, tgk]) (by simp) (by simp) (by simp [n9, n8]) ?_
                          rintro T y ⟨rfl, rfl⟩
                          generalize hs1 : subO (gt m1 i) (gt m1 k) (gt (gt m1 i) k / gt (gt m1 k) k) (k + 1) (j - (k + 1)) = s1
                          have ls1 : s1.length = j := by rw [← hs1, subO_len, wi]
                          have ts1 := fun tl : Tab => tset_rw (C := R) (tl := tl) (e := gt π1 i) (r := s1) (by omega)
                          have ts2 := fun tl : Tab => tset_rw (C := R.set (gt π1 i) s1) (tl := tl) (e := gt π1 k) (r := gt m1 k) (by simp; omega)
                          have e3 : (R.set (gt π1 i) s1).set (gt π1 k) (gt m1 k) = R.set (gt π1 i) s1 := by
                            refine ext_gt' (by simp) fun y hy => ?_
                            have hy : y < R.length := by simpa using hy
                            rw [gt_set (by simpa using hy)]
                            split
                            · rename_i q; rw [gt_set (by omega), if_neg (by omega), ← q, rek]
                            · rfl
                          rw [e3] at ts2
                          have tg1 := fun tl : Tab => tget_rw (C := R.set (gt π1 i) s1) (tl := tl) (e := gt π1 i) (by simp; omega)
                          rw [show gt (R.set (gt π1 i) s1) (gt π1 i) = s1 by rw [gt_set (by omega), if_pos rfl]] at tg1
                          have ts3 := fun tl : Tab => tset_rw (C := R.set (gt π1 i) s1) (tl := tl) (e := gt π1 i) (r := s1.set k (gt (gt m1 i) k / gt (gt m1 k) k)) (by simp; omega)
                          rw [List.set_set] at ts3
                          have lc1 : (R.set (gt π1 i) s1).length = j := by simpa using lc
                          have l9 := lget_r (l := s1) (i := k) (by omega)
                          simp (disch := omega) [ts1, ts2, lc, renL_r]
                          repeat (refine And.intro (by omega) ?_)
                          refine CodeJ.draw (.qs [0, 1, 2, 3, 4, 5, 6] <| .l 7 [gt π1 i + 1] <| .nil) (by kernel_rfl) (by kernel_rfl) (by simp) ?_
                          simp (disch := omega) [hij, hkj, lp, loi, lc1, tg1, tgC, ls1, l9, lset_rat, ts3, w64, -List.map_set]
                          repeat (refine And.intro (by omega) ?_)
                          refine ⟨i + 1, R.set (gt π1 i) (s1.set k (gt (gt m1 i) k / gt (gt m1 k) k)), ⟨by omega, by omega, hr.put hij ?_ (fun y _ yi => ?_)⟩, by omega, ?_⟩
                          · unfold facF; rw [if_pos ⟨by omega, by omega⟩]; unfold facRow facBy; rw [hs1]
                          · unfold facF
                            by_cases yl : k < y ∧ y < i
                            · rw [if_pos yl, if_pos ⟨yl.1, by omega⟩]
                            · rw [if_neg yl, if_neg (fun q => yl ⟨q.1, by omega⟩)]
                          · exact le_mx hC (n := j) (fun y hy => hr.b y (by omega)) (by simpa using lc) (by simp (disch := omega) [leF, Go.Sv.get, w64]) (by simp [leM]) (by simp [ltF]) (by simp [ltM])
                        · obtain rfl : i = j := by omega
                          simp
                          refine ⟨⟨k + 1, facL m1 i k, ord1, odd1, π1, R⟩, ⟨by dsimp only; omega, hF2.step hkj z1, hr.same fun x hx => ?_⟩, by dsimp only; omega, ?_⟩
                          · dsimp only; unfold facL; rw [gt_range _ hx]
                          · exact le_mx hC (n := i) (fun y hy => hr.b y (by omega)) lc (by simp (disch := omega) [leF, Go.Sv.get, w64]) (by simp [leM, orE]) (by simp [ltF]) (by simp [ltM, orE])
                    · obtain rfl : k = t := by omega
                      have hr2 := hr
                      have hF2 := hF
                      have z1 := z
                      clear lot lb re tg wt lr tj tk hr hF lp lc lm lo t1 t2 t3
                      refine CodeJ.loopL (ι := Nat × List (List Rat)) (fun ⟨i, R⟩ => ⟨182, [(6, .ptr (j + 1) 0 0), (8, .view 0 0 j), (53, iv j), (54, iv k), (9, iv k), (11, iv i)], some ⟨1, outV j π, false⟩ :: (rwT R ++ [some ⟨4, [.agg [.view (j + 2) 0 j, .view 0 0 j, bov odd, .ro []]], false⟩, some ⟨1, ord.map natV, false⟩])⟩)
                        (fun ⟨i, R⟩ => k + 1 ≤ i ∧ i ≤ j ∧ Rep j π R (facF m j k i)) (fun ⟨i, R⟩ => j - i) (k + 1, R) ⟨by omega, by omega, hr2.same fun x _ => by unfold facF; rw [if_neg (by omega)]⟩ ?_ ?_
                      · simp (disch := omega) [leS, hC, w64, orE]
                      · clear hr2
                        rintro ⟨i, R⟩ ⟨i1, i2, hr⟩
                        have lc := hr.lc
                        have lp := hr.lp
                        dsimp only
                        by_cases hij : i < j
                        · have re := hr.e i hij
                          have rek := hr.e k hkj
                          rw [show facF m j k i i = gt m i by unfold facF; rw [if_neg (by omega)]] at re
                          rw [show facF m j k i k = gt m k by unfold facF; rw [if_neg (by omega)]] at rek
                          have lbi := hr.b i hij
                          have lbk := hr.b k hkj
                          have pne : ¬ gt π i = gt π k := fun q => absurd (hr.inj i k hij hkj q) (by omega)
                          have tgi := fun tl : Tab => tget_rw (C := R) (tl := tl) (e := gt π i) (by omega)
                          rw [re] at tgi
                          have tgk := fun tl : Tab => tget_rw (C := R) (tl := tl) (e := gt π k) (by omega)
                          rw [rek] at tgk
                          have loi := lget_outV (w := j) (π := π) (i := i) (by omega)
                          have lok := lget_outV (w := j) (π := π) (i := k) (by omega)
                          have wi := hF2.w.r i hij
                          have wk := hF2.w.r k hkj
                          have li := lget_r (l := gt m i) (i := k) (by omega)
                          have lk := lget_r (l := gt m k) (i := k) (by omega)
                          have p5 : 2200 * 5 ^ k ≤ 34375000 := pow5_le (n := j) (by omega) hn
                          have p1 := pow5_pos k
                          have q1 := hF2.w.q i k hij hkj
                          have q2 := hF2.w.q k k hkj hkj
                          have q3 := qw_div q1 q2 p1
                          simp (disch := omega) [hij, lp]
                          repeat (refine And.intro (by omega) ?_)
                          refine CodeJ.drawZ (.d 18 <| .qs [0, 1, 2, 3, 4, 5, 6, 7, 8, 9, 10, 11, 12, 13] <| .p 14 <| .qs [15, 16, 17] <| .b (.l 19 [j + 3] <| .qs [20] <| .nil)) (by kernel_rfl) (by kernel_rfl) (by simp) ?_
                          simp (disch := omega) [hij, hkj, lp, loi, lok, tgi, tgk, li, lk, wi, wk]
                          repeat (refine And.intro (by omega) ?_)
                          refine callV (qQuo_ok _ _ (qok_of q1 (by omega)) (qok_of q2 (by omega))) (by simp) ?_
                          simp (disch := omega) [lc, tgA, tgB, tgC, tsA, tsB, tsC]
                          repeat (refine And.intro (by omega) ?_)
                          refine CodeJ.draw (.qs [0, 1, 2, 3, 4, 5, 6, 7, 8, 9, 10, 11, 12, 13, 14] <| .l 15 [gt π i + 1, gt π k + 1] <| .nil) (by kernel_rfl) (by kernel_rfl) (by simp) ?_
                          have gT := qTakeO_ok (gt m i) (gt m k) (gt (gt m i) k / gt (gt m k) k) (k + 1) (j - (k + 1)) (by omega) (by omega) (by omega) (fun y hy => qok_of (hF2.w.q i y hij (by omega)) (by omega)) (fun y hy => qok_of (hF2.w.q k y hkj (by omega)) (by omega)) (qok_of q3 (by omega))
                            (fun y hy => qok_of (qw_mul (hF2.w.q k y hkj (by omega)) q3 (by omega)) (by omega))
                          have wk1 : IntKind.i64.wrap ((k : Int) + 1) = (k : Int) + 1 := by simp (disch := omega) [w64]
                          have tn : ((k : Int) + 1).toNat = k + 1 := by omega
                          have n9 : ¬ gt π i = 999999 := by omega
                          have n8 : ¬ gt π k = 999999 := by omega
                          simp (disch := omega) [hij, hkj, lp, loi, lok, tgi, tgk, wi, wk, lc, tgC, wk1, tn, n9, n8]
                          repeat (refine And.intro (by omega) ?_)
                          refine callT gT [gt π i + 1, gt π k + 1] (by simp [pne]) (by simp [tgi, tgk]) (by simp) (by simp) (by simp [n9, n8]) ?_
                          rintro T y ⟨rfl, rfl⟩
                          generalize hs1 : subO (gt m i) (gt m k) (gt (gt m i) k / gt (gt m k) k) (k + 1) (j - (k + 1)) = s1
                          have ls1 : s1.length = j := by rw [← hs1, subO_len, wi]
                          have ts1 := fun tl : Tab => tset_rw (C := R) (tl := tl) (e := gt π i) (r := s1) (by omega)
                          have ts2 := fun tl : Tab => tset_rw (C := R.set (gt π i) s1) (tl := tl) (e := gt π k) (r := gt m k) (by simp; omega)
                          have e3 : (R.set (gt π i) s1).set (gt π k) (gt m k) = R.set (gt π i) s1 := by
                            refine ext_gt' (by simp) fun y hy => ?_
                            have hy : y < R.length := by simpa using hy
                            rw [gt_set (by simpa using hy)]
                            split
                            · rename_i q; rw [gt_set (by omega), if_neg (by omega), ← q, rek]
                            · rfl
                          rw [e3] at ts2
                          have tg1 := fun tl : Tab => tget_rw (C := R.set (gt π i) s1) (tl := tl) (e := gt π i) (by simp; omega)
                          rw [show gt (R.set (gt π i) s1) (gt π i) = s1 by rw [gt_set (by omega), if_pos rfl]] at tg1
                          have ts3 := fun tl : Tab => tset_rw (C := R.set (gt π i) s1) (tl := tl) (e := gt π i) (r := s1.set k (gt (gt m i) k / gt (gt m k) k)) (by simp; omega)
                          rw [List.set_set] at ts3
                          have lc1 : (R.set (gt π i) s1).length = j := by simpa using lc
                          have l9 := lget_r (l := s1) (i := k) (by omega)
                          simp (disch := omega) [ts1, ts2, lc, renL_r]
                          repeat (refine And.intro (by omega) ?_)
                          refine CodeJ.draw (.qs [0, 1, 2, 3, 4, 5, 6] <| .l 7 [gt π i + 1] <| .nil) (by kernel_rfl) (by kernel_rfl) (by simp) ?_
                          simp (disch := omega) [hij, hkj, lp, loi, lc1, tg1, tgC, ls1, l9, lset_rat, ts3, w64, -List.map_set]
                          repeat (refine And.intro (by omega) ?_)
                          refine ⟨i + 1, R.set (gt π i) (s1.set k (gt (gt m i) k / gt (gt m k) k)), ⟨by omega, by omega, hr.put hij ?_ (fun y _ yi => ?_)⟩, by omega, ?_⟩
                          · unfold facF; rw [if_pos ⟨by omega, by omega⟩]; unfold facRow facBy; rw [hs1]
                          · unfold facF
                            by_cases yl : k < y ∧ y < i
                            · rw [if_pos yl, if_pos ⟨yl.1, by omega⟩]
                            · rw [if_neg yl, if_neg (fun q => yl ⟨q.1, by omega⟩)]
                          · exact le_mx hC (n := j) (fun y hy => hr.b y (by omega)) (by simpa using lc) (by simp (disch := omega) [leF, Go.Sv.get, w64]) (by simp [leM]) (by simp [ltF]) (by simp [ltM])
                        · obtain rfl : i = j := by omega
                          simp
                          refine ⟨⟨k + 1, facL m i k, ord, odd, π, R⟩, ⟨by dsimp only; omega, hF2.step hkj z1, hr.same fun x hx => ?_⟩, by dsimp only; omega, ?_⟩
                          · dsimp only; unfold facL; rw [gt_range _ hx]
                          · exact le_mx hC (n := i) (fun y hy => hr.b y (by omega)) lc (by simp (disch := omega) [leF, Go.Sv.get, w64]) (by simp [leM, orE]) (by simp [ltF]) (by simp [ltM, orE])
                · obtain rfl : t = j := by omega
                  simp (disch := omega) [htj, lp]
                  repeat (refine And.intro (by omega) ?_)
                  refine CodeJ.draw (.qs [0, 1, 2] <| .nil) (by kernel_rfl) (by kernel_rfl) (by simp) ?_
                  simp
                  refine ⟨_, Le.refl _ _, ?_⟩
                  simp
                  exact ⟨_, Sub_self _ _ (by simp), .inl ⟨hF.none hkj fun r h1 h2 => t3 r h1 h2, rfl⟩⟩
            · obtain rfl : k = j := by omega
              simp
              obtain ⟨M', hM⟩ := frz_lu (N := 182) (odd := odd) (tl := []) hC hr lm (fun i hi => hF.w.r i hi) lo (fr := [(2, .ptr (k + 1) 0 0), (3, .val .nilIface)]) (by simp [leF, Go.Sv.get])
              refine ⟨_, Le.trans (Le.syn ?_) hM, ?_⟩
              · exact ⟨rfl, by simp [leF, Go.Sv.get], leM_self _, .inl rfl⟩
              · simp
                exact ⟨_, Sub_self _ _ (by simp [luV]), .inr ⟨_, hF.done h hn, rfl, rfl⟩⟩
end Go.Proofs


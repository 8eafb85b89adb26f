/- What the document's Product returns. What matrix.Product returns. A text of the prover's own. -/
import Derived.Test.YtlkaaaoeemejoaaGreatDoorQMa
namespace Go.Tb
open Go Go.Sv Go.Pl Go.Proofs
/-- row times column, its first parts -/
def dot (a b : List (List Rat)) (i j : Nat) : Nat → Rat
  | 0 => 0
  | k + 1 => dot a b i j k + gt (gt a i) k * gt (gt b k) j
def prod (a b : List (List Rat)) : List (List Rat) := (List.range a.length).map fun i => (List.range (wide b)).map fun j => dot a b i j b.length
def prodRow (a b : List (List Rat)) (i : Nat) : List Rat := (List.range (wide b)).map fun j => dot a b i j b.length
@[simp] theorem prod_len (a b : List (List Rat)) : (prod a b).length = a.length := by simp [prod]
@[simp] theorem prodRow_len (a b : List (List Rat)) (i : Nat) : (prodRow a b i).length = wide b := by simp [prodRow]
theorem take_row {a b : List (List Rat)} {i : Nat} {f : Rat → SV} : (List.map f (prodRow a b i)).take (wide b) = List.map f (prodRow a b i) := List.take_of_length_le (by simp)
theorem gt_prod {a b : List (List Rat)} {i : Nat} (h : i < a.length) : gt (prod a b) i = prodRow a b i := by simp [gt, prod, prodRow, h]
theorem gt_prodRow {a b : List (List Rat)} {i j : Nat} (h : j < wide b) : gt (prodRow a b i) j = dot a b i j b.length := by simp [gt, prodRow, h]
/-- tables that can be multiplied, and are not great -/
structure PQ (a b : List (List Rat)) : Prop where
  na : a.length ≤ 6
  nb : b.length ≤ 6
  wa : ∀ i, i < a.length → (gt a i).length = b.length
  wb : wide b ≤ 6
  wr : ∀ k, k < b.length → (gt b k).length = wide b
  qa : ∀ i k, i < a.length → k < b.length → qw 2200 (gt (gt a i) k)
  qb : ∀ k j, k < b.length → j < wide b → qw 2200 (gt (gt b k) j)
theorem qw_zero (k : Nat) (h : 1 ≤ k) : qw k 0 := ⟨fw_zero k, fw_one h⟩
theorem qw_dot {a b : List (List Rat)} (h : PQ a b) {i j : Nat} (hi : i < a.length) (hj : j < wide b) : ∀ k, k ≤ b.length → qw (1 + 4401 * k) (dot a b i j k)
  | 0, _ => qw_zero _ (by omega)
  | k + 1, hk => by
    have h1 := qw_dot h hi hj k (by omega)
    have h2 := qw_mul (h.qa i k hi (by omega)) (h.qb k j (by omega) hj) (by omega)
    exact qw_mono (qw_add h1 h2) (by omega)
end Go.Tb
namespace Go.Proofs
open Go.Sv Go Go.Tb Go.Pl
set_option maxRecDepth 10000 in
theorem rProduct_ok (a b : List (List Rat)) (h : PQ a b) : PureF Tryz.prog 28 [.ro (a.map qlv), .ro (b.map qlv)] (.ro ((prod a b).map qlv)) := by
  have na := h.na
  have nb := h.nb
  have wb := h.wb
  have hw := rWide_ok b (by omega)
  refine pure_enter Tryz.func28 rfl (by simp) (fun C hC => ?_)
  simp
  refine CodeJ.nil 5 1 rfl ?_
  refine CodeJ.loopL (ι := Nat × List (List Rat)) (fun ⟨i, xs⟩ => ⟨58, [(0, .ro (a.map qlv)), (1, .ro (b.map qlv)), (5, .view 0 0 xs.length), (6, .val (.int .i64 i))], [some ⟨1, xs.map qlv, false⟩]⟩)
    (fun ⟨i, xs⟩ => i ≤ a.length ∧ xs = (prod a b).take i) (fun ⟨i, xs⟩ => a.length - i) (0, []) ?_ ?_ ?_
  · simp
  · simp [leS, hC]
  · rintro ⟨i, xs⟩ ⟨hi, hx⟩
    have hxl : xs.length = i := by rw [hx]; simp; omega
    by_cases hlt : i < a.length
    · have hx' := take_gt (l := prod a b) (i := i) (by simpa using hlt)
      rw [← hx, gt_prod hlt] at hx'
      have wa := h.wa i hlt
      simp (disch := omega) [hlt]
      refine CodeJ.nil 7 4 rfl ?_
      refine CodeJ.loopL (ι := Nat × List Rat) (fun ⟨j, ys⟩ => ⟨58, [(0, .ro (a.map qlv)), (1, .ro (b.map qlv)), (5, .view 0 0 xs.length), (6, .val (.int .i64 i)), (7, .view 1 0 ys.length), (8, .val (.int .i64 j))], [some ⟨1, xs.map qlv, false⟩, some ⟨4, ys.map qsv, false⟩]⟩)
        (fun ⟨j, ys⟩ => j ≤ wide b ∧ ys = (prodRow a b i).take j) (fun ⟨j, ys⟩ => wide b - j) (0, []) ?_ ?_ ?_
      · simp
      · simp [leS, hC]
      · rintro ⟨j, ys⟩ ⟨hj, hy⟩
        have hyl : ys.length = j := by rw [hy]; simp; omega
        simp
        refine callS hw (by simp) ?_
        by_cases hjt : j < wide b
        · have hy' := take_gt (l := prodRow a b i) (i := j) (by simpa using hjt)
          rw [← hy, gt_prodRow hjt] at hy'
          simp (disch := omega) [hjt]
          refine callS (pInt_ok 0 (by omega) (by omega)) (by simp) ?_
          simp
          refine CodeJ.loopL (ι := Nat) (fun k => ⟨58, [(0, .ro (a.map qlv)), (1, .ro (b.map qlv)), (5, .view 0 0 xs.length), (6, .val (.int .i64 i)), (7, .view 1 0 ys.length), (8, .val (.int .i64 j)), (9, .ptr 2 0 0), (10, .val (.int .i64 k))], [some ⟨1, xs.map qlv, false⟩, some ⟨4, ys.map qsv, false⟩, some ⟨4, [qsv (dot a b i j k)], false⟩]⟩)
            (fun k => k ≤ b.length) (fun k => b.length - k) 0 ?_ ?_ ?_
          · simp
          · simp [leS, hC, dot]
          · rintro k hk
            by_cases hkt : k < b.length
            · have wr := h.wr k hkt
              have q1 := h.qa i k hlt hkt
              have q2 := h.qb k j hkt hjt
              have q3 := qw_dot h hlt hjt k hk
              have q4 := qw_mul q1 q2 (by omega)
              simp (disch := omega) [hkt]
              refine CodeJ.drawZ (.d 15 <| .qs [0, 1, 2, 3, 4, 5, 6, 7, 8, 9, 10, 11, 12, 13] <| .p 14 <| .b (.l 16 [3] <| .nil)) (by kernel_rfl) (by kernel_rfl) (by simp) ?_
              simp (disch := omega) [hlt, hkt, lget_qlv, lget_q]
              refine ⟨by omega, by omega, callV (pMul_ok _ _ (qok_of q1 (by omega)) (qok_of q2 (by omega))) (by simp) ?_⟩
              simp
              refine callS (pAdd_ok _ _ (qok_of q3 (by omega)) (qok_of q4 (by omega))) (by simp) ?_
              simp (disch := omega) [w64]
              exact ⟨k + 1, by omega, by omega, Le.syn (by simp [leS, hC, dot])⟩
            · obtain rfl : k = b.length := by omega
              simp
              exact ⟨⟨by simp [hC], by omega⟩, j + 1, ys ++ [dot a b i j b.length], ⟨by omega, hy'.symm⟩, by omega, Le.syn (by simp (disch := omega) [leS, hC, w64])⟩
        · obtain rfl : j = wide b := by omega
          simp
          refine ⟨⟨by simp [hC], by omega⟩, i + 1, xs ++ [prodRow a b i], ⟨by omega, hx'.symm⟩, by omega, ?_⟩
          rw [List.take_of_length_le (by simp)] at hy
          refine (Le.frz 1 rfl (by simp)).trans (Le.syn ?_)
          simp (disch := omega) [frzS, tset, leS, hC, w64, hy, sbL_app, sbL_qlv, take_row]
    · obtain rfl : i = a.length := by omega
      rw [List.take_of_length_le (by simp)] at hx
      simp [hx, List.take_of_length_le]
end Go.Proofs
namespace Go.Tb
open Go Go.Sv Go.Pl Go.Proofs
/-- a row of the product in the making: the first j numbers have one part more -/
def mk (a b : List (List Rat)) (i k j : Nat) : List Rat := (List.range (wide b)).map fun j' => dot a b i j' (if j' < j then k + 1 else k)
@[simp] theorem mk_len (a b : List (List Rat)) (i k j : Nat) : (mk a b i k j).length = wide b := by simp [mk]
theorem gt_mk {a b : List (List Rat)} {i k j j' : Nat} (h : j' < wide b) : gt (mk a b i k j) j' = dot a b i j' (if j' < j then k + 1 else k) := by simp [gt, mk, h]
theorem ext_gt' {α : Type} [Inhabited α] {a b : List α} (hl : a.length = b.length) (h : ∀ i, i < a.length → gt a i = gt b i) : a = b := by
  refine List.ext_getElem hl fun i h1 h2 => ?_
  have := h i h1
  simpa [gt, h1, h2] using this
theorem mk_next {a b : List (List Rat)} {i k : Nat} : mk a b i k (wide b) = mk a b i (k + 1) 0 := by
  refine ext_gt' (by simp) fun j hj => ?_
  simp only [mk_len] at hj
  rw [gt_mk hj, gt_mk hj]; simp [hj]
theorem mk_set {a b : List (List Rat)} {i k j : Nat} (h : j < wide b) : (mk a b i k j).set j (dot a b i j (k + 1)) = mk a b i k (j + 1) := by
  refine List.ext_getElem (by simp) fun n h1 h2 => ?_
  simp only [mk_len] at h2
  rw [List.getElem_set]
  simp only [mk, List.getElem_map, List.getElem_range]
  by_cases e : j = n
  · subst e; simp
  · by_cases g : n < j
    · simp [e, g, show n < j + 1 by omega]
    · simp [e, g, show ¬ n < j + 1 by omega]
theorem mk_end {a b : List (List Rat)} {i : Nat} : mk a b i b.length 0 = prodRow a b i := by simp [mk, prodRow]
theorem mk_zero {a b : List (List Rat)} {i : Nat} : mk a b i 0 0 = List.replicate (wide b) 0 := by
  simp [mk, dot, List.map_const']
/-- the rows that are done -/
def padP (a b : List (List Rat)) (i : Nat) : List (List Rat) := (List.range a.length).map fun n => if n < i then prodRow a b n else []
@[simp] theorem padP_len (a b : List (List Rat)) (i : Nat) : (padP a b i).length = a.length := by simp [padP]
theorem padP_zero {a b : List (List Rat)} : padP a b 0 = List.replicate a.length [] := by simp [padP, List.map_const']
theorem padP_end {a b : List (List Rat)} : padP a b a.length = prod a b := by
  unfold padP prod
  refine List.map_congr_left fun n hn => ?_
  simp only [List.mem_range] at hn
  rw [if_pos hn]; rfl
theorem padP_set {a b : List (List Rat)} {i : Nat} (h : i < a.length) : (padP a b i).set i (prodRow a b i) = padP a b (i + 1) := by
  refine List.ext_getElem (by simp) fun n h1 h2 => ?_
  rw [List.getElem_set]
  simp only [padP, List.getElem_map, List.getElem_range]
  by_cases e : i = n
  · subst e; simp
  · by_cases g : n < i
    · simp [e, g, show n < i + 1 by omega]
    · simp [e, g, show ¬ n < i + 1 by omega]
theorem nlL_rep {n : Nat} {x : SV} : nlL (List.replicate n x) = List.replicate n (nlV x) := by
  induction n with
  | zero => rfl
  | succ n ih => simp [List.replicate_succ, ih]
theorem zrow {n : Nat} : List.replicate n (SV.agg [.val (.bool false), .ro [], .val (.bool false), .ro []]) = (List.replicate n (0 : Rat)).map rsv := by
  rw [List.map_replicate]; rfl
theorem sbL_set {k : Nat} {es l : List SV} {i : Nat} {x : SV} : sbL k es (l.set i x) = (sbL k es l).set i (sbV k es x) := by
  induction l generalizing i with
  | nil => rfl
  | cons y l ih => cases i with
    | zero => rfl
    | succ i => simp [ih]
theorem rlv_set {xs : List (List Rat)} {i : Nat} {r : List Rat} : (xs.map rlv).set i (.ro (r.map rsv)) = (xs.set i r).map rlv := by rw [List.map_set]; rfl
theorem rsv_set {xs : List Rat} {i : Nat} {r : Rat} : (xs.map rsv).set i (rsv r) = (xs.set i r).map rsv := by rw [List.map_set]
theorem nlL_set {l : List SV} {i : Nat} {x : SV} : nlL (l.set i x) = (nlL l).set i (nlV x) := by
  induction l generalizing i with
  | nil => rfl
  | cons y l ih => cases i with
    | zero => rfl
    | succ i => simp [ih]
theorem nlL_rlv (xs : List (List Rat)) : nlL (xs.map rlv) = xs.map rlv := by
  induction xs with
  | nil => rfl
  | cons y l ih => simp only [List.map_cons, nlL_cons, ih]; rfl
end Go.Tb
namespace Go.Proofs
open Go.Sv Go Go.Tb Go.Pl
set_option maxRecDepth 10000 in
theorem qProduct_ok (a b : List (List Rat)) (h : PQ a b) (wa : widthQ a = .tup [.val (.int .i64 b.length), .val (.bool true)]) (wb' : widthQ b = .tup [.val (.int .i64 (wide b : Nat)), .val (.bool true)])
    (ha : ∀ r ∈ a, r.length ≤ 1048576) (hb : ∀ r ∈ b, r.length ≤ 1048576) :
    PureF Tryz.prog 22 [.ro (a.map rlv), .ro (b.map rlv)] (.tup [.ro ((prod a b).map rlv), .val .nilIface]) := by
  have na := h.na
  have nb := h.nb
  have wb := h.wb
  have g1 := width_ok a (by omega) ha
  have g2 := width_ok b (by omega) hb
  rw [wa] at g1
  rw [wb'] at g2
  refine pure_enter Tryz.func22 rfl (by simp) (fun C hC => ?_)
  simp
  refine callS g1 (by simp) ?_
  simp
  refine callS g2 (by simp) ?_
  simp
  refine ⟨by omega, ?_⟩
  refine CodeJ.le (Le.nl _) ?_
  simp [nlS, nlL_rep]
  refine CodeJ.loopL (ι := Nat) (fun i => ⟨92, [(0, .ro (a.map rlv)), (1, .ro (b.map rlv)), (8, .val (.int .i64 (wide b : Nat))), (10, .view 0 0 a.length), (41, .val (.int .i64 a.length)), (42, .val (.int .i64 i))], [some ⟨1, (padP a b i).map rlv, false⟩]⟩)
    (fun i => i ≤ a.length) (fun i => a.length - i) 0 ?_ ?_ ?_
  · simp
  · simp [leS, hC, padP_zero]
  · rintro i hi
    by_cases hlt : i < a.length
    · have e0 : lget (List.map rlv (padP a b i)) i = rlv (gt (padP a b i) i) := lget_rlv (by simpa using hlt)
      simp (disch := omega) [hlt, e0]
      refine ⟨by omega, ?_⟩
      refine CodeJ.le (Le.nl _) ?_
      simp [nlS, nlL_rep, lset_eq, nlL_set, nlL_rlv, zrow]
      refine CodeJ.loopL (ι := Nat) (fun k => ⟨92, [(0, .ro (a.map rlv)), (1, .ro (b.map rlv)), (8, .val (.int .i64 (wide b : Nat))), (10, .view 0 0 a.length), (11, .val (.int .i64 i)), (41, .val (.int .i64 a.length)), (42, .val (.int .i64 i)), (51, .val (.int .i64 b.length)), (52, .val (.int .i64 k))],
          [some ⟨1, ((padP a b i).map rlv).set i (.view 1 0 (wide b)), false⟩, some ⟨4, (mk a b i k 0).map rsv, false⟩]⟩)
        (fun k => k ≤ b.length) (fun k => b.length - k) 0 ?_ ?_ ?_
      · simp
      · simp [leS, hC, mk_zero]
      · rintro k hk
        by_cases hkt : k < b.length
        · simp (disch := omega) [hkt]
          refine CodeJ.loopL (ι := Nat) (fun j => ⟨92, [(0, .ro (a.map rlv)), (1, .ro (b.map rlv)), (8, .val (.int .i64 (wide b : Nat))), (10, .view 0 0 a.length), (11, .val (.int .i64 i)), (12, .val (.int .i64 k)), (41, .val (.int .i64 a.length)), (42, .val (.int .i64 i)), (51, .val (.int .i64 b.length)), (52, .val (.int .i64 k)), (55, .val (.int .i64 (wide b : Nat))), (56, .val (.int .i64 j))],
              [some ⟨1, ((padP a b i).map rlv).set i (.view 1 0 (wide b)), false⟩, some ⟨4, (mk a b i k j).map rsv, false⟩]⟩)
            (fun j => j ≤ wide b) (fun j => wide b - j) 0 ?_ ?_ ?_
          · simp
          · simp [leS, hC]
          · rintro j hj
            by_cases hjt : j < wide b
            · have e1 : lget (List.set (List.map rlv (padP a b i)) i (.view 1 0 (wide b))) i = .view 1 0 (wide b) := by rw [lget_eq (by simpa using hlt)]; simp
              have e2 : lget (List.map rsv (mk a b i k j)) j = rsv (dot a b i j k) := by rw [lget_r (by simpa using hjt), gt_mk hjt]; simp
              have wa := h.wa i hlt
              have wr := h.wr k hkt
              have q1 := h.qa i k hlt hkt
              have q2 := h.qb k j hkt hjt
              have q3 := qw_dot h hlt hjt k hk
              have q4 := qw_mul q1 q2 (by omega)
              simp (disch := omega) [hjt, hkt, -List.map_set]
              refine CodeJ.draw (.qs [0, 1, 2, 3, 4, 5, 6, 7, 8, 9, 10, 11, 12, 13, 14, 15, 16, 17, 18, 19, 20, 21, 22, 23, 24, 25] <| .l 26 [] <| .l 27 [] <| .qs [28] <| .l 29 [1] <| .nil) (by kernel_rfl) (by kernel_rfl) (by simp) ?_
              simp (disch := omega) [hlt, hkt, hjt, lget_rlv, lget_r, e1, e2]
              refine ⟨by omega, by omega, callS (qMul_ok _ _ (qok_of q1 (by omega)) (qok_of q2 (by omega))) (by simp) ?_⟩
              simp
              refine callS (qAdd_ok _ _ (qok_of q3 (by omega)) (qok_of q4 (by omega))) (by simp) ?_
              rw [show dot a b i j k + gt (gt a i) k * gt (gt b k) j = dot a b i j (k + 1) from rfl]
              simp (disch := omega) [w64, lset_eq, e2, rsv_set, mk_set hjt, -List.map_set]
              exact ⟨hjt, j + 1, by omega, by omega, Le.syn (by simp (disch := omega) [leS, hC, w64])⟩
            · obtain rfl : j = wide b := by omega
              simp
              exact ⟨k + 1, by omega, by omega, Le.syn (by simp (disch := omega) [leS, hC, w64, mk_next])⟩
        · obtain rfl : k = b.length := by omega
          simp
          refine ⟨i + 1, by omega, by omega, (Le.frz 1 rfl (by simp)).trans (Le.syn ?_)⟩
          simp (disch := omega) [frzS, tset, leS, hC, w64, mk_end, sbL_set, sbL_rlv, take_row, rlv_set, padP_set hlt, -List.map_set]
    · obtain rfl : i = a.length := by omega
      simp [List.take_of_length_le, padP_end]
end Go.Proofs


/- Values that all differ: the document's way of matching. A text of the prover's own. -/
import Derived.Test.YtadkomdooleipaaGreatDoorKAt
namespace Go.Fn
open Go Go.Sv Go.Pl Go.Proofs Go.Tb Go.Ut
/-- how many values were not seen -/
def unS (V S : List Int) : Nat := (V.filter fun w => !decide (w ∈ S)).length
theorem unS_le {V S S' : List Int} (h : ∀ w ∈ S, w ∈ S') : unS V S' ≤ unS V S := by
  unfold unS
  induction V with
  | nil => simp
  | cons a V ih =>
    rw [List.filter_cons, List.filter_cons]
    by_cases h1 : a ∈ S
    · simp [h1, h a h1]; exact ih
    · by_cases h2 : a ∈ S'
      · simp [h1, h2]; omega
      · simp [h1, h2]; exact ih
theorem unS_lt {V S : List Int} {v : Int} (hv : v ∈ V) (hs : v ∉ S) : unS V (v :: S) < unS V S := by
  unfold unS
  induction V with
  | nil => simp at hv
  | cons a V ih =>
    have le := unS_le (V := V) (S := S) (S' := v :: S) fun w hw => by simp [hw]
    unfold unS at le
    rw [List.filter_cons, List.filter_cons]
    by_cases e : a = v
    · subst e; simp [hs]; simp at le; omega
    · have hv' : v ∈ V := by
        rcases List.mem_cons.1 hv with q | q
        · exact absurd q.symm e
        · exact q
      have := ih hv'
      by_cases h1 : a ∈ S
      · simp [h1] at this ⊢; exact this
      · simp [h1, e] at this ⊢; exact this
/-- the owners as the document writes them -/
structure OwD (V ow : List Int) (o : Ow) : Prop where
  len : ow.length = V.length
  at' : ∀ j, j < V.length → o (gt V j) = if gt ow j < 0 then none else some (gt ow j).toNat
  out : ∀ w, w ∉ V → o w = none
structure SeD (V : List Int) (se : List Bool) (S : List Int) : Prop where
  len : se.length = V.length
  at' : ∀ j, j < V.length → (gt se j = true ↔ gt V j ∈ S)
theorem gt_inj {V : List Int} (h : V.Nodup) {i j : Nat} (hi : i < V.length) (hj : j < V.length) (e : gt V i = gt V j) : i = j := by
  have := List.pairwise_iff_getElem.1 h
  rcases Nat.lt_trichotomy i j with q | q | q
  · exact absurd (by rw [gt_get hi, gt_get hj]; exact e) (this i j hi hj q)
  · exact q
  · exact absurd (by rw [gt_get hi, gt_get hj]; exact e.symm) (this j i hj hi q)
theorem OwD.up {V ow : List Int} {o : Ow} (h : OwD V ow o) (hV : V.Nodup) {k : Nat} (hk : k < V.length) (i : Nat) : OwD V (ow.set k i) (up o (gt V k) i) where
  len := by rw [List.length_set]; exact h.len
  at' := fun j hj => by
    rw [gt_set (by rw [h.len]; exact hj)]
    by_cases e : k = j
    · subst e; rw [if_pos rfl, up_same, if_neg (by omega)]; rfl
    · rw [if_neg e, up_other (fun q => e (gt_inj hV hj hk q).symm)]; exact h.at' j hj
  out := fun w hw => by rw [up_other (fun q => hw (by rw [q]; exact gt_mem hk))]; exact h.out w hw
theorem SeD.set {V : List Int} {se : List Bool} {S : List Int} (h : SeD V se S) (hV : V.Nodup) {k : Nat} (hk : k < V.length) : SeD V (se.set k true) (gt V k :: S) where
  len := by rw [List.length_set]; exact h.len
  at' := fun j hj => by
    rw [gt_set (by rw [h.len]; exact hj)]
    by_cases e : k = j
    · subst e; simp
    · rw [if_neg e, h.at' j hj, List.mem_cons]
      exact ⟨.inr, fun q => q.resolve_left fun q => e (gt_inj hV hj hk q).symm⟩
end Go.Fn
namespace Go.Sv
open Go
@[simp] theorem wkQ_retH {P : Program} {C : Ctx} {rs : List ResultVar} {pk : List Nat} {k : Tab → List Nat → SV → Prop} {c : List PanicEntry} {st : St} : wkQ C (retH P rs pk k) (.panic c) st = False := eq_false fun ⟨_, _, h⟩ => h
end Go.Sv
namespace Go.Proofs
open Go.Sv Go Go.Tb Go.Pl Go.Ut Go.Fn
end Go.Proofs


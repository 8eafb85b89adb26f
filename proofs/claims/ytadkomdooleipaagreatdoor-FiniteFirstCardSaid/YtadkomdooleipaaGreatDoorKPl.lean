/- Code cut in two: what is known behind the first part is told by a family of states. A text of the prover's own; it names no program. Lists of numbers in slices: what simp needs to know of them. A text of the prover's own; it names no program. Numbers as lists of digits, the lowest first: plain lists and numbers, no program in sight. A text of the prover's own. -/
import Derived.Test.YtadkomdooleipaaGreatDoorKVz
import Derived.Test.YtadkomdooleipaaGreatDoorKVy
namespace Go.Sv
open Go Go.RowKit
/-- no code of which anything can be shown -/
def noCode : Code := .cond (.const .nilIface) .skip .skip
/-- the first n parts -/
def takeC : Nat → Code → Code
  | 0, _ => .skip
  | n + 1, .seq x y => .seq x (takeC n y)
  | _ + 1, _ => noCode
/-- what stands behind them -/
def dropC : Nat → Code → Code
  | 0, c => c
  | n + 1, .seq _ y => dropC n y
  | _ + 1, c => c
@[simp] theorem takeC_zero (c : Code) : takeC 0 c = .skip := by cases c <;> rfl
@[simp] theorem takeC_succ (n : Nat) (x y : Code) : takeC (n + 1) (.seq x y) = .seq x (takeC n y) := rfl
@[simp] theorem dropC_zero (c : Code) : dropC 0 c = c := by cases c <;> rfl
@[simp] theorem dropC_succ (n : Nat) (x y : Code) : dropC (n + 1) (.seq x y) = dropC n y := rfl
section
variable {P : Program} {C : Ctx} {st : St} {Q : Post}
/-- behind a piece of code a state of the family, or out of it as Q says -/
def cutQ (C : Ctx) (I : St → Prop) (Q : Post) : Post := thn (fun st' => ∃ st'', I st'' ∧ leS C st' st'') Q
@[simp] theorem cutQ_normal {I : St → Prop} : cutQ C I Q .normal st = ∃ st'', I st'' ∧ leS C st st'' := rfl
@[simp] theorem cutQ_ret {I : St → Prop} : cutQ C I Q .ret st = Q .ret st := rfl
@[simp] theorem cutQ_exit {I : St → Prop} {i : Nat} : cutQ C I Q (.exit i) st = Q (.exit i) st := rfl
@[simp] theorem cutQ_panic {I : St → Prop} {c : List PanicEntry} : cutQ C I Q (.panic c) st = Q (.panic c) st := rfl
theorem CodeJ.cutAt : ∀ (n : Nat) {c : Code} {st : St} (I : St → Prop), vc P C (takeC n c) st (cutQ C I Q) (cutQ C I Q) → (∀ st'', I st'' → CodeJ P C (dropC n c) st'' Q) → CodeJ P C c st Q
  | 0, c, st, I, h1, h2 => fun a w hs => by
    rw [takeC_zero] at h1
    rw [dropC_zero] at h2
    obtain ⟨st'', h3, h4⟩ := h1
    exact h2 st'' h3 a w (Le.syn h4 a w hs)
  | n + 1, .seq x y, st, I, h1, h2 => fun a w hs => by
    have hx := vc_ok x st (R := thn (fun st' => CodeJ P C y st' Q) Q) (fun e st' h' => by
      cases e <;> simp only [thn] at h' ⊢ <;> first | exact h' | exact CodeJ.cutAt n I h' h2) (fun e st' h' => by
      cases e <;> simp only [thn] at h' ⊢ <;> first | exact h' | exact CodeJ.cutAt n I h' h2) h1
    refine wp_seq (wp_mono (hx a w hs) ?_)
    rintro e a' w' ⟨st', h3, h4⟩
    cases e <;> simp only [thn, Exit.then] at h3 ⊢ <;> first | exact h3 a' w' h4 | exact ⟨st', h3, h4⟩
  | _ + 1, .skip, _, _, h1, _ => h1.elim
  | _ + 1, .region .., _, _, h1, _ => h1.elim
  | _ + 1, .cond .., _, _, h1, _ => h1.elim
  | _ + 1, .block .., _, _, h1, _ => h1.elim
  | _ + 1, .loop .., _, _, h1, _ => h1.elim
  | _ + 1, .rangeFunc .., _, _, h1, _ => h1.elim
  | _ + 1, .exit .., _, _, h1, _ => h1.elim
  | _ + 1, .scope .., _, _, h1, _ => h1.elim
  | _ + 1, .label .., _, _, h1, _ => h1.elim
  | _ + 1, .goto .., _, _, h1, _ => h1.elim
  | _ + 1, .ret, _, _, h1, _ => h1.elim
  | _ + 1, .refuse .., _, _, h1, _ => h1.elim
theorem pure_enterJ {f : FuncId} {fn : Func} {c : Code} {args : List SV} {Φ : SV → Prop} (hf : P.funcs[f]? = some fn) (hb : fn.body = some c) (hn : args.length ≤ fn.ntmps)
    (h : ∀ C : Ctx, C.fx = [] → CodeJ P C c ⟨fn.ntmps, argFr 0 args, []⟩ (retQ P fn.results.toList Φ)) : PureC P f args Φ := by
  intro H w vals hi hd
  refine calls_of_wp hf hb ?_
  have hj := h ⟨w, H, [], noB, []⟩ rfl
  refine wp_mono (hj _ w ⟨noB, H, arg_fok hd hn hi.2 rfl (by simp), ?_⟩) ?_
  · exact ⟨rfl, rfl, rfl, Nat.le_refl _, fun _ _ _ => rfl, fun _ _ h => h, fun _ _ h => .inl h, hi.1, fun k e hk => by simp at hk, fun k e d hk => by simp at hk, fun k k' e e' d d' hk => by simp at hk, fun _ _ => rfl, (fun k d hk => by cases hk), hi.2⟩
  · rintro e a w' ⟨st, hq, β, H', hF, hW⟩
    have key : (match retSV P st fn.results.toList with | some (c, x) => c ∧ ∃ y, Sub st.M x y ∧ Φ y | none => False) →
        a.defers = [] ∧ ∃ v, (results fn a.tmps).run P w' = .ok v w' ∧ ∃ H' v' x, Ending.returned v = .returned v' ∧ Den noB H' x v' ∧ Φ x ∧ (∀ b cs, H b = some cs → H' b = some cs) ∧ (∀ b cs, H' b = some cs → H b = some cs ∨ w.heap.size ≤ b) ∧ InvH H' w' ∧ Below w.heap.size w w' := by
      intro hq
      refine ⟨hF.1.1, ?_⟩
      split at hq
      · rename_i c' x hr
        obtain ⟨hc, y, hs, hΦ⟩ := hq
        obtain ⟨v, hv1, hv2⟩ := ret_ok hF hW hr hc
        obtain ⟨H1, h1, h2, h3⟩ := fzL_ok x.ks hW (Sub_pure hs)
        have hd' := Sub_den h2 hs ⟨fun k e he hk => by
          obtain ⟨e', g1, g2, -, g4⟩ := h3 k e he
          exact ⟨e', g1, g2, g4 (.inr hk)⟩⟩ (Den.up hv2 (fun _ _ h => h) h1)
        exact ⟨v, hv1, H1, v, y, rfl, hd', hΦ, h2.ext, fun b cs hb => (h2.new b cs hb).imp id (fun h => h.resolve_right (by simp)), h2.invH, h2.os, h2.tape, h2.output, h2.size, fun k hk => h2.frame k hk (by simp)⟩
      · exact hq.elim
    cases e <;> simp only [retQ] at hq <;> simp only [bodyPost]
    case normal => exact key hq
    case ret => exact key hq
end
end Go.Sv
namespace Go.Sv
open Go Go.RowKit

def u32 (x : Nat) : SV := .val (.int .u32 (x : Int))
def i64 (x : Nat) : SV := .val (.int .i64 (x : Int))
def u8 (x : Nat) : SV := .val (.int .u8 (x : Int))
@[simp] theorem u8_val (x : Nat) : u8 x = .val (.int .u8 (x : Int)) := rfl
@[simp] theorem u32_val (x : Nat) : u32 x = .val (.int .u32 (x : Int)) := rfl
@[simp] theorem i64_val (x : Nat) : i64 x = .val (.int .i64 (x : Int)) := rfl

section
variable {α : Type} (f : α → SV)
@[simp] theorem lget_snoc (l r : List SV) (x : SV) : lget (l ++ x :: r) l.length = x := by
  induction l with
  | nil => rfl
  | cons y l ih => simpa using ih
@[simp] theorem lget_map_snoc (l : List α) (r : List SV) (x : SV) : lget (l.map f ++ x :: r) l.length = x := by
  have := lget_snoc (l.map f) r x
  rwa [List.length_map] at this
@[simp] theorem lset_snoc (l r : List SV) (x y : SV) : lset (l ++ x :: r) l.length y = l ++ y :: r := by
  induction l with
  | nil => rfl
  | cons z l ih => simpa using ih
@[simp] theorem lset_map_snoc (l : List α) (r : List SV) (x y : SV) : lset (l.map f ++ x :: r) l.length y = l.map f ++ y :: r := by
  have := lset_snoc (l.map f) r x y
  rwa [List.length_map] at this
@[simp] theorem take_map_app (l : List α) (r : List SV) : (l.map f ++ r).take l.length = l.map f := by
  have := List.take_left (l₁ := l.map f) (l₂ := r)
  rwa [List.length_map] at this
@[simp] theorem drop_map_app (l : List α) (r : List SV) : (l.map f ++ r).drop l.length = r := by
  have := List.drop_left (l₁ := l.map f) (l₂ := r)
  rwa [List.length_map] at this
@[simp] theorem okE_nil (s : Nat) : okE s [] = True := by simp [okE]
@[simp] theorem okE_cons (s : Nat) (x : SV) (l : List SV) : okE s (x :: l) = (x.csz = s ∧ x.isTup = false) := by simp [okE]
@[simp] theorem okE_u32 (l : List Nat) : okE 1 (l.map u32) = True := by cases l <;> simp [okE]
@[simp] theorem okE_i64 (l : List Nat) : okE 1 (l.map i64) = True := by cases l <;> simp [okE]
@[simp] theorem okE_u8 (l : List Nat) : okE 1 (l.map u8) = True := by cases l <;> simp [okE]
@[simp] theorem okE_u8app (l : List Nat) (r : List SV) : okE 1 (l.map u8 ++ r) = (l = [] → okE 1 r) := by cases l <;> simp [okE]
@[simp] theorem okE_u32app (l : List Nat) (r : List SV) : okE 1 (l.map u32 ++ r) = (l = [] → okE 1 r) := by cases l <;> simp [okE]
@[simp] theorem okE_i64app (l : List Nat) (r : List SV) : okE 1 (l.map i64 ++ r) = (l = [] → okE 1 r) := by cases l <;> simp [okE]
end

@[simp] theorem ltL_append (n : Nat) (l r : List SV) : SV.ltL n (l ++ r) = (SV.ltL n l && SV.ltL n r) := by
  induction l with
  | nil => simp [SV.ltL]
  | cons x l ih => simp [SV.ltL, ih, Bool.and_assoc]
@[simp] theorem pureL_append (l r : List SV) : SV.pureL (l ++ r) = (SV.pureL l && SV.pureL r) := by
  induction l with
  | nil => simp [SV.pureL]
  | cons x l ih => simp [SV.pureL, ih, Bool.and_assoc]
@[simp] theorem usesL_append (k : Nat) (l r : List SV) : SV.usesL k (l ++ r) = (SV.usesL k l || SV.usesL k r) := by
  induction l with
  | nil => simp [SV.usesL]
  | cons x l ih => simp [SV.usesL, ih, Bool.or_assoc]
@[simp] theorem ltL_u32 (n : Nat) (l : List Nat) : SV.ltL n (l.map u32) = true := by simp [ltL_map, SV.lt]
@[simp] theorem ltL_u8 (n : Nat) (l : List Nat) : SV.ltL n (l.map u8) = true := by simp [ltL_map, SV.lt]
@[simp] theorem pureL_u8 (l : List Nat) : SV.pureL (l.map u8) = true := by simp [pureL_map, SV.pure]
@[simp] theorem bytes_u8 (l : List Nat) : (l.map u8).all byteSV = true := by simp [byteSV]
@[simp] theorem ltL_i64 (n : Nat) (l : List Nat) : SV.ltL n (l.map i64) = true := by simp [ltL_map, SV.lt]
@[simp] theorem pureL_u32 (l : List Nat) : SV.pureL (l.map u32) = true := by simp [pureL_map, SV.pure]
@[simp] theorem pureL_i64 (l : List Nat) : SV.pureL (l.map i64) = true := by simp [pureL_map, SV.pure]

@[simp] theorem toNat_add2 (a b : Nat) : ((a : Int) + (b : Int)).toNat = a + b := by omega
@[simp] theorem toNat_sub1 (a : Nat) : ((a : Int) - 1).toNat = a - 1 := by omega
@[simp] theorem toNat_sub2 (a : Nat) : ((a : Int) - 2).toNat = a - 2 := by omega
@[simp] theorem toNat_subN (a b : Nat) : ((a : Int) - (b : Int)).toNat = a - b := by omega
@[simp] theorem toNat_addsub1 (a b : Nat) : ((a : Int) + (b : Int) - 1).toNat = a + b - 1 := by omega
@[simp] theorem toNat_addsub2 (a b : Nat) : ((a : Int) + (b : Int) - 2).toNat = a + b - 2 := by omega
@[simp] theorem toNat_add3 (a b c : Nat) : ((a : Int) + (b : Int) + (c : Int)).toNat = a + b + c := by omega

/-! tables that are not told whole -/
@[simp] theorem leM_self : ∀ M : Tab, leM M M
  | [] => trivial
  | _ :: M => ⟨.inr rfl, leM_self M⟩
@[simp] theorem tset_tset (M : Tab) (k : Nat) (x y : Option Ent) : tset (tset M k x) k y = tset M k y := by
  simp [tset_eq]
@[simp] theorem tset_len (M : Tab) (k : Nat) (x : Option Ent) : (tset M k x).length = M.length := by simp [tset_eq]
@[simp] theorem tget_snoc (M : Tab) (x : Option Ent) : tget (M ++ [x]) M.length = x := by
  induction M with
  | nil => rfl
  | cons y M ih => simpa [tget] using ih
@[simp] theorem tset_snoc (M : Tab) (x y : Option Ent) : tset (M ++ [x]) M.length y = M ++ [y] := by
  induction M with
  | nil => rfl
  | cons z M ih => simpa [tset] using ih
/-! numbers -/
@[simp] theorem bits_i64 : IntKind.i64.bits = 64 := rfl
@[simp] theorem bits_u64 : IntKind.u64.bits = 64 := rfl
@[simp] theorem bits_u32 : IntKind.u32.bits = 32 := rfl
@[simp] theorem bits_u8 : IntKind.u8.bits = 8 := rfl
theorem w64 (n : Int) (h : -9223372036854775808 ≤ n ∧ n ≤ 9223372036854775807) : IntKind.i64.wrap n = n := by rw [IntKind.wrap_i64]; omega
theorem wu64 (n : Int) (h : 0 ≤ n ∧ n ≤ 18446744073709551615) : IntKind.u64.wrap n = n := by simp [IntKind.wrap, IntKind.bits, IntKind.signed]; omega
end Go.Sv
namespace Go.Pl

def val (B : Nat) : List Nat → Nat
  | [] => 0
  | d :: l => d + B * val B l
/-- the digits of a number -/
def digF (B : Nat) : Nat → Nat → List Nat
  | 0, _ => []
  | f + 1, n => if n = 0 then [] else n % B :: digF B f (n / B)
def dig (B n : Nat) : List Nat := digF B n n

/-- how many digits -/
def wid (B n : Nat) : Nat := (dig B n).length
end Go.Pl


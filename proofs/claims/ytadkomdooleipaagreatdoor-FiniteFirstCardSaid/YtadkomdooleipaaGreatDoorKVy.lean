/- How simp runs the condition generator: one equation for each form of operation; whatever is to come is data, so that nothing runs before its time. A text of the prover's own; it names no program. -/
import Derived.Test.YtadkomdooleipaaGreatDoorKVd
namespace Go.Sv
open Go Go.RowKit

/-! what is to come, as data -/
def K (d : Option Tmp) (st : St) (next : St → Prop) (z : SV) : Prop := dok d st.n ∧ next ⟨st.n, putO d (some z) st.fr, st.M⟩
def KM (d : Option Tmp) (st : St) (next : St → Prop) (M' : Tab) (pk : List Nat) (x : Option SV) : Prop := dok d st.n ∧ next ⟨st.n, putO d x (forget pk st.fr), M'⟩
def KJ (d : Option Tmp) (st : St) (nextJ : St → Prop) (M' : Tab) (pk : List Nat) (x : SV) : Prop := nextJ ⟨st.n, putO d (some x) (forget pk st.fr), M'⟩
def nx (P : Program) (C : Ctx) (all : Array Oper) (rest : List Oper) (Q QJ : Post) (st : St) : Prop := vcOps P C all rest st Q QJ
def nj (P : Program) (C : Ctx) (all : Array Oper) (rest : List Oper) (QJ : Post) (st : St) : Prop := vcOps P C all rest st QJ QJ
def nxP (P : Program) (C : Ctx) (ops : Array Oper) (r : Pl) (Q QJ : Post) (st : St) : Prop := vcPl P C ops r st Q QJ
def njP (P : Program) (C : Ctx) (ops : Array Oper) (r : Pl) (QJ : Post) (st : St) : Prop := vcPl P C ops r st QJ QJ
def noJ (_ : St) : Prop := False
def thS (P : Program) (C : Ctx) (y : Code) (Q QJ : Post) : Post := thn (fun st' => vc P C y st' Q QJ) Q
def thJ (P : Program) (C : Ctx) (y : Code) (QJ : Post) : Post := thn (fun st' => vc P C y st' QJ QJ) QJ
def onRes (r : Res) (k : SV → Prop) : Prop := match r with
  | .q c x => c ∧ k x
  | _ => False
def onM (r : MRes) (k : Tab → List Nat → Option SV → Prop) : Prop := match r with
  | .m c M pk x => c ∧ k M pk x
  | .stuck => False
def onO {α : Type} (o : Option α) (k : α → Prop) : Prop := match o with
  | some x => k x
  | none => False
@[simp] theorem onO_some {α : Type} (x : α) (k : α → Prop) : onO (some x) k = k x := rfl
@[simp] theorem onO_none {α : Type} (k : α → Prop) : onO none k = False := rfl

section
variable {P : Program} {C : Ctx} {st : St} {Q QJ : Post} {next nextJ : St → Prop} {all : Array Oper} {rest : List Oper} {d : Option Tmp} {op : Op} {t : TypeId} {p : String} {af : Array Edge} {g : Option (Nat × Bool)} {W : Option (List Nat)}
@[simp] theorem onRes_q {c : Prop} {x : SV} {k : SV → Prop} : onRes (.q c x) k = (c ∧ k x) := rfl
@[simp] theorem onRes_no {k : SV → Prop} : onRes .stuck k = False := rfl
@[simp] theorem onM_m {c : Prop} {M : Tab} {pk : List Nat} {x : Option SV} {k : Tab → List Nat → Option SV → Prop} : onM (.m c M pk x) k = (c ∧ k M pk x) := rfl
@[simp] theorem onM_no {k : Tab → List Nat → Option SV → Prop} : onM .stuck k = False := rfl
@[simp] theorem K_app {z : SV} : K d st next z = (dok d st.n ∧ next ⟨st.n, putO d (some z) st.fr, st.M⟩) := rfl
@[simp] theorem KM_nil {M' : Tab} {x : Option SV} : KM d st next M' [] x = (dok d st.n ∧ next ⟨st.n, putO d x st.fr, M'⟩) := by simp [KM, forget_nil]
@[simp] theorem KM_one {M' : Tab} {a : Nat} {x : Option SV} : KM d st next M' [a] x = (dok d st.n ∧ next ⟨st.n, putO d x (forget [a] st.fr), M'⟩) := rfl
@[simp] theorem KJ_nil {M' : Tab} {z : SV} : KJ d st nextJ M' [] z = nextJ ⟨st.n, putO d (some z) st.fr, M'⟩ := by simp [KJ, forget_nil]
@[simp] theorem KJ_one {M' : Tab} {a : Nat} {z : SV} : KJ d st nextJ M' [a] z = nextJ ⟨st.n, putO d (some z) (forget [a] st.fr), M'⟩ := rfl
@[simp] theorem nx_app : nx P C all rest Q QJ st = vcOps P C all rest st Q QJ := rfl
@[simp] theorem nj_app : nj P C all rest QJ st = vcOps P C all rest st QJ QJ := rfl
@[simp] theorem nxP_app {r : Pl} : nxP P C all r Q QJ st = vcPl P C all r st Q QJ := rfl
@[simp] theorem njP_app {r : Pl} : njP P C all r QJ st = vcPl P C all r st QJ QJ := rfl
@[simp] theorem noJ_app : noJ st = False := rfl
@[simp] theorem thS_normal {y : Code} : thS P C y Q QJ .normal st = vc P C y st Q QJ := rfl
@[simp] theorem thS_ret {y : Code} : thS P C y Q QJ .ret st = Q .ret st := rfl
@[simp] theorem thS_exit {y : Code} {id : Nat} : thS P C y Q QJ (.exit id) st = Q (.exit id) st := rfl
@[simp] theorem thS_panic {y : Code} {c : List PanicEntry} : thS P C y Q QJ (.panic c) st = Q (.panic c) st := rfl
@[simp] theorem thJ_normal {y : Code} : thJ P C y QJ .normal st = vc P C y st QJ QJ := rfl
@[simp] theorem thJ_ret {y : Code} : thJ P C y QJ .ret st = QJ .ret st := rfl
@[simp] theorem thJ_exit {y : Code} {id : Nat} : thJ P C y QJ (.exit id) st = QJ (.exit id) st := rfl
@[simp] theorem thJ_panic {y : Code} {c : List PanicEntry} : thJ P C y QJ (.panic c) st = QJ (.panic c) st := rfl
@[simp] theorem thn_normal {Q1 : St → Prop} : thn Q1 Q .normal st = Q1 st := rfl
@[simp] theorem thn_ret {Q1 : St → Prop} : thn Q1 Q .ret st = Q .ret st := rfl
@[simp] theorem thn_exit {Q1 : St → Prop} {id : Nat} : thn Q1 Q (.exit id) st = Q (.exit id) st := rfl
@[simp] theorem thn_panic {Q1 : St → Prop} {c : List PanicEntry} : thn Q1 Q (.panic c) st = Q (.panic c) st := rfl
@[simp] theorem blk_normal {id : Nat} : blk id Q .normal st = Q .normal st := rfl
@[simp] theorem blk_ret {id : Nat} : blk id Q .ret st = Q .ret st := rfl
@[simp] theorem blk_exit {id id' : Nat} : blk id Q (.exit id') st = if id' = id then Q .normal st else Q (.exit id') st := rfl
@[simp] theorem blk_panic {id : Nat} {c : List PanicEntry} : blk id Q (.panic c) st = Q (.panic c) st := rfl

/-! code -/
@[simp ↓] theorem vc_skip : vc P C .skip st Q QJ = Q .normal st := rfl
@[simp ↓] theorem vc_seq {x y : Code} : vc P C (.seq x y) st Q QJ = vc P C x st (thS P C y Q QJ) (thJ P C y QJ) := rfl
@[simp ↓] theorem vc_block {id : Nat} {c : Code} : vc P C (.block id c) st Q QJ = vc P C c st (blk id Q) (blk id QJ) := rfl
@[simp ↓] theorem vc_exit {id : Nat} : vc P C (.exit id) st Q QJ = Q (.exit id) st := rfl
@[simp ↓] theorem vc_ret : vc P C .ret st Q QJ = Q .ret st := rfl
@[simp ↓] theorem vc_region {id : Nat} {l : List Oper} : vc P C (.region id l.toArray false) st Q QJ = vcOps P C l.toArray l st Q QJ := rfl
@[simp ↓] theorem vc_draw {id : Nat} {l : Array Oper} : vc P C (.region id l true) st Q QJ = CodeJ P C (.region id l true) st QJ := rfl
@[simp ↓] theorem vc_loop {c : Code} : vc P C (.loop c) st Q QJ = CodeJ P C (.loop c) st QJ := rfl
def cnd (P : Program) (C : Ctx) (v : Option SV) (x y : Code) (st : St) (Q QJ : Post) : Prop := match v with
  | some (.val (.bool b)) => (b = true → vc P C x st Q QJ) ∧ (b = false → vc P C y st Q QJ)
  | _ => False
@[simp ↓] theorem vc_cond {c : Operand} {x y : Code} : vc P C (.cond c x y) st Q QJ = cnd P C (ev st.fr c) x y st Q QJ := by
  simp only [vc, cnd]
  cases ev st.fr c with
  | none => rfl
  | some v => cases v with
    | val u => cases u <;> rfl
    | _ => rfl
@[simp] theorem cnd_true {x y : Code} : cnd P C (some (.val (.bool true))) x y st Q QJ = vc P C x st Q QJ := by simp [cnd]
@[simp] theorem cnd_false {x y : Code} : cnd P C (some (.val (.bool false))) x y st Q QJ = vc P C y st Q QJ := by simp [cnd]
@[simp low] theorem cnd_bool {x y : Code} {b : Bool} : cnd P C (some (.val (.bool b))) x y st Q QJ = ((b = true → vc P C x st Q QJ) ∧ (b = false → vc P C y st Q QJ)) := rfl

/-! operations -/
def gdS (P : Program) (C : Ctx) (all : Array Oper) (o : Oper) (rest : List Oper) (b : Bool) (t' : Nat) (v : Option SV) (st : St) (Q QJ : Post) : Prop := match v with
  | some (.val (.bool c)) => (c = b → vcOp P C none o ⟨st.n, (t', .val (.bool b)) :: st.fr, st.M⟩ (nx P C all rest Q QJ) (nj P C all rest QJ)) ∧
      (c = !b → vcOps P C all rest ⟨st.n, skipO st.n o.dst ((t', .val (.bool (!b))) :: st.fr), st.M⟩ Q QJ)
  | some (.tup []) => vcOps P C all rest ⟨st.n, skipO st.n o.dst st.fr, st.M⟩ Q QJ
  | _ => False
def gdO (P : Program) (C : Ctx) (all : Array Oper) (o : Oper) (rest : List Oper) (b : Bool) (t' : Option Nat) (st : St) (Q QJ : Post) : Prop := match t' with
  | some t' => gdS P C all o rest b t' (get st.fr t') st Q QJ
  | none => False
def gslotL : List Oper → Nat → Option Nat
  | [], _ => none
  | ⟨d, _, _, _, _, _⟩ :: _, 0 => d
  | _ :: l, n + 1 => gslotL l n
theorem gslot_arr {l : List Oper} {j : Nat} : gslot l.toArray j = gslotL l j := by
  simp only [gslot, List.getElem?_toArray]
  induction l generalizing j with
  | nil => rfl
  | cons x l ih => cases j with
    | zero => rfl
    | succ j => simpa [gslotL] using ih
@[simp ↓] theorem vcOps_nil : vcOps P C all [] st Q QJ = Q .normal st := rfl
@[simp ↓] theorem vcOps_plain : vcOps P C all (⟨d, op, t, p, af, none⟩ :: rest) st Q QJ = vcOp P C none ⟨d, op, t, p, af, none⟩ st (nx P C all rest Q QJ) (nj P C all rest QJ) := rfl
@[simp ↓] theorem vcOps_guard {l : List Oper} {j : Nat} {b : Bool} : vcOps P C l.toArray (⟨d, op, t, p, af, some (j, b)⟩ :: rest) st Q QJ = gdO P C l.toArray ⟨d, op, t, p, af, some (j, b)⟩ rest b (gslotL l j) st Q QJ := by
  simp only [vcOps, gdO]
  rw [gslot_arr]
  cases gslotL l j with
  | none => rfl
  | some t' =>
    simp only [gdS]
    cases get st.fr t' with
    | none => rfl
    | some v => cases v with
      | val u => cases u <;> rfl
      | tup l => cases l <;> rfl
      | _ => rfl
@[simp] theorem gdO_some {o : Oper} {b : Bool} {t' : Nat} : gdO P C all o rest b (some t') st Q QJ = gdS P C all o rest b t' (get st.fr t') st Q QJ := rfl
theorem SIM.sub {fr : List (Nat × SV)} {a : Act} {w : World} (h : SIM C st a w) (hs : ∀ t x, get fr t = some x → get st.fr t = some x) : SIM C ⟨st.n, fr, st.M⟩ a w := by
  obtain ⟨β, H, hF, hW⟩ := h; exact ⟨β, H, hF.sub hs, hW⟩
@[simp low] theorem gdS_bool {o : Oper} {b c : Bool} {t' : Nat} : gdS P C all o rest b t' (some (.val (.bool c))) st Q QJ =
    ((c = b → vcOp P C none o ⟨st.n, (t', .val (.bool b)) :: st.fr, st.M⟩ (nx P C all rest Q QJ) (nj P C all rest QJ)) ∧ (c = !b → vcOps P C all rest ⟨st.n, skipO st.n o.dst ((t', .val (.bool (!b))) :: st.fr), st.M⟩ Q QJ)) := rfl
@[simp] theorem gdS_tt {o : Oper} {t' : Nat} : gdS P C all o rest true t' (some (.val (.bool true))) st Q QJ = vcOp P C none o ⟨st.n, (t', .val (.bool true)) :: st.fr, st.M⟩ (nx P C all rest Q QJ) (nj P C all rest QJ) := by simp [gdS]
@[simp] theorem gdS_ff {o : Oper} {t' : Nat} : gdS P C all o rest false t' (some (.val (.bool false))) st Q QJ = vcOp P C none o ⟨st.n, (t', .val (.bool false)) :: st.fr, st.M⟩ (nx P C all rest Q QJ) (nj P C all rest QJ) := by simp [gdS]
@[simp] theorem gdS_tf {t' : Nat} : gdS P C all ⟨d, op, t, p, af, g⟩ rest true t' (some (.val (.bool false))) st Q QJ = vcOps P C all rest ⟨st.n, skipO st.n d ((t', .val (.bool false)) :: st.fr), st.M⟩ Q QJ := by simp [gdS]
@[simp] theorem gdS_ft {t' : Nat} : gdS P C all ⟨d, op, t, p, af, g⟩ rest false t' (some (.val (.bool true))) st Q QJ = vcOps P C all rest ⟨st.n, skipO st.n d ((t', .val (.bool true)) :: st.fr), st.M⟩ Q QJ := by simp [gdS]
@[simp] theorem gdS_skip {b : Bool} {t' : Nat} : gdS P C all ⟨d, op, t, p, af, g⟩ rest b t' (some (.tup [])) st Q QJ = vcOps P C all rest ⟨st.n, skipO st.n d st.fr, st.M⟩ Q QJ := rfl

theorem vcOp_q (hm : ∀ fx M fr, evM P fx M fr op = .stuck) (hc : ∀ f args ts, op ≠ .call ⟨.value f, args, ts⟩) : vcOp P C W ⟨d, op, t, p, af, g⟩ st next nextJ = onRes (evQ P st.M st.fr op) (K d st next) := by
  unfold vcOp onRes
  cases h : evQ P st.M st.fr op with
  | q c x => rfl
  | stuck =>
    simp only [hm]
    all_goals first
      | rfl
      | ((try dsimp only); split <;> first | rfl | exact absurd rfl (hc _ _ _))
  | m a b c =>
    simp only [hm]
    all_goals first
      | rfl
      | ((try dsimp only); split <;> first | rfl | exact absurd rfl (hc _ _ _))
theorem vcOp_m (hq : ∀ M fr, evQ P M fr op = .stuck) (hc : ∀ f args ts, op ≠ .call ⟨.value f, args, ts⟩) : vcOp P C W ⟨d, op, t, p, af, g⟩ st next nextJ = onM (evM P C.fx st.M st.fr op) (KM d st next) := by
  unfold vcOp onM
  simp only [hq]
  cases h : evM P C.fx st.M st.fr op with
  | m c M' pk x => rfl
  | stuck =>
    all_goals first
      | rfl
      | ((try dsimp only); split <;> first | rfl | exact absurd rfl (hc _ _ _))

def mvR (x : Option SV) : Res := match x with
  | some x => .q True x
  | none => .stuck
@[simp] theorem mvR_some {x : SV} : mvR (some x) = .q True x := rfl
def evp (fr : List (Nat × SV)) (l : List (Nat × Operand)) : List (Nat × Option SV) := l.map fun q => (q.1, ev fr q.2)
@[simp] theorem evp_nil {fr : List (Nat × SV)} : evp fr [] = [] := rfl
@[simp] theorem evp_cons {fr : List (Nat × SV)} {i : Nat} {o : Operand} {r : List (Nat × Operand)} : evp fr ((i, o) :: r) = (i, ev fr o) :: evp fr r := rfl
@[simp ↓] theorem vcOp_move {x : Operand} : vcOp P C W ⟨d, .move x, t, p, af, g⟩ st next nextJ = onRes (mvR (ev st.fr x)) (K d st next) := by
  rw [vcOp_q (fun _ _ _ => rfl) (fun _ _ _ => by simp)]; simp only [evQ]; cases ev st.fr x <;> rfl
@[simp ↓] theorem vcOp_assign {x : Operand} : vcOp P C W ⟨d, .assign x, t, p, af, g⟩ st next nextJ = onRes (mvR (ev st.fr x)) (K d st next) := by
  rw [vcOp_q (fun _ _ _ => rfl) (fun _ _ _ => by simp)]; simp only [evQ]; cases ev st.fr x <;> rfl
@[simp ↓] theorem vcOp_pick {c x y : Operand} : vcOp P C W ⟨d, .pick c x y, t, p, af, g⟩ st next nextJ = onRes (evPick (ev st.fr c) (ev st.fr x) (ev st.fr y)) (K d st next) := by
  rw [vcOp_q (fun _ _ _ => rfl) (fun _ _ _ => by simp)]; rfl
@[simp ↓] theorem vcOp_bin {op : BinOp} {t1 t2 : TypeId} {x y : Operand} : vcOp P C W ⟨d, .binOp op t1 x y t2, t, p, af, g⟩ st next nextJ = onRes (evBinP P op t1 (ev st.fr x) y (ev st.fr y)) (K d st next) := by
  rw [vcOp_q (fun _ _ _ => rfl) (fun _ _ _ => by simp)]; rfl
@[simp ↓] theorem vcOp_un {op : UnOp} {t1 : TypeId} {x : Operand} : vcOp P C W ⟨d, .unOp op t1 x, t, p, af, g⟩ st next nextJ = onRes (evUn op (ev st.fr x)) (K d st next) := by
  rw [vcOp_q (fun _ _ _ => rfl) (fun _ _ _ => by simp)]; rfl
@[simp ↓] theorem vcOp_conv {t1 t2 : TypeId} {x : Operand} : vcOp P C W ⟨d, .convert t1 t2 x, t, p, af, g⟩ st next nextJ = onRes (evConv P st.M (tyOf P t1) (tyOf P t2) (ev st.fr x)) (K d st next) := by
  rw [vcOp_q (fun _ _ _ => rfl) (fun _ _ _ => by simp)]; rfl
@[simp ↓] theorem vcOp_nil {x : Operand} : vcOp P C W ⟨d, .nilCheck x, t, p, af, g⟩ st next nextJ = onRes (evNil (ev st.fr x)) (K d st next) := by
  rw [vcOp_q (fun _ _ _ => rfl) (fun _ _ _ => by simp)]; rfl
@[simp ↓] theorem vcOp_ext {x : Operand} {i : Nat} : vcOp P C W ⟨d, .extract x i, t, p, af, g⟩ st next nextJ = onRes (evExtract (ev st.fr x) i) (K d st next) := by
  rw [vcOp_q (fun _ _ _ => rfl) (fun _ _ _ => by simp)]; rfl
@[simp ↓] theorem vcOp_fa {t1 : TypeId} {x : Operand} {f : Nat} : vcOp P C W ⟨d, .fieldAddr t1 x f, t, p, af, g⟩ st next nextJ = onRes (evFieldAddr (tyOf P t1) (ev st.fr x) f) (K d st next) := by
  rw [vcOp_q (fun _ _ _ => rfl) (fun _ _ _ => by simp)]; rfl
@[simp ↓] theorem vcOp_fd {t1 : TypeId} {x : Operand} {f : Nat} : vcOp P C W ⟨d, .field t1 x f, t, p, af, g⟩ st next nextJ = onRes (evField P (tyOf P t1) (ev st.fr x) f) (K d st next) := by
  rw [vcOp_q (fun _ _ _ => rfl) (fun _ _ _ => by simp)]; rfl
@[simp ↓] theorem vcOp_ia {t1 : TypeId} {x i : Operand} : vcOp P C W ⟨d, .indexAddr t1 x i, t, p, af, g⟩ st next nextJ = onRes (evIndexAddr P st.M (tyOf P t1) (ev st.fr x) (ev st.fr i)) (K d st next) := by
  rw [vcOp_q (fun _ _ _ => rfl) (fun _ _ _ => by simp)]; rfl
@[simp ↓] theorem vcOp_ix {t1 : TypeId} {x i : Operand} : vcOp P C W ⟨d, .index t1 x i, t, p, af, g⟩ st next nextJ = onRes (evIndex (tyOf P t1) (ev st.fr x) (ev st.fr i)) (K d st next) := by
  rw [vcOp_q (fun _ _ _ => rfl) (fun _ _ _ => by simp)]; rfl
@[simp ↓] theorem vcOp_ld {t1 : TypeId} {x : Operand} : vcOp P C W ⟨d, .load t1 x, t, p, af, g⟩ st next nextJ = onRes (evLoad st.M (tyOf P t1) (ev st.fr x)) (K d st next) := by
  rw [vcOp_q (fun _ _ _ => rfl) (fun _ _ _ => by simp)]; rfl
@[simp ↓] theorem vcOp_if {t1 : TypeId} {x : Operand} : vcOp P C W ⟨d, .makeInterface t1 x, t, p, af, g⟩ st next nextJ = onRes (evIface (tyOf P t1) t1 (ev st.fr x)) (K d st next) := by
  rw [vcOp_q (fun _ _ _ => rfl) (fun _ _ _ => by simp)]; rfl
@[simp ↓] theorem vcOp_bd {t1 : TypeId} {l : List (Nat × Operand)} : vcOp P C W ⟨d, .build t1 l.toArray, t, p, af, g⟩ st next nextJ = onRes (evBuild (tyOf P t1) (evp st.fr l)) (K d st next) := by
  rw [vcOp_q (fun _ _ _ => rfl) (fun _ _ _ => by simp)]; rfl
def onLen (M : Tab) (d : Option Tmp) (st : St) (next : St → Prop) (ti : Option TI) (x : Option SV) : Prop := match evLen ti x with
  | .q c x => c ∧ K d st next x
  | _ => onM (evMapLen M ti x) (KM d st next)
@[simp ↓] theorem vcOp_len {o : Operand} {t1 : TypeId} : vcOp P C W ⟨d, .call ⟨.builtin .len, [o].toArray, [t1].toArray⟩, t, p, af, g⟩ st next nextJ = onLen st.M d st next (tyOf P t1) (ev st.fr o) := by
  unfold vcOp onLen onM
  simp only [evQ, evM, evBuiltin, List.map_cons, List.map_nil, List.getElem?_toArray, List.getElem?_cons_zero, Option.bind_some]
  cases evLen (tyOf P t1) (ev st.fr o) with
  | q c x => rfl
  | stuck => simp only; cases evMapLen st.M (tyOf P t1) (ev st.fr o) <;> rfl
  | m a b c => simp only; cases evMapLen st.M (tyOf P t1) (ev st.fr o) <;> rfl
@[simp] theorem onLen_sl {M : Tab} {e s b : Nat} {z : List SV} {x : Option SV} : onLen M d st next (some ⟨.sl e, s, b, z⟩) x = onRes (evLen (some ⟨.sl e, s, b, z⟩) x) (K d st next) := by
  unfold onLen onRes
  cases evLen (some ⟨.sl e, s, b, z⟩) x <;> rfl
@[simp] theorem onLen_str {M : Tab} {s b : Nat} {z : List SV} {x : Option SV} : onLen M d st next (some ⟨.str, s, b, z⟩) x = onRes (evLen (some ⟨.str, s, b, z⟩) x) (K d st next) := by
  unfold onLen onRes
  cases evLen (some ⟨.str, s, b, z⟩) x <;> rfl
@[simp] theorem onLen_mp {M : Tab} {k e s b : Nat} {z : List SV} {x : Option SV} : onLen M d st next (some ⟨.mp k e, s, b, z⟩) x = onM (evMapLen M (some ⟨.mp k e, s, b, z⟩) x) (KM d st next) := by
  unfold onLen
  rfl
@[simp ↓] theorem vcOp_clear {o : Operand} {t1 : TypeId} : vcOp P C W ⟨d, .call ⟨.builtin .clear, [o].toArray, [t1].toArray⟩, t, p, af, g⟩ st next nextJ = onRes (evClear (tyOf P t1) (ev st.fr o)) (K d st next) := by
  rw [vcOp_q (fun _ _ _ => rfl) (fun _ _ _ => by simp)]; rfl
@[simp ↓] theorem vcOp_cp {b x : Operand} {t1 t2 : TypeId} : vcOp P C W ⟨d, .call ⟨.builtin .copy, [b, x].toArray, [t1, t2].toArray⟩, t, p, af, g⟩ st next nextJ = onM (evCopy P st.M (tyOf P t1) (ev st.fr b) (ev st.fr x)) (KM d st next) := by
  rw [vcOp_m (fun _ _ => rfl) (fun _ _ _ => by simp)]; rfl
@[simp ↓] theorem vcOp_max {a b : Operand} {ts : Array TypeId} : vcOp P C W ⟨d, .call ⟨.builtin .max, [a, b].toArray, ts⟩, t, p, af, g⟩ st next nextJ = onRes (evMinMax true (ev st.fr a) (ev st.fr b)) (K d st next) := by
  rw [vcOp_q (fun _ _ _ => rfl) (fun _ _ _ => by simp)]; rfl
@[simp ↓] theorem vcOp_min {a b : Operand} {ts : Array TypeId} : vcOp P C W ⟨d, .call ⟨.builtin .min, [a, b].toArray, ts⟩, t, p, af, g⟩ st next nextJ = onRes (evMinMax false (ev st.fr a) (ev st.fr b)) (K d st next) := by
  rw [vcOp_q (fun _ _ _ => rfl) (fun _ _ _ => by simp)]; rfl
def mapO (fr : List (Nat × SV)) (o : Option Operand) : Option (Option SV) := o.map (ev fr)
@[simp] theorem mapO_none {fr : List (Nat × SV)} : mapO fr none = none := rfl
@[simp] theorem mapO_some {fr : List (Nat × SV)} {o : Operand} : mapO fr (some o) = some (ev fr o) := rfl
@[simp ↓] theorem vcOp_sl {t1 : TypeId} {x : Operand} {lo hi : Option Operand} : vcOp P C W ⟨d, .slice t1 x lo hi none, t, p, af, g⟩ st next nextJ = onRes (evSlice P st.M (tyOf P t1) (ev st.fr x) (mapO st.fr lo) (mapO st.fr hi) none) (K d st next) := by
  rw [vcOp_q (fun _ _ _ => rfl) (fun _ _ _ => by simp)]; rfl
@[simp ↓] theorem vcOp_st {t1 : TypeId} {x y : Operand} : vcOp P C W ⟨d, .store t1 x y, t, p, af, g⟩ st next nextJ = onM (evStore st.M (tyOf P t1) (ev st.fr x) (ev st.fr y)) (KM d st next) := by
  rw [vcOp_m (fun _ _ => rfl) (fun _ _ _ => by simp)]; rfl
@[simp ↓] theorem vcOp_al {t1 : TypeId} : vcOp P C W ⟨d, .alloc t1, t, p, af, g⟩ st next nextJ = onM (evAlloc st.M (tyOf P t1)) (KM d st next) := by
  rw [vcOp_m (fun _ _ => rfl) (fun _ _ _ => by simp)]; rfl
@[simp ↓] theorem vcOp_bo {t1 : TypeId} {x : Operand} : vcOp P C W ⟨d, .box t1 x, t, p, af, g⟩ st next nextJ = onM (evBox st.M (tyOf P t1) (ev st.fr x)) (KM d st next) := by
  rw [vcOp_m (fun _ _ => rfl) (fun _ _ _ => by simp)]; rfl
@[simp ↓] theorem vcOp_bs {t1 : TypeId} {len : Nat} {l : List (Nat × Operand)} : vcOp P C W ⟨d, .buildSlice t1 len l.toArray, t, p, af, g⟩ st next nextJ = onM (evBuildSlice P st.M (tyOf P t1) len (evp st.fr l)) (KM d st next) := by
  rw [vcOp_m (fun _ _ => rfl) (fun _ _ _ => by simp)]; rfl
@[simp ↓] theorem vcOp_mk {t1 : TypeId} {l c : Operand} : vcOp P C W ⟨d, .makeSlice t1 l c, t, p, af, g⟩ st next nextJ = onM (evMakeSlice P st.M (tyOf P t1) (ev st.fr l) (ev st.fr c)) (KM d st next) := by
  rw [vcOp_m (fun _ _ => rfl) (fun _ _ _ => by simp)]; rfl
@[simp ↓] theorem vcOp_ap {b x : Operand} {t1 t2 : TypeId} : vcOp P C W ⟨d, .call ⟨.builtin .append, [b, x].toArray, [t1, t2].toArray⟩, t, p, af, g⟩ st next nextJ = onM (evAppend P C.fx st.M (tyOf P t1) (tyOf P t2) (ev st.fr b) (ev st.fr x)) (KM d st next) := by
  rw [vcOp_m (fun _ _ => rfl) (fun _ _ _ => by simp)]; rfl
@[simp ↓] theorem vcOp_lk {t1 : TypeId} {x i : Operand} {ok : Bool} : vcOp P C W ⟨d, .lookup t1 x i ok, t, p, af, g⟩ st next nextJ = onM (evLookup P st.M (tyOf P t1) (ev st.fr x) (ev st.fr i) ok) (KM d st next) := by
  rw [vcOp_m (fun _ _ => rfl) (fun _ _ _ => by simp)]; rfl
@[simp ↓] theorem vcOp_mu {t1 : TypeId} {m i x : Operand} : vcOp P C W ⟨d, .mapUpdate t1 m i x, t, p, af, g⟩ st next nextJ = onM (evMapUpd P st.M (tyOf P t1) (ev st.fr m) (ev st.fr i) (ev st.fr x)) (KM d st next) := by
  rw [vcOp_m (fun _ _ => rfl) (fun _ _ _ => by simp)]; rfl
@[simp ↓] theorem vcOp_mi {t1 : TypeId} {m i x : Operand} : vcOp P C W ⟨d, .insert t1 m i x, t, p, af, g⟩ st next nextJ = onM (evMapUpd P st.M (tyOf P t1) (ev st.fr m) (ev st.fr i) (ev st.fr x)) (KM d st next) := by
  rw [vcOp_m (fun _ _ => rfl) (fun _ _ _ => by simp)]; rfl
@[simp ↓] theorem vcOp_me {t1 : TypeId} {m i : Operand} : vcOp P C W ⟨d, .mapEntry t1 m i, t, p, af, g⟩ st next nextJ = onM (evMapEntry P st.M (tyOf P t1) (ev st.fr m) (ev st.fr i)) (KM d st next) := by
  rw [vcOp_m (fun _ _ => rfl) (fun _ _ _ => by simp)]; rfl
@[simp ↓] theorem vcOp_es {t1 : TypeId} {m s x : Operand} : vcOp P C W ⟨d, .entryStore t1 m s x, t, p, af, g⟩ st next nextJ = onM (evEntryStore st.M (ev st.fr m) (ev st.fr s) (ev st.fr x)) (KM d st next) := by
  rw [vcOp_m (fun _ _ => rfl) (fun _ _ _ => by simp)]; rfl
@[simp ↓] theorem vcOp_mm {t1 : TypeId} {n : Option Operand} : vcOp P C W ⟨d, .makeMap t1 n, t, p, af, g⟩ st next nextJ = onM (evMakeMap st.M (tyOf P t1) (mapO st.fr n)) (KM d st next) := by
  rw [vcOp_m (fun _ _ => rfl) (fun _ _ _ => by simp)]; rfl
def onCall (P : Program) (C : Ctx) (f : FuncId) (W : Option (List Nat)) (xs : Option (List SV)) (d : Option Tmp) (st : St) (nextJ : St → Prop) : Prop := match xs with
  | some xs => callOK P f ∧ dok d st.n ∧ CallJ P C f xs st.M W (KJ d st nextJ)
  | none => False
@[simp] theorem onCall_some {f : FuncId} {xs : List SV} : onCall P C f W (some xs) d st nextJ = (callOK P f ∧ dok d st.n ∧ CallJ P C f xs st.M W (KJ d st nextJ)) := rfl
@[simp ↓] theorem vcOp_call {f : FuncId} {l : List Operand} {ts : Array TypeId} : vcOp P C W ⟨d, .call ⟨.value (.func f), l.toArray, ts⟩, t, p, af, g⟩ st next nextJ = onCall P C f W (evs st.fr l) d st nextJ := by
  unfold vcOp
  simp only [evQ, evM]
  cases evs st.fr l <;> rfl
def onFn (P : Program) (C : Ctx) (W : Option (List Nat)) (x : Option SV) (xs : Option (List SV)) (d : Option Tmp) (st : St) (nextJ : St → Prop) : Prop := match x, xs with
  | some (.fnv f l r), some xs => callOK P f ∧ dok d st.n ∧ CallJ P C f (l ++ xs ++ r) st.M W (KJ d st nextJ)
  | _, _ => False
@[simp] theorem onFn_some {f : FuncId} {l r xs : List SV} : onFn P C W (some (.fnv f l r)) (some xs) d st nextJ = (callOK P f ∧ dok d st.n ∧ CallJ P C f (l ++ xs ++ r) st.M W (KJ d st nextJ)) := rfl
@[simp ↓] theorem vcOp_callT {x : Nat} {l : List Operand} {ts : Array TypeId} : vcOp P C W ⟨d, .call ⟨.value (.tmp x), l.toArray, ts⟩, t, p, af, g⟩ st next nextJ = onFn P C W (get st.fr x) (evs st.fr l) d st nextJ := by
  unfold vcOp onFn
  simp only [evQ, evM]
  cases get st.fr x with
  | none => rfl
  | some v => cases v <;> cases evs st.fr l <;> rfl
@[simp ↓] theorem vcOp_mf {f : FuncId} {l r : List Operand} : vcOp P C W ⟨d, .makeFunc (.func f) l.toArray r.toArray, t, p, af, g⟩ st next nextJ = onRes (fnvO f (evs st.fr l) (evs st.fr r)) (K d st next) := by
  rw [vcOp_q (fun _ _ _ => rfl) (fun _ _ _ => by simp)]; rfl
@[simp] theorem fnvO_some {f : FuncId} {l r : List SV} : fnvO f (some l) (some r) = .q True (.fnv f l r) := rfl
end

/-! what the quiet operations make -/
section
variable (P : Program) (M : Tab) (ti ti' : TI) (κ κ' : IntKind) (m n : Int) (a b i j s f : Nat) (x y : SV) (z es l : List SV) (el : TypeId) (fs : List (Nat × Nat × TypeId)) (u v : Option SV)
@[simp] theorem evPick_true : evPick (some (.val (.bool true))) u v = mvR u := by cases u <;> rfl
@[simp] theorem evPick_false : evPick (some (.val (.bool false))) u v = mvR v := by cases v <;> rfl
@[simp] theorem bin_add (ti : Option TI) : evBin .add ti (some (.val (.int κ m))) (some (.val (.int κ n))) = .q (True) (.val (.int κ (κ.wrap (m + n)))) := by simp [evBin, isSh, binInt]
@[simp] theorem bin_sub (ti : Option TI) : evBin .sub ti (some (.val (.int κ m))) (some (.val (.int κ n))) = .q (True) (.val (.int κ (κ.wrap (m - n)))) := by simp [evBin, isSh, binInt]
@[simp] theorem bin_mul (ti : Option TI) : evBin .mul ti (some (.val (.int κ m))) (some (.val (.int κ n))) = .q (True) (.val (.int κ (κ.wrap (m * n)))) := by simp [evBin, isSh, binInt]
@[simp] theorem bin_quo (ti : Option TI) : evBin .quo ti (some (.val (.int κ m))) (some (.val (.int κ n))) = .q (n ≠ 0) (.val (.int κ (κ.wrap (m.tdiv n)))) := by simp [evBin, isSh, binInt]
@[simp] theorem bin_rem (ti : Option TI) : evBin .rem ti (some (.val (.int κ m))) (some (.val (.int κ n))) = .q (n ≠ 0) (.val (.int κ (m.tmod n))) := by simp [evBin, isSh, binInt]
def bwop (op : BinOp) (κ : IntKind) (m n : Int) : Int := match op with
  | .and => κ.wrap (BitVec.ofInt κ.bits m &&& BitVec.ofInt κ.bits n).toNat
  | .or => κ.wrap (BitVec.ofInt κ.bits m ||| BitVec.ofInt κ.bits n).toNat
  | _ => κ.wrap (BitVec.ofInt κ.bits m ^^^ BitVec.ofInt κ.bits n).toNat
@[simp] theorem bin_and (ti : Option TI) : evBin .and ti (some (.val (.int κ m))) (some (.val (.int κ n))) = .q (True) (.val (.int κ (bwop .and κ m n))) := by simp [evBin, isSh, binInt, bwop]
@[simp] theorem bin_or (ti : Option TI) : evBin .or ti (some (.val (.int κ m))) (some (.val (.int κ n))) = .q (True) (.val (.int κ (bwop .or κ m n))) := by simp [evBin, isSh, binInt, bwop]
@[simp] theorem bin_eql (ti : Option TI) : evBin .eql ti (some (.val (.int κ m))) (some (.val (.int κ n))) = .q (True) (.val (.bool (decide (m = n)))) := by simp [evBin, isSh, binInt]
@[simp] theorem bin_neq (ti : Option TI) : evBin .neq ti (some (.val (.int κ m))) (some (.val (.int κ n))) = .q (True) (.val (.bool (decide (m ≠ n)))) := by simp [evBin, isSh, binInt]
@[simp] theorem bin_lss (ti : Option TI) : evBin .lss ti (some (.val (.int κ m))) (some (.val (.int κ n))) = .q (True) (.val (.bool (decide (m < n)))) := by simp [evBin, isSh, binInt]
@[simp] theorem bin_leq (ti : Option TI) : evBin .leq ti (some (.val (.int κ m))) (some (.val (.int κ n))) = .q (True) (.val (.bool (decide (m ≤ n)))) := by simp [evBin, isSh, binInt]
@[simp] theorem bin_gtr (ti : Option TI) : evBin .gtr ti (some (.val (.int κ m))) (some (.val (.int κ n))) = .q (True) (.val (.bool (decide (n < m)))) := by simp [evBin, isSh, binInt]
@[simp] theorem bin_geq (ti : Option TI) : evBin .geq ti (some (.val (.int κ m))) (some (.val (.int κ n))) = .q (True) (.val (.bool (decide (n ≤ m)))) := by simp [evBin, isSh, binInt]
@[simp] theorem bin_shl (ti : Option TI) : evBin .shl ti (some (.val (.int κ m))) (some (.val (.int κ' n))) = .q (0 ≤ n) (.val (.int κ (κ.wrap (m * 2 ^ (min n.toNat κ.bits))))) := by simp [evBin, isSh, shInt]
@[simp] theorem bin_shr (ti : Option TI) : evBin .shr ti (some (.val (.int κ m))) (some (.val (.int κ' n))) = .q (0 ≤ n) (.val (.int κ (m / (2 ^ (min n.toNat κ.bits))))) := by
  have : m.fdiv (2 ^ (min n.toNat κ.bits)) = m / (2 ^ (min n.toNat κ.bits)) := Int.fdiv_eq_ediv_of_nonneg _ (Int.le_of_lt (Int.pow_pos (by omega)))
  simp [evBin, isSh, shInt, this]
@[simp] theorem bin_beql (x y : Bool) : evBin .eql (some ⟨.bool, s, b, z⟩) (some (.val (.bool x))) (some (.val (.bool y))) = .q True (.val (.bool (x == y))) := by simp [evBin]
@[simp] theorem bin_bneq (x y : Bool) : evBin .neq (some ⟨.bool, s, b, z⟩) (some (.val (.bool x))) (some (.val (.bool y))) = .q True (.val (.bool (!(x == y)))) := by simp [evBin]
@[simp] theorem bin_sadd (ti : Option TI) (x y : ByteArray) : evBin .add ti (some (.val (.string x))) (some (.val (.string y))) = .q (x.size + y.size ≤ 9223372036854775807) (.val (.string (x ++ y))) := by simp [evBin, binStr]
@[simp] theorem bin_seql (ti : Option TI) (x y : ByteArray) : evBin .eql ti (some (.val (.string x))) (some (.val (.string y))) = .q True (.val (.bool (decide (x = y)))) := by simp [evBin, binStr]
@[simp] theorem bin_sneq (ti : Option TI) (x y : ByteArray) : evBin .neq ti (some (.val (.string x))) (some (.val (.string y))) = .q True (.val (.bool (decide (x ≠ y)))) := by simp [evBin, binStr]
/-- no struct -/
def notAgg (x : SV) : Prop := x.isAgg = false
@[simp] theorem notAgg_eq (x : SV) : notAgg x = (x.isAgg = false) := propext Iff.rfl
@[simp] theorem binP_one {op : BinOp} {t : TypeId} {x : SV} {oy : Operand} {y : Option SV} (h : notAgg x) : evBinP P op t (some x) oy y = evBinO op (tyOf P t) (some x) oy y := by
  cases x <;> first | rfl | exact Bool.noConfusion h
@[simp] theorem binP_val {op : BinOp} {t : TypeId} {v : Value} {oy : Operand} {y : Option SV} : evBinP P op t (some (.val v)) oy y = evBinO op (tyOf P t) (some (.val v)) oy y := rfl
@[simp] theorem binP_ptr {op : BinOp} {t : TypeId} {a b c : Nat} {oy : Operand} {y : Option SV} : evBinP P op t (some (.ptr a b c)) oy y = evBinO op (tyOf P t) (some (.ptr a b c)) oy y := rfl
@[simp] theorem binP_view {op : BinOp} {t : TypeId} {a b c : Nat} {oy : Operand} {y : Option SV} : evBinP P op t (some (.view a b c)) oy y = evBinO op (tyOf P t) (some (.view a b c)) oy y := rfl
@[simp] theorem binP_ro {op : BinOp} {t : TypeId} {l : List SV} {oy : Operand} {y : Option SV} : evBinP P op t (some (.ro l)) oy y = evBinO op (tyOf P t) (some (.ro l)) oy y := rfl
@[simp] theorem binP_rop {op : BinOp} {t : TypeId} {x : SV} {j : Nat} {oy : Operand} {y : Option SV} : evBinP P op t (some (.rop x j)) oy y = evBinO op (tyOf P t) (some (.rop x j)) oy y := rfl
@[simp] theorem binP_ifc {op : BinOp} {t : TypeId} {ty : TypeId} {x : SV} {oy : Operand} {y : Option SV} : evBinP P op t (some (.ifc ty x)) oy y = evBinO op (tyOf P t) (some (.ifc ty x)) oy y := rfl
@[simp] theorem binP_sen {op : BinOp} {t : TypeId} {ty g : Nat} {oy : Operand} {y : Option SV} : evBinP P op t (some (.sen ty g)) oy y = evBinO op (tyOf P t) (some (.sen ty g)) oy y := rfl
@[simp] theorem binP_any {op : BinOp} {t : TypeId}  {oy : Operand} {y : Option SV} : evBinP P op t (some (.any)) oy y = evBinO op (tyOf P t) (some (.any)) oy y := rfl
@[simp] theorem binP_fnv {op : BinOp} {t : TypeId} {f : FuncId} {l r : List SV} {oy : Operand} {y : Option SV} : evBinP P op t (some (.fnv f l r)) oy y = evBinO op (tyOf P t) (some (.fnv f l r)) oy y := rfl
@[simp] theorem binP_mp {op : BinOp} {t : TypeId} {k : Nat} {oy : Operand} {y : Option SV} : evBinP P op t (some (.mp k)) oy y = evBinO op (tyOf P t) (some (.mp k)) oy y := rfl
@[simp] theorem binP_tup {op : BinOp} {t : TypeId} {l : List SV} {oy : Operand} {y : Option SV} : evBinP P op t (some (.tup l)) oy y = evBinO op (tyOf P t) (some (.tup l)) oy y := rfl
@[simp] theorem binP_none {op : BinOp} {t : TypeId} {oy : Operand} {y : Option SV} : evBinP P op t none oy y = evBinO op (tyOf P t) none oy y := rfl
@[simp] theorem binO_tmp {op : BinOp} {ti : Option TI} {x y : Option SV} {k : Nat} : evBinO op ti x (.tmp k) y = evBin op ti x y := rfl
@[simp] theorem binO_int {op : BinOp} {ti : Option TI} {x y : Option SV} {κ : IntKind} {n : Int} : evBinO op ti x (.const (.int κ n)) y = evBin op ti x y := rfl
@[simp] theorem binO_str {op : BinOp} {ti : Option TI} {x y : Option SV} {n : ByteArray} : evBinO op ti x (.const (.string n)) y = evBin op ti x y := rfl
@[simp] theorem binO_bool {op : BinOp} {ti : Option TI} {x y : Option SV} {n : Bool} : evBinO op ti x (.const (.bool n)) y = evBin op ti x y := rfl
@[simp] theorem binO_pnil {op : BinOp} {ti : Option TI} {x y : Option SV} : evBinO op ti x (.const (.pointer none)) y = evBin op ti x y := rfl
@[simp] theorem bin_peql_rop {x : SV} {j : Nat} {e : TypeId} : evBin .eql (some ⟨.ptr e, s, b, z⟩) (some (.rop x j)) (some (.val (.pointer none))) = .q True (.bool false) := rfl
@[simp] theorem bin_pneq_rop {x : SV} {j : Nat} {e : TypeId} : evBin .neq (some ⟨.ptr e, s, b, z⟩) (some (.rop x j)) (some (.val (.pointer none))) = .q True (.bool true) := rfl
@[simp] theorem bin_peql_nil {e : TypeId} : evBin .eql (some ⟨.ptr e, s, b, z⟩) (some (.val (.pointer none))) (some (.val (.pointer none))) = .q True (.bool true) := rfl
@[simp] theorem bin_pneq_nil {e : TypeId} : evBin .neq (some ⟨.ptr e, s, b, z⟩) (some (.val (.pointer none))) (some (.val (.pointer none))) = .q True (.bool false) := rfl
@[simp] theorem binO_nil {op : BinOp} {ti : Option TI} {x y : Option SV} : evBinO op ti x (.const .nilIface) y = evNilEq op ti x := rfl
@[simp] theorem nilEq_1 : evNilEq .eql (some ⟨.iface, s, b, z⟩) (some (.val .nilIface)) = .q True (.bool true) := rfl
@[simp] theorem nilEq_2 : evNilEq .neq (some ⟨.iface, s, b, z⟩) (some (.val .nilIface)) = .q True (.bool false) := rfl
@[simp] theorem nilEq_3 {t : TypeId} {x : SV} : evNilEq .eql (some ⟨.iface, s, b, z⟩) (some (.ifc t x)) = .q True (.bool false) := rfl
@[simp] theorem nilEq_4 {t : TypeId} {x : SV} : evNilEq .neq (some ⟨.iface, s, b, z⟩) (some (.ifc t x)) = .q True (.bool true) := rfl
@[simp] theorem nilEq_5 {t g : Nat} : evNilEq .eql (some ⟨.iface, s, b, z⟩) (some (.sen t g)) = .q True (.bool false) := rfl
@[simp] theorem nilEq_6 {t g : Nat} : evNilEq .neq (some ⟨.iface, s, b, z⟩) (some (.sen t g)) = .q True (.bool true) := rfl
@[simp] theorem un_neg : evUn .neg (some (.val (.int κ n))) = .q True (.val (.int κ (κ.wrap (0 - n)))) := rfl
@[simp] theorem un_not (b : Bool) : evUn .not (some (.val (.bool b))) = .q True (.val (.bool (!b))) := rfl
@[simp] theorem conv_int {M : Tab} : evConv P M (some ti) (some ⟨.int κ, s, b, z⟩) (some (.val (.int κ' n))) = .q True (.val (.int κ (κ.wrap n))) := by
  unfold evConv; split
  · rename_i h; cases h
  · rfl
@[simp] theorem conv_str {M : Tab} {el : TypeId} {x : Option SV} {s' b' : Nat} {z' : List SV} : evConv P M (some ⟨.sl el, s, b, z⟩) (some ⟨.str, s', b', z'⟩) x = evStr M (tyOf P el) x := rfl
@[simp] theorem str_ro {M : Tab} {es : List SV} : evStr M (some ⟨.int .u8, s, b, z⟩) (some (.ro es)) = .q (es.all byteSV = true) (.val (.string (strOf es))) := rfl
@[simp] theorem str_nil {M : Tab} : evStr M (some ⟨.int .u8, s, b, z⟩) (some (.val (.slice none 0 0))) = .q True (.val (.string (strOf []))) := rfl
def strE (i n : Nat) (e : Option Ent) : Res := match e with
  | some e => .q (e.sz = 1 ∧ i + n ≤ e.es.length ∧ ((e.es.drop i).take n).all byteSV = true) (.val (.string (strOf ((e.es.drop i).take n))))
  | none => .stuck
@[simp] theorem strE_some {i n : Nat} {e : Ent} : strE i n (some e) = .q (e.sz = 1 ∧ i + n ≤ e.es.length ∧ ((e.es.drop i).take n).all byteSV = true) (.val (.string (strOf ((e.es.drop i).take n)))) := rfl
@[simp] theorem str_view {M : Tab} {k i n : Nat} : evStr M (some ⟨.int .u8, s, b, z⟩) (some (.view k i n)) = strE i n (tget M k) := by
  simp only [evStr, strE]; cases tget M k <;> rfl
@[simp] theorem nil_ptr : evNil (some (.ptr a i j)) = .q True (.ptr a i j) := rfl
@[simp] theorem nil_rop : evNil (some (.rop x j)) = .q True (.rop x j) := rfl
@[simp] theorem nil_ifc (t : TypeId) : evNil (some (.ifc t x)) = .q True (.ifc t x) := rfl
@[simp] theorem ext_tup : evExtract (some (.tup l)) i = .q (i < l.length) (lget l i) := rfl
def faP (a i j : Nat) (q : Option (Nat × Nat × TypeId)) : Res := match q with
  | some (off, sz, _) => if sz = 0 then .stuck else .q True (.ptr a i (j + off))
  | none => .stuck
def faR (x : SV) (j : Nat) (q : Option (Nat × Nat × TypeId)) : Res := match q with
  | some (off, sz, _) => if sz = 0 then .stuck else .q True (.rop x (j + off))
  | none => .stuck
@[simp] theorem faP_some (off sz : Nat) (t : TypeId) : faP a i j (some (off, sz, t)) = if sz = 0 then .stuck else .q True (.ptr a i (j + off)) := rfl
@[simp] theorem faR_some (off sz : Nat) (t : TypeId) : faR x j (some (off, sz, t)) = if sz = 0 then .stuck else .q True (.rop x (j + off)) := rfl
@[simp] theorem fa_ptr : evFieldAddr (some ⟨.st fs, s, b, z⟩) (some (.ptr a i j)) f = faP a i j (fget fs f) := by simp only [evFieldAddr, faP]; cases fget fs f <;> rfl
@[simp] theorem fa_rop : evFieldAddr (some ⟨.st fs, s, b, z⟩) (some (.rop x j)) f = faR x j (fget fs f) := by simp only [evFieldAddr, faR]; cases fget fs f <;> rfl
def fdA (l : List SV) (off : Nat) (tf : Option TI) : Res := match tf with
  | some tf => if tf.k.isAgg = true then .q (off + tf.size ≤ l.length) (.agg ((l.drop off).take tf.size)) else .q (off < l.length) (lget l off)
  | none => .stuck
@[simp] theorem fdA_some (off : Nat) : fdA l off (some ti) = if ti.k.isAgg = true then .q (off + ti.size ≤ l.length) (.agg ((l.drop off).take ti.size)) else .q (off < l.length) (lget l off) := rfl
def fdB (P : Program) (l : List SV) (q : Option (Nat × Nat × TypeId)) : Res := match q with
  | some (off, _, ft) => fdA l off (tyOf P ft)
  | none => .stuck
@[simp] theorem fdB_some (off sz : Nat) (t : TypeId) : fdB P l (some (off, sz, t)) = fdA l off (tyOf P t) := rfl
@[simp] theorem fd_agg : evField P (some ⟨.st fs, s, b, z⟩) (some (.agg l)) f = fdB P l (fget fs f) := by
  simp only [evField, fdB, fdA]; cases fget fs f with
  | none => rfl
  | some q => obtain ⟨o, s, t⟩ := q; simp only; cases tyOf P t <;> rfl
def iaR (es : List SV) (n : Int) (te : Option TI) : Res := match te with
  | some te => .q (0 ≤ n ∧ n < es.length ∧ (lget es n.toNat).csz = te.size ∧ (lget es n.toNat).isTup = false) (.rop (lget es n.toNat) 0)
  | none => .stuck
@[simp] theorem iaR_some : iaR es n (some ti) = .q (0 ≤ n ∧ n < es.length ∧ (lget es n.toNat).csz = ti.size ∧ (lget es n.toNat).isTup = false) (.rop (lget es n.toNat) 0) := rfl
@[simp] theorem ia_ro : evIndexAddr P M (some ⟨.sl el, s, b, z⟩) (some (.ro es)) (some (.val (.int κ n))) = iaR es n (tyOf P el) := by simp only [evIndexAddr, iaR]; cases tyOf P el <;> rfl
def iaV (a i m : Nat) (n : Int) (te : Option TI) (e : Option Ent) : Res := match te, e with
  | some te, some e => if e.sz = te.size then .q (0 ≤ n ∧ n < m) (.ptr a (i + n.toNat) 0) else .stuck
  | _, _ => .stuck
@[simp] theorem iaV_some (k : Nat) (fz : Bool) : iaV a i k n (some ti) (some ⟨s, es, fz⟩) = if s = ti.size then .q (0 ≤ n ∧ n < k) (.ptr a (i + n.toNat) 0) else .stuck := rfl
@[simp] theorem ia_view (k : Nat) : evIndexAddr P M (some ⟨.sl el, s, b, z⟩) (some (.view a i k)) (some (.val (.int κ n))) = iaV a i k n (tyOf P el) (tget M a) := by simp only [evIndexAddr, iaV]; cases tyOf P el <;> cases tget M a <;> rfl
@[simp] theorem ix_str (q : ByteArray) : evIndex (some ⟨.str, s, b, z⟩) (some (.val (.string q))) (some (.val (.int κ n))) = .q (0 ≤ n ∧ n < q.size) (.val (.int .u8 (sget q n.toNat).toNat)) := rfl
def ldP (ti : TI) (i j : Nat) (e : Option Ent) : Res := match e with
  | some e => .q (i < e.es.length ∧ (lget e.es i).isTup = false ∧ j + ti.size ≤ (lget e.es i).csz) (loadSV ti (lget e.es i) j)
  | none => .stuck
@[simp] theorem ldP_some (fz : Bool) : ldP ti i j (some ⟨s, es, fz⟩) = .q (i < es.length ∧ (lget es i).isTup = false ∧ j + ti.size ≤ (lget es i).csz) (loadSV ti (lget es i) j) := rfl
@[simp] theorem ld_ptr : evLoad M (some ti) (some (.ptr a i j)) = ldP ti i j (tget M a) := by simp only [evLoad, ldP]; cases tget M a <;> rfl
@[simp] theorem ld_rop : evLoad M (some ti) (some (.rop x j)) = .q (x.isTup = false ∧ j + ti.size ≤ x.csz) (loadSV ti x j) := rfl
@[simp] theorem len_nil : evLen (some ⟨.sl el, s, b, z⟩) (some (.val (.slice none 0 0))) = .q True (.val (.int .i64 0)) := rfl
@[simp] theorem len_ro : evLen (some ⟨.sl el, s, b, z⟩) (some (.ro es)) = .q True (.val (.int .i64 es.length)) := rfl
@[simp] theorem len_view (k : Nat) : evLen (some ⟨.sl el, s, b, z⟩) (some (.view a i k)) = .q True (.val (.int .i64 k)) := rfl
@[simp] theorem len_str (q : ByteArray) : evLen (some ⟨.str, s, b, z⟩) (some (.val (.string q))) = .q True (.val (.int .i64 q.size)) := rfl
@[simp] theorem mm_max : evMinMax true (some (.val (.int κ m))) (some (.val (.int κ' n))) = .q True (.val (.int κ (max m n))) := by
  simp only [evMinMax, if_true]; congr 3; omega
@[simp] theorem mm_min : evMinMax false (some (.val (.int κ m))) (some (.val (.int κ' n))) = .q True (.val (.int κ (min m n))) := by
  simp only [evMinMax, Bool.false_eq_true, if_false]; congr 3; omega
@[simp] theorem intOr_none (k : Int) : intOr none k = some k := rfl
@[simp] theorem intOr_val (k : Int) : intOr (some (some (.val (.int κ n)))) k = some n := rfl
def slS (q : ByteArray) (l h : Option Int) : Res := match l, h with
  | some l, some h => .q (0 ≤ l ∧ l ≤ h ∧ h ≤ q.size) (.val (.string (q.extract l.toNat h.toNat)))
  | _, _ => .stuck
@[simp] theorem slS_some (q : ByteArray) : slS q (some m) (some n) = .q (0 ≤ m ∧ m ≤ n ∧ n ≤ q.size) (.val (.string (q.extract m.toNat n.toNat))) := rfl
@[simp] theorem sl_str (q : ByteArray) (lo hi : Option (Option SV)) : evSlice P M (some ⟨.str, s, b, z⟩) (some (.val (.string q))) lo hi none = slS q (intOr lo 0) (intOr hi q.size) := by
  simp only [evSlice, slS]
  cases intOr lo 0 <;> cases intOr hi q.size <;> rfl
/-- the elements are of s cells (told of the first) -/
def okE (s : Nat) (es : List SV) : Prop := es ≠ [] → (lget es 0).csz = s ∧ (lget es 0).isTup = false
def slR (es : List SV) (l h : Option Int) (te : Option TI) : Res := match l, h, te with
  | some l, some h, some te => .q (0 ≤ l ∧ l ≤ h ∧ h ≤ es.length ∧ okE te.size es) (.ro ((es.take h.toNat).drop l.toNat))
  | _, _, _ => .stuck
@[simp] theorem slR_some : slR es (some m) (some n) (some ti) = .q (0 ≤ m ∧ m ≤ n ∧ n ≤ es.length ∧ okE ti.size es) (.ro ((es.take n.toNat).drop m.toNat)) := rfl
@[simp] theorem sl_ro (lo hi : Option (Option SV)) : evSlice P M (some ⟨.sl el, s, b, z⟩) (some (.ro es)) lo hi none = slR es (intOr lo 0) (intOr hi es.length) (tyOf P el) := by
  simp only [evSlice, slR]
  split
  · simp [okE, *]
  · split <;> simp_all
def slV (a i k : Nat) (l h : Option Int) (te : Option TI) (e : Option Ent) : Res := match l, h, te, e with
  | some l, some h, some te, some e => if e.sz = te.size then .q (0 ≤ l ∧ l ≤ h ∧ h ≤ k) (.view a (i + l.toNat) (h.toNat - l.toNat)) else .stuck
  | _, _, _, _ => .stuck
@[simp] theorem slV_some (k : Nat) (fz : Bool) : slV a i k (some m) (some n) (some ti) (some ⟨s, es, fz⟩) = if s = ti.size then .q (0 ≤ m ∧ m ≤ n ∧ n ≤ k) (.view a (i + m.toNat) (n.toNat - m.toNat)) else .stuck := rfl
@[simp] theorem sl_view (k : Nat) (lo hi : Option (Option SV)) : evSlice P M (some ⟨.sl el, s, b, z⟩) (some (.view a i k)) lo hi none = slV a i k (intOr lo 0) (intOr hi k) (tyOf P el) (tget M a) := by
  simp only [evSlice, slV]
  cases intOr lo 0 with
  | none => rfl
  | some l => cases intOr hi k with
    | none => rfl
    | some h => cases tyOf P el with
      | none => rfl
      | some te => cases tget M a with
        | none => rfl
        | some e => simp
@[simp] theorem if_ptr (t : TypeId) : evIface (some ⟨.ptr el, s, b, z⟩) t (some x) = .q True (.ifc t x) := rfl
def bdL (l : Option (List SV)) : Res := match l with
  | some l => .q True (.agg l)
  | none => .stuck
@[simp] theorem bdL_some : bdL (some l) = .q True (.agg l) := rfl
@[simp] theorem bd_st (ps : List (Nat × Option SV)) : evBuild (some ⟨.st fs, s, b, z⟩) ps = if fs.all (fun f => f.2.1 != 0) = true then bdL (fillSV fs ps z) else .stuck := by
  simp only [evBuild, bdL]
  split
  · cases fillSV fs ps z <;> rfl
  · rfl
@[simp] theorem fillSV_nil (acc : List SV) : fillSV fs [] acc = some acc := rfl
def fill1 (q : Option (Nat × Nat × TypeId)) (x : SV) (acc : List SV) : Option (List SV) := match q with
  | some (off, sz, _) => if x.csz = sz ∧ x.isTup = false ∧ off + sz ≤ acc.length then some (acc.take off ++ x.cells ++ acc.drop (off + sz)) else none
  | none => none
@[simp] theorem fill1_some (off sz : Nat) (ft : TypeId) (acc : List SV) : fill1 (some (off, sz, ft)) x acc = if x.csz = sz ∧ x.isTup = false ∧ off + sz ≤ acc.length then some (acc.take off ++ x.cells ++ acc.drop (off + sz)) else none := rfl
def fillGo (fs : List (Nat × Nat × TypeId)) (r : List (Nat × Option SV)) (a : Option (List SV)) : Option (List SV) := a.bind fun acc => fillSV fs r acc
@[simp] theorem fillGo_some (r : List (Nat × Option SV)) (a : List SV) : fillGo fs r (some a) = fillSV fs r a := rfl
@[simp] theorem fillSV_cons (i : Nat) (x : SV) (r : List (Nat × Option SV)) (acc : List SV) : fillSV fs ((i, some x) :: r) acc = fillGo fs r (fill1 (fget fs i) x acc) := by
  simp only [fillSV, fillGo]
  cases fget fs i with
  | none => rfl
  | some q => obtain ⟨off, sz, ft⟩ := q; simp only [fill1]; split <;> rfl

/-! what makes or writes blocks -/
def stP (M : Tab) (ti : TI) (a i j : Nat) (y : SV) (e : Option Ent) : MRes := match e with
  | some ⟨sz, es, false⟩ => .m (i < es.length ∧ (lget es i).isTup = false ∧ y.isTup = false ∧ y.csz = ti.size ∧ j + ti.size ≤ (lget es i).csz) (tset M a (some ⟨sz, lset es i (storeSV (lget es i) j y), false⟩)) [] none
  | _ => .stuck
@[simp] theorem stP_some : stP M ti a i j y (some ⟨s, es, false⟩) = .m (i < es.length ∧ (lget es i).isTup = false ∧ y.isTup = false ∧ y.csz = ti.size ∧ j + ti.size ≤ (lget es i).csz) (tset M a (some ⟨s, lset es i (storeSV (lget es i) j y), false⟩)) [] none := rfl
@[simp] theorem st_ptr : evStore M (some ti) (some (.ptr a i j)) (some y) = stP M ti a i j y (tget M a) := by
  simp only [evStore, stP]; cases tget M a with
  | none => rfl
  | some e => obtain ⟨sz, es, f⟩ := e; cases f <;> rfl
@[simp] theorem al_some : evAlloc M (some ti) = .m True (M ++ [some ⟨ti.size, [ti.zsv], false⟩]) [] (some (.ptr M.length 0 0)) := rfl
@[simp] theorem bo_some : evBox M (some ti) (some x) = .m (x.csz = ti.size ∧ x.isTup = false) (M ++ [some ⟨ti.size, [x], false⟩]) [] (some (.ptr M.length 0 0)) := rfl
def bsE (M : Tab) (len : Nat) (te : TI) (es : Option (List SV)) : MRes := match es with
  | some es => if len * te.size ≤ 16777216 then .m True (M ++ [some ⟨te.size, es, false⟩]) [] (some (.view M.length 0 len)) else .stuck
  | none => .stuck
@[simp] theorem bsE_some : bsE M i ti (some es) = if i * ti.size ≤ 16777216 then .m True (M ++ [some ⟨ti.size, es, false⟩]) [] (some (.view M.length 0 i)) else .stuck := rfl
def bsT (M : Tab) (len : Nat) (ps : List (Nat × Option SV)) (te : Option TI) : MRes := match te with
  | some te => bsE M len te (fillEs te.size len ps (List.replicate len te.zsv))
  | none => .stuck
@[simp] theorem bsT_some (ps : List (Nat × Option SV)) : bsT M i ps (some ti) = bsE M i ti (fillEs ti.size i ps (List.replicate i ti.zsv)) := rfl
@[simp] theorem bs_some (ps : List (Nat × Option SV)) : evBuildSlice P M (some ⟨.sl el, s, b, z⟩) i ps = bsT M i ps (tyOf P el) := by
  simp only [evBuildSlice, bsT, bsE]; cases tyOf P el with
  | none => rfl
  | some te => simp only; cases fillEs te.size i ps (List.replicate i te.zsv) <;> rfl
@[simp] theorem fillEs_nil (sz len : Nat) (acc : List SV) : fillEs sz len [] acc = some acc := rfl
@[simp] theorem fillEs_cons (sz len i : Nat) (x : SV) (r : List (Nat × Option SV)) (acc : List SV) : fillEs sz len ((i, some x) :: r) acc = if x.csz = sz ∧ x.isTup = false ∧ i < len then fillEs sz len r (lset acc i x) else none := rfl
def mkT (M : Tab) (n m : Int) (te : Option TI) : MRes := match te with
  | some te => .m (0 ≤ n ∧ n ≤ m ∧ m ≤ 281474976710656 ∧ te.bytes * m ≤ 281474976710656) (M ++ [some ⟨te.size, List.replicate n.toNat te.zsv, false⟩]) [] (some (.view M.length 0 n.toNat))
  | none => .stuck
@[simp] theorem mkT_some : mkT M n m (some ti) = .m (0 ≤ n ∧ n ≤ m ∧ m ≤ 281474976710656 ∧ ti.bytes * m ≤ 281474976710656) (M ++ [some ⟨ti.size, List.replicate n.toNat ti.zsv, false⟩]) [] (some (.view M.length 0 n.toNat)) := rfl
@[simp] theorem mk_some : evMakeSlice P M (some ⟨.sl el, s, b, z⟩) (some (.val (.int κ n))) (some (.val (.int κ' m))) = mkT M n m (tyOf P el) := by simp only [evMakeSlice, mkT]; cases tyOf P el <;> rfl

/-! maps -/
@[simp] theorem lk_mp {kt et k : Nat} {v : Value} {ok : Bool} : evLookup P M (some ⟨.mp kt et, s, b, z⟩) (some (.mp k)) (some (.val v)) ok = lkE ok M (tyOf P kt) v (tyOf P et) (tget M k) := rfl
@[simp] theorem lk_nil {kt et : Nat} {v : Value} {ok : Bool} : evLookup P M (some ⟨.mp kt et, s, b, z⟩) (some (.val (.map none))) (some (.val v)) ok = lkN ok M (tyOf P kt) v (tyOf P et) := rfl
@[simp] theorem lkE_some {ok : Bool} {tk' : Option TI} {v : Value} {te : TI} {f : Bool} : lkE ok M tk' v (some te) (some ⟨0, es, f⟩) = if kfit tk' v = true then lkR ok M te (kfind v es 0) else .stuck := by simp [lkE]
@[simp] theorem lkN_some {ok : Bool} {tk' : Option TI} {v : Value} {te : TI} : lkN ok M tk' v (some te) = if kfit tk' v = true then .m True M [] (some (two ok te.zsv false)) else .stuck := rfl
@[simp] theorem lkR_some {ok : Bool} {te : TI} {j : Nat} {y : SV} : lkR ok M te (some (some (j, y))) = .m True M [] (some (two ok y true)) := rfl
@[simp] theorem lkR_none {ok : Bool} {te : TI} : lkR ok M te (some none) = .m True M [] (some (two ok te.zsv false)) := rfl
@[simp] theorem two_tt {y : SV} {q : Bool} : two true y q = .tup [y, .val (.bool q)] := rfl
@[simp] theorem two_ff {y : SV} {q : Bool} : two false y q = y := rfl
@[simp] theorem kfit_int {k k' : IntKind} {n : Int} : kfit (some ⟨.int k, s, b, z⟩) (.int k' n) = decide (k = k') := rfl
@[simp] theorem kfit_str {q : ByteArray} : kfit (some ⟨.str, s, b, z⟩) (.string q) = true := rfl
@[simp] theorem kfit_bool {q : Bool} : kfit (some ⟨.bool, s, b, z⟩) (.bool q) = true := rfl
@[simp] theorem keq_int {k : IntKind} {m n : Int} : keq (.int k m) (.int k n) = some (decide (m = n)) := by simp [keq]
@[simp] theorem keq_str {m n : ByteArray} : keq (.string m) (.string n) = some (decide (m = n)) := rfl
@[simp] theorem keq_bool {m n : Bool} : keq (.bool m) (.bool n) = some (decide (m = n)) := rfl
@[simp] theorem kfind_nil {v : Value} {i : Nat} : kfind v [] i = some none := rfl
@[simp] theorem kfind_cons {v u : Value} {y : SV} {l : List SV} {i : Nat} : kfind v (.tup [.val u, y] :: l) i = kgo v u y i (kfind v l (i + 1)) := rfl
@[simp] theorem mu_mp {kt et k : Nat} {v : Value} {y : SV} : evMapUpd P M (some ⟨.mp kt et, s, b, z⟩) (some (.mp k)) (some (.val v)) (some y) = upE M k (tyOf P kt) v y (tget M k) := rfl
@[simp] theorem upE_some {k : Nat} {tk' : Option TI} {v : Value} {y : SV} : upE M k tk' v y (some ⟨0, es, false⟩) = if kfit tk' v = true then upR M k es v y (kfind v es 0) else .stuck := by simp [upE]
@[simp] theorem upR_some {k j : Nat} {v : Value} {y y' : SV} : upR M k es v y (some (some (j, y'))) = .m True (tset M k (some ⟨0, lset es j (.tup [.val v, y]), false⟩)) [] none := rfl
@[simp] theorem upR_none {k : Nat} {v : Value} {y : SV} : upR M k es v y (some none) = .m True (tset M k (some ⟨0, es ++ [.tup [.val v, y]], false⟩)) [] none := rfl
@[simp] theorem me_mp {kt et k : Nat} {v : Value} : evMapEntry P M (some ⟨.mp kt et, s, b, z⟩) (some (.mp k)) (some (.val v)) = enE M k (tyOf P kt) v (tyOf P et) (tget M k) := rfl
@[simp] theorem enE_some {k : Nat} {tk' : Option TI} {v : Value} {te : TI} : enE M k tk' v (some te) (some ⟨0, es, false⟩) = if kfit tk' v = true then enR M k es v te (kfind v es 0) else .stuck := by simp [enE]
@[simp] theorem enR_some {k j : Nat} {v : Value} {y : SV} {te : TI} : enR M k es v te (some (some (j, y))) = .m True M [] (some (.tup [y, .val (.int .i64 (j : Nat))])) := rfl
@[simp] theorem enR_none {k : Nat} {v : Value} {te : TI} : enR M k es v te (some none) = .m True (tset M k (some ⟨0, es ++ [.tup [.val v, te.zsv]], false⟩)) [] (some (.tup [te.zsv, .val (.int .i64 es.length)])) := rfl
@[simp] theorem est_mp {k : Nat} {κ : IntKind} {n : Int} {y : SV} : evEntryStore M (some (.mp k)) (some (.val (.int κ n))) (some y) = esE M k n y (tget M k) := rfl
@[simp] theorem esE_some {k : Nat} {n : Int} {y : SV} : esE M k n y (some ⟨0, es, false⟩) = .m (0 ≤ n ∧ n < es.length) (tset M k (some ⟨0, lset es n.toNat (kput (lget es n.toNat) y), false⟩)) [] none := by simp [esE]
@[simp] theorem kput_tup {u y y' : SV} : kput (.tup [u, y']) y = .tup [u, y] := rfl
@[simp] theorem ml_mp {kt et k : Nat} : evMapLen M (some ⟨.mp kt et, s, b, z⟩) (some (.mp k)) = mlE M (tget M k) := rfl
@[simp] theorem ml_nil {kt et : Nat} : evMapLen M (some ⟨.mp kt et, s, b, z⟩) (some (.val (.map none))) = .m True M [] (some (.val (.int .i64 0))) := rfl
@[simp] theorem mlE_some {f : Bool} : mlE M (some ⟨0, es, f⟩) = .m True M [] (some (.val (.int .i64 es.length))) := by simp [mlE]
@[simp] theorem mm_none {kt et : Nat} : evMakeMap M (some ⟨.mp kt et, s, b, z⟩) none = .m True (M ++ [some ⟨0, [], false⟩]) [] (some (.mp M.length)) := rfl
@[simp] theorem mm_int {kt et : Nat} {κ : IntKind} {n : Int} : evMakeMap M (some ⟨.mp kt et, s, b, z⟩) (some (some (.val (.int κ n)))) = .m True (M ++ [some ⟨0, [], false⟩]) [] (some (.mp M.length)) := rfl
/-! append -/
@[simp] theorem es_ro (ys : List SV) : appEs M ti (some (.ro ys)) = some (okE ti.size ys, ys) := rfl
def esV (te : TI) (i n : Nat) (e : Option Ent) : Option (Prop × List SV) := match e with
  | some e => some (e.sz = te.size ∧ i + n ≤ e.es.length, (e.es.drop i).take n)
  | none => none
@[simp] theorem esV_some (k : Nat) (fz : Bool) : esV ti i k (some ⟨s, es, fz⟩) = some (s = ti.size ∧ i + k ≤ es.length, (es.drop i).take k) := rfl
@[simp] theorem es_view (k : Nat) : appEs M ti (some (.view a i k)) = esV ti i k (tget M a) := by
  simp only [appEs, esV]; cases tget M a <;> rfl
def apV (fx : List Nat) (M : Tab) (a n : Nat) (te : TI) (e : Option Ent) (ys : Option (Prop × List SV)) : MRes := match e, ys with
  | some ⟨sz, es, false⟩, some (c, ys) => .m (a ∉ fx ∧ c ∧ n = es.length ∧ sz = te.size ∧ nouse a M = true ∧ SV.usesL a ys = false ∧ (∀ y ∈ ys, y.isTup = false) ∧ (es.length + ys.length) * te.bytes ≤ 70368744177664 ∧ 0 < te.bytes) (tset M a (some ⟨sz, es ++ ys, false⟩)) [a] (some (.view a 0 (n + ys.length)))
  | _, _ => .stuck
@[simp] theorem apV_some (k : Nat) (c : Prop) (fx : List Nat) (ys : List SV) : apV fx M a k ti (some ⟨s, es, false⟩) (some (c, ys)) = .m (a ∉ fx ∧ c ∧ k = es.length ∧ s = ti.size ∧ nouse a M = true ∧ SV.usesL a ys = false ∧ (∀ y ∈ ys, y.isTup = false) ∧ (es.length + ys.length) * ti.bytes ≤ 70368744177664 ∧ 0 < ti.bytes) (tset M a (some ⟨s, es ++ ys, false⟩)) [a] (some (.view a 0 (k + ys.length))) := rfl
def apT (fx : List Nat) (M : Tab) (a n : Nat) (x : Option SV) (te : Option TI) : MRes := match te with
  | some te => apV fx M a n te (tget M a) (appEs M te x)
  | none => .stuck
@[simp] theorem apT_some (fx : List Nat) (k : Nat) : apT fx M a k u (some ti) = apV fx M a k ti (tget M a) (appEs M ti u) := rfl
def apN (M : Tab) (te : TI) (ys : Option (Prop × List SV)) : MRes := match ys with
  | some (c, ys) => .m (c ∧ nouse M.length M = true ∧ SV.usesL M.length ys = false ∧ (∀ y ∈ ys, y.isTup = false) ∧ ys.length * te.bytes ≤ 70368744177664 ∧ 0 < te.bytes) (M ++ [some ⟨te.size, ys, false⟩]) [M.length] (some (.view M.length 0 ys.length))
  | none => .stuck
@[simp] theorem apN_some (c : Prop) (ys : List SV) : apN M ti (some (c, ys)) = .m (c ∧ nouse M.length M = true ∧ SV.usesL M.length ys = false ∧ (∀ y ∈ ys, y.isTup = false) ∧ ys.length * ti.bytes ≤ 70368744177664 ∧ 0 < ti.bytes) (M ++ [some ⟨ti.size, ys, false⟩]) [M.length] (some (.view M.length 0 ys.length)) := rfl
def apNT (M : Tab) (x : Option SV) (te : Option TI) : MRes := match te with
  | some te => apN M te (appEs M te x)
  | none => .stuck
@[simp] theorem apNT_some : apNT M u (some ti) = apN M ti (appEs M ti u) := rfl
@[simp] theorem ap_view (fx : List Nat) (k s2 b2 : Nat) (z2 : List SV) (el2 : TypeId) : evAppend P fx M (some ⟨.sl el, s, b, z⟩) (some ⟨.sl el2, s2, b2, z2⟩) (some (.view a 0 k)) u = apT fx (fgt a M) a k u (tyOf P el) := by
  simp only [evAppend, fgtO, evAppend0, apT]
  generalize fgt a M = M
  cases tyOf P el with
  | none => rfl
  | some te =>
    simp only [apV]
    cases tget M a with
    | none => rfl
    | some e => obtain ⟨sz, es, f⟩ := e; cases f with
      | true => rfl
      | false => simp only; cases appEs M te u <;> rfl
@[simp] theorem ap_nil (fx : List Nat) (s2 b2 : Nat) (z2 : List SV) (el2 : TypeId) : evAppend P fx M (some ⟨.sl el, s, b, z⟩) (some ⟨.sl el2, s2, b2, z2⟩) (some (.val (.slice none 0 0))) u = apNT M u (tyOf P el) := by
  simp only [evAppend, fgtO, evAppend0, apNT, apN]; cases tyOf P el with
  | none => rfl
  | some te => simp only; cases appEs M te u <;> rfl
end

section
variable (P : Program) (M : Tab) (ti : TI) (a k s b : Nat) (z es ys : List SV) (el : TypeId) (u : Option SV) (c : Prop)
@[simp] theorem clear_view {i n : Nat} : evClear (some ⟨.sl el, s, b, z⟩) (some (.view k i n)) = .q (n = 0) (.tup []) := rfl
@[simp] theorem clear_nil : evClear (some ⟨.sl el, s, b, z⟩) (some (.val (.slice none 0 0))) = .q True (.tup []) := rfl
def cpV (M : Tab) (a n : Nat) (te : TI) (e : Option Ent) (ys : Option (Prop × List SV)) : MRes := match e, ys with
  | some ⟨sz, es, false⟩, some (c, ys) => .m (c ∧ n = es.length ∧ ys.length = n ∧ sz = te.size ∧ ∀ y ∈ ys, y.isTup = false) (tset M a (some ⟨sz, ys, false⟩)) [] (some (.val (.int .i64 n)))
  | _, _ => .stuck
@[simp] theorem cpV_some : cpV M a k ti (some ⟨s, es, false⟩) (some (c, ys)) = .m (c ∧ k = es.length ∧ ys.length = k ∧ s = ti.size ∧ ∀ y ∈ ys, y.isTup = false) (tset M a (some ⟨s, ys, false⟩)) [] (some (.val (.int .i64 k))) := rfl
def cpT (M : Tab) (a n : Nat) (x : Option SV) (te : Option TI) : MRes := match te with
  | some te => cpV M a n te (tget M a) (appEs M te x)
  | none => .stuck
@[simp] theorem cpT_some : cpT M a k u (some ti) = cpV M a k ti (tget M a) (appEs M ti u) := rfl
@[simp] theorem cp_view : evCopy P M (some ⟨.sl el, s, b, z⟩) (some (.view a 0 k)) u = cpT M a k u (tyOf P el) := by
  simp only [evCopy, cpT]
  cases tyOf P el with
  | none => rfl
  | some te =>
    simp only [cpV]
    cases tget M a with
    | none => rfl
    | some e => obtain ⟨sz, es, f⟩ := e; cases f with
      | true => rfl
      | false => simp only; cases appEs M te u <;> rfl
end
@[simp] theorem evs_nil (fr : List (Nat × SV)) : evs fr [] = some [] := rfl
def consO (x : Option SV) (l : Option (List SV)) : Option (List SV) := match x, l with
  | some x, some l => some (x :: l)
  | _, _ => none
@[simp] theorem consO_some (x : SV) (l : List SV) : consO (some x) (some l) = some (x :: l) := rfl
@[simp] theorem evs_cons (fr : List (Nat × SV)) (o : Operand) (r : List Operand) : evs fr (o :: r) = consO (ev fr o) (evs fr r) := by
  simp only [evs, consO]; cases ev fr o <;> cases evs fr r <;> rfl
@[simp] theorem ev_tmp (fr : List (Nat × SV)) (t : Nat) : ev fr (.tmp t) = get fr t := rfl
@[simp] theorem ev_global (fr : List (Nat × SV)) (g : Nat) : ev fr (.global g) = if sens.contains g = true then some (.rop (.sen sent g) 0) else some (.val (.pointer (some ⟨g, 0, none⟩))) := by
  simp only [ev, gl]; split <;> simp_all
@[simp] theorem sens_eq : sens = [2, 1, 3, 0, 4, 5, 6, 7, 8, 9] := rfl
@[simp] theorem ev_int (fr : List (Nat × SV)) (κ : IntKind) (n : Int) : ev fr (.const (.int κ n)) = some (.val (.int κ n)) := rfl
@[simp] theorem ev_bool (fr : List (Nat × SV)) (b : Bool) : ev fr (.const (.bool b)) = some (.val (.bool b)) := rfl
@[simp] theorem ev_str (fr : List (Nat × SV)) (b : ByteArray) : ev fr (.const (.string b)) = some (.val (.string b)) := rfl
@[simp] theorem ev_nilslice (fr : List (Nat × SV)) : ev fr (.const (.slice none 0 0)) = some (.val (.slice none 0 0)) := rfl
@[simp] theorem ev_nilmap (fr : List (Nat × SV)) : ev fr (.const (.map none)) = some (.val (.map none)) := rfl
@[simp] theorem ev_nilptr (fr : List (Nat × SV)) : ev fr (.const (.pointer none)) = some (.val (.pointer none)) := rfl
@[simp] theorem ev_nilif (fr : List (Nat × SV)) : ev fr (.const .nilIface) = some (.val .nilIface) := rfl
@[simp] theorem get_nil (t : Nat) : get [] t = none := rfl
@[simp] theorem get_cons (s t : Nat) (x : SV) (r : List (Nat × SV)) : get ((s, x) :: r) t = if s = t then some x else get r t := rfl
@[simp] theorem putO_some (t : Nat) (x : SV) (fr : List (Nat × SV)) : putO (some t) (some x) fr = (t, x) :: fr := rfl
@[simp] theorem putO_skip (t : Nat) (fr : List (Nat × SV)) : putO (some t) none fr = del fr t := rfl
@[simp] theorem skipO_none (n : Nat) (fr : List (Nat × SV)) : skipO n none fr = fr := rfl
@[simp] theorem skipO_lt {n t : Nat} (h : t < n) (fr : List (Nat × SV)) : skipO n (some t) fr = (t, .tup []) :: fr := by simp [skipO, h]
@[simp] theorem putO_none (x : Option SV) (fr : List (Nat × SV)) : putO none x fr = fr := by cases x <;> rfl
@[simp] theorem dok_some (t n : Nat) : dok (some t) n = (t < n) := rfl
@[simp] theorem dok_none (n : Nat) : dok none n = True := rfl
@[simp] theorem del_nil (t : Nat) : del [] t = [] := rfl
@[simp] theorem del_cons (s t : Nat) (x : SV) (r : List (Nat × SV)) : del ((s, x) :: r) t = if s = t then del r t else (s, x) :: del r t := by
  simp only [del, List.filter_cons]; by_cases h : s = t <;> simp [h]
@[simp] theorem forget_nil' (pk : List Nat) : forget pk [] = [] := rfl
@[simp] theorem forget_one (a t : Nat) (x : SV) (r : List (Nat × SV)) : forget [a] ((t, x) :: r) = if x.uses a = true then del (forget [a] r) t else (t, x) :: forget [a] r := by
  simp only [forget]; cases h : x.uses a <;> simp [h]
@[simp] theorem tget_zero (x : Option Ent) (l : Tab) : tget (x :: l) 0 = x := rfl
@[simp] theorem tget_succ (x : Option Ent) (l : Tab) (n : Nat) : tget (x :: l) (n + 1) = tget l n := rfl
@[simp] theorem tset_zero (x y : Option Ent) (l : Tab) : tset (x :: l) 0 y = y :: l := rfl
@[simp] theorem tset_succ (x y : Option Ent) (l : Tab) (n : Nat) : tset (x :: l) (n + 1) y = x :: tset l n y := rfl
@[simp] theorem lget_zero (x : SV) (l : List SV) : lget (x :: l) 0 = x := rfl
@[simp] theorem lget_succ (x : SV) (l : List SV) (n : Nat) : lget (x :: l) (n + 1) = lget l n := rfl
@[simp] theorem lset_zero (x y : SV) (l : List SV) : lset (x :: l) 0 y = y :: l := rfl
@[simp] theorem lset_succ (x y : SV) (l : List SV) (n : Nat) : lset (x :: l) (n + 1) y = x :: lset l n y := rfl
@[simp] theorem fget_zero (x : Nat × Nat × TypeId) (l : List (Nat × Nat × TypeId)) : fget (x :: l) 0 = some x := rfl
@[simp] theorem fget_succ (x : Nat × Nat × TypeId) (l : List (Nat × Nat × TypeId)) (n : Nat) : fget (x :: l) (n + 1) = fget l n := rfl
@[simp] theorem gslotL_zero {d : Option Tmp} {op : Op} {t : TypeId} {p : String} {af : Array Edge} {g : Option (Nat × Bool)} (l : List Oper) : gslotL (⟨d, op, t, p, af, g⟩ :: l) 0 = d := rfl
@[simp] theorem gslotL_succ (x : Oper) (l : List Oper) (n : Nat) : gslotL (x :: l) (n + 1) = gslotL l n := rfl

section
variable (v : Value) (a b c n : Nat) (l es : List SV) (x : SV) (t : TypeId)
@[simp] theorem cells_val : (SV.val v).cells = [.val v] := rfl
@[simp] theorem cells_ptr : (SV.ptr a b c).cells = [.ptr a b c] := rfl
@[simp] theorem cells_view : (SV.view a b c).cells = [.view a b c] := rfl
@[simp] theorem cells_ro : (SV.ro es).cells = [.ro es] := rfl
@[simp] theorem cells_rop : (SV.rop x a).cells = [.rop x a] := rfl
@[simp] theorem cells_agg : (SV.agg l).cells = l := rfl
@[simp] theorem cells_ifc : (SV.ifc t x).cells = [.ifc t x] := rfl
@[simp] theorem csz_val : (SV.val v).csz = 1 := rfl
@[simp] theorem csz_ptr : (SV.ptr a b c).csz = 1 := rfl
@[simp] theorem csz_view : (SV.view a b c).csz = 1 := rfl
@[simp] theorem csz_ro : (SV.ro es).csz = 1 := rfl
@[simp] theorem csz_rop : (SV.rop x a).csz = 1 := rfl
@[simp] theorem csz_agg : (SV.agg l).csz = l.length := rfl
@[simp] theorem csz_ifc : (SV.ifc t x).csz = 1 := rfl
@[simp] theorem isTup_val : (SV.val v).isTup = false := rfl
@[simp] theorem isTup_ptr : (SV.ptr a b c).isTup = false := rfl
@[simp] theorem isTup_view : (SV.view a b c).isTup = false := rfl
@[simp] theorem isTup_ro : (SV.ro es).isTup = false := rfl
@[simp] theorem isTup_rop : (SV.rop x a).isTup = false := rfl
@[simp] theorem isTup_agg : (SV.agg l).isTup = false := rfl
@[simp] theorem isTup_ifc : (SV.ifc t x).isTup = false := rfl
@[simp] theorem isAgg_val : (SV.val v).isAgg = false := rfl
@[simp] theorem isAgg_ptr : (SV.ptr a b c).isAgg = false := rfl
@[simp] theorem isAgg_view : (SV.view a b c).isAgg = false := rfl
@[simp] theorem isAgg_ro : (SV.ro es).isAgg = false := rfl
@[simp] theorem isAgg_rop : (SV.rop x a).isAgg = false := rfl
@[simp] theorem isAgg_agg : (SV.agg l).isAgg = true := rfl
@[simp] theorem isAgg_ifc : (SV.ifc t x).isAgg = false := rfl
@[simp] theorem uses_val : (SV.val v).uses n = false := rfl
@[simp] theorem uses_ptr : (SV.ptr a b c).uses n = (a == n) := rfl
@[simp] theorem uses_view : (SV.view a b c).uses n = (a == n) := rfl
@[simp] theorem uses_ro : (SV.ro es).uses n = false := rfl
@[simp] theorem uses_rop : (SV.rop x a).uses n = false := rfl
@[simp] theorem uses_agg : (SV.agg l).uses n = SV.usesL n l := by simp [SV.uses]
@[simp] theorem uses_tup : (SV.tup l).uses n = SV.usesL n l := by simp [SV.uses]
@[simp] theorem uses_ifc : (SV.ifc t x).uses n = x.uses n := by simp [SV.uses]
@[simp] theorem usesL_nil : SV.usesL n [] = false := by simp [SV.usesL]
@[simp] theorem usesL_cons : SV.usesL n (x :: l) = (x.uses n || SV.usesL n l) := by simp [SV.usesL]
@[simp] theorem pure_val : (SV.val v).pure = true := rfl
@[simp] theorem pure_ptr : (SV.ptr a b c).pure = false := rfl
@[simp] theorem pure_view : (SV.view a b c).pure = false := rfl
@[simp] theorem pure_ro : (SV.ro es).pure = true := rfl
@[simp] theorem pure_rop : (SV.rop x a).pure = true := rfl
@[simp] theorem pure_agg : (SV.agg l).pure = SV.pureL l := by simp [SV.pure]
@[simp] theorem pure_tup : (SV.tup l).pure = SV.pureL l := by simp [SV.pure]
@[simp] theorem pure_ifc : (SV.ifc t x).pure = x.pure := by simp [SV.pure]
@[simp] theorem pureL_nil : SV.pureL [] = true := by simp [SV.pureL]
@[simp] theorem pureL_cons : SV.pureL (x :: l) = (x.pure && SV.pureL l) := by simp [SV.pureL]
@[simp] theorem lt_val : (SV.val v).lt n = true := rfl
@[simp] theorem lt_ptr : (SV.ptr a b c).lt n = decide (a < n) := rfl
@[simp] theorem lt_view : (SV.view a b c).lt n = decide (a < n) := rfl
@[simp] theorem lt_ro : (SV.ro es).lt n = true := rfl
@[simp] theorem lt_rop : (SV.rop x a).lt n = true := rfl
@[simp] theorem lt_agg : (SV.agg l).lt n = SV.ltL n l := by simp [SV.lt]
@[simp] theorem lt_tup : (SV.tup l).lt n = SV.ltL n l := by simp [SV.lt]
@[simp] theorem lt_ifc : (SV.ifc t x).lt n = x.lt n := by simp [SV.lt]
@[simp] theorem ltL_nil : SV.ltL n [] = true := by simp [SV.ltL]
@[simp] theorem ltL_cons : SV.ltL n (x :: l) = (x.lt n && SV.ltL n l) := by simp [SV.ltL]
@[simp] theorem ks_val : (SV.val v).ks = [] := rfl
@[simp] theorem ks_ptr : (SV.ptr a b c).ks = [a] := rfl
@[simp] theorem ks_view : (SV.view a b c).ks = [a] := rfl
@[simp] theorem ks_ro : (SV.ro es).ks = [] := rfl
@[simp] theorem ks_rop : (SV.rop x a).ks = [] := rfl
@[simp] theorem ks_agg : (SV.agg l).ks = SV.ksL l := by simp [SV.ks]
@[simp] theorem ks_ifc : (SV.ifc t x).ks = x.ks := by simp [SV.ks]
@[simp] theorem ksL_nil : SV.ksL [] = [] := by simp [SV.ksL]
@[simp] theorem ksL_cons : SV.ksL (x :: l) = x.ks ++ SV.ksL l := by simp [SV.ksL]
@[simp] theorem isAgg_st (fs : List (Nat × Nat × TypeId)) : (TK.st fs).isAgg = true := rfl
@[simp] theorem isAgg_arr : (TK.arr n t).isAgg = true := rfl
@[simp] theorem isAgg_int (κ : IntKind) : (TK.int κ).isAgg = false := rfl
@[simp] theorem isAgg_bool : TK.bool.isAgg = false := rfl
@[simp] theorem isAgg_str : TK.str.isAgg = false := rfl
@[simp] theorem isAgg_sl : (TK.sl t).isAgg = false := rfl
@[simp] theorem isAgg_tptr : (TK.ptr t).isAgg = false := rfl
@[simp] theorem isAgg_if : TK.iface.isAgg = false := rfl
@[simp] theorem isAgg_other : TK.other.isAgg = false := rfl
@[simp] theorem isAgg_tmp {k e : Nat} : (TK.mp k e).isAgg = false := rfl
@[simp] theorem nouse_nil : nouse n [] = true := rfl
@[simp] theorem fgt_eq {M : Tab} {k : Nat} : fgt k M = if nouse k M = true then M else fgtM k M := rfl
@[simp] theorem fgtM_nil {k : Nat} : fgtM k [] = [] := rfl
@[simp] theorem fgtM_none {k : Nat} (M : Tab) : fgtM k (none :: M) = none :: fgtM k M := rfl
@[simp] theorem fgtM_some {k sz : Nat} {f : Bool} (es : List SV) (M : Tab) : fgtM k (some ⟨sz, es, f⟩ :: M) = some ⟨sz, fgtE k es, f⟩ :: fgtM k M := rfl
@[simp] theorem fgtE_eq {k : Nat} {es : List SV} : fgtE k es = if SV.usesL k es = true then es.map (fgtV k) else es := rfl
@[simp] theorem fgtV_agg {k : Nat} (l : List SV) : fgtV k (.agg l) = .agg (l.map fun y => if y.uses k then .any else y) := rfl
@[simp] theorem fgtV_view {k i j n : Nat} : fgtV k (.view i j n) = if i = k then .any else .view i j n := by simp [fgtV, SV.uses]
@[simp] theorem fgtV_ptr {k i j n : Nat} : fgtV k (.ptr i j n) = if i = k then .any else .ptr i j n := by simp [fgtV, SV.uses]
@[simp] theorem fgtV_val {k : Nat} {v : Value} : fgtV k (.val v) = .val v := rfl
@[simp] theorem fgtV_tup {k : Nat} (l : List SV) : fgtV k (.tup l) = .tup (l.map (fgtW k)) := rfl
@[simp] theorem fgtW_val {k : Nat} {v : Value} : fgtW k (.val v) = .val v := rfl
@[simp] theorem fgtV_ro {k : Nat} (l : List SV) : fgtV k (.ro l) = .ro l := rfl
@[simp] theorem fgtV_mp {k i : Nat} : fgtV k (.mp i) = if i = k then .any else .mp i := by simp [fgtV, SV.uses]
@[simp] theorem nouse_none (M : Tab) : nouse n (none :: M) = nouse n M := rfl
@[simp] theorem nouse_some (sz : Nat) (f : Bool) (M : Tab) : nouse n (some ⟨sz, es, f⟩ :: M) = (!SV.usesL n es && nouse n M) := rfl
@[simp] theorem fzL_nil (M : Tab) : fzL [] M = M := rfl
def fz1 (k : Nat) (r : List Nat) (M : Tab) (o : Option Ent) : Tab := match o with
  | some e => fzL r (tset M k (some ⟨e.sz, e.es, true⟩))
  | none => fzL r M
@[simp] theorem fzL_cons (k : Nat) (r : List Nat) (M : Tab) : fzL (k :: r) M = fz1 k r M (tget M k) := rfl
@[simp] theorem fz1_some (k : Nat) (r : List Nat) (M : Tab) (sz : Nat) (f : Bool) : fz1 k r M (some ⟨sz, es, f⟩) = fzL r (tset M k (some ⟨sz, es, true⟩)) := rfl
@[simp] theorem sen_csz (t g : Nat) : (SV.sen t g).csz = 1 := rfl
@[simp] theorem sen_isTup (t g : Nat) : (SV.sen t g).isTup = false := rfl
@[simp] theorem sen_isAgg (t g : Nat) : (SV.sen t g).isAgg = false := rfl
@[simp] theorem sen_one (t g : Nat) : (SV.sen t g).one = true := rfl
@[simp] theorem sen_pure (t g : Nat) : (SV.sen t g).pure = true := rfl
@[simp] theorem sen_lt (n t g : Nat) : (SV.sen t g).lt n = true := rfl
@[simp] theorem sen_uses (k t g : Nat) : (SV.sen t g).uses k = false := rfl
@[simp] theorem sen_ks (t g : Nat) : (SV.sen t g).ks = [] := rfl
@[simp] theorem sen_cells (t g : Nat) : (SV.sen t g).cells = [.sen t g] := rfl
@[simp] theorem cells_mp : (SV.mp a).cells = [.mp a] := rfl
@[simp] theorem cells_any : (SV.any).cells = [.any] := rfl
@[simp] theorem cells_fnv {f : FuncId} {l r : List SV} : (SV.fnv f l r).cells = [.fnv f l r] := rfl
@[simp] theorem csz_mp : (SV.mp a).csz = 1 := rfl
@[simp] theorem csz_any : (SV.any).csz = 1 := rfl
@[simp] theorem csz_fnv {f : FuncId} {l r : List SV} : (SV.fnv f l r).csz = 1 := rfl
@[simp] theorem isTup_mp : (SV.mp a).isTup = false := rfl
@[simp] theorem isTup_any : (SV.any).isTup = false := rfl
@[simp] theorem isTup_fnv {f : FuncId} {l r : List SV} : (SV.fnv f l r).isTup = false := rfl
@[simp] theorem isAgg_mp : (SV.mp a).isAgg = false := rfl
@[simp] theorem isAgg_any : (SV.any).isAgg = false := rfl
@[simp] theorem isAgg_fnv {f : FuncId} {l r : List SV} : (SV.fnv f l r).isAgg = false := rfl
@[simp] theorem uses_mp : (SV.mp a).uses n = (a == n) := rfl
@[simp] theorem uses_any {n : Nat} : (SV.any).uses n = false := rfl
@[simp] theorem uses_fnv {n : Nat} {f : FuncId} {l r : List SV} : (SV.fnv f l r).uses n = (SV.usesL n l || SV.usesL n r) := rfl
@[simp] theorem pure_mp : (SV.mp a).pure = false := rfl
@[simp] theorem pure_any : (SV.any).pure = true := rfl
@[simp] theorem pure_fnv {f : FuncId} {l r : List SV} : (SV.fnv f l r).pure = (SV.pureL l && SV.pureL r) := rfl
@[simp] theorem lt_mp : (SV.mp a).lt n = decide (a < n) := rfl
@[simp] theorem lt_any {n : Nat} : (SV.any).lt n = true := rfl
@[simp] theorem lt_fnv {n : Nat} {f : FuncId} {l r : List SV} : (SV.fnv f l r).lt n = (SV.ltL n l && SV.ltL n r) := rfl
@[simp] theorem ks_mp : (SV.mp a).ks = [a] := rfl
@[simp] theorem ks_any : (SV.any).ks = [] := rfl
@[simp] theorem ks_fnv {f : FuncId} {l r : List SV} : (SV.fnv f l r).ks = SV.ksL l ++ SV.ksL r := rfl
@[simp] theorem one_mp : (SV.mp a).one = true := rfl
@[simp] theorem one_any : (SV.any).one = true := rfl
@[simp] theorem one_fnv {f : FuncId} {l r : List SV} : (SV.fnv f l r).one = true := rfl
@[simp] theorem Sub_any (M : Tab) (y : SV) : Sub M .any y = (y = .any) := by simp only [Sub]
@[simp] theorem Sub_view (M : Tab) : Sub M (.view a b n) (.ro es) = onO (tget M a) fun e => SV.pureL e.es = true ∧ b + n ≤ e.es.length ∧ (e.es.drop b).take n = es := by
  simp only [Sub]; cases tget M a <;> rfl
@[simp] theorem Sub_ptr (M : Tab) (j : Nat) : Sub M (.ptr a b c) (.rop x j) = onO (tget M a) fun e => SV.pureL e.es = true ∧ b < e.es.length ∧ (lget e.es b).isTup = false ∧ lget e.es b = x ∧ c = j := by
  simp only [Sub]; cases tget M a <;> rfl
@[simp] theorem Sub_agg (M : Tab) : Sub M (.agg l) (.agg es) = SubL M l es := by simp only [Sub]
@[simp] theorem Sub_tup (M : Tab) : Sub M (.tup l) (.tup es) = SubL M l es := by simp only [Sub]
@[simp] theorem Sub_ifc (M : Tab) (t' : TypeId) (x' : SV) : Sub M (.ifc t x) (.ifc t' x') = (t = t' ∧ Sub M x x') := by simp only [Sub]
@[simp] theorem Sub_nil (M : Tab) : Sub M (.val v) (.ro es) = (v = .slice none 0 0 ∧ es = []) := by simp only [Sub]
@[simp] theorem Sub_val (M : Tab) (v' : Value) : Sub M (.val v) (.val v') = (v = v') := by simp only [Sub]
@[simp] theorem Sub_ro (M : Tab) (y : SV) : Sub M (.ro es) y = (y = .ro es) := by simp only [Sub]
@[simp] theorem Sub_sen (M : Tab) (y : SV) (t g : Nat) : Sub M (.sen t g) y = (y = .sen t g) := by simp only [Sub]
@[simp] theorem Sub_rop (M : Tab) (y : SV) : Sub M (.rop x a) y = (y = .rop x a) := by simp only [Sub]
@[simp] theorem SubL_nil (M : Tab) : SubL M [] es = (es = []) := by simp only [SubL]
@[simp] theorem SubL_cons (M : Tab) (x' : SV) : SubL M (x :: l) (x' :: es) = (Sub M x x' ∧ SubL M l es) := by simp only [SubL]

end

/-! results -/
def retK (P : Program) (st : St) (r : ResultVar) : Res := match r with
  | .tmp t => mvR (get st.fr t)
  | .cell t T => evLoad st.M (tyOf P T) (get st.fr t)
@[simp] theorem retK_tmp (P : Program) (st : St) (t : Nat) : retK P st (.tmp t) = mvR (get st.fr t) := rfl
@[simp] theorem retK_cell (P : Program) (st : St) (t T : Nat) : retK P st (.cell t T) = evLoad st.M (tyOf P T) (get st.fr t) := rfl
/-- a result is read as y, and y is as told -/
def fin (M : Tab) (x : SV) (Φ : SV → Prop) : Prop := ∃ y, Sub M x y ∧ Φ y
def fin1 (r : Res) (M : Tab) (Φ : SV → Prop) : Prop := match r with
  | .q c x => c ∧ fin M x Φ
  | _ => False
def finL (rs : List Res) (acc : List SV) (M : Tab) (Φ : SV → Prop) : Prop := match rs with
  | [] => fin M (.tup acc) Φ
  | .q c x :: r => c ∧ finL r (acc ++ [x]) M Φ
  | _ => False
@[simp] theorem fin1_q {c : Prop} {x : SV} {M : Tab} {Φ : SV → Prop} : fin1 (.q c x) M Φ = (c ∧ fin M x Φ) := rfl
@[simp] theorem finL_nil {acc : List SV} {M : Tab} {Φ : SV → Prop} : finL [] acc M Φ = fin M (.tup acc) Φ := rfl
@[simp] theorem finL_q {c : Prop} {x : SV} {r : List Res} {acc : List SV} {M : Tab} {Φ : SV → Prop} : finL (.q c x :: r) acc M Φ = (c ∧ finL r (acc ++ [x]) M Φ) := rfl
theorem retOne_K (P : Program) (st : St) (r : ResultVar) : retOne P st r = (match retK P st r with | .q c x => some (c, x) | _ => none) := by
  cases r with
  | tmp t => simp only [retK, retOne]; cases get st.fr t <;> rfl
  | cell t T =>
    simp only [retK, retOne]
    cases get st.fr t with
    | none => simp only [evLoad]; cases tyOf P T <;> rfl
    | some u => split <;> simp_all
section
variable (P : Program) (st : St) (r s u : ResultVar) (Φ : SV → Prop)
@[simp] theorem retQ_ret1 : retQ P [r] Φ .ret st = fin1 (retK P st r) st.M Φ := by
  simp only [retQ, retSV, retL, retOne_K]; cases retK P st r <;> simp [fin1, fin]
@[simp] theorem retQ_ret2 : retQ P [r, s] Φ .ret st = finL [retK P st r, retK P st s] [] st.M Φ := by
  simp only [retQ, retSV, retL, retOne_K]; cases retK P st r <;> cases retK P st s <;> simp [finL, fin, and_assoc]
@[simp] theorem retQ_ret3 : retQ P [r, s, u] Φ .ret st = finL [retK P st r, retK P st s, retK P st u] [] st.M Φ := by
  simp only [retQ, retSV, retL, retOne_K]; cases retK P st r <;> cases retK P st s <;> cases retK P st u <;> simp [finL, fin, and_assoc]
@[simp] theorem retQ_ret0 : retQ P [] Φ .ret st = fin st.M (.tup []) Φ := by
  simp [retQ, retSV, retL, fin]
theorem retQ_normal (rs : List ResultVar) : retQ P rs Φ .normal st = retQ P rs Φ .ret st := rfl
@[simp] theorem retQ_panic {rs : List ResultVar} {c : List PanicEntry} : retQ P rs Φ (.panic c) st = False := rfl
end
attribute [simp] retQ_normal
def finH (r : Res) (M : Tab) (pk : List Nat) (k : Tab → List Nat → SV → Prop) : Prop := match r with
  | .q c x => c ∧ k M pk x
  | _ => False
def finHL (rs : List Res) (acc : List SV) (M : Tab) (pk : List Nat) (k : Tab → List Nat → SV → Prop) : Prop := match rs with
  | [] => k M pk (.tup acc)
  | .q c x :: r => c ∧ finHL r (acc ++ [x]) M pk k
  | _ => False
section
variable {P : Program} {st : St} {r s u : ResultVar} {pk : List Nat} {k : Tab → List Nat → SV → Prop}
@[simp] theorem finH_q {c : Prop} {x : SV} {M : Tab} : finH (.q c x) M pk k = (c ∧ k M pk x) := rfl
@[simp] theorem finHL_nil {acc : List SV} {M : Tab} : finHL [] acc M pk k = k M pk (.tup acc) := rfl
@[simp] theorem finHL_q {c : Prop} {x : SV} {r : List Res} {acc : List SV} {M : Tab} : finHL (.q c x :: r) acc M pk k = (c ∧ finHL r (acc ++ [x]) M pk k) := rfl
@[simp] theorem retH_ret0 : retH P [] pk k .ret st = k st.M pk (.tup []) := by simp [retH, retSV, retL]
@[simp] theorem retH_ret1 : retH P [r] pk k .ret st = finH (retK P st r) st.M pk k := by
  simp only [retH, retSV, retL, retOne_K]; cases retK P st r <;> simp [finH]
@[simp] theorem retH_ret2 : retH P [r, s] pk k .ret st = finHL [retK P st r, retK P st s] [] st.M pk k := by
  simp only [retH, retSV, retL, retOne_K]; cases retK P st r <;> cases retK P st s <;> simp [finHL, and_assoc]
@[simp] theorem retH_ret3 : retH P [r, s, u] pk k .ret st = finHL [retK P st r, retK P st s, retK P st u] [] st.M pk k := by
  simp only [retH, retSV, retL, retOne_K]; cases retK P st r <;> cases retK P st s <;> cases retK P st u <;> simp [finHL, and_assoc]
@[simp] theorem retH_normal {rs : List ResultVar} : retH P rs pk k .normal st = retH P rs pk k .ret st := rfl
@[simp] theorem retH_panic {rs : List ResultVar} {c : List PanicEntry} : retH P rs pk k (.panic c) st = False := rfl
end
theorem fin_eq (M : Tab) (x y : SV) : fin M x (fun z => z = y) = Sub M x y := by simp [fin]
attribute [simp] fin_eq loadSV storeSV TI.zsv argFr ltL_map pureL_map usesL_map leF leM ltF ltM

/-- go on -/
theorem CodeJ.go {P : Program} {C : Ctx} {c : Code} {st : St} {Q : Post} (h : vc P C c st Q Q) : CodeJ P C c st Q := vc_ok c st (fun _ _ h => h) (fun _ _ h => h) h
theorem OpsJ.go {P : Program} {C : Ctx} {all : Array Oper} {l : List Oper} {st : St} {Q : Post} (h : vcOps P C all l st Q Q) : OpsJ P C all l st Q := vcOps_ok l st (fun _ _ h => h) (fun _ _ h => h) h
theorem PlJ.go {P : Program} {C : Ctx} {all : Array Oper} {pl : Pl} {st : St} {Q : Post} (np : ∀ c st, ¬ Q (.panic c) st) (h : vcPl P C all pl st Q Q) : PlJ P C all pl st Q := vcPl_ok np pl st (fun _ _ h => h) (fun _ _ h => h) h
/-- a call of a function of which a contract is known -/
theorem callF {P : Program} {C : Ctx} {f : FuncId} {args args' : List SV} {y : SV} {M : Tab} {W : Option (List Nat)} {k : Tab → List Nat → SV → Prop} (h : PureF P f args' y) (hs : SubL M args args') (hk : k (fzL (SV.ksL args) M) [] y) : CallJ P C f args M W k :=
  callP h hs fun x hx => by rw [hx]; exact hk

/-! regions whose operations may come up in any order -/
def oget : List Oper → Nat → Option Oper
  | [], _ => none
  | o :: _, 0 => some o
  | _ :: l, n + 1 => oget l n
theorem oget_arr {l : List Oper} {j : Nat} : l.toArray[j]? = oget l j := by
  simp only [List.getElem?_toArray]
  induction l generalizing j with
  | nil => rfl
  | cons x l ih => cases j with
    | zero => rfl
    | succ j => simpa [oget] using ih
@[simp] theorem oget_zero (o : Oper) (l : List Oper) : oget (o :: l) 0 = some o := rfl
@[simp] theorem oget_succ (o : Oper) (l : List Oper) (n : Nat) : oget (o :: l) (n + 1) = oget l n := rfl
section
variable {P : Program} {C : Ctx} {st : St} {Q QJ : Post} {l : List Oper} {d : Option Tmp} {op : Op} {t : TypeId} {p : String} {af : Array Edge} {o : Oper} {r r' : Pl} {i j : Nat} {ks ks' : List Nat} {yes no : St → Prop}
def yesQ (P : Program) (C : Ctx) (l : List Oper) (ks : List Nat) (o : Oper) (r : Pl) (Q QJ : Post) (st : St) : Prop := okI ks st o.op ∧ vcOp P C none o st (nxP P C l.toArray r Q QJ) noJ
def yesL (P : Program) (C : Ctx) (l : List Oper) (ks : List Nat) (o : Oper) (r : Pl) (Q QJ : Post) (st : St) : Prop := ((okW ks st o.op ∧ okA ks r o.op) ∧ r.there st.M) ∧ vcOp P C (some (nb ks)) o st (nxP P C l.toArray r Q QJ) (njP P C l.toArray r QJ)
@[simp] theorem yesQ_app : yesQ P C l ks o r Q QJ st = (okI ks st o.op ∧ vcOp P C none o st (nxP P C l.toArray r Q QJ) noJ) := rfl
@[simp] theorem yesL_app : yesL P C l ks o r Q QJ st = (((okW ks st o.op ∧ okA ks r o.op) ∧ r.there st.M) ∧ vcOp P C (some (nb ks)) o st (nxP P C l.toArray r Q QJ) (njP P C l.toArray r QJ)) := rfl
def gp1 (b : Bool) (d : Option Tmp) (st : St) (yes no : St → Prop) (t' : Nat) (v : Option SV) : Prop := match v with
  | some (.val (.bool c)) => (c = b → yes ⟨st.n, (t', .val (.bool b)) :: st.fr, st.M⟩) ∧ (c = !b → no ⟨st.n, skipO st.n d ((t', .val (.bool (!b))) :: st.fr), st.M⟩)
  | some (.tup []) => no ⟨st.n, skipO st.n d st.fr, st.M⟩
  | _ => False
def gp0 (b : Bool) (d : Option Tmp) (st : St) (yes no : St → Prop) (t' : Option Nat) : Prop := match t' with
  | some t' => gp1 b d st yes no t' (get st.fr t')
  | none => False
@[simp] theorem gp0_some {b : Bool} {t' : Nat} : gp0 b d st yes no (some t') = gp1 b d st yes no t' (get st.fr t') := rfl
@[simp low] theorem gp1_bool {b c : Bool} {t' : Nat} : gp1 b d st yes no t' (some (.val (.bool c))) = ((c = b → yes ⟨st.n, (t', .val (.bool b)) :: st.fr, st.M⟩) ∧ (c = !b → no ⟨st.n, skipO st.n d ((t', .val (.bool (!b))) :: st.fr), st.M⟩)) := rfl
@[simp] theorem gp1_tt {t' : Nat} : gp1 true d st yes no t' (some (.val (.bool true))) = yes ⟨st.n, (t', .val (.bool true)) :: st.fr, st.M⟩ := by simp [gp1]
@[simp] theorem gp1_ff {t' : Nat} : gp1 false d st yes no t' (some (.val (.bool false))) = yes ⟨st.n, (t', .val (.bool false)) :: st.fr, st.M⟩ := by simp [gp1]
@[simp] theorem gp1_tf {t' : Nat} : gp1 true d st yes no t' (some (.val (.bool false))) = no ⟨st.n, skipO st.n d ((t', .val (.bool false)) :: st.fr), st.M⟩ := by simp [gp1]
@[simp] theorem gp1_ft {t' : Nat} : gp1 false d st yes no t' (some (.val (.bool true))) = no ⟨st.n, skipO st.n d ((t', .val (.bool true)) :: st.fr), st.M⟩ := by simp [gp1]
@[simp] theorem gp1_skip {b : Bool} {t' : Nat} : gp1 b d st yes no t' (some (.tup [])) = no ⟨st.n, skipO st.n d st.fr, st.M⟩ := rfl
@[simp ↓] theorem gd_plain : gd l.toArray ⟨d, op, t, p, af, none⟩ st yes no = yes st := rfl
@[simp ↓] theorem gd_guard {b : Bool} : gd l.toArray ⟨d, op, t, p, af, some (j, b)⟩ st yes no = gp0 b d st yes no (gslotL l j) := by
  simp only [gd, gp0]
  rw [← gslot_arr]
  cases gslot l.toArray j with
  | none => rfl
  | some t' =>
    simp only [gp1]
    cases get st.fr t' with
    | none => rfl
    | some v => cases v with
      | val u => cases u <;> rfl
      | tup l => cases l <;> rfl
      | _ => rfl
def pQ (P : Program) (C : Ctx) (l : List Oper) (ks : List Nat) (o : Option Oper) (r : Pl) (st : St) (Q QJ : Post) : Prop := match o with
  | some o => gd l.toArray o st (yesQ P C l ks o r Q QJ) (nxP P C l.toArray r Q QJ)
  | none => False
def pL (P : Program) (C : Ctx) (l : List Oper) (ks : List Nat) (o : Option Oper) (r : Pl) (st : St) (Q QJ : Post) : Prop := match o with
  | some o => gd l.toArray o st (yesL P C l ks o r Q QJ) (nxP P C l.toArray r Q QJ)
  | none => False
@[simp] theorem pQ_some : pQ P C l ks (some o) r st Q QJ = gd l.toArray o st (yesQ P C l ks o r Q QJ) (nxP P C l.toArray r Q QJ) := rfl
@[simp] theorem pL_some : pL P C l ks (some o) r st Q QJ = gd l.toArray o st (yesL P C l ks o r Q QJ) (nxP P C l.toArray r Q QJ) := rfl
@[simp] theorem qs_nil : Pl.qs [] r = r := rfl
@[simp] theorem qs_cons {l : List Nat} : Pl.qs (i :: l) r = .q i [] (Pl.qs l r) := rfl
@[simp ↓] theorem vcPl_nil : vcPl P C l.toArray .nil st Q QJ = Q .normal st := rfl
@[simp ↓] theorem vcPl_q : vcPl P C l.toArray (.q i ks r) st Q QJ = pQ P C l ks (oget l i) r st Q QJ := by
  simp only [vcPl, oget_arr]; cases oget l i <;> rfl
@[simp ↓] theorem vcPl_l : vcPl P C l.toArray (.l i ks r) st Q QJ = pL P C l ks (oget l i) r st Q QJ := by
  simp only [vcPl, oget_arr]; cases oget l i <;> rfl
@[simp ↓] theorem vcPl_m : vcPl P C l.toArray (.m i ks r j ks' r') st Q QJ = (pL P C l ks (oget l i) r st Q QJ ∧ pL P C l ks' (oget l j) r' st Q QJ) := by
  simp only [vcPl, oget_arr]
  cases oget l i <;> cases oget l j <;> simp [pL] <;> rfl
@[simp ↓] theorem vcPl_alt {p : Pl} : vcPl P C l.toArray (.alt i ks r p) st Q QJ = (pL P C l ks (oget l i) r st Q QJ ∧ vcPl P C l.toArray p st Q QJ) := by
  simp only [vcPl, oget_arr]; cases oget l i <;> rfl
@[simp ↓] theorem vcPl_stop : vcPl P C l.toArray .stop st Q QJ = True := rfl
@[simp] theorem cvW_int {k : IntKind} {n : Int} : cvW (some (.val (.int k n))) = True := rfl
@[simp] theorem cvW_ro {es : List SV} : cvW (some (.ro es)) = True := rfl
@[simp] theorem cvW_nil : cvW (some (.val (.slice none 0 0))) = True := rfl
def okC (st : St) (o : Op) : Prop := match o with
  | .convert _ _ x => cvW (ev st.fr x)
  | .call ⟨.builtin .len, args, _⟩ => lenL (args.toList.map (ev st.fr))
  | _ => True
@[simp] theorem okC_conv {s d : TypeId} {x : Operand} : okC st (.convert s d x) = cvW (ev st.fr x) := rfl
@[simp] theorem okC_move {x : Operand} : okC st (.move x) = True := rfl
@[simp] theorem okC_assign {x : Operand} : okC st (.assign x) = True := rfl
@[simp] theorem okC_pick {x y z : Operand} : okC st (.pick x y z) = True := rfl
@[simp] theorem okC_bin {op : BinOp} {t t' : TypeId} {x y : Operand} : okC st (.binOp op t x y t') = True := rfl
@[simp] theorem okC_un {op : UnOp} {t : TypeId} {x : Operand} : okC st (.unOp op t x) = True := rfl
@[simp] theorem okC_nilc {x : Operand} : okC st (.nilCheck x) = True := rfl
@[simp] theorem okC_ext {x : Operand} {i : Nat} : okC st (.extract x i) = True := rfl
@[simp] theorem okC_fld {t : TypeId} {x : Operand} {i : Nat} : okC st (.field t x i) = True := rfl
@[simp] theorem okC_fa {t : TypeId} {x : Operand} {i : Nat} : okC st (.fieldAddr t x i) = True := rfl
@[simp] theorem okC_ia {t : TypeId} {x y : Operand} : okC st (.indexAddr t x y) = True := rfl
@[simp] theorem okC_ix {t : TypeId} {x y : Operand} : okC st (.index t x y) = True := rfl
@[simp] theorem okC_ld {t : TypeId} {x : Operand} : okC st (.load t x) = True := rfl
@[simp] theorem okC_sl {t : TypeId} {x : Operand} {a b c : Option Operand} : okC st (.slice t x a b c) = True := rfl
@[simp] theorem okC_mi {t : TypeId} {x : Operand} : okC st (.makeInterface t x) = True := rfl
@[simp] theorem okC_bd {t : TypeId} {ps : Array (Nat × Operand)} : okC st (.build t ps) = True := rfl
@[simp] theorem okC_len {x : Operand} {ts : Array TypeId} : okC st (.call ⟨.builtin .len, [x].toArray, ts⟩) = lenW (ev st.fr x) := rfl
@[simp] theorem okC_max {xs : Array Operand} {ts : Array TypeId} : okC st (.call ⟨.builtin .max, xs, ts⟩) = True := rfl
@[simp] theorem okC_min {xs : Array Operand} {ts : Array TypeId} : okC st (.call ⟨.builtin .min, xs, ts⟩) = True := rfl
@[simp] theorem okC_clear {xs : Array Operand} {ts : Array TypeId} : okC st (.call ⟨.builtin .clear, xs, ts⟩) = True := rfl
@[simp] theorem lenW_ro {es : List SV} : lenW (some (.ro es)) = True := rfl
@[simp] theorem lenW_view {k i n : Nat} : lenW (some (.view k i n)) = True := rfl
@[simp] theorem lenW_str {q : ByteArray} : lenW (some (.val (.string q))) = True := rfl
@[simp] theorem lenW_nil : lenW (some (.val (.slice none 0 0))) = True := rfl
@[simp] theorem okI_nil {o : Op} : okI [] st o = okC st o := by
  unfold okI okC; split <;> simp_all
def ldW (ks : List Nat) (M : Tab) (x : Option SV) : Prop := ks = [] ∨ match x with
  | some (.ptr k _ _) => k ∉ ks ∧ big ∉ ks ∧ ∀ j ∈ ks, liveE M j
  | some (.rop _ _) => True
  | _ => False
@[simp] theorem ldW_ptr {k : Nat} {M : Tab} {a i j : Nat} : ldW (k :: ks) M (some (.ptr a i j)) = (a ∉ k :: ks ∧ big ∉ k :: ks ∧ ∀ j ∈ k :: ks, liveE M j) := by simp [ldW]
@[simp] theorem ldW_rop {k : Nat} {M : Tab} {x : SV} {j : Nat} : ldW (k :: ks) M (some (.rop x j)) = True := by simp [ldW]
@[simp] theorem okI_ld {t : TypeId} {x : Operand} {k : Nat} : okI (k :: ks) st (.load t x) = ldW (k :: ks) st.M (ev st.fr x) := rfl
def live1 (e : Option Ent) : Prop := match e with
  | some e => e.fz = false
  | none => False
@[simp] theorem live1_some {s : Nat} {es : List SV} {f : Bool} : live1 (some ⟨s, es, f⟩) = (f = false) := rfl
@[simp] theorem liveE_eq {M : Tab} {k : Nat} : liveE M k = live1 (tget M k) := by
  unfold liveE live1; split <;> simp_all
def stW (ks : List Nat) (x : Option SV) : Prop := match x with
  | some (.ptr k _ _) => k ∈ ks
  | _ => True
@[simp] theorem stW_ptr {a i j : Nat} : stW ks (some (.ptr a i j)) = (a ∈ ks) := rfl
@[simp] theorem okW_st {t : TypeId} {x y : Operand} : okW ks st (.store t x y) = stW ks (ev st.fr x) := by
  simp only [okW, wrK]
  cases ev st.fr x with
  | none => simp [stW]
  | some v => cases v <;> simp [stW]
@[simp] theorem okW_al {t : TypeId} : okW ks st (.alloc t) = True := rfl
@[simp] theorem okW_bo {t : TypeId} {x : Operand} : okW ks st (.box t x) = True := rfl
@[simp] theorem okW_bs {t : TypeId} {n : Nat} {ps : Array (Nat × Operand)} : okW ks st (.buildSlice t n ps) = True := rfl
@[simp] theorem okW_mk {t : TypeId} {x y : Operand} : okW ks st (.makeSlice t x y) = True := rfl
@[simp] theorem okW_mu {t : TypeId} {x y z : Operand} : okW ks st (.mapUpdate t x y z) = ∀ k ∈ mpK (ev st.fr x), k ∈ ks := rfl
@[simp] theorem okW_mi {t : TypeId} {x y z : Operand} : okW ks st (.insert t x y z) = ∀ k ∈ mpK (ev st.fr x), k ∈ ks := rfl
@[simp] theorem okW_me {t : TypeId} {x y : Operand} : okW ks st (.mapEntry t x y) = ∀ k ∈ mpK (ev st.fr x), k ∈ ks := rfl
@[simp] theorem okW_es {t : TypeId} {x y z : Operand} : okW ks st (.entryStore t x y z) = ∀ k ∈ mpK (ev st.fr x), k ∈ ks := rfl
@[simp] theorem mpK_mp {k : Nat} : mpK (some (.mp k)) = [k] := rfl
@[simp] theorem okW_lk {t : TypeId} {x y : Operand} {ok : Bool} : okW ks st (.lookup t x y ok) = True := rfl
@[simp] theorem okW_mm {t : TypeId} {x : Option Operand} : okW ks st (.makeMap t x) = True := rfl
@[simp] theorem okW_len {os : Array Operand} {ts : Array TypeId} : okW ks st (.call ⟨.builtin .len, os, ts⟩) = True := rfl
@[simp] theorem okA_mu {t : TypeId} {x y z : Operand} {r : Pl} : okA ks r (.mapUpdate t x y z) = True := rfl
@[simp] theorem okA_mi {t : TypeId} {x y z : Operand} {r : Pl} : okA ks r (.insert t x y z) = True := rfl
@[simp] theorem okA_me {t : TypeId} {x y : Operand} {r : Pl} : okA ks r (.mapEntry t x y) = True := rfl
@[simp] theorem okA_es {t : TypeId} {x y z : Operand} {r : Pl} : okA ks r (.entryStore t x y z) = True := rfl
@[simp] theorem okA_lk {t : TypeId} {x y : Operand} {ok : Bool} {r : Pl} : okA ks r (.lookup t x y ok) = True := rfl
@[simp] theorem okA_mm {t : TypeId} {x : Option Operand} {r : Pl} : okA ks r (.makeMap t x) = True := rfl
@[simp] theorem okA_len {os : Array Operand} {ts : Array TypeId} {r : Pl} : okA ks r (.call ⟨.builtin .len, os, ts⟩) = True := rfl
@[simp] theorem okW_app {os : Array Operand} {ts : Array TypeId} : okW ks st (.call ⟨.builtin .append, os, ts⟩) = True := rfl
@[simp] theorem okA_st {t : TypeId} {x y : Operand} {r : Pl} : okA ks r (.store t x y) = True := rfl
@[simp] theorem okA_al {t : TypeId} {r : Pl} : okA ks r (.alloc t) = True := rfl
@[simp] theorem okA_bo {t : TypeId} {x : Operand} {r : Pl} : okA ks r (.box t x) = True := rfl
@[simp] theorem okA_bs {t : TypeId} {n : Nat} {ps : Array (Nat × Operand)} {r : Pl} : okA ks r (.buildSlice t n ps) = True := rfl
@[simp] theorem okA_mk {t : TypeId} {x y : Operand} {r : Pl} : okA ks r (.makeSlice t x y) = True := rfl
@[simp] theorem okA_call {f : FuncId} {os : Array Operand} {ts : Array TypeId} {r : Pl} : okA ks r (.call ⟨.value (.func f), os, ts⟩) = True := rfl
@[simp] theorem okA_app {os : Array Operand} {ts : Array TypeId} {r : Pl} : okA ks r (.call ⟨.builtin .append, os, ts⟩) = (nilC os = true ∨ (big ∈ ks ∧ r.bigs = true)) := rfl
@[simp] theorem nilC_tmp {x : Nat} {l : List Operand} : nilC ((Operand.tmp x :: l).toArray) = false := rfl
@[simp] theorem nilC_nil {l : List Operand} : nilC ((Operand.const (.slice none 0 0) :: l).toArray) = true := rfl
@[simp] theorem bigs_nil : Pl.bigs .nil = true := rfl
@[simp] theorem bigs_q {r : Pl} : Pl.bigs (.q i ks r) = r.bigs := rfl
@[simp] theorem bigs_l {r : Pl} : Pl.bigs (.l i ks r) = ((ks.isEmpty || ks.contains big) && r.bigs) := rfl
@[simp] theorem bigs_m {r r' : Pl} : Pl.bigs (.m i ks r j ks' r') = ((ks.isEmpty || ks.contains big) && ((ks'.isEmpty || ks'.contains big) && (r.bigs && r'.bigs))) := rfl
@[simp] theorem bigs_alt {r p : Pl} : Pl.bigs (.alt i ks r p) = ((ks.isEmpty || ks.contains big) && (r.bigs && p.bigs)) := rfl
@[simp] theorem bigs_stop : Pl.bigs .stop = true := rfl
@[simp] theorem nb_nil : nb [] = [] := rfl
@[simp] theorem nb_cons (k : Nat) (ks : List Nat) : nb (k :: ks) = if k = big then nb ks else k :: nb ks := by
  simp only [nb, List.filter_cons]; split <;> split <;> simp_all
@[simp] theorem big_eq : big = 1000000 := rfl
@[simp] theorem okA_callT {x : Nat} {os : Array Operand} {ts : Array TypeId} {r : Pl} : okA ks r (.call ⟨.value (.tmp x), os, ts⟩) = True := rfl
@[simp] theorem okW_callT {x : Nat} {os : Array Operand} {ts : Array TypeId} : okW ks st (.call ⟨.value (.tmp x), os, ts⟩) = True := rfl
@[simp] theorem okW_call {f : FuncId} {os : Array Operand} {ts : Array TypeId} : okW ks st (.call ⟨.value (.func f), os, ts⟩) = True := rfl
@[simp] theorem there_nil {M : Tab} : Pl.there M .nil = True := rfl
@[simp] theorem there_qs {M : Tab} {is : List Nat} {r : Pl} : Pl.there M (.qs is r) = r.there M := by
  induction is with
  | nil => rfl
  | cons i is ih => exact ih
@[simp] theorem there_q {M : Tab} : Pl.there M (.q i ks r) = r.there M := rfl
def has (o : Option Ent) : Prop := match o with
  | some _ => True
  | none => False
@[simp] theorem has_some {e : Ent} : has (some e) = True := rfl
theorem ne_has {o : Option Ent} : (o ≠ none) = has o := by cases o <;> simp [has]
@[simp] theorem there_l {M : Tab} : Pl.there M (.l i ks r) = ((big ∈ ks ∨ ∀ k ∈ ks, has (tget M k)) ∧ r.there M) := by simp only [Pl.there, ne_has]
@[simp] theorem there_m {M : Tab} : Pl.there M (.m i ks r j ks' r') = ((big ∈ ks ∨ ∀ k ∈ ks, has (tget M k)) ∧ (big ∈ ks' ∨ ∀ k ∈ ks', has (tget M k)) ∧ r.there M ∧ r'.there M) := by simp only [Pl.there, ne_has]
@[simp] theorem there_stop {M : Tab} : Pl.there M .stop = True := rfl
@[simp] theorem there_alt {M : Tab} {p : Pl} : Pl.there M (.alt i ks r p) = ((big ∈ ks ∨ ∀ k ∈ ks, has (tget M k)) ∧ r.there M ∧ p.there M) := by simp only [Pl.there, ne_has]
end

end Go.Sv


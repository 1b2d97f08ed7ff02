/- Sx, part S: the rules by which simp walks: values are worked out, what follows waits. -/
import Derived.Test.YtdpfafgecchafaaDoorSxG
set_option linter.unusedVariables false
set_option linter.unusedSimpArgs false
namespace Go.Proofs.YtdpfafgecchafaaDoor.Sx
open Go Go.RowKit

/-- a mark: what simp takes off counts as work done, so that it never goes on into what waits -/
def nf.{u} {α : Sort u} (a : α) : α := a
theorem Z47.{u} {α : Sort u} (a : α) : nf a = a := (rfl)

section
variable {C : Ctx} {P : Program} {w : World} {K : KV} {KV_ : Value → Prop}

/-! ### frames, by steps that leave a proof -/
theorem Z2y (v : Value) (l : Env) : get (v :: l) 0 = v := (rfl)
theorem Z2z (v : Value) (l : Env) (n : Nat) : get (v :: l) (n + 1) = get l n := (rfl)
theorem Z30 (x v : Value) (l : Env) : put (x :: l) 0 v = v :: l := (rfl)
theorem Z31 (x v : Value) (l : Env) (n : Nat) : put (x :: l) (n + 1) v = x :: put l n v := (rfl)
theorem Z32 (l : Env) (d : Nat) (v : Value) : putO l (some d) v = put l d v := (rfl)
theorem Z33 (l : Env) (v : Value) : putO l none v = l := (rfl)
theorem ev_t (l : Env) (t : Nat) : ev l (.tmp t) = get l t := (rfl)
theorem ev_c (l : Env) (v : Value) : ev l (.const v) = v := (rfl)
theorem ev_g (l : Env) (g : Nat) : ev l (.global g) = .pointer (some ⟨g, 0, none⟩) := (rfl)
theorem ev_f (l : Env) (f : Nat) : ev l (.func f) = .func (.func f) #[] #[] := (rfl)
theorem hv_t (m : List Bool) (i : Nat) (v : Value) (r : Env) (u : Nat → Value) : hv (true :: m) i (v :: r) u = u i :: hv m (i + 1) r u := (rfl)
theorem hv_f (m : List Bool) (i : Nat) (v : Value) (r : Env) (u : Nat → Value) : hv (false :: m) i (v :: r) u = v :: hv m (i + 1) r u := (rfl)
theorem hv_n (i : Nat) (r : Env) (u : Nat → Value) : hv [] i r u = r := by cases r <;> rfl
theorem Z34 : undefs 0 = [] := (rfl)
theorem Z35 (n : Nat) : undefs (n + 1) = .tuple #[] :: undefs n := (rfl)
theorem Z36 : undef = .tuple #[] := (rfl)
theorem mapC {α β : Type} (f : α → β) (a : α) (l : List α) : List.map f (a :: l) = f a :: List.map f l := (rfl)
theorem mapN {α β : Type} (f : α → β) : List.map f [] = [] := (rfl)
theorem appC {α : Type} (a : α) (l m : List α) : a :: l ++ m = a :: (l ++ m) := (rfl)
theorem appN {α : Type} (m : List α) : [] ++ m = m := (rfl)
theorem Z3w {α : Type} (l : List α) : (List.toArray l).toList = l := (rfl)
theorem Z3x {α β : Type} (f : α → β) (a : α) : Option.map f (some a) = some (f a) := (rfl)
theorem Z3y {α β : Type} (f : α → β) : Option.map f none = none := (rfl)

/-! ### what simp may look at -/
@[congr] theorem sx_congr {c : Code} {Q : Post} {l l' : Env} (h : l = l') {q_ : Prop} (hm_ : nf True = q_) : sx C c Q l w = sx C c Q l' w := by clear hm_; subst_vars; rfl
@[congr] theorem seqOps_congr {os r : List Oper} {l l' : Env} {k : Env → World → Prop} (h : l = l') {q_ : Prop} (hm_ : nf True = q_) : seqOps C os r l w k = seqOps C os r l' w k := by clear hm_; subst_vars; rfl
@[congr] theorem flow_congr {os r : List Oper} {T : Specs} {fr : Frs} {i i' : Nat} {F : Facts} {l l' : Env} {k : Facts → Env → Prop} (hi : i = i') (h : l = l') {q_ : Prop} (hm_ : nf True = q_) : flow C w os T fr i r F l k = flow C w os T fr i' r F l' k := by clear hm_; subst_vars; rfl
@[congr] theorem LoopA_congr {b : Code} {Q : Post} {l l' : Env} (h : l = l') {q_ : Prop} (hm_ : nf True = q_) : LoopA C b Q l w = LoopA C b Q l' w := by clear hm_; subst_vars; rfl
@[congr] theorem DrawA_congr {os : Array Oper} {l l' : Env} {k : Env → World → Prop} (h : l = l') {q_ : Prop} (hm_ : nf True = q_) : DrawA C os l w k = DrawA C os l' w k := by clear hm_; subst_vars; rfl
@[congr] theorem RawA_congr {c : Code} {Q : Post} {l l' : Env} (h : l = l') {q_ : Prop} (hm_ : nf True = q_) : RawA C c Q l w = RawA C c Q l' w := by clear hm_; subst_vars; rfl
@[congr] theorem CallG_congr {f f' : FuncId} {a a' : Array Value} (hf : f = f') (h : a = a') {q_ : Prop} (hm_ : nf True = q_) : CallG P f a w K = CallG P f' a' w K := by clear hm_; subst_vars; rfl
@[congr] theorem YieldA_congr {n n' : Nat} {a a' : Array Value} (hn : n = n') (h : a = a') {q_ : Prop} (hm_ : nf True = q_) : YieldA P n a w K = YieldA P n' a' w K := by clear hm_; subst_vars; rfl
@[congr] theorem RunA_congr {s s' : Sem Value} (h : s = s') {q_ : Prop} (hm_ : nf True = q_) : RunA P s w K = RunA P s' w K := by clear hm_; subst_vars; rfl
@[congr] theorem binA_congr {op : BinOp} {t : TypeId} {x x' y y' : Value} (h : x = x') (h' : y = y') {q_ : Prop} (hm_ : nf True = q_) : binA C op t x y KV_ = binA C op t x' y' KV_ := by clear hm_; subst_vars; rfl
@[congr] theorem unA_congr {op : UnOp} {x x' : Value} (h : x = x') {q_ : Prop} (hm_ : nf True = q_) : unA op x KV_ = unA op x' KV_ := by clear hm_; subst_vars; rfl
@[congr] theorem pickA_congr {c c' a a' b b' : Value} (h : c = c') (ha : a = a') (hb : b = b') {q_ : Prop} (hm_ : nf True = q_) : Z39 c a b w K = Z39 c' a' b' w K := by clear hm_; subst_vars; rfl
@[congr] theorem pickR_congr {c c' a a' b b' : Value} (h : c = c') (ha : a = a') (hb : b = b') {q_ : Prop} (hm_ : nf True = q_) : Z3q c a b KV_ = Z3q c' a' b' KV_ := by clear hm_; subst_vars; rfl
@[congr] theorem loadA_congr {t : TypeId} {x x' : Value} (h : x = x') {q_ : Prop} (hm_ : nf True = q_) : Z3b C t x w KV_ = Z3b C t x' w KV_ := by clear hm_; subst_vars; rfl
@[congr] theorem storeA_congr {t : TypeId} {x x' v v' : Value} (h : x = x') (h' : v = v') {q_ : Prop} (hm_ : nf True = q_) : Z3c C t x v w K = Z3c C t x' v' w K := by clear hm_; subst_vars; rfl
@[congr] theorem fieldAddrA_congr {t : TypeId} {x x' : Value} {f : Nat} (h : x = x') {q_ : Prop} (hm_ : nf True = q_) : Z3d C t x f w K = Z3d C t x' f w K := by clear hm_; subst_vars; rfl
@[congr] theorem indexAddrA_congr {t : TypeId} {x x' i i' : Value} (h : x = x') (h' : i = i') {q_ : Prop} (hm_ : nf True = q_) : Z3e C t x i w K = Z3e C t x' i' w K := by clear hm_; subst_vars; rfl
@[congr] theorem extractA_congr {x x' : Value} {i : Nat} (h : x = x') {q_ : Prop} (hm_ : nf True = q_) : Z3f x i KV_ = Z3f x' i KV_ := by clear hm_; subst_vars; rfl
@[congr] theorem sliceA_congr {t : TypeId} {x x' : Value} {a a' b b' c c' : Option Value} (h : x = x') (ha : a = a') (hb : b = b') (hc : c = c') {q_ : Prop} (hm_ : nf True = q_) : Z3h C t x a b c KV_ = Z3h C t x' a' b' c' KV_ := by clear hm_; subst_vars; rfl
@[congr] theorem buildA_congr {t : TypeId} {p p' : List (Nat × Value)} (h : p = p') {q_ : Prop} (hm_ : nf True = q_) : Z3j C t p KV_ = Z3j C t p' KV_ := by clear hm_; subst_vars; rfl
@[congr] theorem buildSliceA_congr {t : TypeId} {n : Nat} {p p' : List (Nat × Value)} (h : p = p') {q_ : Prop} (hm_ : nf True = q_) : Z3k C t n p w K = Z3k C t n p' w K := by clear hm_; subst_vars; rfl
@[congr] theorem convA_congr {s d : TypeId} {x x' : Value} {rest : Prop} (h : x = x') {q_ : Prop} (hm_ : nf True = q_) : Z3l C s d x rest KV_ = Z3l C s d x' rest KV_ := by clear hm_; subst_vars; rfl
@[congr] theorem convR_congr {s d : TypeId} {x x' : Value} (h : x = x') {q_ : Prop} (hm_ : nf True = q_) : convR C s d x KV_ = convR C s d x' KV_ := by clear hm_; subst_vars; rfl
@[congr] theorem nilA_congr {x x' : Value} {rest : Prop} (h : x = x') {q_ : Prop} (hm_ : nf True = q_) : nilA x w rest K = nilA x' w rest K := by clear hm_; subst_vars; rfl
@[congr] theorem nilR_congr {x x' : Value} (h : x = x') {q_ : Prop} (hm_ : nf True = q_) : nilR x KV_ = nilR x' KV_ := by clear hm_; subst_vars; rfl
@[congr] theorem ifaceA_congr {t : TypeId} {x x' : Value} (h : x = x') {q_ : Prop} (hm_ : nf True = q_) : Z3o C t x KV_ = Z3o C t x' KV_ := by clear hm_; subst_vars; rfl
@[congr] theorem builtinA_congr {b : Builtin} {ts ts' : List TypeId} {rt : TypeId} {xs xs' : List Value} {rest : Prop} (ht : ts = ts') (h : xs = xs') {q_ : Prop} (hm_ : nf True = q_) : Z3m C b ts rt xs rest w K = Z3m C b ts' rt xs' rest w K := by clear hm_; subst_vars; rfl
@[congr] theorem builtinR_congr {b : Builtin} {ts ts' : List TypeId} {xs xs' : List Value} (ht : ts = ts') (h : xs = xs') {q_ : Prop} (hm_ : nf True = q_) : Z3p C b ts xs KV_ = Z3p C b ts' xs' KV_ := by clear hm_; subst_vars; rfl
@[congr] theorem lenA_congr {t : TypeId} {x x' : Value} {rest : Prop} (h : x = x') {q_ : Prop} (hm_ : nf True = q_) : lenA C t x rest KV_ = lenA C t x' rest KV_ := by clear hm_; subst_vars; rfl
@[congr] theorem capA_congr {t : TypeId} {x x' : Value} {rest : Prop} (h : x = x') {q_ : Prop} (hm_ : nf True = q_) : capA C t x rest KV_ = capA C t x' rest KV_ := by clear hm_; subst_vars; rfl
@[congr] theorem maxA_congr {x x' y y' : Value} {rest : Prop} (h : x = x') (h' : y = y') {q_ : Prop} (hm_ : nf True = q_) : maxA x y rest KV_ = maxA x' y' rest KV_ := by clear hm_; subst_vars; rfl
@[congr] theorem minA_congr {x x' y y' : Value} {rest : Prop} (h : x = x') (h' : y = y') {q_ : Prop} (hm_ : nf True = q_) : minA x y rest KV_ = minA x' y' rest KV_ := by clear hm_; subst_vars; rfl
@[congr] theorem callV_congr {f f' : Value} {a a' : List Value} (h : f = f') (h' : a = a') {q_ : Prop} (hm_ : nf True = q_) : Z3n C f a w K = Z3n C f' a' w K := by clear hm_; subst_vars; rfl
@[congr] theorem fillL_congr {p : Nat → Option (Nat × Nat)} {z z' : List Value} {a a' : List (Nat × Value)} {k : List Value → Prop} (h : z = z') (h' : a = a') {q_ : Prop} (hm_ : nf True = q_) : Z3i p z a k = Z3i p z' a' k := by clear hm_; subst_vars; rfl

theorem Z1b (o : Oper) (r : List Oper) : dstOf (o :: r) 0 = o.dst := (rfl)
theorem Z1c (o : Oper) (r : List Oper) (n : Nat) : dstOf (o :: r) (n + 1) = dstOf r n := (rfl)
theorem Z3s (j : Nat) (S : Value → World → Prop) (f : Value → Nat → Prop) (r : SpecL) (i : Nat) : tsp ((j, S, f) :: r) i = if i = j then some S else tsp r i := (rfl)
theorem Z3t (i : Nat) : tsp [] i = none := (rfl)
theorem Z3u (j : Nat) (S : Value → World → Prop) (f : Value → Nat → Prop) (r : SpecL) (i : Nat) : frp ((j, S, f) :: r) i = if i = j then f else frp r i := (rfl)
theorem Z3v (i : Nat) : frp [] i = fun _ _ => False := (rfl)

/-- a way that waits: 'attribute [local congr] Br_stop' -/
theorem Br_stop {b b' : Bool} {X Y : Prop} (h : b = b') {q_ : Prop} (hm_ : nf True = q_) : Br b X Y = Br b' X Y := by clear hm_; subst_vars; rfl
/-! ### guards -/
def gdV (v : Value) (d : Nat) (want : Bool) (l : Env) (X Y : Env → Prop) : Prop :=
  match v with
  | .bool b => match want with
    | true => Br b (X (put l d (.bool true))) (Y (put l d (.bool false)))
    | false => Br b (Y (put l d (.bool true))) (X (put l d (.bool false)))
  | _ => Y l
def gdJ (od : Option Nat) (want : Bool) (l : Env) (X Y : Env → Prop) : Prop :=
  match od with
  | none => Y l
  | some d => gdV (get l d) d want l X Y
@[congr] theorem gdV_congr {v v' : Value} {d : Nat} {want : Bool} {l : Env} {X Y : Env → Prop} (h : v = v') {q_ : Prop} (hm_ : nf True = q_) : gdV v d want l X Y = gdV v' d want l X Y := by clear hm_; subst_vars; rfl
@[congr] theorem gdJ_congr {v v' : Option Nat} {want : Bool} {l : Env} {X Y : Env → Prop} (h : v = v') {q_ : Prop} (hm_ : nf True = q_) : gdJ v want l X Y = gdJ v' want l X Y := by clear hm_; subst_vars; rfl
theorem Z15 (os : List Oper) (l : Env) (X Y : Env → Prop) : gd os none l X Y = X l := (rfl)
theorem Z16 (os : List Oper) (j : Nat) (want : Bool) (l : Env) (X Y : Env → Prop) : gd os (some (j, want)) l X Y = gdJ (dstOf os j) want l X Y := by
  show (match dstOf os j with | none => Y l | some d => _) = gdJ (dstOf os j) want l X Y
  generalize dstOf os j = od
  cases od with
  | none => rfl
  | some d => unfold gdJ gdV; generalize get l d = v; cases want <;> cases v <;> rfl
theorem Z17 (d : Nat) (want : Bool) (l : Env) (X Y : Env → Prop) : gdJ (some d) want l X Y = gdV (get l d) d want l X Y := (rfl)
theorem Z18 (b : Bool) (d : Nat) (l : Env) (X Y : Env → Prop) : gdV (.bool b) d true l X Y = Br b (X (put l d (.bool true))) (Y (put l d (.bool false))) := (rfl)
theorem Z19 (b : Bool) (d : Nat) (l : Env) (X Y : Env → Prop) : gdV (.bool b) d false l X Y = Br b (Y (put l d (.bool true))) (X (put l d (.bool false))) := (rfl)
theorem Z1a (x : Array Value) (d : Nat) (want : Bool) (l : Env) (X Y : Env → Prop) : gdV (.tuple x) d want l X Y = Y l := (rfl)

/-! ### lists of operations -/
theorem Z0q (os : List Oper) (l : Env) (k : Env → World → Prop) : seqOps C os [] l w k = k l w := (rfl)
theorem Z0r (os : List Oper) (d : Option Tmp) (op : Op) (ty : TypeId) (ps : String) (af : Array Edge) (g : Option (Nat × Bool)) (r : List Oper) (l : Env) (k : Env → World → Prop) :
    seqOps C os (⟨d, op, ty, ps, af, g⟩ :: r) l w k = gd os g l (fun l' => op1 C op ty (ev l') w fun v w' => seqOps C os r (putO l' d v) w' k) (fun l' => seqOps C os r (putO l' d undef) w k) := (rfl)

/-- what is asked of the values' blocks -/
def FrOk (f : Value → Nat → Prop) (v : Value) (W W' : World) : Prop := ∀ b, f v b → W.heap.size ≤ b ∧ b < W'.heap.size
theorem FrOk.no (v : Value) (W W' : World) : FrOk noB v W W' := fun b h => h.elim
def flowS (C : Ctx) (w0 : World) (ot : Option (Value → World → Prop)) (fo : Value → Nat → Prop) (i : Nat) (op : Op) (ty : TypeId) (af : Array Edge) (F : Facts) (ρ : Operand → Value) (k : Facts → Value → Prop) : Prop :=
  match ot with
  | none => rd1 C op ρ w0 fun v => k F v
  | some S => (∀ W, Below w0.heap.size w0 W → Fd af.toList F W → op1 C op ty ρ W fun v W' => Below W.heap.size W W' ∧ S v W' ∧ FrOk fo v W W') ∧ (∀ v, (∃ W, Below w0.heap.size w0 W ∧ S v W) → k ((i, v, S v) :: F) v)
@[congr] theorem flowS_congr {ot ot' : Option (Value → World → Prop)} {fo fo' : Value → Nat → Prop} {i : Nat} {op : Op} {ty : TypeId} {af : Array Edge} {F : Facts} {ρ : Operand → Value} {k : Facts → Value → Prop} {q_ : Prop} (h : ot = ot') (hf : fo = fo') (hm_ : nf True = q_) :
    flowS C w ot fo i op ty af F ρ k = flowS C w ot' fo' i op ty af F ρ k := by rw [h, hf]
theorem Z0x (os : List Oper) (T : Specs) (fr : Frs) (i : Nat) (F : Facts) (l : Env) (k : Facts → Env → Prop) : flow C w os T fr i [] F l k = k F l := (rfl)
theorem Z0y (os : List Oper) (T : Specs) (fr : Frs) (i : Nat) (d : Option Tmp) (op : Op) (ty : TypeId) (ps : String) (af : Array Edge) (g : Option (Nat × Bool)) (r : List Oper) (F : Facts) (l : Env) (k : Facts → Env → Prop) :
    flow C w os T fr i (⟨d, op, ty, ps, af, g⟩ :: r) F l k = gd os g l (fun l' => flowS C w (T i) (fr i) i op ty af F (ev l') fun F' v => flow C w os T fr (i + 1) r F' (putO l' d v) k) (fun l' => flow C w os T fr (i + 1) r F (putO l' d undef) k) := by
  show gd os g l _ _ = gd os g l _ _
  congr 1
theorem Z01 {Q : Post} (l : Env) (id : Nat) (os : List Oper) : sx C (.region id (List.toArray os) false) Q l w = seqOps C os os l w fun l w => Q .normal l w := by rw [sx_region]
theorem Z0s (os : List Oper) (T : Specs) (fr : Frs) (i : Nat) (r : List Oper) (F : Facts) (l : Env) (k : Facts → Env → Prop) : flow C w (List.toArray os).toList T fr i r F l k = flow C w os T fr i r F l k := (rfl)
theorem Z0t (os : List Oper) (T : Specs) (fr : Frs) (i : Nat) (r : List Oper) (F : Facts) (l : Env) (k : Facts → Env → Prop) : flow C w os T fr i (List.toArray r).toList F l k = flow C w os T fr i r F l k := (rfl)
theorem Z0u (os : List Oper) (T : Specs) (fr : Frs) (i n : Nat) (r : List Oper) (F : Facts) (l : Env) (k : Facts → Env → Prop) : flow C w os T fr i (List.take n (List.toArray r).toList) F l k = flow C w os T fr i (List.take n r) F l k := (rfl)
theorem Z0v (os r : List Oper) (l : Env) (k : Env → World → Prop) : seqOps C (List.toArray os).toList r l w k = seqOps C os r l w k := (rfl)
theorem Z0w (os r : List Oper) (n : Nat) (l : Env) (k : Env → World → Prop) : seqOps C os (List.drop n (List.toArray r).toList) l w k = seqOps C os (List.drop n r) l w k := (rfl)
theorem Z0z (os : List Oper) (T : Specs) (fr : Frs) (i n : Nat) (d : Option Tmp) (op : Op) (ty : TypeId) (ps : String) (af : Array Edge) (g : Option (Nat × Bool)) (r : List Oper) (F : Facts) (l : Env) (k : Facts → Env → Prop) :
    flow C w os T fr i (List.take (n + 1) (⟨d, op, ty, ps, af, g⟩ :: r)) F l k = gd os g l (fun l' => flowS C w (T i) (fr i) i op ty af F (ev l') fun F' v => flow C w os T fr (i + 1) (List.take n r) F' (putO l' d v) k) (fun l' => flow C w os T fr (i + 1) (List.take n r) F (putO l' d undef) k) := by
  rw [List.take_succ_cons, Z0y]
theorem Z10 (os : List Oper) (T : Specs) (fr : Frs) (i : Nat) (r : List Oper) (F : Facts) (l : Env) (k : Facts → Env → Prop) : flow C w os T fr i (List.take 0 r) F l k = k F l := by
  rw [List.take_zero, Z0x]
theorem Z11 (os : List Oper) (n : Nat) (o : Oper) (r : List Oper) (l : Env) (k : Env → World → Prop) : seqOps C os (List.drop (n + 1) (o :: r)) l w k = seqOps C os (List.drop n r) l w k := by
  rw [List.drop_succ_cons]
theorem Z12 (os : List Oper) (r : List Oper) (l : Env) (k : Env → World → Prop) : seqOps C os (List.drop 0 r) l w k = seqOps C os r l w k := by
  rw [List.drop_zero]
theorem Z13 (fo : Value → Nat → Prop) (i : Nat) (op : Op) (ty : TypeId) (af : Array Edge) (F : Facts) (ρ : Operand → Value) (k : Facts → Value → Prop) : flowS C w none fo i op ty af F ρ k = rd1 C op ρ w fun v => k F v := (rfl)
theorem Z14 (S : Value → World → Prop) (fo : Value → Nat → Prop) (i : Nat) (op : Op) (ty : TypeId) (af : Array Edge) (F : Facts) (ρ : Operand → Value) (k : Facts → Value → Prop) :
    flowS C w (some S) fo i op ty af F ρ k = ((∀ W, Below w.heap.size w W → Fd af.toList F W → op1 C op ty ρ W fun v W' => Below W.heap.size W W' ∧ S v W' ∧ FrOk fo v W W') ∧ (∀ v, (∃ W, Below w.heap.size w W ∧ S v W) → k ((i, v, S v) :: F) v)) := (rfl)

/-! ### single operations -/
variable (ρ : Operand → Value) (rt : TypeId)
theorem Z1g (x : Operand) : op1 C (.move x) rt ρ w K = K (ρ x) w := (rfl)
theorem Z1h (x : Operand) : op1 C (.assign x) rt ρ w K = K (ρ x) w := (rfl)
theorem Z1i (c a b : Operand) : op1 C (.pick c a b) rt ρ w K = Z39 (ρ c) (ρ a) (ρ b) w K := (rfl)
theorem Z1j (e : TypeId) : op1 C (.alloc e) rt ρ w K = Z3a C e w K := (rfl)
theorem Z1k (e : TypeId) (x : Operand) : op1 C (.box e x) rt ρ w K = AllocA w (.cells (Z3r (ρ x)).toArray e) fun b w' => K (.pointer (some ⟨b, 0, none⟩)) w' := (rfl)
theorem Z1l (t : TypeId) (ps : Array (Nat × Operand)) : op1 C (.build t ps) rt ρ w K = Z3j C t (ps.toList.map fun p => (p.1, ρ p.2)) fun v => K v w := (rfl)
theorem Z1m (t : TypeId) (n : Nat) (ps : Array (Nat × Operand)) : op1 C (.buildSlice t n ps) rt ρ w K = Z3k C t n (ps.toList.map fun p => (p.1, ρ p.2)) w K := (rfl)
theorem Z1n (t : TypeId) (a : Operand) : op1 C (.load t a) rt ρ w K = Z3b C t (ρ a) w fun v => K v w := (rfl)
theorem Z1o (t : TypeId) (a x : Operand) : op1 C (.store t a x) rt ρ w K = Z3c C t (ρ a) (ρ x) w K := (rfl)
theorem Z1p (x : Operand) : op1 C (.nilCheck x) rt ρ w K = nilA (ρ x) w (OpV C.P (.nilCheck x) rt ρ w K) K := (rfl)
theorem Z1q (o : BinOp) (t : TypeId) (x y : Operand) (yt : TypeId) : op1 C (.binOp o t x y yt) rt ρ w K = binA C o t (ρ x) (ρ y) fun v => K v w := (rfl)
theorem Z1r (o : UnOp) (t : TypeId) (x : Operand) : op1 C (.unOp o t x) rt ρ w K = unA o (ρ x) fun v => K v w := (rfl)
theorem Z1s (fn : Fn) (a b : Array Operand) : op1 C (.makeFunc fn a b) rt ρ w K = K (.func fn (a.toList.map ρ).toArray (b.toList.map ρ).toArray) w := (rfl)
theorem Z1t (t : TypeId) (x : Operand) : op1 C (.makeInterface t x) rt ρ w K = Z3o C t (ρ x) fun v => K v w := (rfl)
theorem Z1u (t : TypeId) (x : Operand) (a b c : Option Operand) : op1 C (.slice t x a b c) rt ρ w K = Z3h C t (ρ x) (a.map ρ) (b.map ρ) (c.map ρ) fun v => K v w := (rfl)
theorem Z1v (t : TypeId) (x : Operand) (f : Nat) : op1 C (.fieldAddr t x f) rt ρ w K = Z3d C t (ρ x) f w K := (rfl)
theorem Z1w (t : TypeId) (x i : Operand) : op1 C (.indexAddr t x i) rt ρ w K = Z3e C t (ρ x) (ρ i) w K := (rfl)
theorem Z1x (x : Operand) (i : Nat) : op1 C (.extract x i) rt ρ w K = Z3f (ρ x) i fun v => K v w := (rfl)
def convS (C : Ctx) (oi : Option TyI) (s d : TypeId) (x : Value) (rest : Prop) (K : Value → Prop) : Prop :=
  match oi with
  | some _ => Z3l C s d x rest K
  | none => False
@[congr] theorem convS_congr {oi oi' : Option TyI} {s d : TypeId} {x : Value} {rest : Prop} (h : oi = oi') {q_ : Prop} (hm_ : nf True = q_) : convS C oi s d x rest KV_ = convS C oi' s d x rest KV_ := by clear hm_; subst_vars; rfl
theorem Z2h (i : TyI) (s d : TypeId) (x : Value) (rest : Prop) : convS C (some i) s d x rest KV_ = Z3l C s d x rest KV_ := (rfl)
theorem Z22 (t : TypeId) (x i : Operand) : op1 C (.index t x i) rt ρ w K = Z2g C t (ρ x) (ρ i) (RunA C.P (Instr.index t (ρ x) (ρ i)) w K) fun v => K v w := (rfl)
theorem Z24 (t : TypeId) (x : Operand) (f : Nat) : op1 C (.field t x f) rt ρ w K = RunA C.P (Instr.field t (ρ x) f) w K := (rfl)
theorem Z25 (t : TypeId) (x i : Operand) (ok : Bool) : op1 C (.lookup t x i ok) rt ρ w K = RunA C.P (Instr.lookup t (ρ x) (ρ i) ok) w K := (rfl)
theorem Z26 (t : TypeId) (m k x : Operand) : op1 C (.mapUpdate t m k x) rt ρ w K = RunU C.P (Instr.mapUpdate t (ρ m) (ρ k) (ρ x)) w K := (rfl)
theorem Z27 (t : TypeId) (m k x : Operand) : op1 C (.insert t m k x) rt ρ w K = RunU C.P (Instr.mapUpdate t (ρ m) (ρ k) (ρ x)) w K := (rfl)
theorem Z28 (t : TypeId) (m k : Operand) : op1 C (.mapEntry t m k) rt ρ w K = RunA C.P (Instr.mapEntry t (ρ m) (ρ k)) w K := (rfl)
theorem Z29 (t : TypeId) (m k x : Operand) : op1 C (.entryStore t m k x) rt ρ w K = RunU C.P (Instr.entryStore t (ρ m) (ρ k) (ρ x)) w K := (rfl)
theorem Z2a (t : TypeId) (r : Option Operand) : op1 C (.makeMap t r) rt ρ w K = RunA C.P (Instr.makeMap t (r.map ρ)) w K := (rfl)
theorem Z23 (t : TypeId) (x i : Operand) : op1 C (.makeSlice t x i) rt ρ w K = RunA C.P (Instr.makeSlice t (ρ x) (ρ i)) w K := (rfl)
theorem Z2b (x : Operand) (t a : TypeId) (ok : Bool) : op1 C (.typeAssert x t a ok) rt ρ w K = RunA C.P (Instr.typeAssert (ρ x) t a ok) w K := (rfl)
theorem Z2c (t : TypeId) (x : Operand) : op1 C (.range t x) rt ρ w K = RunA C.P (Instr.range t (ρ x)) w K := (rfl)
theorem Z2d (x : Operand) (s : Bool) : op1 C (.next x s) rt ρ w K = RunA C.P (Instr.next (ρ x) s rt) w K := (rfl)
theorem Z2e (x : Operand) : op1 C (.entry x) rt ρ w K = RunA C.P (Instr.entry (ρ x)) w K := (rfl)
@[congr] theorem RunU_congr {s s' : Sem Unit} (h : s = s') {q_ : Prop} (hm_ : nf True = q_) : RunU P s w K = RunU P s' w K := by clear hm_; subst_vars; rfl
@[congr] theorem OpV_congr {op : Op} {rt : TypeId} {ρ : Operand → Value} {q_ : Prop} (hm_ : nf True = q_) : OpV P op rt ρ w K = OpV P op rt ρ w K := rfl
@[congr] theorem indexA_congr {t : TypeId} {x x' i i' : Value} {rest : Prop} (h : x = x') (h' : i = i') {q_ : Prop} (hm_ : nf True = q_) : Z2g C t x i rest KV_ = Z2g C t x' i' rest KV_ := by clear hm_; subst_vars; rfl
theorem Z1y (s d : TypeId) (x : Operand) : op1 C (.convert s d x) rt ρ w K = convS C (C.ty s) s d (ρ x) (RunA C.P (convert s d (ρ x)) w K) fun v => K v w := by
  show (match C.ty s with | some _ => _ | none => False) = _
  unfold convS
  cases C.ty s <;> rfl
theorem Z1z (b : Builtin) (a : Array Operand) (ts : Array TypeId) : op1 C (.call ⟨.builtin b, a, ts⟩) rt ρ w K = Z3m C b ts.toList rt (a.toList.map ρ) (OpV C.P (.call ⟨.builtin b, a, ts⟩) rt ρ w K) w K := (rfl)
theorem Z20 (f : Operand) (a : Array Operand) (ts : Array TypeId) : op1 C (.call ⟨.value f, a, ts⟩) rt ρ w K = Z3n C (ρ f) (a.toList.map ρ) w K := (rfl)
theorem Z21 (r : Operand) (m : String) (a : Array Operand) (ts : Array TypeId) : op1 C (.call ⟨.invoke r m, a, ts⟩) rt ρ w K = OpV C.P (.call ⟨.invoke r m, a, ts⟩) rt ρ w K := (rfl)

theorem Z2i (x : Operand) : rd1 C (.move x) ρ w KV_ = KV_ (ρ x) := (rfl)
theorem Z2j (x : Operand) : rd1 C (.assign x) ρ w KV_ = KV_ (ρ x) := (rfl)
theorem Z2k (c a b : Operand) : rd1 C (.pick c a b) ρ w KV_ = Z3q (ρ c) (ρ a) (ρ b) KV_ := (rfl)
theorem Z2l (t : TypeId) (ps : Array (Nat × Operand)) : rd1 C (.build t ps) ρ w KV_ = Z3j C t (ps.toList.map fun p => (p.1, ρ p.2)) KV_ := (rfl)
theorem Z2m (t : TypeId) (a : Operand) : rd1 C (.load t a) ρ w KV_ = Z3b C t (ρ a) w KV_ := (rfl)
theorem Z2n (x : Operand) : rd1 C (.nilCheck x) ρ w KV_ = nilR (ρ x) KV_ := (rfl)
theorem Z2o (o : BinOp) (t : TypeId) (x y : Operand) (yt : TypeId) : rd1 C (.binOp o t x y yt) ρ w KV_ = binA C o t (ρ x) (ρ y) KV_ := (rfl)
theorem Z2p (o : UnOp) (t : TypeId) (x : Operand) : rd1 C (.unOp o t x) ρ w KV_ = unA o (ρ x) KV_ := (rfl)
theorem Z2q (s d : TypeId) (x : Operand) : rd1 C (.convert s d x) ρ w KV_ = convS C (C.ty s) s d (ρ x) False KV_ := by
  show convR C s d (ρ x) KV_ = _
  unfold convR convS
  cases C.ty s <;> rfl
theorem Z2r (fn : Fn) (a b : Array Operand) : rd1 C (.makeFunc fn a b) ρ w KV_ = KV_ (.func fn (a.toList.map ρ).toArray (b.toList.map ρ).toArray) := (rfl)
theorem Z2s (t : TypeId) (x : Operand) : rd1 C (.makeInterface t x) ρ w KV_ = Z3o C t (ρ x) KV_ := (rfl)
theorem Z2t (t : TypeId) (x : Operand) (a b c : Option Operand) : rd1 C (.slice t x a b c) ρ w KV_ = Z3h C t (ρ x) (a.map ρ) (b.map ρ) (c.map ρ) KV_ := (rfl)
theorem Z2u (t : TypeId) (x : Operand) (f : Nat) : rd1 C (.fieldAddr t x f) ρ w KV_ = Z3d C t (ρ x) f w fun v _ => KV_ v := (rfl)
theorem Z2v (t : TypeId) (x i : Operand) : rd1 C (.indexAddr t x i) ρ w KV_ = Z3e C t (ρ x) (ρ i) w fun v _ => KV_ v := (rfl)
theorem Z2w (x : Operand) (i : Nat) : rd1 C (.extract x i) ρ w KV_ = Z3f (ρ x) i KV_ := (rfl)
theorem Z2f (t : TypeId) (x i : Operand) : rd1 C (.index t x i) ρ w KV_ = Z2g C t (ρ x) (ρ i) False KV_ := (rfl)
theorem Z2x (b : Builtin) (a : Array Operand) (ts : Array TypeId) : rd1 C (.call ⟨.builtin b, a, ts⟩) ρ w KV_ = Z3p C b ts.toList (a.toList.map ρ) KV_ := (rfl)
end

theorem Z46 (c : Nat) (p : Option Addr) : (if c = 0 then p else Option.map (fun x => x.add 0) p) = p := by
  split
  · rfl
  · cases p <;> rfl

/-! ### tests -/
def condV (v : Value) (t : Tmp) (l : Env) (X Y : Env → Prop) : Prop :=
  match v with
  | .bool b => Br b (X (put l t (.bool true))) (Y (put l t (.bool false)))
  | _ => False
@[congr] theorem condV_congr {v v' : Value} {t : Tmp} {l : Env} {X Y : Env → Prop} (h : v = v') {q_ : Prop} (hm_ : nf True = q_) : condV v t l X Y = condV v' t l X Y := by clear hm_; subst_vars; rfl
theorem Z1d (t : Tmp) (l : Env) (X Y : Env → Prop) : condA (.tmp t) l X Y = condV (get l t) t l X Y := (rfl)
theorem Z1e (b : Bool) (l : Env) (X Y : Env → Prop) : condA (.const (.bool b)) l X Y = Br b (X l) (Y l) := (rfl)
theorem Z1f (b : Bool) (t : Tmp) (l : Env) (X Y : Env → Prop) : condV (.bool b) t l X Y = Br b (X (put l t (.bool true))) (Y (put l t (.bool false))) := (rfl)

/-! ### short names -/
theorem Y00 : type_of% @Z2g.eq_def := @Z2g.eq_def
theorem Y01 : type_of% @binA.eq_def := @binA.eq_def
theorem Y02 : type_of% @Z37.eq_def := @Z37.eq_def
theorem Y03 : type_of% @Z38.eq_def := @Z38.eq_def
theorem Y04 : type_of% @unA.eq_def := @unA.eq_def
theorem Y05 : type_of% @Z39.eq_def := @Z39.eq_def
theorem Y06 : type_of% @Z3b.eq_def := @Z3b.eq_def
theorem Y07 : type_of% @Z3c.eq_def := @Z3c.eq_def
theorem Y08 : type_of% @Z3d.eq_def := @Z3d.eq_def
theorem Y09 : type_of% @Z3e.eq_def := @Z3e.eq_def
theorem Y0a : type_of% @Z3f.eq_def := @Z3f.eq_def
theorem Y0b : type_of% @Z3g.eq_def := @Z3g.eq_def
theorem Y0c : type_of% @slHi.eq_def := @slHi.eq_def
theorem Y0d : type_of% @slLo.eq_def := @slLo.eq_def
theorem Y0e : type_of% @Z3h.eq_def := @Z3h.eq_def
theorem Y0f : type_of% @Z3j.eq_def := @Z3j.eq_def
theorem Y0g : type_of% @Z3k.eq_def := @Z3k.eq_def
theorem Y0h : type_of% @Z3l.eq_def := @Z3l.eq_def
theorem Y0i : type_of% @Z3m.eq_def := @Z3m.eq_def
theorem Y0j : type_of% @lenA.eq_def := @lenA.eq_def
theorem Y0k : type_of% @capA.eq_def := @capA.eq_def
theorem Y0l : type_of% @maxA.eq_def := @maxA.eq_def
theorem Y0m : type_of% @minA.eq_def := @minA.eq_def
theorem Y0n : type_of% @Z3n.eq_def := @Z3n.eq_def
theorem Y0o : type_of% @nilA.eq_def := @nilA.eq_def
theorem Y0p : type_of% @Z3o.eq_def := @Z3o.eq_def
theorem Y0q : type_of% @Z3p.eq_def := @Z3p.eq_def
theorem Y0r : type_of% @Z3q.eq_def := @Z3q.eq_def
theorem Y0s : type_of% @nilR.eq_def := @nilR.eq_def
end Go.Proofs.YtdpfafgecchafaaDoor.Sx

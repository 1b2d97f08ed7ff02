/- Sx, part A: environments, types, and what one operation comes to. -/
import Derived.WalkKit
import Derived.WideLaws
import Derived.Lib.Hide
import Derived.KernelRfl
import Derived.OrdersIn
import Derived.TacticsIn
import Derived.RangeFuncLeaves
set_option linter.unusedVariables false
set_option linter.unusedSimpArgs false
namespace Go.Proofs.YtdpfafgecchafaaDoor.Sx
open Go Go.RowKit

/-! ### environments -/
abbrev Env := List Value
def get : Env → Nat → Value
  | [], _ => undef
  | v :: _, 0 => v
  | _ :: l, n + 1 => get l n
def put : Env → Nat → Value → Env
  | [], _, _ => []
  | _ :: l, 0, v => v :: l
  | x :: l, n + 1, v => x :: put l n v
def putO (l : Env) : Option Nat → Value → Env
  | some d, v => put l d v
  | none, _ => l
def ev (l : Env) : Operand → Value
  | .tmp t => get l t
  | .const v => v
  | .global g => .pointer (some ⟨g, 0, none⟩)
  | .func f => .func (.func f) #[] #[]
def act (D : List Deferred) (l : Env) : Act := { tmps := l.toArray, defers := D }

theorem get_eq (l : Env) (t : Nat) : get l t = l.getD t undef := by
  induction l generalizing t with
  | nil => simp [get]
  | cons v l ih => cases t <;> simp [get, ih]
theorem put_eq (l : Env) (n : Nat) (v : Value) : put l n v = l.set n v := by
  induction l generalizing n with
  | nil => simp [put]
  | cons x l ih => cases n <;> simp [put, ih]
theorem act_eval (D : List Deferred) (l : Env) : (act D l).eval = ev l := by
  funext x
  cases x with
  | tmp t => simp [Act.eval, act, ev, get_eq]
  | _ => rfl
theorem act_put (D : List Deferred) (l : Env) (d : Option Nat) (v : Value) : (act D l).put d v = act D (putO l d v) := by
  cases d with
  | none => rfl
  | some d => simp [Act.put, act, putO, put_eq]
theorem get_put_self (l : Env) (n : Nat) (v : Value) (h : n < l.length) : get (put l n v) n = v := by
  rw [get_eq, put_eq]; simp [h]
theorem get_put_ne (l : Env) (n m : Nat) (v : Value) (h : n ≠ m) : get (put l n v) m = get l m := by
  rw [get_eq, get_eq, put_eq]; simp [List.getElem?_set_ne h]

/-! ### types -/
inductive Und where
  | int (k : IntKind) | bool | string | slice (e : TypeId) | pointer (e : TypeId) | struct (fs : List (Nat × Nat)) | array (n : Nat) (e : TypeId) | map (k e : TypeId) | iface | func | other
  deriving Inhabited
structure TyI where
  size : Nat
  bytes : Nat
  zero : List Value
  und : Und

def undOf (P : Program) (t : TypeId) : Und :=
  match P.underlying t with
  | some (.int k) => .int k
  | some .bool => .bool
  | some .string => .string
  | some (.slice e) => .slice e
  | some (.pointer e) => .pointer e
  | some (.struct fs) => .struct (fs.toList.map fun f => (f.offset, P.cellsOf f.type))
  | some (.array n e) => .array n e
  | some (.map k e) => .map k e
  | some (.interface _) => .iface
  | some (.func ..) => .func
  | _ => .other

def tyOf (P : Program) (t : TypeId) : Option TyI :=
  match P.info? t with
  | some i => match i.zero, P.underlying t with
    | some z, some _ => some ⟨i.size, i.bytes, z.cells.toList, undOf P t⟩
    | _, _ => none
  | none => none

/-- a program, and what is known of its types -/
structure Ctx where
  P : Program
  ty : TypeId → Option TyI
  ok : ∀ t i, ty t = some i → tyOf P t = some i
  mixed : P.follows .mixedOrders = true

theorem tyOf_info {P : Program} {t : TypeId} {i : TyI} (h : tyOf P t = some i) : ∃ f z d, P.info? t = some f ∧ P.underlying t = some d ∧ f.size = i.size ∧ f.bytes = i.bytes ∧ f.zero = some z ∧ z.cells.toList = i.zero ∧ undOf P t = i.und := by
  unfold tyOf at h
  split at h
  · rename_i f hf
    split at h
    · rename_i z d hz hd
      simp only [Option.some.injEq] at h
      subst h
      exact ⟨f, z, d, hf, hd, rfl, rfl, hz, rfl, rfl⟩
    · cases h
  · cases h

section und
variable {P : Program} {t : TypeId} {d : TypeDesc} (hd : P.underlying t = some d)
include hd
theorem und_int {k : IntKind} (h : undOf P t = .int k) : d = .int k := by
  simp only [undOf, hd] at h; split at h <;> simp_all
theorem und_bool (h : undOf P t = .bool) : d = .bool := by
  simp only [undOf, hd] at h; split at h <;> simp_all
theorem und_string (h : undOf P t = .string) : d = .string := by
  simp only [undOf, hd] at h; split at h <;> simp_all
theorem und_slice {e : TypeId} (h : undOf P t = .slice e) : d = .slice e := by
  simp only [undOf, hd] at h; split at h <;> simp_all
theorem und_pointer {e : TypeId} (h : undOf P t = .pointer e) : d = .pointer e := by
  simp only [undOf, hd] at h; split at h <;> simp_all
theorem und_array {n : Nat} {e : TypeId} (h : undOf P t = .array n e) : d = .array n e := by
  simp only [undOf, hd] at h; split at h <;> simp_all
theorem und_map {k e : TypeId} (h : undOf P t = .map k e) : d = .map k e := by
  simp only [undOf, hd] at h; split at h <;> simp_all
theorem und_struct {fs : List (Nat × Nat)} (h : undOf P t = .struct fs) : ∃ ff, d = .struct ff ∧ ff.toList.map (fun f => (f.offset, P.cellsOf f.type)) = fs := by
  simp only [undOf, hd] at h; split at h <;> simp_all
end und

def Und.agg : Und → Bool
  | .struct _ | .array .. => true
  | _ => false

theorem isAgg_of {P : Program} {t : TypeId} {i : TyI} (h : tyOf P t = some i) (w : World) : (isAgg t).run P w = .ok i.und.agg w := by
  obtain ⟨f, z, d, h1, h2, h3, h4, h5, h6, h7⟩ := tyOf_info h
  unfold isAgg
  rw [Sem.run_bind]
  have hu : (underlying t).run P w = .ok d w := run_underlying h2 w
  rw [hu, Result.andThen_ok, ← h7]
  unfold undOf
  rw [h2]
  cases d <;> rfl

theorem sizeOf_of {P : Program} {t : TypeId} {i : TyI} (h : tyOf P t = some i) (w : World) : (sizeOf t).run P w = .ok i.size w := by
  obtain ⟨f, z, d, h1, h2, h3, h4, h5, h6, h7⟩ := tyOf_info h
  simp [sizeOf, typeInfo, h1, h3]

theorem zeroValue_of {P : Program} {t : TypeId} {i : TyI} (h : tyOf P t = some i) (w : World) : ∃ z, (zeroValue t).run P w = .ok z w ∧ z.cells.toList = i.zero := by
  obtain ⟨f, z, d, h1, h2, h3, h4, h5, h6, h7⟩ := tyOf_info h
  exact ⟨z, by simp [zeroValue, typeInfo, h1, h5], h6⟩

/-! ### the world's steps -/
/-- w' is w with one block more -/
structure New (w : World) (b : Nat) (o : Obj) (w' : World) : Prop where
  hb : b = w.heap.size
  ext : Below w.heap.size w w'
  at_ : w'.heap[b]? = some o
  size : w'.heap.size = w.heap.size + 1

/-- w' is w with another thing in block b -/
structure Upd (w : World) (b : Nat) (o : Obj) (w' : World) : Prop where
  lt : b < w.heap.size
  at_ : w'.heap[b]? = some o
  rest : ∀ k, k ≠ b → w'.heap[k]? = w.heap[k]?
  size : w'.heap.size = w.heap.size
  os : w'.os = w.os
  tape : w'.tape = w.tape
  output : w'.output = w.output

theorem New.mk' (w : World) (o : Obj) : New w w.heap.size o (w.alloc o) :=
  ⟨rfl, (Below.refl _ _).alloc (Nat.le_refl _) _, by show (w.heap.push o)[w.heap.size]? = _; simp, by simp⟩

theorem Upd.below {w w' : World} {b : Nat} {o : Obj} (h : Upd w b o w') {B : Nat} (hB : B ≤ b) : Below B w w' :=
  ⟨h.os, h.tape, h.output, Nat.le_of_eq h.size.symm, fun k hk => h.rest k (by omega)⟩

abbrev KV := Value → World → Prop

/-! ### atoms -/
def Br (b : Bool) (X Y : Prop) : Prop := (b = true → X) ∧ (b = false → Y)
theorem Z0o (X Y : Prop) : Br true X Y = X := by simp [Br]
theorem Z0p (X Y : Prop) : Br false X Y = Y := by simp [Br]
theorem Br.of {b : Bool} {X Y : Prop} (h1 : b = true → X) (h2 : b = false → Y) : Br b X Y := ⟨h1, h2⟩
theorem Br.yes {b : Bool} {X Y : Prop} (h : b = true) (h1 : X) : Br b X Y := by subst h; rw [Z0o]; exact h1
theorem Br.no {b : Bool} {X Y : Prop} (h : b = false) (h1 : Y) : Br b X Y := by subst h; rw [Z0p]; exact h1

def AllocA (w : World) (o : Obj) (K : Nat → World → Prop) : Prop := ∀ b w', New w b o w' → K b w'
def LdInt (w : World) (p : Addr) (k : IntKind) (K : Int → Prop) : Prop := ∃ x, w.cell? p = some (.int k x) ∧ K x
def LdBool (w : World) (p : Addr) (K : Bool → Prop) : Prop := ∃ x, w.cell? p = some (.bool x) ∧ K x
def LdStr (w : World) (p : Addr) (K : ByteArray → Prop) : Prop := ∃ x, w.cell? p = some (.string x) ∧ K x
def LdSl (w : World) (p : Addr) (K : Option Addr → Nat → Nat → Prop) : Prop := ∃ a n c, w.cell? p = some (.slice a n c) ∧ K a n c
def LdPtr (w : World) (p : Addr) (K : Option Addr → Prop) : Prop := ∃ a, w.cell? p = some (.pointer a) ∧ K a
def LdMap (w : World) (p : Addr) (K : Option Nat → Prop) : Prop := ∃ a, w.cell? p = some (.map a) ∧ K a
def LdAny (w : World) (p : Addr) (K : Value → Prop) : Prop := ∃ a, w.cell? p = some a ∧ K a
def LdAgg (w : World) (p : Addr) (n : Nat) (K : List Value → Prop) : Prop := ∃ vs : List Value, vs.length = n ∧ (∀ j v, vs[j]? = some v → w.cell? (p.add j) = some v) ∧ K vs
def StA (w : World) (p : Addr) (vs : List Value) (K : World → Prop) : Prop :=
  p.spot = none ∧ ∃ cur e, w.heap[p.block]? = some (.cells cur e (0, 0)) ∧ p.off + vs.length ≤ cur.size ∧ (∀ v ∈ vs, v.oneCell' = true) ∧
    ∀ w', Upd w p.block (.cells (cur.toList.take p.off ++ vs ++ cur.toList.drop (p.off + vs.length)).toArray e (0, 0)) w' → K w'
def IxA (sz : Nat) (v : Value) (i : Int) (K : Nat → Nat → Prop) : Prop :=
  ∃ b o n c, v = .slice (some ⟨b, o, none⟩) n c ∧ 0 ≤ i ∧ i < n ∧ K b (o + i.toNat * sz)
def CallA (P : Program) (f : FuncId) (args : Array Value) (w : World) (K : KV) : Prop :=
  Calls P f args w fun e w' => match e with | .returned v => K v w' | _ => False

/-! ### what nobody turns: the blocks of deferred calls -/
def KeepD (w w' : World) : Prop := w.heap.size ≤ w'.heap.size ∧ (∀ (b : Nat) (x : Option (List Deferred)), w.heap[b]? = some (Obj.deferred x) → w'.heap[b]? = some (Obj.deferred x)) ∧
  ∀ (b : Nat) (r : Loop), w.heap[b]? = some (Obj.loop r) → ∃ r', w'.heap[b]? = some (Obj.loop r')
theorem KeepD.refl (w : World) : KeepD w w := ⟨Nat.le_refl _, fun _ _ h => h, fun _ r h => ⟨r, h⟩⟩
theorem KeepD.trans {a b c : World} (h : KeepD a b) (h' : KeepD b c) : KeepD a c := ⟨Nat.le_trans h.1 h'.1, fun k x hk => h'.2.1 k x (h.2.1 k x hk), fun k r hk => by obtain ⟨r', h1⟩ := h.2.2 k r hk; exact h'.2.2 k r' h1⟩
theorem KeepD.below {w w' : World} (h : Below w.heap.size w w') : KeepD w w' := ⟨h.size, fun b x hb => by rw [h.block b (Array.getElem?_eq_some_iff.1 hb).1]; exact hb, fun b r hb => ⟨r, by rw [h.block b (Array.getElem?_eq_some_iff.1 hb).1]; exact hb⟩⟩
theorem KeepD.alloc (w : World) (o : Obj) : KeepD w (w.alloc o) := KeepD.below ((Below.refl _ _).alloc (Nat.le_refl _) _)
theorem KeepD.upd {w w' : World} {b : Nat} {o : Obj} {cs : Array Value} {e : TypeId} {f : Nat × Nat} (h : w.heap[b]? = some (.cells cs e f)) (u : Upd w b o w') : KeepD w w' :=
  ⟨Nat.le_of_eq u.size.symm, fun k x hk => by
    by_cases e : k = b
    · subst e; rw [h] at hk; cases hk
    · rw [u.rest k e]; exact hk, fun k x hk => by
    by_cases e : k = b
    · subst e; rw [h] at hk; cases hk
    · exact ⟨x, by rw [u.rest k e]; exact hk⟩⟩
theorem KeepD.grown {w w' : World} {row : Option Nat} (h : w.grownBy w' row) (hr : ∀ b, row = some b → ∃ o, w.heap[b]? = some o ∧ ∀ x, o ≠ .deferred x ∧ ∀ r, o ≠ .loop r) : KeepD w w' :=
  ⟨h.size, fun k x hk => by
    rw [h.block k (Array.getElem?_eq_some_iff.1 hk).1 (fun e => by obtain ⟨o, ho, hn⟩ := hr k e.symm; rw [hk] at ho; cases ho; exact (hn x).1 rfl)]; exact hk, fun k x hk => ⟨x, by
    rw [h.block k (Array.getElem?_eq_some_iff.1 hk).1 (fun e => by obtain ⟨o, ho, hn⟩ := hr k e.symm; rw [hk] at ho; cases ho; exact (hn none).2 x rfl)]; exact hk⟩⟩

/-- the fence that lets all in: of plain frames, or of a round's -/
def Wd (r : Option Nat) : Fence := { Fence.wide with round := r }
theorem callsIn_Wd {r : Option Nat} {n : Nat} {P : Program} {f : FuncId} {args : Array Value} {w : World} {R : Ending → World → Prop} : CallsIn (Wd r) n P f args w R ↔ Calls P f args w R := callsIn_wide (n := n)
theorem rowsIn_Wd {r : Option Nat} {n : Nat} {P : Program} {row : String} {args : Array Value} {w : World} {R : Value → World → Prop} (h : Rows P row args w R) : RowsIn (Wd r) n P row args w R :=
  fun c cs _ => let ⟨v, w', q, s⟩ := h c cs; ⟨v, w', q, stepsIn_wide.2 s⟩
theorem roundIn_Wd {r : Option Nat} {P : Program} {l : Nat} {f : FuncId} {tmps : Array Value} {asg body : Code} {w : World} {R : Ending → World → Prop} {n m : Nat} (h : RoundIn Fence.wide n P l f tmps asg body w R) : RoundIn (Wd r) m P l f tmps asg body w R :=
  ⟨trivial, fun c cs _ => h.2 c cs (room_wide _)⟩

/-! ### one operation, as the model runs it -/
def retK (K : KV) : Ending → World → Prop
  | .returned v, w' => K v w'
  | _, _ => False
theorem retK_mono {K K' : KV} (h : ∀ v w, K v w → K' v w) : ∀ e w, retK K e w → retK K' e w := fun e w he => by cases e <;> first | exact h _ _ he | exact he
def OpV0 (P : Program) (op : Op) (rt : TypeId) (ρ : Operand → Value) (w : World) (K : KV) : Prop :=
  match (execOp ρ ⟨none, op, rt, "", #[], none⟩).run P w with
  | .ok (.value v) w' => K v w'
  | .ok .skip w' => K undef w'
  | .ok (.enter f args) w' => CallA P f args w' K
  | .ok (.row r args) w' => Rows P r args w' K
  | .ok (.round l f tmps asg body) w' => RoundIn Fence.wide 0 P l f tmps asg body w' (retK K)
  | _ => False
def OpV (P : Program) (op : Op) (rt : TypeId) (ρ : Operand → Value) (w : World) (K : KV) : Prop := OpV0 P op rt ρ w fun v w' => KeepD w w' ∧ K v w'

theorem OpV.value {P : Program} {op : Op} {rt : TypeId} {ρ : Operand → Value} {w w' : World} {K : KV} {v : Value}
    (h : (execOp ρ ⟨none, op, rt, "", #[], none⟩).run P w = .ok (.value v) w') (hk : K v w') (hd : KeepD w w' := by exact KeepD.refl _) : OpV P op rt ρ w K := by
  unfold OpV OpV0; rw [h]; exact ⟨hd, hk⟩
theorem OpV.skip {P : Program} {op : Op} {rt : TypeId} {ρ : Operand → Value} {w w' : World} {K : KV}
    (h : (execOp ρ ⟨none, op, rt, "", #[], none⟩).run P w = .ok .skip w') (hk : K undef w') (hd : KeepD w w') : OpV P op rt ρ w K := by
  unfold OpV OpV0; rw [h]; exact ⟨hd, hk⟩

theorem CallA.mono {P : Program} {f : FuncId} {args : Array Value} {w : World} {K K' : KV} (h : ∀ v w, K v w → K' v w) (hc : CallA P f args w K) : CallA P f args w K' :=
  Calls.mono hc fun e w' he => by cases e <;> first | exact h _ _ he | exact he

theorem OpV0.mono {P : Program} {op : Op} {rt : TypeId} {ρ : Operand → Value} {w : World} {K K' : KV} (h : ∀ v w, K v w → K' v w) (hc : OpV0 P op rt ρ w K) : OpV0 P op rt ρ w K' := by
  unfold OpV0 at *
  split <;> rename_i hr <;> simp only [hr] at hc
  · exact h _ _ hc
  · exact h _ _ hc
  · exact hc.mono h
  · exact Rows.mono hc h
  · exact RoundIn.mono hc (retK_mono h)
theorem OpV.mono {P : Program} {op : Op} {rt : TypeId} {ρ : Operand → Value} {w : World} {K K' : KV} (h : ∀ v w, K v w → K' v w) (hc : OpV P op rt ρ w K) : OpV P op rt ρ w K' :=
  OpV0.mono (fun v w hv => ⟨hv.1, h v w hv.2⟩) hc

theorem OpV0.nodefer {P : Program} {op : Op} {rt : TypeId} {ρ : Operand → Value} {w : World} {K : KV} (h : OpV0 P op rt ρ w K) (c : Call) : op ≠ .defer c := by
  rintro rfl
  unfold OpV0 at h
  have : execOp ρ ⟨none, .defer c, rt, "", #[], none⟩ = (do pure (.defer (← resolve ρ c rt)) : Sem Next) := rfl
  rw [this, Sem.run_bind] at h
  cases hr : (resolve ρ c rt).run P w with
  | ok d w' => rw [hr] at h; exact h
  | halt x w' => rw [hr] at h; exact h

theorem OpV0.wpIn {P : Program} {r : Option Nat} {o : Oper} {a : Act} {w : World} {next : Act → World → Prop} {Q : Exit → Act → World → Prop}
    (h : OpV0 P o.op o.type a.eval w fun v w' => next (a.put o.dst v) w') : o.wpIn (Wd r) 0 P a w next Q := by
  refine ⟨fun _ _ => trivial, ?_⟩
  rw [Oper.semAt_eq _ _ _ h.nodefer]
  unfold OpV0 at h
  have he : execOp a.eval o = execOp a.eval ⟨none, o.op, o.type, "", #[], none⟩ := rfl
  rw [he]
  revert h
  cases (execOp a.eval ⟨none, o.op, o.type, "", #[], none⟩).run P w with
  | ok n w' =>
    intro h
    cases n with
    | value v => exact h
    | skip => exact h
    | enter f args =>
      refine ⟨(fun hd => by cases hd), callsIn_Wd.2 (Calls.mono h ?_)⟩
      intro e w'' he
      cases e with
      | returned v => exact he
      | panicked c => exact he.elim
      | outgrown => exact he.elim
    | row row args => exact ⟨(fun hd => by cases hd), rowsIn_Wd h⟩
    | round l f tmps asg body =>
      refine ⟨(fun hd => by cases hd), roundIn_Wd (RoundIn.mono h ?_)⟩
      intro e w'' he
      cases e with
      | returned v => exact he
      | panicked c => exact he.elim
      | outgrown => exact he.elim
    | _ => exact h.elim
  | halt x w' => intro h; exact h.elim

end Go.Proofs.YtdpfafgecchafaaDoor.Sx

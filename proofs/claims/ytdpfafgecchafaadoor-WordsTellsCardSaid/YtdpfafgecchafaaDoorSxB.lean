/- Sx, part B: what the operations come to, and that the model runs them so. -/
import Derived.Test.YtdpfafgecchafaaDoorSxA
import Derived.WalkSpells
import Derived.Lib.Builder
set_option linter.unusedVariables false
set_option linter.unusedSimpArgs false
namespace Go.Proofs.YtdpfafgecchafaaDoor.Sx
open Go Go.RowKit

/-! ### values -/
def Z3r : Value → List Value
  | .agg cs => cs.toList
  | v => [v]
theorem cellsL_eq (v : Value) : (Z3r v).toArray = v.cells := by cases v <;> simp [Z3r, Value.cells]
theorem cellsL_len (v : Value) : (Z3r v).length = v.cells.size := by rw [← cellsL_eq]; simp
theorem cellsL_list (v : Value) : v.cells.toList = Z3r v := by rw [← cellsL_eq]

def bitI (op : BinOp) (k : IntKind) (a b : Int) : Int :=
  match op with
  | .and => k.wrap ((BitVec.ofInt k.bits a &&& BitVec.ofInt k.bits b).toNat : Int)
  | .or => k.wrap ((BitVec.ofInt k.bits a ||| BitVec.ofInt k.bits b).toNat : Int)
  | .xor => k.wrap ((BitVec.ofInt k.bits a ^^^ BitVec.ofInt k.bits b).toNat : Int)
  | _ => k.wrap ((BitVec.ofInt k.bits a &&& ~~~ BitVec.ofInt k.bits b).toNat : Int)
def strEq (a b : ByteArray) : Bool := a.toList == b.toList
def strLt (a b : ByteArray) : Bool := Op.bytesLess a.toList b.toList

def Z37 (op : BinOp) (k : IntKind) (a : Int) (k' : IntKind) (b : Int) (K : Value → Prop) : Prop :=
  match op with
  | .add => k = k' ∧ K (.int k (k.wrap (a + b)))
  | .sub => k = k' ∧ K (.int k (k.wrap (a - b)))
  | .mul => k = k' ∧ K (.int k (k.wrap (a * b)))
  | .quo => k = k' ∧ b ≠ 0 ∧ K (.int k (k.wrap (a.tdiv b)))
  | .rem => k = k' ∧ b ≠ 0 ∧ K (.int k (a.tmod b))
  | .and => k = k' ∧ K (.int k (bitI .and k a b))
  | .or => k = k' ∧ K (.int k (bitI .or k a b))
  | .xor => k = k' ∧ K (.int k (bitI .xor k a b))
  | .andNot => k = k' ∧ K (.int k (bitI .andNot k a b))
  | .shl => 0 ≤ b ∧ K (.int k (k.wrap (a * 2 ^ (min b.toNat k.bits))))
  | .shr => 0 ≤ b ∧ K (.int k (a.fdiv (2 ^ (min b.toNat k.bits))))
  | .eql => k = k' ∧ K (.bool (a == b))
  | .neq => k = k' ∧ K (.bool (a != b))
  | .lss => k = k' ∧ K (.bool (decide (a < b)))
  | .leq => k = k' ∧ K (.bool (decide (a ≤ b)))
  | .gtr => k = k' ∧ K (.bool (decide (b < a)))
  | .geq => k = k' ∧ K (.bool (decide (b ≤ a)))

def Z38 (op : BinOp) (a b : ByteArray) (K : Value → Prop) : Prop :=
  match op with
  | .add => (((a.size + b.size : Nat) : Int) ≤ 9223372036854775807) ∧ K (.string (a ++ b))
  | .eql => K (.bool (strEq a b))
  | .neq => K (.bool (!strEq a b))
  | .lss => K (.bool (strLt a b))
  | .leq => K (.bool (strLt a b || strEq a b))
  | .gtr => K (.bool (!(strLt a b || strEq a b)))
  | .geq => K (.bool (!strLt a b))
  | _ => False

def binA (C : Ctx) (op : BinOp) (t : TypeId) (x y : Value) (K : Value → Prop) : Prop :=
  match x with
  | .int k a => match y with
    | .int k' b => Z37 op k a k' b K
    | _ => False
  | .string a => match y with
    | .string b => Z38 op a b K
    | _ => False
  | .bool a => match y with
    | .bool b => match C.ty t with
      | some ⟨_, _, _, .bool⟩ => match op with
        | .eql => K (.bool (a == b))
        | .neq => K (.bool (!(a == b)))
        | _ => False
      | _ => False
    | _ => False
  | .slice p n c => match y with
    | .slice none _ _ => match C.ty t with
      | some ⟨_, _, _, .slice _⟩ => match op with
        | .eql => K (.bool p.isNone)
        | .neq => K (.bool (!p.isNone))
        | _ => False
      | _ => False
    | _ => False
  | .pointer p => match y with
    | .pointer none => match C.ty t with
      | some ⟨_, _, _, .pointer _⟩ => match op with
        | .eql => K (.bool p.isNone)
        | .neq => K (.bool (!p.isNone))
        | _ => False
      | _ => False
    | .pointer (some q) => match C.ty t with
      | some ⟨_, _, _, .pointer e⟩ => match C.ty e with
        | some _ => match op with
          | .eql => p = some q ∧ K (.bool true)
          | .neq => p = some q ∧ K (.bool false)
          | _ => False
        | _ => False
      | _ => False
    | _ => False
  | .func _ _ _ => match y with
    | .nilFunc => match C.ty t with
      | some ⟨_, _, _, .func⟩ => match op with
        | .eql => K (.bool false)
        | .neq => K (.bool true)
        | _ => False
      | _ => False
    | _ => False
  | _ => False

def unA (op : UnOp) (x : Value) (K : Value → Prop) : Prop :=
  match x with
  | .int k n => match op with
    | .neg => K (.int k (k.wrap (0 - n)))
    | .xor => K (.int k (bitI .xor k (if k.signed then -1 else k.max) n))
    | _ => False
  | .bool b => match op with
    | .not => K (.bool !b)
    | _ => False
  | _ => False

def Z39 (c a b : Value) (w : World) (K : KV) : Prop :=
  match c with
  | .bool t => Br t (K a w) (K b w)
  | _ => False

def Z3a (C : Ctx) (e : TypeId) (w : World) (K : KV) : Prop :=
  match C.ty e with
  | some i => AllocA w (.cells i.zero.toArray e) fun b w' => K (.pointer (some ⟨b, 0, none⟩)) w'
  | none => False

def Z3b (C : Ctx) (t : TypeId) (x : Value) (w : World) (K : Value → Prop) : Prop :=
  match x with
  | .pointer (some p) => match C.ty t with
    | some i => match i.und with
      | .int k => LdInt w p k fun x => K (.int k x)
      | .bool => LdBool w p fun x => K (.bool x)
      | .string => LdStr w p fun x => K (.string x)
      | .slice _ => LdSl w p fun a n c => K (.slice a n c)
      | .pointer _ => LdPtr w p fun a => K (.pointer a)
      | .map _ _ => LdMap w p fun a => K (.map a)
      | .struct _ => LdAgg w p i.size fun vs => K (.agg vs.toArray)
      | .array _ _ => LdAgg w p i.size fun vs => K (.agg vs.toArray)
      | _ => LdAny w p fun v => K v
    | none => False
  | _ => False

def Z3c (C : Ctx) (t : TypeId) (x v : Value) (w : World) (K : KV) : Prop :=
  match x with
  | .pointer (some p) => match C.ty t with
    | some i => (Z3r v).length = i.size ∧ StA w p (Z3r v) fun w' => K undef w'
    | none => False
  | _ => False

def nth? : List (Nat × Nat) → Nat → Option (Nat × Nat)
  | [], _ => none
  | x :: _, 0 => some x
  | _ :: l, n + 1 => nth? l n
theorem nth?_eq (l : List (Nat × Nat)) (i : Nat) : nth? l i = l[i]? := by
  induction l generalizing i with
  | nil => simp [nth?]
  | cons x l ih => cases i <;> simp [nth?, ih]

def Z3d (C : Ctx) (t : TypeId) (x : Value) (f : Nat) (w : World) (K : KV) : Prop :=
  match C.ty t with
  | some ⟨_, _, _, .struct fs⟩ => match nth? fs f with
    | some (off, size) => size ≠ 0 ∧ match x with
      | .pointer (some p) => K (.pointer (some (p.add off))) w
      | _ => False
    | none => False
  | _ => False

def Z3e (C : Ctx) (t : TypeId) (x i : Value) (w : World) (K : KV) : Prop :=
  match i with
  | .int _ n => match C.ty t with
    | some ⟨_, _, _, .slice e⟩ => match C.ty e with
      | some ei => IxA ei.size x n fun b o => K (.pointer (some ⟨b, o, none⟩)) w
      | none => False
    | some ⟨_, _, _, .array len e⟩ => match C.ty e with
      | some ei => match x with
        | .pointer (some p) => (0 ≤ n ∧ n < len) ∧ K (.pointer (some (p.add (n.toNat * ei.size)))) w
        | _ => False
      | none => False
    | _ => False
  | _ => False

def Z3f (x : Value) (i : Nat) (K : Value → Prop) : Prop :=
  match x with
  | .tuple vs => match vs.toList[i]? with
    | some v => K v
    | none => False
  | _ => False

/-- bounds of x[lo:hi:mx] -/
def Z3g (c : Nat) : Option Value → (Nat → Prop) → Prop
  | none, K => K c
  | some (.int _ m), K => (0 ≤ m ∧ m ≤ (c : Int)) ∧ K m.toNat
  | _, _ => False
def slHi (n m : Nat) : Option Value → (Nat → Prop) → Prop
  | none, K => K n
  | some (.int _ h), K => (0 ≤ h ∧ h ≤ (m : Int)) ∧ K h.toNat
  | _, _ => False
def slLo (h : Nat) : Option Value → (Nat → Prop) → Prop
  | none, K => K 0
  | some (.int _ l), K => (0 ≤ l ∧ l ≤ (h : Int)) ∧ K l.toNat
  | _, _ => False

def Z3h (C : Ctx) (t : TypeId) (x : Value) (lo hi mx : Option Value) (K : Value → Prop) : Prop :=
  match C.ty t with
  | some ⟨_, _, _, .slice e⟩ => match C.ty e with
    | some ei => match x with
      | .slice p n c => (mx = none ∨ hi.isSome = true) ∧ Z3g c mx fun m => slHi n m hi fun h => slLo h lo fun l => K (.slice (if m = l then p else p.map (·.add (l * ei.size))) (h - l) (m - l))
      | _ => False
    | none => False
  | some ⟨_, _, _, .string⟩ => match x with
    | .string s => mx = none ∧ slHi s.size s.size hi fun h => slLo h lo fun l => K (.string (s.extract l h))
    | _ => False
  | _ => False

/-- a list with other things from a place on -/
def putN : List Value → Nat → List Value → List Value
  | z, _, [] => z
  | z, o, v :: r => putN (put z o v) (o + 1) r
def Z3i (place : Nat → Option (Nat × Nat)) : List Value → List (Nat × Value) → (List Value → Prop) → Prop
  | z, [], K => K z
  | z, (i, v) :: r, K => match place i with
    | none => False
    | some (off, size) => ((Z3r v).length = size ∧ off + size ≤ z.length) ∧ Z3i place (putN z off (Z3r v)) r K
def repL : Nat → List Value → List Value
  | 0, _ => []
  | n + 1, z => z ++ repL n z

def Z3j (C : Ctx) (t : TypeId) (parts : List (Nat × Value)) (K : Value → Prop) : Prop :=
  match C.ty t with
  | some i => match i.und with
    | .struct fs => fs.all (fun x => x.2 != 0) = true ∧ Z3i (nth? fs) i.zero parts fun cs => K (.agg cs.toArray)
    | .array _ e => match C.ty e with
      | some ei => Z3i (fun j => some (j * ei.size, ei.size)) i.zero parts fun cs => K (.agg cs.toArray)
      | none => False
    | _ => False
  | none => False

def Z3k (C : Ctx) (t : TypeId) (len : Nat) (parts : List (Nat × Value)) (w : World) (K : KV) : Prop :=
  match C.ty t with
  | some ⟨_, _, _, .slice e⟩ => match C.ty e with
    | some ei => (len * ei.size ≤ 16777216 ∧ ei.zero.length = ei.size) ∧ Z3i (fun j => some (j * ei.size, ei.size)) (repL len ei.zero) parts fun cs =>
        AllocA w (.cells cs.toArray e) fun b w' => K (.slice (some ⟨b, 0, none⟩) len len) w'
    | none => False
  | _ => False

def Z3l (C : Ctx) (s d : TypeId) (x : Value) (rest : Prop) (K : Value → Prop) : Prop :=
  match x with
  | .int _ n => match C.ty d with
    | some ⟨_, _, _, .int k⟩ => K (.int k (k.wrap n))
    | _ => rest
  | .string b => match C.ty d with
    | some ⟨_, _, _, .string⟩ => K (.string b)
    | _ => rest
  | _ => rest

/-- a byte of a string -/
def bt (s : ByteArray) (j : Nat) : Int := ((s.data.toList.getD j 0).toNat : Int)
def Z2g (C : Ctx) (t : TypeId) (x i : Value) (rest : Prop) (K : Value → Prop) : Prop :=
  match x with
  | .string s => match i with
    | .int _ n => match C.ty t with
      | some ⟨_, _, _, .string⟩ => (0 ≤ n ∧ n < s.size) ∧ K (.int .u8 (bt s n.toNat))
      | _ => rest
    | _ => rest
  | _ => rest

/-- the run of a builtin -/
def RunA (P : Program) (s : Sem Value) (w : World) (K : KV) : Prop :=
  match s.run P w with
  | .ok v w' => KeepD w w' ∧ K v w'
  | _ => False
def RunU (P : Program) (s : Sem Unit) (w : World) (K : KV) : Prop :=
  match s.run P w with
  | .ok _ w' => KeepD w w' ∧ K undef w'
  | _ => False

def lenA (C : Ctx) (t : TypeId) (x : Value) (rest : Prop) (K : Value → Prop) : Prop :=
  match C.ty t with
  | some ⟨_, _, _, .slice _⟩ => match x with
    | .slice _ n _ => K (.int .i64 n)
    | _ => False
  | some ⟨_, _, _, .string⟩ => match x with
    | .string s => K (.int .i64 s.size)
    | _ => False
  | some ⟨_, _, _, .array n _⟩ => K (.int .i64 n)
  | _ => rest
def capA (C : Ctx) (t : TypeId) (x : Value) (rest : Prop) (K : Value → Prop) : Prop :=
  match C.ty t with
  | some ⟨_, _, _, .slice _⟩ => match x with
    | .slice _ _ c => K (.int .i64 c)
    | _ => False
  | _ => rest
def maxA (x y : Value) (rest : Prop) (K : Value → Prop) : Prop :=
  match x with
  | .int k a => match y with
    | .int _ b => K (.int k (if b > a then b else a))
    | _ => False
  | _ => rest
def minA (x y : Value) (rest : Prop) (K : Value → Prop) : Prop :=
  match x with
  | .int k a => match y with
    | .int _ b => K (.int k (if b < a then b else a))
    | _ => False
  | _ => rest

def Z3m (C : Ctx) (b : Builtin) (ts : List TypeId) (rt : TypeId) (xs : List Value) (rest : Prop) (w : World) (K : KV) : Prop :=
  match b with
  | .len => match ts with
    | [t] => match xs with
      | [x] => lenA C t x rest fun v => K v w
      | _ => rest
    | _ => rest
  | .cap => match ts with
    | [t] => match xs with
      | [x] => capA C t x rest fun v => K v w
      | _ => rest
    | _ => rest
  | .max => match xs with
    | [x, y] => maxA x y rest fun v => K v w
    | _ => rest
  | .min => match xs with
    | [x, y] => minA x y rest fun v => K v w
    | _ => rest
  | .append => RunA C.P (Builtin.append_ ts.toArray rt xs.toArray) w K
  | .copy => RunA C.P (Builtin.copy_ ts.toArray rt xs.toArray) w K
  | _ => rest

/-- a function that has a body of Go -/
def Good (P : Program) (f : FuncId) : Prop := ∃ fn, P.funcs[f]? = some fn ∧ (fn.name == "runtime.NumGoroutine") = false ∧ fn.body.isNone = false
def CallG (P : Program) (f : FuncId) (args : Array Value) (w : World) (K : KV) : Prop :=
  (Good P f ∧ CallA P f args w fun v w' => KeepD w w' ∧ K v w') ∨ ∃ v w', (callFunc f args).run P w = .ok (.value v) w' ∧ KeepD w w' ∧ K v w'
/-- a round of a loop that ranges over a function -/
def YieldA (P : Program) (l : Nat) (args : Array Value) (w : World) (K : KV) : Prop :=
  ∃ f tmps asg body, (Instr.yield l args).run P w = .ok (.round l f tmps asg body) w ∧ RoundIn Fence.wide 0 P l f tmps asg body w (retK fun v w' => KeepD w w' ∧ K v w')
def Z3n (C : Ctx) (f : Value) (args : List Value) (w : World) (K : KV) : Prop :=
  match f with
  | .func fn first captured => match fn with
    | .func g => CallG C.P g (first ++ args.toArray ++ captured) w K
    | .yield l => YieldA C.P l (first ++ args.toArray) w K
    | _ => False
  | _ => False

def callOp (C : Ctx) (c : Call) (rt : TypeId) (ρ : Operand → Value) (rest : Prop) (w : World) (K : KV) : Prop :=
  match c.callee with
  | .builtin b => Z3m C b c.argTypes.toList rt (c.args.toList.map ρ) rest w K
  | .value f => Z3n C (ρ f) (c.args.toList.map ρ) w K
  | .invoke _ _ => rest

def nilA (x : Value) (w : World) (rest : Prop) (K : KV) : Prop :=
  match x with
  | .pointer (some p) => K (.pointer (some p)) w
  | .func fn a b => match fn with
    | .func _ => K (.func fn a b) w
    | _ => rest
  | _ => rest

def Z3o (C : Ctx) (t : TypeId) (x : Value) (K : Value → Prop) : Prop :=
  match C.ty t with
  | some i => match i.und with
    | .iface => False
    | _ => K (.iface t x)
  | none => False

def op1 (C : Ctx) (op : Op) (rt : TypeId) (ρ : Operand → Value) (w : World) (K : KV) : Prop :=
  match op with
  | .move x => K (ρ x) w
  | .assign x => K (ρ x) w
  | .pick c a b => Z39 (ρ c) (ρ a) (ρ b) w K
  | .alloc e => Z3a C e w K
  | .box e x => AllocA w (.cells (Z3r (ρ x)).toArray e) fun b w' => K (.pointer (some ⟨b, 0, none⟩)) w'
  | .build t ps => Z3j C t (ps.toList.map fun p => (p.1, ρ p.2)) fun v => K v w
  | .buildSlice t n ps => Z3k C t n (ps.toList.map fun p => (p.1, ρ p.2)) w K
  | .load t a => Z3b C t (ρ a) w fun v => K v w
  | .store t a x => Z3c C t (ρ a) (ρ x) w K
  | .nilCheck x => nilA (ρ x) w (OpV C.P op rt ρ w K) K
  | .binOp o t x y _ => binA C o t (ρ x) (ρ y) fun v => K v w
  | .unOp o _ x => unA o (ρ x) fun v => K v w
  | .convert s d x => match C.ty s with
    | some _ => Z3l C s d (ρ x) (RunA C.P (convert s d (ρ x)) w K) fun v => K v w
    | none => False
  | .makeFunc fn a b => K (.func fn (a.toList.map ρ).toArray (b.toList.map ρ).toArray) w
  | .makeInterface t x => Z3o C t (ρ x) fun v => K v w
  | .slice t x lo hi mx => Z3h C t (ρ x) (lo.map ρ) (hi.map ρ) (mx.map ρ) fun v => K v w
  | .fieldAddr t x f => Z3d C t (ρ x) f w K
  | .indexAddr t x i => Z3e C t (ρ x) (ρ i) w K
  | .extract x i => Z3f (ρ x) i fun v => K v w
  | .call c => callOp C c rt ρ (OpV C.P op rt ρ w K) w K
  | .index t x i => Z2g C t (ρ x) (ρ i) (RunA C.P (Instr.index t (ρ x) (ρ i)) w K) fun v => K v w
  | .field t x f => RunA C.P (Instr.field t (ρ x) f) w K
  | .lookup t x i ok => RunA C.P (Instr.lookup t (ρ x) (ρ i) ok) w K
  | .mapUpdate t m k x => RunU C.P (Instr.mapUpdate t (ρ m) (ρ k) (ρ x)) w K
  | .insert t m k x => RunU C.P (Instr.mapUpdate t (ρ m) (ρ k) (ρ x)) w K
  | .mapEntry t m k => RunA C.P (Instr.mapEntry t (ρ m) (ρ k)) w K
  | .entryStore t m s x => RunU C.P (Instr.entryStore t (ρ m) (ρ s) (ρ x)) w K
  | .makeMap t r => RunA C.P (Instr.makeMap t (r.map ρ)) w K
  | .makeSlice t l c => RunA C.P (Instr.makeSlice t (ρ l) (ρ c)) w K
  | .typeAssert x t a ok => RunA C.P (Instr.typeAssert (ρ x) t a ok) w K
  | .range t x => RunA C.P (Instr.range t (ρ x)) w K
  | .next it s => RunA C.P (Instr.next (ρ it) s rt) w K
  | .entry it => RunA C.P (Instr.entry (ρ it)) w K
  | op => OpV C.P op rt ρ w K

/-! ### the model runs them so -/
section
variable {C : Ctx} {ρ : Operand → Value} {w : World} {K : KV} {rt : TypeId}

theorem eqGuard_ok (P : Program) (op : BinOp) (t : TypeId) (x y : Operand) (a b : Value) (w : World) (h1 : ∀ cs, a ≠ .agg cs) (h2 : a ≠ .nilIface) : (eqGuard op t x y a b).run P w = .ok () w := by
  unfold eqGuard
  cases op <;> cases a <;> cases b <;> first | rfl | (exact absurd rfl (h1 _)) | (exact absurd rfl h2)

theorem run_eqIn_ptr_nil {P : Program} (w : World) (d : Nat) (t e : TypeId) (p : Option Addr) (h : P.underlying t = some (.pointer e)) : (Op.equalIn (d + 1) t (.pointer p) (.pointer none)).run P w = .ok p.isNone w := by
  cases p <;> simp [Op.equalIn, run_underlying h]
theorem run_eqIn_ptr_same {P : Program} (w : World) (d : Nat) {t e : TypeId} {j : TypeInfo} (a : Addr) (h : P.underlying t = some (.pointer e)) (hj : P.info? e = some j) : (Op.equalIn (d + 1) t (.pointer (some a)) (.pointer (some a))).run P w = .ok true w := by
  simp [Op.equalIn, run_underlying h, sizeOf, typeInfo, hj, run_sameAddr_same]
theorem run_eqIn_fn_nil {P : Program} (w : World) (d : Nat) (t : TypeId) (a b : Array TypeId) (c : Bool) (fn : Fn) (x y : Array Value) (h : P.underlying t = some (.func a b c)) : (Op.equalIn (d + 1) t (.func fn x y) .nilFunc).run P w = .ok false w := by
  simp [Op.equalIn, run_underlying h]
set_option maxHeartbeats 1000000 in
theorem bin_ok {op : BinOp} {t : TypeId} {x y : Operand} {yt : TypeId} {K : Value → Prop} (h : binA C op t (ρ x) (ρ y) K) :
    ∃ v, (∀ w, (execOp ρ ⟨none, .binOp op t x y yt, rt, "", #[], none⟩).run C.P w = .ok (.value v) w) ∧ K v := by
  have key : ∀ v, (∀ cs, ρ x ≠ .agg cs) → ρ x ≠ .nilIface → (∀ w, (binOp op t (ρ x) (ρ y)).run C.P w = .ok v w) → ∀ w, (execOp ρ ⟨none, .binOp op t x y yt, rt, "", #[], none⟩).run C.P w = .ok (.value v) w := by
    intro v h1 h2 hb w
    simp only [execOp, Sem.run_bind, eqGuard_ok C.P op t x y (ρ x) (ρ y) w h1 h2, Result.andThen_ok, hb, Sem.run_pure]
  generalize ρ x = a at *
  generalize ρ y = b at *
  unfold binA at h
  split at h
  · rename_i k n
    split at h
    · rename_i k' m
      unfold Z37 at h
      cases op <;> simp only at h <;> first
        | (obtain ⟨rfl, hk⟩ := h; exact ⟨_, key _ (by simp) (by simp) (fun w => by simp [binOp, Op.intArith, Op.intBits, Op.intCmp, bitI]), hk⟩)
        | (obtain ⟨rfl, hb, hk⟩ := h; exact ⟨_, key _ (by simp) (by simp) (fun w => by simp [binOp, Op.intDiv, hb]), hk⟩)
        | (obtain ⟨hb, hk⟩ := h; exact ⟨_, key _ (by simp) (by simp) (fun w => by simp [binOp, Op.shift, Int.not_lt.2 hb]), hk⟩)
    · exact h.elim
  · rename_i s
    split at h
    · rename_i s'
      unfold Z38 at h
      cases op <;> simp only at h <;> first
        | exact h.elim
        | (obtain ⟨hb, hk⟩ := h; exact ⟨_, key _ (by simp) (by simp) (fun w => by
            have hb' : ¬ (9223372036854775807 < ((s.size : Int) + (s'.size : Int))) := by omega
            simp [binOp, Op.stringOp, IntKind.max, IntKind.signed, IntKind.bits, hb']), hk⟩)
        | exact ⟨_, key _ (by simp) (by simp) (fun w => by simp [binOp, Op.stringOp, strEq, strLt]), h⟩
    · exact h.elim
  · rename_i p
    split at h
    · split at h
      · rename_i hty
        obtain ⟨f, z, d, h1, h2, h3, h4, h5, h6, h7⟩ := tyOf_info (C.ok _ _ hty)
        have hd := und_bool h2 h7
        subst hd
        cases op <;> simp only at h <;> first
          | exact h.elim
          | exact ⟨_, key _ (by simp) (by simp) (fun w => run_eql_bool w t _ _ h2), h⟩
          | exact ⟨_, key _ (by simp) (by simp) (fun w => run_neq_bool w t _ _ h2), h⟩
      · exact h.elim
    · exact h.elim
  · split at h
    · split at h
      · rename_i hty
        obtain ⟨f, z, d, h1, h2, h3, h4, h5, h6, h7⟩ := tyOf_info (C.ok _ _ hty)
        have hd := und_slice h2 h7
        subst hd
        cases op <;> simp only at h <;> first
          | exact h.elim
          | (refine ⟨_, key _ (by simp) (by simp) (fun w => ?_), h⟩
             simp only [binOp]
             simp [Op.equal, Op.maxDepth, Lib.run_equalIn_slice_nil w 9999 t _ _ _ _ _ _ h2])
      · exact h.elim
    · exact h.elim
  · split at h
    · split at h
      · rename_i hty
        obtain ⟨f, z, d, h1, h2, h3, h4, h5, h6, h7⟩ := tyOf_info (C.ok _ _ hty)
        have hd := und_pointer h2 h7
        subst hd
        cases op <;> simp only at h <;> first
          | exact h.elim
          | (refine ⟨_, key _ (by simp) (by simp) (fun w => ?_), h⟩
             simp only [binOp]
             simp [Op.equal, Op.maxDepth, run_eqIn_ptr_nil w 9999 t _ _ h2])
      · exact h.elim
    · split at h
      · rename_i hty
        split at h
        · rename_i hte
          obtain ⟨f, z, d, h1, h2, h3, h4, h5, h6, h7⟩ := tyOf_info (C.ok _ _ hty)
          obtain ⟨fe, ze, de, e1, _⟩ := tyOf_info (C.ok _ _ hte)
          have hd := und_pointer h2 h7
          subst hd
          cases op <;> simp only at h <;> first
            | exact h.elim
            | (obtain ⟨rfl, h⟩ := h
               refine ⟨_, key _ (by simp) (by simp) (fun w => ?_), h⟩
               simp only [binOp]
               simp [Op.equal, Op.maxDepth, run_eqIn_ptr_same w 9999 _ h2 e1])
        · exact h.elim
      · exact h.elim
    · exact h.elim
  · split at h
    · split at h
      · rename_i hty
        obtain ⟨f, z, d, h1, h2, h3, h4, h5, h6, h7⟩ := tyOf_info (C.ok _ _ hty)
        have hd : ∃ x y z, d = .func x y z := by
          simp only [undOf, h2] at h7; split at h7 <;> simp_all
        obtain ⟨x', y', z', rfl⟩ := hd
        cases op <;> simp only at h <;> first
          | exact h.elim
          | (refine ⟨_, key _ (by simp) (by simp) (fun w => ?_), h⟩
             simp only [binOp]
             simp [Op.equal, Op.maxDepth, run_eqIn_fn_nil w 9999 t _ _ _ _ _ _ h2])
      · exact h.elim
    · exact h.elim
  · exact h.elim

theorem un_ok {op : UnOp} {t : TypeId} {x : Operand} {K : Value → Prop} (h : unA op (ρ x) K) :
    ∃ v, (∀ w, (execOp ρ ⟨none, .unOp op t x, rt, "", #[], none⟩).run C.P w = .ok (.value v) w) ∧ K v := by
  generalize hx : ρ x = a at *
  unfold unA at h
  split at h
  · split at h
    · exact ⟨_, fun w => by simp [execOp, hx, Op.unary, Op.intArith], h⟩
    · exact ⟨_, fun w => by simp [execOp, hx, Op.unary, Op.intBits, bitI], h⟩
    · exact h.elim
  · split at h
    · exact ⟨_, fun w => by simp [execOp, hx, Op.unary], h⟩
    · exact h.elim
  · exact h.elim

theorem load_ok {t : TypeId} {x : Operand} {K : Value → Prop} (h : Z3b C t (ρ x) w K) :
    ∃ v, (∀ W, Below w.heap.size w W → (execOp ρ ⟨none, .load t x, rt, "", #[], none⟩).run C.P W = .ok (.value v) W) ∧ K v := by
  generalize hx : ρ x = a at *
  unfold Z3b at h
  split at h
  · rename_i p
    split at h
    · rename_i i hty
      have hag := isAgg_of (C.ok _ _ hty)
      have hsz := sizeOf_of (C.ok _ _ hty)
      have one : ∀ v, i.und.agg = false → w.cell? p = some v → ∀ W, Below w.heap.size w W → (execOp ρ ⟨none, .load t x, rt, "", #[], none⟩).run C.P W = .ok (.value v) W := by
        intro v h1 h2 W hW
        have h2 := cell_later hW h2
        simp [execOp, hx, Instr.loadAt, Instr.sureAddr, loadVar, hag, h1, h2]
      have many : ∀ vs : List Value, i.und.agg = true → vs.length = i.size → (∀ j v, vs[j]? = some v → w.cell? (p.add j) = some v) → ∀ W, Below w.heap.size w W → (execOp ρ ⟨none, .load t x, rt, "", #[], none⟩).run C.P W = .ok (.value (.agg vs.toArray)) W := by
        intro vs h1 h2 h3 W hW
        have := run_loadCells_list (P := C.P) W p vs (fun j v hj => cell_later hW (h3 j v hj))
        rw [h2] at this
        simp [execOp, hx, Instr.loadAt, Instr.sureAddr, loadVar, hag, h1, hsz, this]
      cases hu : i.und <;> simp only [hu] at h <;> first
        | (obtain ⟨v, h1, h2⟩ := h; exact ⟨_, one _ (by rw [hu]; rfl) h1, h2⟩)
        | (obtain ⟨v, n, c, h1, h2⟩ := h; exact ⟨_, one _ (by rw [hu]; rfl) h1, h2⟩)
        | (obtain ⟨vs, h1, h2, h3⟩ := h; exact ⟨_, many _ (by rw [hu]; rfl) h1 h2, h3⟩)
    · exact h.elim
  · exact h.elim

theorem new_alloc {o : Obj} {K : Nat → World → Prop} (h : AllocA w o K) : K w.heap.size (w.alloc o) := h _ _ (New.mk' w o)

theorem splice_len (l vs : List Value) (o : Nat) (h : o + vs.length ≤ l.length) : (l.take o ++ vs ++ l.drop (o + vs.length)).length = l.length := by
  simp only [List.length_append, List.length_take, List.length_drop]; omega

theorem run_storeAll (P : Program) (b o : Nat) (e : TypeId) (vs : List Value) (cur : Array Value) (w : World) (hb : w.heap[b]? = some (.cells cur e (0, 0))) (hl : o + vs.length ≤ cur.size) (h1 : ∀ v ∈ vs, v.oneCell' = true) :
    ∃ w', (storeCells ⟨b, o, none⟩ vs).run P w = .ok () w' ∧ Upd w b (.cells (cur.toList.take o ++ vs ++ cur.toList.drop (o + vs.length)).toArray e (0, 0)) w' := by
  have hst := run_storeCells_at P b o e vs 0 cur w hb (by simpa using hl) h1
  simp only [Nat.add_zero] at hst
  refine ⟨_, hst, (Array.getElem?_eq_some_iff.1 hb).1, setRow_heap w b cur _ e _ hb, fun k hk => setRow_other w b k _ hk, by simp [World.setRow], rfl, rfl, rfl⟩

theorem store_ok {t : TypeId} {x y : Operand} (h : Z3c C t (ρ x) (ρ y) w K) :
    ∃ w', (execOp ρ ⟨none, .store t x y, rt, "", #[], none⟩).run C.P w = .ok .skip w' ∧ KeepD w w' ∧ K undef w' := by
  generalize hx : ρ x = a at *
  generalize hy : ρ y = v at *
  unfold Z3c at h
  split at h
  · rename_i p
    split at h
    · rename_i i hty
      obtain ⟨h1, h2, cur, e, h3, h4, h5, h6⟩ := h
      obtain ⟨b, o, s⟩ := p
      simp only at h2 h3 h4 h6
      subst h2
      obtain ⟨w', hr, hu⟩ := run_storeAll C.P b o e (Z3r v) cur w h3 h4 h5
      refine ⟨w', ?_, KeepD.upd h3 hu, h6 w' hu⟩
      have hsz := sizeOf_of (C.ok _ _ hty) w
      have hc : v.cells.size = i.size := by rw [← cellsL_len]; exact h1
      simp [execOp, hx, hy, Instr.storeAt, Instr.sureAddr, storeVar, hsz, hc, cellsL_list, hr]
    · exact h.elim
  · exact h.elim

theorem alloc_ok {e : TypeId} (h : Z3a C e w K) : OpV C.P (.alloc e) rt ρ w K := by
  unfold Z3a at h
  split at h
  · rename_i i hty
    have hk := new_alloc h
    obtain ⟨z, hz, hzc⟩ := zeroValue_of (C.ok _ _ hty) w
    refine OpV.value (v := .pointer (some ⟨w.heap.size, 0, none⟩)) (w' := w.alloc (.cells i.zero.toArray e)) ?_ hk (KeepD.alloc _ _)
    have : z.cells = i.zero.toArray := by rw [← hzc]
    simp [execOp, Instr.alloc, hz, newVar, newRow, this]
  · exact h.elim

theorem box_ok {e : TypeId} {x : Operand} (h : AllocA w (.cells (Z3r (ρ x)).toArray e) fun b w' => K (.pointer (some ⟨b, 0, none⟩)) w') : OpV C.P (.box e x) rt ρ w K := by
  have hk := new_alloc h
  refine OpV.value (v := .pointer (some ⟨w.heap.size, 0, none⟩)) (w' := w.alloc (.cells (Z3r (ρ x)).toArray e)) ?_ hk (KeepD.alloc _ _)
  simp [execOp, Instr.box, newVar, newRow, cellsL_eq]

theorem fieldAddr_ok {t : TypeId} {x : Operand} {f : Nat} (h : Z3d C t (ρ x) f w K) : OpV C.P (.fieldAddr t x f) rt ρ w K := by
  unfold Z3d at h
  split at h
  · rename_i sz by_ z fs hty
    split at h
    · rename_i off size hn
      obtain ⟨h0, h⟩ := h
      generalize hx : ρ x = a at *
      split at h
      · rename_i p
        refine OpV.value (v := .pointer (some (p.add off))) (w' := w) ?_ h
        obtain ⟨fi, zz, d, h1, h2, h3, h4, h5, h6, h7⟩ := tyOf_info (C.ok _ _ hty)
        obtain ⟨ff, rfl, hff⟩ := und_struct h2 h7
        rw [nth?_eq, ← hff, List.getElem?_map] at hn
        cases hf : ff.toList[f]? with
        | none => rw [hf] at hn; simp at hn
        | some fd =>
          rw [hf] at hn
          simp only [Option.map_some, Option.some.injEq, Prod.mk.injEq] at hn
          have hfa : ff[f]? = some fd := by simpa using hf
          have hsz : ∃ i, C.P.info? fd.type = some i ∧ i.size = size := by
            have := hn.2
            unfold Program.cellsOf at this
            cases hi : C.P.info? fd.type with
            | none => rw [hi] at this; simp at this; omega
            | some i => rw [hi] at this; exact ⟨i, rfl, by simpa using this⟩
          obtain ⟨i, hi, his⟩ := hsz
          have hs : (sizeOf fd.type).run C.P w = .ok size w := by simp [sizeOf, typeInfo, hi, his]
          simp [execOp, hx, Instr.fieldAt, run_underlying h2, hfa, Instr.sureAddr, fieldPlace, hs, h0, hn.1]
      · exact h.elim
    · exact h.elim
  · exact h.elim

theorem indexAddr_ok {t : TypeId} {x y : Operand} (h : Z3e C t (ρ x) (ρ y) w K) : OpV C.P (.indexAddr t x y) rt ρ w K := by
  unfold Z3e at h
  generalize hx : ρ x = a at *
  generalize hy : ρ y = b at *
  split at h
  · rename_i k n
    split at h
    · rename_i sz by_ z e hty
      split at h
      · rename_i ei hte
        obtain ⟨bb, o, len, c, rfl, h0, h1, hk⟩ := h
        obtain ⟨fi, zz, d, g1, g2, g3, g4, g5, g6, g7⟩ := tyOf_info (C.ok _ _ hty)
        have hd := und_slice g2 g7
        subst hd
        have hs := sizeOf_of (C.ok _ _ hte) w
        refine OpV.value (v := .pointer (some ⟨bb, o + n.toNat * ei.size, none⟩)) (w' := w) ?_ hk
        simp [execOp, hx, hy, Instr.indexAt, asIntOf, run_underlying g2, h0, h1, hs, Addr.add_lit]
      · exact h.elim
    · rename_i sz by_ z len e hty
      split at h
      · rename_i ei hte
        split at h
        · rename_i p
          obtain ⟨⟨h0, h1⟩, hk⟩ := h
          obtain ⟨fi, zz, d, g1, g2, g3, g4, g5, g6, g7⟩ := tyOf_info (C.ok _ _ hty)
          have hd := und_array g2 g7
          subst hd
          have hs := sizeOf_of (C.ok _ _ hte) w
          refine OpV.value (v := .pointer (some (p.add (n.toNat * ei.size)))) (w' := w) ?_ hk
          simp [execOp, hx, hy, Instr.indexAt, asIntOf, run_underlying g2, h0, h1, hs, Instr.sureAddr]
        · exact h.elim
      · exact h.elim
    · exact h.elim
  · exact h.elim

theorem extract_ok {x : Operand} {i : Nat} {K : Value → Prop} (h : Z3f (ρ x) i K) : OpV C.P (.extract x i) rt ρ w fun v _ => K v := by
  unfold Z3f at h
  generalize hx : ρ x = a at *
  split at h
  · rename_i vs
    split at h
    · rename_i v hv
      refine OpV.value (v := v) (w' := w) ?_ h
      have : vs[i]? = some v := by simpa using hv
      simp [execOp, hx, Instr.extract, this]
    · exact h.elim
  · exact h.elim

theorem extract_val {x : Operand} {i : Nat} (h : Z3f (ρ x) i fun v => K v w) : OpV C.P (.extract x i) rt ρ w K := by
  unfold Z3f at h
  generalize hx : ρ x = a at *
  split at h
  · rename_i vs
    split at h
    · rename_i v hv
      refine OpV.value (v := v) (w' := w) ?_ h
      have : vs[i]? = some v := by simpa using hv
      simp [execOp, hx, Instr.extract, this]
    · exact h.elim
  · exact h.elim

theorem slice_ok {t : TypeId} {x : Operand} {lo hi mx : Option Operand} {K : Value → Prop} (h : Z3h C t (ρ x) (lo.map ρ) (hi.map ρ) (mx.map ρ) K) :
    ∃ v, (∀ w, (execOp ρ ⟨none, .slice t x lo hi mx, rt, "", #[], none⟩).run C.P w = .ok (.value v) w) ∧ K v := by
  unfold Z3h at h
  generalize hx : ρ x = a at *
  have hex : ∀ v, (∀ w, (Instr.sliceAt t (ρ x) (lo.map ρ) (hi.map ρ) (mx.map ρ)).run C.P w = .ok v w) → ∀ w, (execOp ρ ⟨none, .slice t x lo hi mx, rt, "", #[], none⟩).run C.P w = .ok (.value v) w := by
    intro v hv w; simp [execOp, hv]
  rw [hx] at hex
  generalize hlo : lo.map ρ = L at *
  generalize hhi : hi.map ρ = H at *
  generalize hmx : mx.map ρ = M at *
  have bnd : ∀ (k : IntKind) (i : Int) (y : Nat) (c : BoundsCode), 0 ≤ i → i ≤ (y : Int) → ∀ w, (Instr.sliceBound (.int k i) y c).run C.P w = .ok i.toNat w := by
    intro k i y c h0 h1 w
    simp [Instr.sliceBound, asIntOf, h0, h1]
  split at h
  · rename_i sz by_ z e hty
    split at h
    · rename_i ei hte
      split at h
      · rename_i p n c
        obtain ⟨hmh, h⟩ := h
        obtain ⟨fi, zz, d, g1, g2, g3, g4, g5, g6, g7⟩ := tyOf_info (C.ok _ _ hty)
        have hd := und_slice g2 g7
        subst hd
        have hs := sizeOf_of (C.ok _ _ hte)
        have fin : ∀ l h m, (∀ w, (Instr.sliceBounds true n c L H M).run C.P w = .ok (l, h, m) w) → ∀ w,
            (Instr.sliceAt t (.slice p n c) L H M).run C.P w = .ok (.slice (if m = l then p else p.map (·.add (l * ei.size))) (h - l) (m - l)) w := by
          intro l h m hb w
          simp [Instr.sliceAt, Instr.slice, run_underlying g2, hb, hs]
        have lo_ : ∀ (h m : Nat) (code : BoundsCode), slLo h L (fun l => K (.slice (if m = l then p else p.map (·.add (l * ei.size))) (h - l) (m - l))) →
            ∃ l, (∀ w, (match L with | some v => Instr.sliceBound v h code | none => (pure 0 : Sem Nat)).run C.P w = .ok l w) ∧ K (.slice (if m = l then p else p.map (·.add (l * ei.size))) (h - l) (m - l)) := by
          intro h m code hl
          unfold slLo at hl
          split at hl
          · exact ⟨0, fun _ => rfl, hl⟩
          · obtain ⟨⟨a1, a2⟩, a3⟩ := hl; exact ⟨_, bnd _ _ _ _ a1 a2, a3⟩
          · exact hl.elim
        unfold Z3g at h
        split at h
        · unfold slHi at h
          split at h
          · obtain ⟨l, hl, hk⟩ := lo_ n c .sliceB h
            refine ⟨_, hex _ (fin l n c ?_), hk⟩
            intro w
            unfold Instr.sliceBounds
            simp only [Sem.run_bind, Sem.run_pure, Result.andThen_ok]
            cases L <;> simp_all
          · obtain ⟨⟨b1, b2⟩, h⟩ := h
            obtain ⟨l, hl, hk⟩ := lo_ _ c .sliceB h
            refine ⟨_, hex _ (fin l _ c ?_), hk⟩
            intro w
            unfold Instr.sliceBounds
            simp only [Sem.run_bind, Sem.run_pure, Result.andThen_ok, bnd _ _ _ _ b1 b2, if_true]
            cases L <;> simp_all
          · exact h.elim
        · obtain ⟨⟨c1, c2⟩, h⟩ := h
          unfold slHi at h
          split at h
          · simp at hmh
          · obtain ⟨⟨b1, b2⟩, h⟩ := h
            obtain ⟨l, hl, hk⟩ := lo_ _ _ .slice3C h
            refine ⟨_, hex _ (fin l _ _ ?_), hk⟩
            intro w
            unfold Instr.sliceBounds
            simp only [Sem.run_bind, Sem.run_pure, Result.andThen_ok, bnd _ _ _ _ c1 c2, bnd _ _ _ _ b1 b2, if_true]
            cases L <;> simp_all
          · exact h.elim
        · exact h.elim
      · exact h.elim
    · exact h.elim
  · rename_i sz by_ z hty
    split at h
    · rename_i s
      obtain ⟨rfl, h⟩ := h
      obtain ⟨fi, zz, d, g1, g2, g3, g4, g5, g6, g7⟩ := tyOf_info (C.ok _ _ hty)
      have hd := und_string g2 g7
      subst hd
      have fin : ∀ l h m, (∀ w, (Instr.sliceBounds false s.size s.size L H none).run C.P w = .ok (l, h, m) w) → ∀ w,
          (Instr.sliceAt t (.string s) L H none).run C.P w = .ok (.string (s.extract l h)) w := by
        intro l h m hb w
        simp [Instr.sliceAt, Instr.slice, run_underlying g2, hb]
      have lo_ : ∀ (h : Nat) (code : BoundsCode), slLo h L (fun l => K (.string (s.extract l h))) →
          ∃ l, (∀ w, (match L with | some v => Instr.sliceBound v h code | none => (pure 0 : Sem Nat)).run C.P w = .ok l w) ∧ K (.string (s.extract l h)) := by
        intro h code hl
        unfold slLo at hl
        split at hl
        · exact ⟨0, fun _ => rfl, hl⟩
        · obtain ⟨⟨a1, a2⟩, a3⟩ := hl; exact ⟨_, bnd _ _ _ _ a1 a2, a3⟩
        · exact hl.elim
      unfold slHi at h
      split at h
      · obtain ⟨l, hl, hk⟩ := lo_ _ .sliceB h
        refine ⟨_, hex _ (fin l s.size s.size ?_), hk⟩
        intro w
        unfold Instr.sliceBounds
        simp only [Sem.run_bind, Sem.run_pure, Result.andThen_ok]
        cases L <;> simp_all
      · obtain ⟨⟨b1, b2⟩, h⟩ := h
        obtain ⟨l, hl, hk⟩ := lo_ _ .sliceB h
        refine ⟨_, hex _ (fin l _ s.size ?_), hk⟩
        intro w
        unfold Instr.sliceBounds
        simp only [Sem.run_bind, Sem.run_pure, Result.andThen_ok, bnd _ _ _ _ b1 b2]
        cases L <;> simp_all
      · exact h.elim
    · exact h.elim
  · exact h.elim
end
end Go.Proofs.YtdpfafgecchafaaDoor.Sx

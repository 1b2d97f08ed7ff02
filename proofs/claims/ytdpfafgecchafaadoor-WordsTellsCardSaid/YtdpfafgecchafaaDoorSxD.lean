/- Sx, part D: operations that only read: one value in every later world. -/
import Derived.Test.YtdpfafgecchafaaDoorSxC
set_option linter.unusedVariables false
set_option linter.unusedSimpArgs false
namespace Go.Proofs.YtdpfafgecchafaaDoor.Sx
open Go Go.RowKit

def Z3p (C : Ctx) (b : Builtin) (ts : List TypeId) (xs : List Value) (K : Value → Prop) : Prop :=
  match b with
  | .len => match ts with
    | [t] => match xs with
      | [x] => lenA C t x False K
      | _ => False
    | _ => False
  | .cap => match ts with
    | [t] => match xs with
      | [x] => capA C t x False K
      | _ => False
    | _ => False
  | .max => match xs with
    | [x, y] => maxA x y False K
    | _ => False
  | .min => match xs with
    | [x, y] => minA x y False K
    | _ => False
  | _ => False

def Z3q (c a b : Value) (K : Value → Prop) : Prop :=
  match c with
  | .bool t => Br t (K a) (K b)
  | _ => False
def nilR (x : Value) (K : Value → Prop) : Prop :=
  match x with
  | .pointer (some p) => K (.pointer (some p))
  | .func fn a b => match fn with
    | .func _ => K (.func fn a b)
    | _ => False
  | _ => False
def convR (C : Ctx) (s d : TypeId) (x : Value) (K : Value → Prop) : Prop :=
  match C.ty s with
  | some _ => Z3l C s d x False K
  | none => False
def callR (C : Ctx) (c : Call) (ρ : Operand → Value) (K : Value → Prop) : Prop :=
  match c.callee with
  | .builtin b => Z3p C b c.argTypes.toList (c.args.toList.map ρ) K
  | _ => False

/-- operations that only read -/
def rd1 (C : Ctx) (op : Op) (ρ : Operand → Value) (w : World) (K : Value → Prop) : Prop :=
  match op with
  | .move x => K (ρ x)
  | .assign x => K (ρ x)
  | .pick c a b => Z3q (ρ c) (ρ a) (ρ b) K
  | .build t ps => Z3j C t (ps.toList.map fun p => (p.1, ρ p.2)) K
  | .load t a => Z3b C t (ρ a) w K
  | .nilCheck x => nilR (ρ x) K
  | .binOp o t x y _ => binA C o t (ρ x) (ρ y) K
  | .unOp o _ x => unA o (ρ x) K
  | .convert s d x => convR C s d (ρ x) K
  | .makeFunc fn a b => K (.func fn (a.toList.map ρ).toArray (b.toList.map ρ).toArray)
  | .makeInterface t x => Z3o C t (ρ x) K
  | .slice t x lo hi mx => Z3h C t (ρ x) (lo.map ρ) (hi.map ρ) (mx.map ρ) K
  | .fieldAddr t x f => Z3d C t (ρ x) f w fun v _ => K v
  | .indexAddr t x i => Z3e C t (ρ x) (ρ i) w fun v _ => K v
  | .extract x i => Z3f (ρ x) i K
  | .call c => callR C c ρ K
  | .index t x i => Z2g C t (ρ x) (ρ i) False K
  | _ => False

def Reads (P : Program) (op : Op) (rt : TypeId) (ρ : Operand → Value) (w : World) (v : Value) : Prop :=
  ∀ W, Below w.heap.size w W → (execOp ρ ⟨none, op, rt, "", #[], none⟩).run P W = .ok (.value v) W

section
variable {C : Ctx} {ρ : Operand → Value} {w : World} {K : Value → Prop} {rt : TypeId}

theorem fieldAddr_rd {t : TypeId} {x : Operand} {f : Nat} (h : Z3d C t (ρ x) f w fun v _ => K v) : ∃ v, K v ∧ Reads C.P (.fieldAddr t x f) rt ρ w v := by
  unfold Z3d at h
  split at h
  · rename_i sz by_ z fs hty
    split at h
    · rename_i off size hn
      obtain ⟨h0, h⟩ := h
      generalize hx : ρ x = a at *
      split at h
      · rename_i p
        refine ⟨_, h, fun W _ => ?_⟩
        obtain ⟨fi, zz, d, h1, h2, h3, h4, h5, h6, h7⟩ := tyOf_info (C.ok _ _ hty)
        obtain ⟨ff, rfl, hff⟩ := und_struct h2 h7
        rw [nth?_eq, ← hff, List.getElem?_map] at hn
        cases hf : ff.toList[f]? with
        | none => rw [hf] at hn; simp at hn
        | some fd =>
          rw [hf] at hn
          simp only [Option.map_some, Option.some.injEq, Prod.mk.injEq] at hn
          have hfa : ff[f]? = some fd := by simpa using hf
          have hsz : ∃ i, C.P.info? fd.type = some i ∧ i.size = size := by
            have := hn.2
            unfold Program.cellsOf at this
            cases hi : C.P.info? fd.type with
            | none => rw [hi] at this; simp at this; omega
            | some i => rw [hi] at this; exact ⟨i, rfl, by simpa using this⟩
          obtain ⟨i, hi, his⟩ := hsz
          have hs : (sizeOf fd.type).run C.P W = .ok size W := by simp [sizeOf, typeInfo, hi, his]
          simp [execOp, hx, Instr.fieldAt, run_underlying h2, hfa, Instr.sureAddr, fieldPlace, hs, h0, hn.1]
      · exact h.elim
    · exact h.elim
  · exact h.elim

theorem indexAddr_rd {t : TypeId} {x y : Operand} (h : Z3e C t (ρ x) (ρ y) w fun v _ => K v) : ∃ v, K v ∧ Reads C.P (.indexAddr t x y) rt ρ w v := by
  unfold Z3e at h
  generalize hx : ρ x = a at *
  generalize hy : ρ y = b at *
  split at h
  · rename_i k n
    split at h
    · rename_i sz by_ z e hty
      split at h
      · rename_i ei hte
        obtain ⟨bb, o, len, c, rfl, h0, h1, hk⟩ := h
        obtain ⟨fi, zz, d, g1, g2, g3, g4, g5, g6, g7⟩ := tyOf_info (C.ok _ _ hty)
        have hd := und_slice g2 g7
        subst hd
        refine ⟨_, hk, fun W _ => ?_⟩
        have hs := sizeOf_of (C.ok _ _ hte) W
        simp [execOp, hx, hy, Instr.indexAt, asIntOf, run_underlying g2, h0, h1, hs, Addr.add_lit]
      · exact h.elim
    · rename_i sz by_ z len e hty
      split at h
      · rename_i ei hte
        split at h
        · rename_i p
          obtain ⟨⟨h0, h1⟩, hk⟩ := h
          obtain ⟨fi, zz, d, g1, g2, g3, g4, g5, g6, g7⟩ := tyOf_info (C.ok _ _ hty)
          have hd := und_array g2 g7
          subst hd
          refine ⟨_, hk, fun W _ => ?_⟩
          have hs := sizeOf_of (C.ok _ _ hte) W
          simp [execOp, hx, hy, Instr.indexAt, asIntOf, run_underlying g2, h0, h1, hs, Instr.sureAddr]
        · exact h.elim
      · exact h.elim
    · exact h.elim
  · exact h.elim

theorem extract_rd {x : Operand} {i : Nat} (h : Z3f (ρ x) i K) : ∃ v, K v ∧ Reads C.P (.extract x i) rt ρ w v := by
  unfold Z3f at h
  generalize hx : ρ x = a at *
  split at h
  · rename_i vs
    split at h
    · rename_i v hv
      refine ⟨v, h, fun W _ => ?_⟩
      have : vs[i]? = some v := by simpa using hv
      simp [execOp, hx, Instr.extract, this]
    · exact h.elim
  · exact h.elim

theorem iface_rd {t : TypeId} {x : Operand} (h : Z3o C t (ρ x) K) : ∃ v, K v ∧ Reads C.P (.makeInterface t x) rt ρ w v := by
  unfold Z3o at h
  split at h
  · rename_i i hty
    obtain ⟨fi, zz, d', g1, g2, g3, g4, g5, g6, g7⟩ := tyOf_info (C.ok _ _ hty)
    have hni : i.und ≠ .iface := by intro e; rw [e] at h; exact h
    have hk : K (.iface t (ρ x)) := by
      split at h
      · exact h.elim
      · exact h
    refine ⟨_, hk, fun W _ => ?_⟩
    have : (Instr.makeInterface t (ρ x)).run C.P W = .ok (.iface t (ρ x)) W := by
      unfold Instr.makeInterface
      simp only [Sem.run_bind, run_underlying g2, Result.andThen_ok]
      cases d' <;> first | rfl | (exfalso; apply hni; rw [← g7]; unfold undOf; rw [g2])
    show (do pure (.value (← Instr.makeInterface t (ρ x))) : Sem Next).run C.P W = _
    rw [Sem.run_bind, this]; rfl
  · exact h.elim

theorem conv_rd {s d : TypeId} {x : Operand} (h : convR C s d (ρ x) K) : ∃ v, K v ∧ Reads C.P (.convert s d x) rt ρ w v := by
  unfold convR at h
  split at h
  · rename_i si hsi
    obtain ⟨fs, zs, ds, s1, s2, s3, s4, s5, s6, s7⟩ := tyOf_info (C.ok _ _ hsi)
    generalize hx : ρ x = a at *
    unfold Z3l at h
    split at h
    · split at h
      · rename_i sz by_ z k hty
        obtain ⟨fi, zz, d', g1, g2, g3, g4, g5, g6, g7⟩ := tyOf_info (C.ok _ _ hty)
        have hd := und_int g2 g7
        subst hd
        refine ⟨_, h, fun W _ => ?_⟩
        simp [execOp, hx, convert, run_underlying s2, run_underlying g2, Conv.intToInt]
      · exact h.elim
    · split at h
      · rename_i sz by_ z hty
        obtain ⟨fi, zz, d', g1, g2, g3, g4, g5, g6, g7⟩ := tyOf_info (C.ok _ _ hty)
        have hd := und_string g2 g7
        subst hd
        refine ⟨_, h, fun W _ => ?_⟩
        simp [execOp, hx, convert, run_underlying s2, run_underlying g2]
      · exact h.elim
    · exact h.elim
  · exact h.elim

theorem call_rd {c : Call} (h : callR C c ρ K) : ∃ v, K v ∧ Reads C.P (.call c) rt ρ w v := by
  unfold callR at h
  split at h
  · rename_i b hc
    have hargs := toL c ρ
    generalize c.args.toList.map ρ = xs at *
    have htys : c.argTypes.toList.toArray = c.argTypes := by simp
    generalize c.argTypes.toList = ts at *
    unfold Z3p at h
    split at h
    · split at h
      · split at h
        · unfold lenA at h
          split at h
          · rename_i hty
            obtain ⟨fi, zz, d', g1, g2, g3, g4, g5, g6, g7⟩ := tyOf_info (C.ok _ _ hty)
            have hd := und_slice g2 g7
            subst hd
            split at h
            · refine ⟨_, h, fun W _ => builtin_run hc (s := Builtin.len_ c.argTypes rt (c.args.map ρ)) (fun _ => rfl) ?_⟩
              rw [← hargs, ← htys]; simp [Builtin.len_, run_underlying g2, goInt]
            · exact h.elim
          · rename_i hty
            obtain ⟨fi, zz, d', g1, g2, g3, g4, g5, g6, g7⟩ := tyOf_info (C.ok _ _ hty)
            have hd := und_string g2 g7
            subst hd
            split at h
            · refine ⟨_, h, fun W _ => builtin_run hc (s := Builtin.len_ c.argTypes rt (c.args.map ρ)) (fun _ => rfl) ?_⟩
              rw [← hargs, ← htys]; simp [Builtin.len_, run_underlying g2, goInt]
            · exact h.elim
          · rename_i hty
            obtain ⟨fi, zz, d', g1, g2, g3, g4, g5, g6, g7⟩ := tyOf_info (C.ok _ _ hty)
            have hd := und_array g2 g7
            subst hd
            refine ⟨_, h, fun W _ => builtin_run hc (s := Builtin.len_ c.argTypes rt (c.args.map ρ)) (fun _ => rfl) ?_⟩
            rw [← hargs, ← htys]; simp [Builtin.len_, run_underlying g2, goInt]
          · exact h.elim
        · exact h.elim
      · exact h.elim
    · split at h
      · split at h
        · unfold capA at h
          split at h
          · rename_i hty
            obtain ⟨fi, zz, d', g1, g2, g3, g4, g5, g6, g7⟩ := tyOf_info (C.ok _ _ hty)
            have hd := und_slice g2 g7
            subst hd
            split at h
            · refine ⟨_, h, fun W _ => builtin_run hc (s := Builtin.cap_ c.argTypes rt (c.args.map ρ)) (fun _ => rfl) ?_⟩
              rw [← hargs, ← htys]; simp [Builtin.cap_, run_underlying g2, goInt]
            · exact h.elim
          · exact h.elim
        · exact h.elim
      · exact h.elim
    · split at h
      · unfold maxA at h
        split at h
        · split at h
          · refine ⟨_, h, fun W _ => builtin_run hc (s := Builtin.max_ c.argTypes rt (c.args.map ρ)) (fun _ => rfl) ?_⟩
            rw [← hargs]; exact run_max_int2 W _ _ _ _ _ _
          · exact h.elim
        · exact h.elim
      · exact h.elim
    · split at h
      · unfold minA at h
        split at h
        · split at h
          · refine ⟨_, h, fun W _ => builtin_run hc (s := Builtin.min_ c.argTypes rt (c.args.map ρ)) (fun _ => rfl) ?_⟩
            rw [← hargs]; exact run_min_int2 W _ _ _ _ _ _
          · exact h.elim
        · exact h.elim
      · exact h.elim
    · exact h.elim
  · exact h.elim

theorem rd1_ok {op : Op} (h : rd1 C op ρ w K) : ∃ v, K v ∧ Reads C.P op rt ρ w v := by
  cases op
  case move x => exact ⟨_, h, fun W _ => rfl⟩
  case assign x => exact ⟨_, h, fun W _ => rfl⟩
  case pick c a b =>
    have h : Z3q (ρ c) (ρ a) (ρ b) K := h
    unfold Z3q at h
    generalize hcv : ρ c = cv at *
    split at h
    · rename_i t
      cases t
      · rw [Z0p] at h
        exact ⟨_, h, fun W _ => by simp [execOp, hcv, asBool]⟩
      · rw [Z0o] at h
        exact ⟨_, h, fun W _ => by simp [execOp, hcv, asBool]⟩
    · exact h.elim
  case build t ps => obtain ⟨v, h1, h2⟩ := build_ok (rt := rt) (K := K) h; exact ⟨v, h2, fun W _ => h1 W⟩
  case load t a => obtain ⟨v, h1, h2⟩ := load_ok (rt := rt) (K := K) h; exact ⟨v, h2, h1⟩
  case nilCheck x =>
    have h : nilR (ρ x) K := h
    unfold nilR at h
    generalize hx : ρ x = a at *
    split at h
    · exact ⟨_, h, fun W _ => by simp [execOp, hx]⟩
    · split at h
      · exact ⟨_, h, fun W _ => by simp [execOp, hx]⟩
      · exact h.elim
    · exact h.elim
  case binOp o t x y yt => obtain ⟨v, h1, h2⟩ := bin_ok (rt := rt) (yt := yt) (K := K) h; exact ⟨v, h2, fun W _ => h1 W⟩
  case unOp o t x => obtain ⟨v, h1, h2⟩ := un_ok (C := C) (rt := rt) (t := t) (K := K) h; exact ⟨v, h2, fun W _ => h1 W⟩
  case convert s d x => exact conv_rd h
  case makeFunc fn a b =>
    have h : K (.func fn (a.toList.map ρ).toArray (b.toList.map ρ).toArray) := h
    rw [← Array.toList_map, Array.toArray_toList, ← Array.toList_map, Array.toArray_toList] at h
    exact ⟨_, h, fun W _ => rfl⟩
  case makeInterface t x => exact iface_rd h
  case slice t x lo hi mx => obtain ⟨v, h1, h2⟩ := slice_ok (rt := rt) (K := K) h; exact ⟨v, h2, fun W _ => h1 W⟩
  case fieldAddr t x f => exact fieldAddr_rd h
  case indexAddr t x i => exact indexAddr_rd h
  case extract x i => exact extract_rd h
  case call c => exact call_rd h
  case index t x i => obtain ⟨v, h1, h2⟩ := index_val (rt := rt) (K := K) (fun h => h.elim) h; exact ⟨v, h2, fun W _ => h1 W⟩
  all_goals exact h.elim
end
end Go.Proofs.YtdpfafgecchafaaDoor.Sx

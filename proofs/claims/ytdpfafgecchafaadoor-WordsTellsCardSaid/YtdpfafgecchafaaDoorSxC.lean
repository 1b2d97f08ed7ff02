/- Sx, part C: build, calls, builtins; every operation runs as told. -/
import Derived.Test.YtdpfafgecchafaaDoorSxB
set_option linter.unusedVariables false
set_option linter.unusedSimpArgs false
namespace Go.Proofs.YtdpfafgecchafaaDoor.Sx
open Go Go.RowKit

theorem putN_len (vs : List Value) : ∀ (z : List Value) (o : Nat), (putN z o vs).length = z.length := by
  induction vs with
  | nil => intro z o; rfl
  | cons v r ih => intro z o; simp only [putN, ih, put_eq, List.length_set]

theorem foldl_put (vs : List Value) : ∀ (z : List Value) (o k : Nat), ((vs.zipIdx k).foldl (fun (cs : Array Value) (x : Value × Nat) => cs.setIfInBounds (o + x.2) x.1) z.toArray) = (putN z (o + k) vs).toArray := by
  induction vs with
  | nil => intro z o k; simp [putN]
  | cons v r ih =>
    intro z o k
    simp only [List.zipIdx_cons, List.foldl_cons, putN]
    rw [List.setIfInBounds_toArray, ih, put_eq]
    rfl

theorem fill_ok (place : Nat → Option (Nat × Nat)) : ∀ (parts : List (Nat × Value)) (z : List Value) (K : List Value → Prop), Z3i place z parts K →
    ∃ cs, Instr.fill place z.toArray parts = some cs.toArray ∧ K cs := by
  intro parts
  induction parts with
  | nil => intro z K h; exact ⟨z, by simp [Instr.fill], h⟩
  | cons p r ih =>
    intro z K h
    obtain ⟨i, v⟩ := p
    unfold Z3i at h
    split at h
    · exact h.elim
    · rename_i off size hp
      obtain ⟨⟨h1, h2⟩, h3⟩ := h
      obtain ⟨cs, hc, hk⟩ := ih _ _ h3
      refine ⟨cs, ?_, hk⟩
      have hsz : v.cells.size = size := by rw [← cellsL_len]; exact h1
      have hn : ¬ (v.cells.size ≠ size ∨ off + v.cells.size > z.length) := by omega
      simp only [Instr.fill, hp]
      rw [if_neg (by simp only [Bool.or_eq_true, decide_eq_true_eq, List.size_toArray]; omega)]
      rw [← hc]
      congr 1
      have := foldl_put (Z3r v) z off 0
      simp only [Nat.add_zero] at this
      rw [← this, ← cellsL_eq]
      simp only [← Array.foldl_toList, Array.toList_zipIdx]

section
variable {C : Ctx} {ρ : Operand → Value} {w : World} {K : KV} {rt : TypeId}

theorem mapM_places {P : Program} (w : World) : ∀ (ff : List Field) (fs : List (Nat × Nat)), ff.map (fun f => (f.offset, P.cellsOf f.type)) = fs → (∀ f ∈ ff, (P.info? f.type).isSome = true) →
    (ff.mapM fun f => (do pure (f.offset, ← sizeOf f.type) : Sem (Nat × Nat))).run P w = .ok fs w := by
  intro ff
  induction ff with
  | nil => intro fs h _; subst h; rfl
  | cons f r ih =>
    intro fs h hi
    subst h
    have h1 := hi f (by simp)
    cases hf : P.info? f.type with
    | none => rw [hf] at h1; cases h1
    | some i =>
      have := ih _ rfl (fun g hg => hi g (by simp [hg]))
      simp [List.mapM_cons, sizeOf, typeInfo, hf, Program.cellsOf, this]
      have h2 := this
      simp [sizeOf, typeInfo, Program.cellsOf] at h2
      simp [h2]

/-- every field's type is known -/
def fieldsKnown (P : Program) (t : TypeId) : Prop := ∀ ff, P.underlying t = some (.struct ff) → ∀ f ∈ ff.toList, (P.info? f.type).isSome = true

theorem build_struct {t : TypeId} {i : TyI} {fs : List (Nat × Nat)} (hty : C.ty t = some i) (hu : i.und = .struct fs) (hk : ∀ x ∈ fs, x.2 ≠ 0) {parts : Array (Nat × Value)} {K : Value → Prop} (h : Z3i (nth? fs) i.zero parts.toList fun cs => K (.agg cs.toArray)) :
    ∃ v, (∀ w, (Instr.build t parts).run C.P w = .ok v w) ∧ K v := by
  obtain ⟨cs, hc, hkk⟩ := fill_ok _ _ _ _ h
  obtain ⟨fi, zz, d, g1, g2, g3, g4, g5, g6, g7⟩ := tyOf_info (C.ok _ _ hty)
  rw [hu] at g7
  obtain ⟨ff, rfl, hff⟩ := und_struct g2 g7
  refine ⟨_, fun w => ?_, hkk⟩
  have hz : (zeroValue t).run C.P w = .ok zz w := by simp [zeroValue, typeInfo, g1, g5]
  have hm := mapM_places (P := C.P) w ff.toList fs hff (by
    intro f hf
    have := hk (f.offset, C.P.cellsOf f.type) (by rw [← hff]; exact List.mem_map_of_mem hf)
    simp only [Program.cellsOf] at this
    cases hi : C.P.info? f.type with
    | none => rw [hi] at this; simp at this
    | some i => rfl)
  have hm2 : (ff.mapM fun f => (do pure (f.offset, ← sizeOf f.type) : Sem (Nat × Nat))).run C.P w = .ok fs.toArray w := by
    rw [← Array.toArray_toList (xs := ff)]
    simp only [List.mapM_toArray, Sem.run_map, hm, Result.andThen_ok]
  have hzc : zz.cells = i.zero.toArray := by rw [← g6]
  have hpl : (fun x => fs.toArray[x]?) = nth? fs := by funext x; rw [nth?_eq]; simp
  unfold Instr.build
  simp only [Sem.run_bind, hz, Result.andThen_ok, run_underlying g2, hm2, hpl, hzc, hc, Sem.run_pure]

theorem build_ok {t : TypeId} {ps : Array (Nat × Operand)} {K : Value → Prop} (h : Z3j C t (ps.toList.map fun p => (p.1, ρ p.2)) K) :
    ∃ v, (∀ w, (execOp ρ ⟨none, .build t ps, rt, "", #[], none⟩).run C.P w = .ok (.value v) w) ∧ K v := by
  have hps : (ps.map fun p => (p.1, ρ p.2)).toList = ps.toList.map fun p => (p.1, ρ p.2) := by simp
  have hex : ∀ v, (∀ w, (Instr.build t (ps.map fun p => (p.1, ρ p.2))).run C.P w = .ok v w) → ∀ w, (execOp ρ ⟨none, .build t ps, rt, "", #[], none⟩).run C.P w = .ok (.value v) w := by
    intro v hv w
    have : (ps.map fun (x : Nat × Operand) => (x.1, ρ x.2)) = ps.map (fun (i, x) => (i, ρ x)) := rfl
    simp only [execOp, ← this, Sem.run_bind, hv, Result.andThen_ok, Sem.run_pure]
  unfold Z3j at h
  split at h
  · rename_i i hty
    split at h
    · rename_i fs hu
      obtain ⟨hnz, h⟩ := h
      rw [← hps] at h
      obtain ⟨v, hr, hk⟩ := build_struct hty hu (by
        intro x hx
        have := List.all_eq_true.1 hnz x hx
        simpa using this) h
      exact ⟨v, hex v hr, hk⟩
    · rename_i n e hu
      split at h
      · rename_i ei hte
        obtain ⟨cs, hc, hkk⟩ := fill_ok _ _ _ _ h
        obtain ⟨fi, zz, d, g1, g2, g3, g4, g5, g6, g7⟩ := tyOf_info (C.ok _ _ hty)
        rw [hu] at g7
        have hd := und_array g2 g7
        subst hd
        refine ⟨_, hex _ (fun w => ?_), hkk⟩
        have hz : (zeroValue t).run C.P w = .ok zz w := by simp [zeroValue, typeInfo, g1, g5]
        have hs := sizeOf_of (C.ok _ _ hte) w
        have hzc : zz.cells = i.zero.toArray := by rw [← g6]
        unfold Instr.build
        simp only [Sem.run_bind, hz, Result.andThen_ok, run_underlying g2, hs, hzc, hps, hc, Sem.run_pure]
      · exact h.elim
    · exact h.elim
  · exact h.elim

theorem repL_eq (z : List Value) : ∀ n, repL n z = (List.replicate n z).flatten := by
  intro n
  induction n with
  | zero => rfl
  | succ n ih => rw [repL, ih, List.replicate_succ, List.flatten_cons]

theorem rep_range (z : Array Value) (n : Nat) (hz : 0 < z.size) : ((Array.range (n * z.size)).map (z[· % z.size]!)).toList = repL n z.toList := by
  induction n with
  | zero => simp [repL]
  | succ n ih =>
    have hsucc : repL (n + 1) z.toList = repL n z.toList ++ z.toList := by
      rw [repL_eq, repL_eq, List.replicate_succ', List.flatten_append]; simp
    rw [hsucc, ← ih]
    apply List.ext_getElem
    · simp [Nat.add_mul]
    · intro j h1 h2
      simp only [Array.toList_map, Array.toList_range, List.getElem_map, List.getElem_range]
      simp only [Array.toList_map, Array.toList_range, List.length_map, List.length_range] at h1
      by_cases hj : j < n * z.size
      · rw [List.getElem_append_left (by simpa using hj)]
        simp
      · rw [List.getElem_append_right (by simpa using hj)]
        have hlt : j - n * z.size < z.size := by rw [Nat.add_mul] at h1; omega
        have hmod : j % z.size = j - n * z.size := by
          have : j = (j - n * z.size) + z.size * n := by rw [Nat.mul_comm z.size n]; omega
          rw [this, Nat.add_mul_mod_self_left, Nat.mod_eq_of_lt (by omega)]
          rw [Nat.mul_comm z.size n]; omega
        simp [hmod, hlt]

theorem buildSlice_ok {t : TypeId} {n : Nat} {ps : Array (Nat × Operand)} (h : Z3k C t n (ps.toList.map fun p => (p.1, ρ p.2)) w K) :
    OpV C.P (.buildSlice t n ps) rt ρ w K := by
  have hps : (ps.map fun p => (p.1, ρ p.2)).toList = ps.toList.map fun p => (p.1, ρ p.2) := by simp
  unfold Z3k at h
  split at h
  · rename_i sz by_ z e hty
    split at h
    · rename_i ei hte
      obtain ⟨⟨h1, h2⟩, h⟩ := h
      obtain ⟨cs, hc, hk⟩ := fill_ok _ _ _ _ h
      have hk := new_alloc hk
      obtain ⟨fi, zz, d, g1, g2, g3, g4, g5, g6, g7⟩ := tyOf_info (C.ok _ _ hty)
      have hd := und_slice g2 g7
      subst hd
      have hs := sizeOf_of (C.ok _ _ hte) w
      obtain ⟨fe, ze, de, e1, e2, e3, e4, e5, e6, e7⟩ := tyOf_info (C.ok _ _ hte)
      have hz : (zeroValue e).run C.P w = .ok ze w := by simp [zeroValue, typeInfo, e1, e5]
      have hzl : ze.cells.size = ei.size := by rw [← Array.length_toList, e6]; exact h2
      refine OpV.value (v := .slice (some ⟨w.heap.size, 0, none⟩) n n) (w' := w.alloc (.cells cs.toArray e)) ?_ hk (KeepD.alloc _ _)
      have hpm : (ps.map fun (x : Nat × Operand) => (x.1, ρ x.2)) = ps.map (fun (i, x) => (i, ρ x)) := rfl
      have h1' : ¬ (n * ei.size > 2 ^ 24) := by omega
      by_cases h0 : n * ei.size = 0
      · have hz0 : (Array.range 0).map (fun i => (#[] : Array Value)[i % (#[] : Array Value).size]!) = (repL n ei.zero).toArray := by
          have : repL n ei.zero = [] := by
            rw [repL_eq]
            rcases Nat.mul_eq_zero.1 h0 with h | h
            · subst h; rfl
            · rw [h] at h2
              have := List.eq_nil_of_length_eq_zero h2
              rw [this]; simp
          rw [this]; simp
        simp only [execOp, Instr.buildSlice, Sem.run_bind, run_underlying g2, Result.andThen_ok, hs, h0, gt_iff_lt, Nat.not_lt_zero, if_false, if_true, Sem.run_pure, hz0]
        simp only [hpm] at hps
        simp only [hps, hc, newRow, Sem.run_bind, run_newObj, Result.andThen_ok, Sem.run_pure]
        rfl
      · have hz0 : (Array.range (n * ei.size)).map (fun i => ze.cells[i % ze.cells.size]!) = (repL n ei.zero).toArray := by
          have := rep_range ze.cells n (by rw [hzl]; rcases Nat.eq_zero_or_pos ei.size with h | h; · exact absurd (by rw [h, Nat.mul_zero]) h0
                                           · exact h)
          rw [hzl, e6] at this
          rw [← this, hzl]
        simp only [execOp, Instr.buildSlice, Sem.run_bind, run_underlying g2, Result.andThen_ok, hs, h0, if_neg h1', if_false, Sem.run_pure, hz, hz0]
        simp only [hpm] at hps
        simp only [hps, hc, newRow, Sem.run_bind, run_newObj, Result.andThen_ok, Sem.run_pure]
        rfl
    · exact h.elim
  · exact h.elim

theorem run_val {op : Op} {s : Sem Value} (he : execOp ρ ⟨none, op, rt, "", #[], none⟩ = (do pure (.value (← s)) : Sem Next)) (h : RunA C.P s w K) : OpV C.P op rt ρ w K := by
  unfold RunA at h
  split at h
  · rename_i v w' hr
    refine OpV.value (v := v) (w' := w') ?_ h.2 h.1
    rw [he, Sem.run_bind, hr]; rfl
  · exact h.elim
theorem run_unit {op : Op} {s : Sem Unit} (he : execOp ρ ⟨none, op, rt, "", #[], none⟩ = (do s; pure .skip : Sem Next)) (h : RunU C.P s w K) : OpV C.P op rt ρ w K := by
  unfold RunU at h
  split at h
  · rename_i w' hr
    refine OpV.skip (w' := w') ?_ h.2 h.1
    rw [he, Sem.run_bind, hr]; rfl
  · exact h.elim

theorem conv_ok {s d : TypeId} {x : Operand} (h : Z3l C s d (ρ x) (RunA C.P (convert s d (ρ x)) w K) fun v => K v w) (hs : ∃ i, C.ty s = some i) : OpV C.P (.convert s d x) rt ρ w K := by
  obtain ⟨si, hsi⟩ := hs
  obtain ⟨fs, zs, ds, s1, s2, s3, s4, s5, s6, s7⟩ := tyOf_info (C.ok _ _ hsi)
  have hrest : RunA C.P (convert s d (ρ x)) w K → OpV C.P (.convert s d x) rt ρ w K := run_val rfl
  revert h
  generalize hx : ρ x = a at *
  intro h
  unfold Z3l at h
  split at h
  · rename_i kk n
    split at h
    · rename_i sz by_ z k hty
      obtain ⟨fi, zz, d', g1, g2, g3, g4, g5, g6, g7⟩ := tyOf_info (C.ok _ _ hty)
      have hd := und_int g2 g7
      subst hd
      refine OpV.value ?_ h
      simp [execOp, hx, convert, run_underlying s2, run_underlying g2, Conv.intToInt]
    · exact hrest h
  · rename_i b
    split at h
    · rename_i sz by_ z hty
      obtain ⟨fi, zz, d', g1, g2, g3, g4, g5, g6, g7⟩ := tyOf_info (C.ok _ _ hty)
      have hd := und_string g2 g7
      subst hd
      refine OpV.value ?_ h
      simp [execOp, hx, convert, run_underlying s2, run_underlying g2]
    · exact hrest h
  · exact hrest h

theorem bt_eq {s : ByteArray} {n : Nat} (h : n < s.size) : s[n]? = some s[n] ∧ ((s[n]).toNat : Int) = bt s n := by
  refine ⟨by simp [h], ?_⟩
  unfold bt
  have h' : n < s.data.toList.length := by simpa using h
  simp only [List.getD_eq_getElem?_getD, List.getElem?_eq_getElem h', Option.getD_some]
  rfl
theorem index_val {t : TypeId} {x i : Operand} {rest : Prop} {K : Value → Prop} (hr : rest → ∃ v, (∀ w, (execOp ρ ⟨none, .index t x i, rt, "", #[], none⟩).run C.P w = .ok (.value v) w) ∧ K v) (h : Z2g C t (ρ x) (ρ i) rest K) :
    ∃ v, (∀ w, (execOp ρ ⟨none, .index t x i, rt, "", #[], none⟩).run C.P w = .ok (.value v) w) ∧ K v := by
  unfold Z2g at h
  generalize hx : ρ x = a at *
  generalize hi : ρ i = b at *
  split at h
  · rename_i s
    split at h
    · rename_i k n
      split at h
      · rename_i hty
        obtain ⟨fi, zz, d', g1, g2, g3, g4, g5, g6, g7⟩ := tyOf_info (C.ok _ _ hty)
        have hd := und_string g2 g7
        subst hd
        obtain ⟨⟨h0, h1⟩, h2⟩ := h
        refine ⟨_, fun w => ?_, h2⟩
        obtain ⟨e1, e2⟩ := bt_eq (s := s) (n := n.toNat) (by omega)
        simp [execOp, hx, hi, Instr.index, asIntOf, run_underlying g2, h0, e1, e2]
      · exact hr h
    · exact hr h
  · exact hr h
theorem index_ok {t : TypeId} {x i : Operand} (h : Z2g C t (ρ x) (ρ i) (RunA C.P (Instr.index t (ρ x) (ρ i)) w K) fun v => K v w) : OpV C.P (.index t x i) rt ρ w K := by
  by_cases hr : RunA C.P (Instr.index t (ρ x) (ρ i)) w K
  · exact run_val rfl hr
  · obtain ⟨v, h1, h2⟩ := index_val (rt := rt) (K := fun v => K v w) (fun h => absurd h hr) h
    exact OpV.value (h1 w) h2

theorem nil_ok {x : Operand} (h : nilA (ρ x) w (OpV C.P (.nilCheck x) rt ρ w K) K) : OpV C.P (.nilCheck x) rt ρ w K := by
  revert h
  generalize hx : ρ x = a at *
  intro h
  unfold nilA at h
  split at h
  · exact OpV.value (by simp [execOp, hx]) h
  · split at h
    · exact OpV.value (by simp [execOp, hx]) h
    · exact h
  · exact h

theorem iface_val {t : TypeId} {x : Operand} (h : Z3o C t (ρ x) fun v => K v w) : OpV C.P (.makeInterface t x) rt ρ w K := by
  unfold Z3o at h
  split at h
  · rename_i i hty
    obtain ⟨fi, zz, d', g1, g2, g3, g4, g5, g6, g7⟩ := tyOf_info (C.ok _ _ hty)
    have hni : i.und ≠ .iface := by intro e; rw [e] at h; exact h
    have hk : K (.iface t (ρ x)) w := by
      split at h
      · exact h.elim
      · exact h
    have : (Instr.makeInterface t (ρ x)).run C.P w = .ok (.iface t (ρ x)) w := by
      unfold Instr.makeInterface
      simp only [Sem.run_bind, run_underlying g2, Result.andThen_ok]
      cases d' <;> first | rfl | (exfalso; apply hni; rw [← g7]; unfold undOf; rw [g2])
    refine OpV.value (v := .iface t (ρ x)) (w' := w) ?_ hk
    show (do pure (.value (← Instr.makeInterface t (ρ x))) : Sem Next).run C.P w = _
    rw [Sem.run_bind, this]; rfl
  · exact h.elim

theorem builtin_run {b : Builtin} {c : Call} {v : Value} {w' : World} (hc : c.callee = .builtin b) {s : Sem Value}
    (hb : ∀ cs, builtin b c.argTypes rt cs (c.args.map ρ) = (do pure (.value (← s)) : Sem Next)) (hr : s.run C.P w = .ok v w') :
    (execOp ρ ⟨none, .call c, rt, "", #[], none⟩).run C.P w = .ok (.value v) w' := by
  show (do let d ← resolve ρ c rt; invoke d.target d.args : Sem Next).run C.P w = _
  unfold resolve
  rw [hc]
  simp only [Sem.run_bind, Sem.run_pure, Result.andThen_ok, invoke, hb, hr]

theorem toL (c : Call) (ρ : Operand → Value) : (c.args.toList.map ρ).toArray = c.args.map ρ := by rw [← Array.toList_map, Array.toArray_toList]

theorem builtin_ok {b : Builtin} {c : Call} (hc : c.callee = .builtin b)
    (h : Z3m C b c.argTypes.toList rt (c.args.toList.map ρ) (OpV C.P (.call c) rt ρ w K) w K) : OpV C.P (.call c) rt ρ w K := by
  have hargs := toL c ρ
  generalize c.args.toList.map ρ = xs at *
  have htys : c.argTypes.toList.toArray = c.argTypes := by simp
  generalize c.argTypes.toList = ts at *
  unfold Z3m at h
  split at h
  · split at h
    · split at h
      · rename_i t x
        unfold lenA at h
        split at h
        · rename_i hty
          obtain ⟨fi, zz, d', g1, g2, g3, g4, g5, g6, g7⟩ := tyOf_info (C.ok _ _ hty)
          have hd := und_slice g2 g7
          subst hd
          split at h
          · refine OpV.value (builtin_run hc (s := Builtin.len_ c.argTypes rt (c.args.map ρ)) (fun _ => rfl) ?_) h
            rw [← hargs, ← htys]; simp [Builtin.len_, run_underlying g2, goInt]
          · exact h.elim
        · rename_i hty
          obtain ⟨fi, zz, d', g1, g2, g3, g4, g5, g6, g7⟩ := tyOf_info (C.ok _ _ hty)
          have hd := und_string g2 g7
          subst hd
          split at h
          · refine OpV.value (builtin_run hc (s := Builtin.len_ c.argTypes rt (c.args.map ρ)) (fun _ => rfl) ?_) h
            rw [← hargs, ← htys]; simp [Builtin.len_, run_underlying g2, goInt]
          · exact h.elim
        · rename_i hty
          obtain ⟨fi, zz, d', g1, g2, g3, g4, g5, g6, g7⟩ := tyOf_info (C.ok _ _ hty)
          have hd := und_array g2 g7
          subst hd
          refine OpV.value (builtin_run hc (s := Builtin.len_ c.argTypes rt (c.args.map ρ)) (fun _ => rfl) ?_) h
          rw [← hargs, ← htys]; simp [Builtin.len_, run_underlying g2, goInt]
        · exact h
      · exact h
    · exact h
  · split at h
    · split at h
      · rename_i t x
        unfold capA at h
        split at h
        · rename_i hty
          obtain ⟨fi, zz, d', g1, g2, g3, g4, g5, g6, g7⟩ := tyOf_info (C.ok _ _ hty)
          have hd := und_slice g2 g7
          subst hd
          split at h
          · refine OpV.value (builtin_run hc (s := Builtin.cap_ c.argTypes rt (c.args.map ρ)) (fun _ => rfl) ?_) h
            rw [← hargs, ← htys]; simp [Builtin.cap_, run_underlying g2, goInt]
          · exact h.elim
        · exact h
      · exact h
    · exact h
  · split at h
    · unfold maxA at h
      split at h
      · split at h
        · refine OpV.value (builtin_run hc (s := Builtin.max_ c.argTypes rt (c.args.map ρ)) (fun _ => rfl) ?_) h
          rw [← hargs]; exact run_max_int2 w _ _ _ _ _ _
        · exact h.elim
      · exact h
    · exact h
  · split at h
    · unfold minA at h
      split at h
      · split at h
        · refine OpV.value (builtin_run hc (s := Builtin.min_ c.argTypes rt (c.args.map ρ)) (fun _ => rfl) ?_) h
          rw [← hargs]; exact run_min_int2 w _ _ _ _ _ _
        · exact h.elim
      · exact h
    · exact h
  · unfold RunA at h
    rw [hargs, htys] at h
    split at h
    · rename_i v w' hr
      exact OpV.value (builtin_run hc (s := Builtin.append_ c.argTypes rt (c.args.map ρ)) (fun _ => rfl) hr) h.2 h.1
    · exact h.elim
  · unfold RunA at h
    rw [hargs, htys] at h
    split at h
    · rename_i v w' hr
      exact OpV.value (builtin_run hc (s := Builtin.copy_ c.argTypes rt (c.args.map ρ)) (fun _ => rfl) hr) h.2 h.1
    · exact h.elim
  · exact h

theorem run_callFunc {P : Program} {f : FuncId} (hg : Good P f) (args : Array Value) (w : World) : (callFunc f args).run P w = .ok (.enter f args) w := by
  obtain ⟨fn, h1, h2, h3⟩ := hg
  simp only [callFunc, Sem.run_bind, run_program, Result.andThen_ok, h1, h2, h3, Bool.false_eq_true, if_false, Sem.run_pure]

theorem callOp_ok {c : Call} (h : callOp C c rt ρ (OpV C.P (.call c) rt ρ w K) w K) : OpV C.P (.call c) rt ρ w K := by
  unfold callOp at h
  split at h
  · rename_i b hc
    exact builtin_ok hc h
  · rename_i f hc
    unfold Z3n at h
    split at h
    · rename_i fn first captured hf
      split at h
      · rename_i g
        rw [toL] at h
        rcases h with ⟨hg, hcall⟩ | ⟨v, w', hr, hd, hk⟩
        case inr =>
          refine OpV.value (v := v) (w' := w') ?_ hk hd
          simp only [execOp, resolve, hc, hf, Deferred.ofValue, Sem.run_bind, Sem.run_pure, Result.andThen_ok, invoke, hr]
        unfold OpV OpV0
        have : (execOp ρ ⟨none, .call c, rt, "", #[], none⟩).run C.P w = .ok (.enter g (first ++ c.args.map ρ ++ captured)) w := by
          simp only [execOp, resolve, hc, hf, Deferred.ofValue, Sem.run_bind, Sem.run_pure, Result.andThen_ok, invoke, run_callFunc hg]
        rw [this]
        exact hcall
      · rename_i l
        obtain ⟨f', tmps, asg, body, hy, hr⟩ := h
        rw [toL] at hy
        unfold OpV OpV0
        have : (execOp ρ ⟨none, .call c, rt, "", #[], none⟩).run C.P w = .ok (.round l f' tmps asg body) w := by
          simp only [execOp, resolve, hc, hf, Deferred.ofValue, Sem.run_bind, Sem.run_pure, Result.andThen_ok, invoke, hy]
        rw [this]
        exact hr
      · exact h.elim
    · exact h.elim
  · exact h
end

theorem op1_ok {C : Ctx} {ρ : Operand → Value} {w : World} {K : KV} {rt : TypeId} {op : Op} (h : op1 C op rt ρ w K) : OpV C.P op rt ρ w K := by
  cases op
  case move x => exact OpV.value rfl h
  case assign x => exact OpV.value rfl h
  case pick c a b =>
    have h : Z39 (ρ c) (ρ a) (ρ b) w K := h
    unfold Z39 at h
    generalize hcv : ρ c = cv at *
    split at h
    · rename_i t
      cases t
      · rw [Z0p] at h
        exact OpV.value (by simp [execOp, hcv, asBool]) h
      · rw [Z0o] at h
        exact OpV.value (by simp [execOp, hcv, asBool]) h
    · exact h.elim
  case alloc e => exact alloc_ok h
  case box e x => exact box_ok h
  case build t ps => obtain ⟨v, h1, h2⟩ := build_ok (rt := rt) (K := fun v => K v w) h; exact OpV.value (h1 w) h2
  case buildSlice t n ps => exact buildSlice_ok h
  case load t a => obtain ⟨v, h1, h2⟩ := load_ok (rt := rt) (K := fun v => K v w) h; exact OpV.value (h1 _ (Below.refl _ _)) h2
  case store t a x => obtain ⟨v, h1, h2, h3⟩ := store_ok (rt := rt) h; exact OpV.skip h1 h3 h2
  case nilCheck x => exact nil_ok h
  case binOp o t x y yt => obtain ⟨v, h1, h2⟩ := bin_ok (rt := rt) (yt := yt) (K := fun v => K v w) h; exact OpV.value (h1 w) h2
  case unOp o t x => obtain ⟨v, h1, h2⟩ := un_ok (C := C) (rt := rt) (t := t) (K := fun v => K v w) h; exact OpV.value (h1 w) h2
  case convert s d x =>
    have h : (match C.ty s with | some _ => Z3l C s d (ρ x) (RunA C.P (convert s d (ρ x)) w K) fun v => K v w | none => False) := h
    split at h
    · rename_i i hi; exact conv_ok h ⟨i, hi⟩
    · exact h.elim
  case makeFunc fn a b =>
    have h : K (.func fn (a.toList.map ρ).toArray (b.toList.map ρ).toArray) w := h
    rw [← Array.toList_map, Array.toArray_toList, ← Array.toList_map, Array.toArray_toList] at h
    exact OpV.value rfl h
  case makeInterface t x => exact iface_val h
  case slice t x lo hi mx => obtain ⟨v, h1, h2⟩ := slice_ok (rt := rt) (K := fun v => K v w) h; exact OpV.value (h1 w) h2
  case fieldAddr t x f => exact fieldAddr_ok h
  case indexAddr t x i => exact indexAddr_ok h
  case extract x i => exact extract_val h
  case call c => exact callOp_ok h
  case index t x i => exact index_ok h
  case field t x f => exact run_val rfl h
  case lookup t x i ok => exact run_val rfl h
  case mapUpdate t m k x => exact run_unit rfl h
  case insert t m k x => exact run_unit rfl h
  case mapEntry t m k => exact run_val rfl h
  case entryStore t m s x => exact run_unit rfl h
  case makeMap t r => exact run_val rfl h
  case makeSlice t l c => exact run_val rfl h
  case typeAssert x t a ok => exact run_val rfl h
  case range t x => exact run_val rfl h
  case next it s => exact run_val rfl h
  case entry it => exact run_val rfl h
  all_goals exact h
end Go.Proofs.YtdpfafgecchafaaDoor.Sx

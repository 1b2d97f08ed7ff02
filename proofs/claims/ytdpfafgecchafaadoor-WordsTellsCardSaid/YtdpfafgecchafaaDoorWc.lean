/- Words: slices' functions, period. -/
import Derived.Test.YtdpfafgecchafaaDoorWb
import Derived.Lib.AppendZeros
set_option linter.unusedVariables false
set_option maxRecDepth 20000
set_option linter.unusedSimpArgs false
namespace Go.Proofs.YtdpfafgecchafaaDoor
open Go Go.RowKit Sx

/-- a list of letters that a call owns -/
def OwnU (w : World) (base : Nat) (v : Value) (l : List Int) : Prop := OwnI .u16 w base 54 v l
theorem OwnU.rd {w : World} {base : Nat} {v : Value} {l : List Int} (h : OwnU w base v l) : RdI .u16 w v l := OwnI.rd h
theorem OwnU.nil (w : World) (base : Nat) : OwnU w base (.slice none 0 0) [] := OwnI.nil _ _ _ _
theorem OwnU.below {w w' : World} {base : Nat} {v : Value} {l : List Int} (h : OwnU w base v l) (hb : Below w.heap.size w w') : OwnU w' base v l := OwnC.below h hb
theorem OwnU.lower {w : World} {base base' : Nat} {v : Value} {l : List Int} (h : OwnU w base v l) (hb : base' ≤ base) : OwnU w base' v l := OwnC.mono h hb
theorem OwnU.fr {w w' : World} {v : Value} {l : List Int} (h : OwnU w' w.heap.size v l) : FrOk roomB v w w' := fun b hb => OwnC.room h b hb
theorem OwnU.upd {w w' : World} {base b : Nat} {o : Obj} {v : Value} {l : List Int} (h : OwnU w base v l) (u : Upd w b o w') (hb : b < base) : OwnU w' base v l :=
  OwnC.keep h fun g hg => u.rest g (by have := (OwnC.room h g hg).1; omega)
theorem OwnU.out {w : World} {base : Nat} {v : Value} {l : List Int} (h : OwnU w base v l) : ∃ p c, v = .slice p l.length c := by
  obtain ⟨p, c, h, _⟩ := h.rd.out
  exact ⟨p, c, h⟩

/-- letters behind letters of one's own -/
theorem appU {w : World} {ty : TypeId} {base : Nat} {v x : Value} {l m : List Int} {K : KV} (hown : OwnU w base v l) (hx : RdI .u16 w x m) (hm : l.length + m.length ≤ 70368744177664) (hbase : base ≤ w.heap.size)
    (hk : ∀ v' w', OwnU w' base v' (l ++ m) → w.grownBy w' (roomOf v) → (roomOf v' = roomOf v ∨ roomOf v' = some w.heap.size) → Below base w w' → K v' w') : RunA C.P (Builtin.append_ #[22, 22] ty #[v, x]) w K := by
  refine app E16 hown hx (nums_one _ _) (by simp only [most]; omega) (by omega) hbase ?_
  intro v' w' h1 h2 h3 h4
  refine hk v' w' ?_ h2 h3 h4
  show OwnC _ _ _ _ _ _ _
  rw [List.length_append, nums_append]
  exact h1

theorem app_zeros {P : Program} {w : World} {t tn ty e : TypeId} {z : Value} {sz bytes : Nat} {k kn : IntKind} {K : KV} (n : Nat) {l : Int} (hl : l = n) (ht : P.underlying t = some (.slice e)) (htn : P.underlying tn = some (.int kn)) (hi : (P.info? e).map (fun i => (i.zero, i.size, i.bytes)) = some (some z, sz, bytes))
    (hz : z.cells.size = sz) (h0 : 0 < n) (hs : 0 < sz) (h63 : n ≤ 9223372036854775807) (h48 : n * bytes ≤ 281474976710656)
    (hk : ∀ g cap cur w', g = w.heap.size → n ≤ cap → cap ≤ maxLen → w'.heap[g]? = some (.cells cur e (0, 0)) → cur.size = cap * sz → Below w.heap.size w w' → w'.heap.size = w.heap.size + 1 → K (.slice (some ⟨g, 0, none⟩) n cap) w') :
    RunA P (Builtin.append_ #[t, tn] ty #[.slice none 0 0, .int k l]) w K := by
  subst hl
  cases h : P.info? e with
  | none => simp [h] at hi
  | some i =>
    simp only [h, Option.map_some, Option.some.injEq, Prod.mk.injEq] at hi
    obtain ⟨hz', rfl, rfl⟩ := hi
    have hr := Lib.run_append_nil_zeros (P := P) w t tn ty e i z k kn ht htn h hz' n h0 hs (by omega) h48
    have hge := grownCap_ge w n 0 e
    unfold RunA
    rw [hr]
    refine ⟨KeepD.alloc w.drew _, ?_⟩
    refine hk _ _ _ _ rfl hge (grownCap_le_maxLen w n 0 e (by simp only [maxLen]; omega)) (heap_alloc_new w.drew _) ?_ ⟨rfl, rfl, rfl, by simp, fun k hk => Below.heap_alloc w.drew _ k hk⟩ (by simp)
    simp only [Array.size_append, size_zeroCells, hz, ← Nat.add_mul]
    congr 1
    omega

theorem clone_any (w : World) (l : List Int) (v : Value) (hv : RdI .u16 w v l) (hl : l.length ≤ 70368744177664) :
    CallG C.P 47 #[v] w (fun v w' => OwnU w' w.heap.size v l ∧ Below w.heap.size w w') := by
  obtain ⟨p, c, rfl, hx1, hx2, hx3, hp⟩ := hv.out
  refine fn_ok (C := C) (args := [_]) 7 [.tmp 2] Tryd.func47 rfl rfl rfl rfl ?_
  simp only [Tryd.f47, Z00, Z01, Z02, Z03, Z04, Z05, Z06, Z07, Z08, Z09, ↓Z0a, ↓Z0b, ↓Z0c, ↓Z0d, ↓Z0e, ↓Z0f, ↓Z0g, ↓Z0h, ↓Z0i, ↓Z0j, ↓Z0k, ↓Z0l, ↓Z0m, ↓Z0n, ↓Z0o, ↓Z0p, resL, res1, resK, Z0q, Z0r, Z0s, Z0t, Z0u, Z0v, Z0w, Z0x, Z0y, Z0z, Z10, Z11, Z12, Z13, Z14, ↓Z15, ↓Z16, Z17, Z18, Z19, Z1a, Z1b, Z1c, ↓Z1d, ↓Z1e, Z1f, ↓Z1g, ↓Z1h, ↓Z1m, ↓Z1q, ↓Z1z, ↓Z20, ↓Z21, Y00, Z2h, ↓Z2i, ↓Z2j, ↓Z2o, ↓Z2x, Z2y, Z2z, Z30, Z31, Z32, Z33, ev_t, ev_c, ev_g, ev_f, hv_t, hv_f, hv_n, Z34, Z35, Z36, Y01, Y02, Y03, Y04, Y05, Z3a, Y06, Y07, nth?, Y08, Y09, Y0a, Y0b, Y0c, Y0d, Y0e, putN, Z3i, repL, Y0f, Y0g, Y0h, Y0i, Y0j, Y0k, Y0l, Y0m, Y0n, Y0o, Y0p, Y0q, Y0r, Y0s, Z3r, Z3s, Z3t, depB, Fd, Fall, Dis, Dis1, Z3u, Z3v, appC, appN, mapC, mapN, List.append_eq, Z3w, Array.toArray_toList, Z3x, Z3y, List.getElem?_cons_zero, List.getElem?_cons_succ, Nat.reduceAdd, Nat.reduceSub, Nat.reduceMul, Nat.reduceEqDiff, Nat.zero_add, Nat.add_zero, Nat.mul_one, Nat.zero_mul, if_true, if_false, eq_self, true_and, and_true, reduceCtorEq, false_and, Addr.add_lit, ne_eq, not_false_eq_true, Array.empty_append, Array.append_empty, ↓Z3z, ↓Z40, ↓Z41, ↓Z42, ↓Z43, ↓Z44, ↓Z45, List.getElem?_toArray, Z46, Int.toNat_natCast, Nat.sub_zero, Int.toNat_sub, Sx.Z47, ite_self, ty_22, ty_54]
  refine BrB (fun h => ?_) (fun h => ?_)
  · have h0 : l.length = 0 := by
      rcases Nat.eq_zero_or_pos l.length with h' | h'
      · exact h'
      · obtain ⟨b, o, rfl, _⟩ := hp h'; cases h
    obtain rfl := List.eq_nil_of_length_eq_zero h0
    exact ⟨OwnU.nil _ _, Below.refl _ _⟩
  · refine ⟨⟨by omega, rfl⟩, ?_⟩
    intro b w1 n1
    refine appU (base := w.heap.size) (l := []) (OwnC.empty _ _ _ _ _) (hv.below n1.ext) (by simp; omega) n1.ext.size ?_
    intro v' w' h1 _ _ h4
    exact ⟨h1, n1.ext.trans h4⟩

theorem grow_any (w : World) (n : Int) (h0 : 0 ≤ n) (hn : n ≤ 140737488355328) :
    CallG C.P 76 #[.slice none 0 0, .int .i64 n] w (fun v w' => OwnU w' w.heap.size v [] ∧ Below w.heap.size w w') := by
  refine fn_ok (C := C) (args := [_, _]) 25 [.tmp 4] Tryd.func76 rfl rfl rfl rfl ?_
  simp only [Tryd.f76, Z00, Z01, Z02, Z03, Z04, Z05, Z06, Z07, Z08, Z09, ↓Z0a, ↓Z0b, ↓Z0c, ↓Z0d, ↓Z0e, ↓Z0f, ↓Z0g, ↓Z0h, ↓Z0i, ↓Z0j, ↓Z0k, ↓Z0l, ↓Z0m, ↓Z0n, ↓Z0o, ↓Z0p, resL, res1, resK, Z0q, Z0r, Z0s, Z0t, Z0u, Z0v, Z0w, Z0x, Z0y, Z0z, Z10, Z11, Z12, Z13, Z14, ↓Z15, ↓Z16, Z17, Z18, Z19, Z1a, Z1b, Z1c, ↓Z1d, ↓Z1e, Z1f, ↓Z1g, ↓Z1h, ↓Z1q, ↓Z1t, ↓Z1u, ↓Z1z, ↓Z20, ↓Z21, Y00, Z2h, ↓Z2i, ↓Z2j, ↓Z2o, ↓Z2s, ↓Z2t, ↓Z2x, Z2y, Z2z, Z30, Z31, Z32, Z33, ev_t, ev_c, ev_g, ev_f, hv_t, hv_f, hv_n, Z34, Z35, Z36, Y01, Y02, Y03, Y04, Y05, Z3a, Y06, Y07, nth?, Y08, Y09, Y0a, Y0b, Y0c, Y0d, Y0e, putN, Z3i, repL, Y0f, Y0g, Y0h, Y0i, Y0j, Y0k, Y0l, Y0m, Y0n, Y0o, Y0p, Y0q, Y0r, Y0s, Z3r, Z3s, Z3t, depB, Fd, Fall, Dis, Dis1, Z3u, Z3v, appC, appN, mapC, mapN, List.append_eq, Z3w, Array.toArray_toList, Z3x, Z3y, List.getElem?_cons_zero, List.getElem?_cons_succ, Nat.reduceAdd, Nat.reduceSub, Nat.reduceMul, Nat.reduceEqDiff, Nat.zero_add, Nat.add_zero, Nat.mul_one, Nat.zero_mul, if_true, if_false, eq_self, true_and, and_true, reduceCtorEq, false_and, Addr.add_lit, ne_eq, not_false_eq_true, Array.empty_append, Array.append_empty, ↓Z3z, ↓Z40, ↓Z41, ↓Z42, ↓Z43, ↓Z44, ↓Z45, List.getElem?_toArray, Z46, Int.toNat_natCast, Nat.sub_zero, Int.toNat_sub, Sx.Z47, ite_self, ty_3, ty_9, ty_22, ty_54]
  have e : IntKind.i64.wrap (n - IntKind.i64.wrap (((0 : Nat) : Int) - ((0 : Nat) : Int))) = n := by
    rw [wi (n := ((0 : Nat) : Int) - ((0 : Nat) : Int)) (by omega) (by omega), wi (by omega) (by omega)]; omega
  simp only [e]
  refine BrD (fun h => absurd h (by omega)) (fun _ => BrD (fun h => ?_) (fun h => ⟨OwnU.nil _ _, Below.refl _ _⟩))
  refine ⟨.inl trivial, ⟨by omega, by omega⟩, ?_⟩
  refine app_zeros n.toNat (by omega) (kn := .i64) (e := 54) (z := .int .u16 0) (sz := 1) (bytes := 2) (by kernel_rfl) (by kernel_rfl) (by kernel_rfl) rfl (by omega) (by omega) (by omega) (by omega) ?_
  intro g cap cur w' hg hle hmax hh hs hB hsz
  simp only [Z00, Z01, Z02, Z03, Z04, Z05, Z06, Z07, Z08, Z09, ↓Z0a, ↓Z0b, ↓Z0c, ↓Z0d, ↓Z0e, ↓Z0f, ↓Z0g, ↓Z0h, ↓Z0i, ↓Z0j, ↓Z0k, ↓Z0l, ↓Z0m, ↓Z0n, ↓Z0o, ↓Z0p, resL, res1, resK, Z0q, Z0r, Z0s, Z0t, Z0u, Z0v, Z0w, Z0x, Z0y, Z0z, Z10, Z11, Z12, Z13, Z14, ↓Z15, ↓Z16, Z17, Z18, Z19, Z1a, Z1b, Z1c, ↓Z1d, ↓Z1e, Z1f, ↓Z1g, ↓Z1h, ↓Z1q, ↓Z1t, ↓Z1u, ↓Z1z, ↓Z20, ↓Z21, Y00, Z2h, ↓Z2i, ↓Z2j, ↓Z2o, ↓Z2s, ↓Z2t, ↓Z2x, Z2y, Z2z, Z30, Z31, Z32, Z33, ev_t, ev_c, ev_g, ev_f, hv_t, hv_f, hv_n, Z34, Z35, Z36, Y01, Y02, Y03, Y04, Y05, Z3a, Y06, Y07, nth?, Y08, Y09, Y0a, Y0b, Y0c, Y0d, Y0e, putN, Z3i, repL, Y0f, Y0g, Y0h, Y0i, Y0j, Y0k, Y0l, Y0m, Y0n, Y0o, Y0p, Y0q, Y0r, Y0s, Z3r, Z3s, Z3t, depB, Fd, Fall, Dis, Dis1, Z3u, Z3v, appC, appN, mapC, mapN, List.append_eq, Z3w, Array.toArray_toList, Z3x, Z3y, List.getElem?_cons_zero, List.getElem?_cons_succ, Nat.reduceAdd, Nat.reduceSub, Nat.reduceMul, Nat.reduceEqDiff, Nat.zero_add, Nat.add_zero, Nat.mul_one, Nat.zero_mul, if_true, if_false, eq_self, true_and, and_true, reduceCtorEq, false_and, Addr.add_lit, ne_eq, not_false_eq_true, Array.empty_append, Array.append_empty, ↓Z3z, ↓Z40, ↓Z41, ↓Z42, ↓Z43, ↓Z44, ↓Z45, List.getElem?_toArray, Z46, Int.toNat_natCast, Nat.sub_zero, Int.toNat_sub, Sx.Z47, ite_self, ty_3, ty_9, ty_22, ty_54]
  refine ⟨.inl trivial, ⟨by omega, by omega⟩, ?_, hB⟩
  exact ⟨rfl, Nat.zero_le _, .inr ⟨g, cap, cur, rfl, by omega, hh, Nat.zero_le _, hmax, hs, by simp [nums]⟩⟩

/-- is a list its first n letters over and over? -/
def good (l : List Int) (n : Nat) : Prop := l.length % n = 0 ∧ l.drop n = l.take (l.length - n)
instance (l : List Int) (n : Nat) : Decidable (good l n) := by unfold good; infer_instance
def perFrom (l : List Int) : Nat → Nat → Nat
  | 0, _ => l.length
  | f + 1, n => if good l n then n else perFrom l f (n + 1)
/-- how long the shortest row is that, again and again, is the loop -/
def per (l : List Int) : Nat := perFrom l (l.length - 1) 1

theorem RdI.part {k : IntKind} {w : World} {p : Option Addr} {n c : Nat} {l : List Int} (h : RdI k w (.slice p n c) l) (lo hi m : Nat) (h1 : lo ≤ hi) (h2 : hi ≤ l.length) (h3 : hi ≤ m) (h4 : m ≤ c) :
    RdI k w (.slice (if m = lo then p else p.map (·.add lo)) (hi - lo) (m - lo)) ((l.drop lo).take (hi - lo)) := by
  obtain ⟨p', c', hv, hn, hc, hm, hl, hcell⟩ := h
  cases hv
  have := RdC.slice (sz := 1) (w := w) (p := p) (n := l.length) (c := c) (cs := nums k l) ⟨p, c, rfl, hn, hc, hm, hl, hcell⟩ lo hi m h1 h2 h3 h4
  have e : ((nums k l).drop (lo * 1)).take ((hi - lo) * 1) = nums k ((l.drop lo).take (hi - lo)) := by simp [nums, List.map_take, List.map_drop]
  have e2 : ((l.drop lo).take (hi - lo)).length = hi - lo := by simp; omega
  unfold RdI
  rw [e2, ← e]
  simpa using this
/-- from a place on -/
theorem RdI.from_ {k : IntKind} {w : World} {p : Option Addr} {n c : Nat} {l : List Int} (h : RdI k w (.slice p n c) l) (lo : Nat) (h1 : lo ≤ l.length) :
    RdI k w (.slice (if c = lo then p else p.map (·.add lo)) (l.length - lo) (c - lo)) (l.drop lo) := by
  have hc : l.length ≤ c := by
    obtain ⟨_, _, e, h, _⟩ := h.out; cases e; exact h
  have := h.part lo l.length c h1 (Nat.le_refl _) hc (Nat.le_refl _)
  rwa [List.take_of_length_le (by simp)] at this
/-- up to a place -/
theorem RdI.upto {k : IntKind} {w : World} {p : Option Addr} {n c : Nat} {l : List Int} (h : RdI k w (.slice p n c) l) (hi : Nat) (h1 : hi ≤ l.length) : RdI k w (.slice p hi c) (l.take hi) := by
  have hc : l.length ≤ c := by
    obtain ⟨_, _, e, h, _⟩ := h.out; cases e; exact h
  have := h.part 0 hi c (Nat.zero_le _) h1 (by omega) (Nat.le_refl _)
  rwa [Z46, List.drop_zero, Nat.sub_zero, Nat.sub_zero] at this

theorem good_iff {l : List Int} {k : Nat} (hk : 1 ≤ k) (h : k < l.length) : ((l.length : Int).tmod k = 0 ∧ l.drop k = l.take (l.length - k)) ↔ good l k := by
  unfold good
  rw [← Int.ofNat_tmod]
  constructor
  · rintro ⟨h1, h2⟩; exact ⟨by omega, h2⟩
  · rintro ⟨h1, h2⟩; exact ⟨by omega, h2⟩
theorem perFrom_yes {l : List Int} {k : Nat} (h : k < l.length) (hg : good l k) : perFrom l (l.length - k) k = k := by
  obtain ⟨f, hf⟩ : ∃ f, l.length - k = f + 1 := ⟨l.length - k - 1, by omega⟩
  rw [hf, perFrom, if_pos hg]
theorem perFrom_no {l : List Int} {k : Nat} (h : k < l.length) (hg : ¬ good l k) : perFrom l (l.length - k) k = perFrom l (l.length - (k + 1)) (k + 1) := by
  obtain ⟨f, hf⟩ : ∃ f, l.length - k = f + 1 := ⟨l.length - k - 1, by omega⟩
  rw [hf, perFrom, if_neg hg, show l.length - (k + 1) = f by omega]
theorem perFrom_end {l : List Int} {k : Nat} (h : l.length ≤ k) : perFrom l (l.length - k) k = l.length := by
  rw [show l.length - k = 0 by omega, perFrom]

theorem period_any (w : World) (l : List Int) (v : Value) (hv : RdI .u16 w v l) :
    CallG C.P 46 #[v] w (Ans w (.int .i64 (per l))) := by
  obtain ⟨p, c, rfl, hx1, hx2, hx3, hp⟩ := hv.out
  clear hp
  refine fn_ok (C := C) (args := [_]) 29 [.tmp 2] Tryd.func46 rfl rfl rfl rfl ?_
  simp only [Tryd.f46, Z00, Z01, Z02, Z03, Z04, Z05, Z06, Z07, Z08, Z09, ↓Z0a, ↓Z0b, ↓Z0c, ↓Z0d, ↓Z0e, ↓Z0f, ↓Z0g, ↓Z0h, ↓Z0i, ↓Z0j, ↓Z0k, ↓Z0l, ↓Z0m, ↓Z0n, ↓Z0o, ↓Z0p, resL, res1, resK, Z0q, Z0r, Z0s, Z0t, Z0u, Z0v, Z0w, Z0x, Z0y, Z0z, Z10, Z11, Z12, Z13, Z14, ↓Z15, ↓Z16, Z17, Z18, Z19, Z1a, Z1b, Z1c, ↓Z1d, ↓Z1e, Z1f, ↓Z1g, ↓Z1h, ↓Z1i, ↓Z1q, ↓Z1u, ↓Z1z, ↓Z20, ↓Z21, Y00, Z2h, ↓Z2i, ↓Z2j, ↓Z2k, ↓Z2o, ↓Z2t, ↓Z2x, Z2y, Z2z, Z30, Z31, Z32, Z33, ev_t, ev_c, ev_g, ev_f, hv_t, hv_f, hv_n, Z34, Z35, Z36, Y01, Y02, Y03, Y04, Y05, Z3a, Y06, Y07, nth?, Y08, Y09, Y0a, Y0b, Y0c, Y0d, Y0e, putN, Z3i, repL, Y0f, Y0g, Y0h, Y0i, Y0j, Y0k, Y0l, Y0m, Y0n, Y0o, Y0p, Y0q, Y0r, Y0s, Z3r, Z3s, Z3t, depB, Fd, Fall, Dis, Dis1, Z3u, Z3v, appC, appN, mapC, mapN, List.append_eq, Z3w, Array.toArray_toList, Z3x, Z3y, List.getElem?_cons_zero, List.getElem?_cons_succ, Nat.reduceAdd, Nat.reduceSub, Nat.reduceMul, Nat.reduceEqDiff, Nat.zero_add, Nat.add_zero, Nat.mul_one, Nat.zero_mul, if_true, if_false, eq_self, true_and, and_true, reduceCtorEq, false_and, Addr.add_lit, ne_eq, not_false_eq_true, Array.empty_append, Array.append_empty, ↓Z3z, ↓Z40, ↓Z41, ↓Z42, ↓Z43, ↓Z44, ↓Z45, List.getElem?_toArray, Z46, Int.toNat_natCast, Nat.sub_zero, Int.toNat_sub, Sx.Z47, ite_self, ty_3, ty_22, ty_54]
  refine loop_ok [false, false, true, true, true, true, true, true, true, true, true, true, true, true, true, true, true, true, true, true, true, true, true, true, true, true, true, true, false, false] (fun u wr => ∃ k : Nat, u 3 = .int .i64 k ∧ 1 ≤ k ∧ k ≤ l.length + 1 ∧ Below w.heap.size w wr ∧ per l = perFrom l (l.length - k) k)
    (fun u wr => l.length + 1 - (intOf (u 3)).toNat) ⟨rfl, 1, rfl, Nat.le_refl _, by omega, Below.refl _ _, rfl⟩ ?_
  rintro u wr ⟨k, h3, hk1, hk, hB, hs⟩
  simp only [Z00, Z01, Z02, Z03, Z04, Z05, Z06, Z07, Z08, Z09, ↓Z0a, ↓Z0b, ↓Z0c, ↓Z0d, ↓Z0e, ↓Z0f, ↓Z0g, ↓Z0h, ↓Z0i, ↓Z0j, ↓Z0k, ↓Z0l, ↓Z0m, ↓Z0n, ↓Z0o, ↓Z0p, resL, res1, resK, Z0q, Z0r, Z0s, Z0t, Z0u, Z0v, Z0w, Z0x, Z0y, Z0z, Z10, Z11, Z12, Z13, Z14, ↓Z15, ↓Z16, Z17, Z18, Z19, Z1a, Z1b, Z1c, ↓Z1d, ↓Z1e, Z1f, ↓Z1g, ↓Z1h, ↓Z1i, ↓Z1q, ↓Z1u, ↓Z1z, ↓Z20, ↓Z21, Y00, Z2h, ↓Z2i, ↓Z2j, ↓Z2k, ↓Z2o, ↓Z2t, ↓Z2x, Z2y, Z2z, Z30, Z31, Z32, Z33, ev_t, ev_c, ev_g, ev_f, hv_t, hv_f, hv_n, Z34, Z35, Z36, Y01, Y02, Y03, Y04, Y05, Z3a, Y06, Y07, nth?, Y08, Y09, Y0a, Y0b, Y0c, Y0d, Y0e, putN, Z3i, repL, Y0f, Y0g, Y0h, Y0i, Y0j, Y0k, Y0l, Y0m, Y0n, Y0o, Y0p, Y0q, Y0r, Y0s, Z3r, Z3s, Z3t, depB, Fd, Fall, Dis, Dis1, Z3u, Z3v, appC, appN, mapC, mapN, List.append_eq, Z3w, Array.toArray_toList, Z3x, Z3y, List.getElem?_cons_zero, List.getElem?_cons_succ, Nat.reduceAdd, Nat.reduceSub, Nat.reduceMul, Nat.reduceEqDiff, Nat.zero_add, Nat.add_zero, Nat.mul_one, Nat.zero_mul, if_true, if_false, eq_self, true_and, and_true, reduceCtorEq, false_and, Addr.add_lit, ne_eq, not_false_eq_true, Array.empty_append, Array.append_empty, ↓Z3z, ↓Z40, ↓Z41, ↓Z42, ↓Z43, ↓Z44, ↓Z45, List.getElem?_toArray, Z46, Int.toNat_natCast, Nat.sub_zero, Int.toNat_sub, Sx.Z47, ite_self, ty_3, ty_22, ty_54, h3]
  refine BrD (fun hlt => ?_) (fun hlt => ?_)
  · have hlt : k < l.length := by omega
    refine draw_sp 17 [(15, (fun v _ => v = Value.bool (decide (List.drop k l = List.take (l.length - k) l))), noB)] (by kernel_rfl) (by kernel_rfl) (by decide) 30 rfl (by kernel_rfl) ⟨fun _ _ _ h _ => h, trivial⟩ ?_
    simp only [Z00, Z01, Z02, Z03, Z04, Z05, Z06, Z07, Z08, Z09, ↓Z0a, ↓Z0b, ↓Z0c, ↓Z0d, ↓Z0e, ↓Z0f, ↓Z0g, ↓Z0h, ↓Z0i, ↓Z0j, ↓Z0k, ↓Z0l, ↓Z0m, ↓Z0n, ↓Z0o, ↓Z0p, resL, res1, resK, Z0q, Z0r, Z0s, Z0t, Z0u, Z0v, Z0w, Z0x, Z0y, Z0z, Z10, Z11, Z12, Z13, Z14, ↓Z15, ↓Z16, Z17, Z18, Z19, Z1a, Z1b, Z1c, ↓Z1d, ↓Z1e, Z1f, ↓Z1g, ↓Z1h, ↓Z1i, ↓Z1q, ↓Z1u, ↓Z1z, ↓Z20, ↓Z21, Y00, Z2h, ↓Z2i, ↓Z2j, ↓Z2k, ↓Z2o, ↓Z2t, ↓Z2x, Z2y, Z2z, Z30, Z31, Z32, Z33, ev_t, ev_c, ev_g, ev_f, hv_t, hv_f, hv_n, Z34, Z35, Z36, Y01, Y02, Y03, Y04, Y05, Z3a, Y06, Y07, nth?, Y08, Y09, Y0a, Y0b, Y0c, Y0d, Y0e, putN, Z3i, repL, Y0f, Y0g, Y0h, Y0i, Y0j, Y0k, Y0l, Y0m, Y0n, Y0o, Y0p, Y0q, Y0r, Y0s, Z3r, Z3s, Z3t, depB, Fd, Fall, Dis, Dis1, Z3u, Z3v, appC, appN, mapC, mapN, List.append_eq, Z3w, Array.toArray_toList, Z3x, Z3y, List.getElem?_cons_zero, List.getElem?_cons_succ, Nat.reduceAdd, Nat.reduceSub, Nat.reduceMul, Nat.reduceEqDiff, Nat.zero_add, Nat.add_zero, Nat.mul_one, Nat.zero_mul, if_true, if_false, eq_self, true_and, and_true, reduceCtorEq, false_and, Addr.add_lit, ne_eq, not_false_eq_true, Array.empty_append, Array.append_empty, ↓Z3z, ↓Z40, ↓Z41, ↓Z42, ↓Z43, ↓Z44, ↓Z45, List.getElem?_toArray, Z46, Int.toNat_natCast, Nat.sub_zero, Int.toNat_sub, Sx.Z47, ite_self, ty_3, ty_22, ty_54, h3]
    refine ⟨by omega, BrE (fun hz => ?_) (fun hz => ?_)⟩
    · refine ⟨.inl trivial, ⟨by omega, by omega⟩, .inl trivial, ?_⟩
      simp only [wi (n := (l.length : Int) - k) (by omega) (by omega), Int.toNat_sub]
      refine ⟨⟨by omega, by omega⟩, fun W hW _ => ?_, ?_⟩
      · refine (equal_any W _ _ _ _ (((hv.below hB).below hW).from_ k (by omega)) (((hv.below hB).below hW).upto (l.length - k) (by omega))).mono ?_
        rintro v W' ⟨rfl, h⟩
        exact ⟨h, rfl, FrOk.no _ _ _⟩
      rintro v ⟨_, _, rfl⟩ W hW - -
      simp only [Z00, Z01, Z02, Z03, Z04, Z05, Z06, Z07, Z08, Z09, ↓Z0a, ↓Z0b, ↓Z0c, ↓Z0d, ↓Z0e, ↓Z0f, ↓Z0g, ↓Z0h, ↓Z0i, ↓Z0j, ↓Z0k, ↓Z0l, ↓Z0m, ↓Z0n, ↓Z0o, ↓Z0p, resL, res1, resK, Z0q, Z0r, Z0s, Z0t, Z0u, Z0v, Z0w, Z0x, Z0y, Z0z, Z10, Z11, Z12, Z13, Z14, ↓Z15, ↓Z16, Z17, Z18, Z19, Z1a, Z1b, Z1c, ↓Z1d, ↓Z1e, Z1f, ↓Z1g, ↓Z1h, ↓Z1i, ↓Z1q, ↓Z1u, ↓Z1z, ↓Z20, ↓Z21, Y00, Z2h, ↓Z2i, ↓Z2j, ↓Z2k, ↓Z2o, ↓Z2t, ↓Z2x, Z2y, Z2z, Z30, Z31, Z32, Z33, ev_t, ev_c, ev_g, ev_f, hv_t, hv_f, hv_n, Z34, Z35, Z36, Y01, Y02, Y03, Y04, Y05, Z3a, Y06, Y07, nth?, Y08, Y09, Y0a, Y0b, Y0c, Y0d, Y0e, putN, Z3i, repL, Y0f, Y0g, Y0h, Y0i, Y0j, Y0k, Y0l, Y0m, Y0n, Y0o, Y0p, Y0q, Y0r, Y0s, Z3r, Z3s, Z3t, depB, Fd, Fall, Dis, Dis1, Z3u, Z3v, appC, appN, mapC, mapN, List.append_eq, Z3w, Array.toArray_toList, Z3x, Z3y, List.getElem?_cons_zero, List.getElem?_cons_succ, Nat.reduceAdd, Nat.reduceSub, Nat.reduceMul, Nat.reduceEqDiff, Nat.zero_add, Nat.add_zero, Nat.mul_one, Nat.zero_mul, if_true, if_false, eq_self, true_and, and_true, reduceCtorEq, false_and, Addr.add_lit, ne_eq, not_false_eq_true, Array.empty_append, Array.append_empty, ↓Z3z, ↓Z40, ↓Z41, ↓Z42, ↓Z43, ↓Z44, ↓Z45, List.getElem?_toArray, Z46, Int.toNat_natCast, Nat.sub_zero, Int.toNat_sub, Sx.Z47, ite_self, ty_3, ty_22, ty_54, h3]
      have hBW := hB.trans (hW.mono hB.size)
      refine BrD (fun he => ?_) (fun he => ?_)
      · exact Ans.mk (by rw [hs, perFrom_yes hlt ((good_iff hk1 hlt).1 ⟨hz, he⟩)]) hBW
      · have hg : ¬ good l k := fun h => he ((good_iff hk1 hlt).2 h).2
        rw [wi (by omega) (by omega)]
        exact ⟨⟨k + 1, by simp, by omega, by omega, hBW, by rw [hs, perFrom_no hlt hg]⟩, by simp [intOf]; omega⟩
    · intro W hW _ _
      have hBW := hB.trans (hW.mono hB.size)
      have hg : ¬ good l k := fun h => hz ((good_iff hk1 hlt).2 h).1
      rw [wi (by omega) (by omega)]
      exact ⟨⟨k + 1, by simp, by omega, by omega, hBW, by rw [hs, perFrom_no hlt hg]⟩, by simp [intOf]; omega⟩
  · exact Ans.mk (by rw [hs, perFrom_end (by omega)]) hB

theorem RdC.atS {w : World} {v : Value} {n : Nat} {cs : List Value} (h : RdC w 1 v n cs) {i : Int} (h0 : 0 ≤ i) (h1 : i < n) {p : Option Addr} {m c : Nat} (hx : cs[i.toNat]? = some (.slice p m c)) {K : Nat → Nat → Option Addr → Nat → Nat → Prop} (hk : ∀ b o, K b o p m c) :
    IxA 1 v i fun b o => LdSl w ⟨b, o, none⟩ (K b o) := by
  obtain ⟨q, d, rfl, _, _, _, _, hc⟩ := h
  obtain ⟨b, o, rfl, _, hcell⟩ := hc (by omega)
  exact ⟨b, o, _, _, rfl, h0, h1, _, _, _, by rw [Nat.mul_one]; exact hcell _ _ hx, hk _ _⟩

theorem flat_take (ls : List (List Int)) (k : Nat) (l : List Int) (h : ls[k]? = some l) : (ls.take (k + 1)).flatten = (ls.take k).flatten ++ l := by
  have := (List.getElem?_eq_some_iff.1 h)
  obtain ⟨hk, rfl⟩ := this
  rw [List.take_succ_eq_append_getElem hk, List.flatten_append]; simp
theorem flat_le (ls : List (List Int)) (k : Nat) : (ls.take k).flatten.length ≤ ls.flatten.length := by
  have h := congrArg (fun l => (List.flatten l).length) (List.take_append_drop k ls)
  simp only [List.flatten_append, List.length_append] at h
  omega

theorem concat_any (w : World) (v : Value) (vs : List Value) (ls : List (List Int)) (hv : RdC w 1 v vs.length vs) (hl : vs.length = ls.length) (hrd : ∀ (j : Nat) (v : Value) (l : List Int), vs[j]? = some v → ls[j]? = some l → RdI .u16 w v l) (hn : ls.flatten.length ≤ 70368744177664) :
    CallG C.P 48 #[v] w (fun v w' => OwnU w' w.heap.size v ls.flatten ∧ Below w.heap.size w w') := by
  obtain ⟨p, c, rfl, hx1, hx2, hx3, hp⟩ := hv
  refine fn_ok (C := C) (args := [_]) 35 [.tmp 2] Tryd.func48 rfl rfl rfl rfl ?_
  simp only [Tryd.f48, Z00, Z01, Z02, Z03, Z04, Z05, Z06, Z07, Z08, Z09, ↓Z0a, ↓Z0b, ↓Z0c, ↓Z0d, ↓Z0e, ↓Z0f, ↓Z0g, ↓Z0h, ↓Z0i, ↓Z0j, ↓Z0k, ↓Z0l, ↓Z0m, ↓Z0n, ↓Z0o, ↓Z0p, resL, res1, resK, Z0q, Z0r, Z0s, Z0t, Z0u, Z0v, Z0w, Z0x, Z0y, Z0z, Z10, Z11, Z12, Z13, Z14, ↓Z15, ↓Z16, Z17, Z18, Z19, Z1a, Z1b, Z1c, ↓Z1d, ↓Z1e, Z1f, ↓Z1g, ↓Z1h, ↓Z1n, ↓Z1q, ↓Z1t, ↓Z1w, ↓Z1z, ↓Z20, ↓Z21, Y00, Z2h, ↓Z2i, ↓Z2j, ↓Z2m, ↓Z2o, ↓Z2s, ↓Z2v, ↓Z2x, Z2y, Z2z, Z30, Z31, Z32, Z33, ev_t, ev_c, ev_g, ev_f, hv_t, hv_f, hv_n, Z34, Z35, Z36, Y01, Y02, Y03, Y04, Y05, Z3a, Y06, Y07, nth?, Y08, Y09, Y0a, Y0b, Y0c, Y0d, Y0e, putN, Z3i, repL, Y0f, Y0g, Y0h, Y0i, Y0j, Y0k, Y0l, Y0m, Y0n, Y0o, Y0p, Y0q, Y0r, Y0s, Z3r, Z3s, Z3t, depB, Fd, Fall, Dis, Dis1, Z3u, Z3v, appC, appN, mapC, mapN, List.append_eq, Z3w, Array.toArray_toList, Z3x, Z3y, List.getElem?_cons_zero, List.getElem?_cons_succ, Nat.reduceAdd, Nat.reduceSub, Nat.reduceMul, Nat.reduceEqDiff, Nat.zero_add, Nat.add_zero, Nat.mul_one, Nat.zero_mul, if_true, if_false, eq_self, true_and, and_true, reduceCtorEq, false_and, Addr.add_lit, ne_eq, not_false_eq_true, Array.empty_append, Array.append_empty, ↓Z3z, ↓Z40, ↓Z41, ↓Z42, ↓Z43, ↓Z44, ↓Z45, List.getElem?_toArray, Z46, Int.toNat_natCast, Nat.sub_zero, Int.toNat_sub, Sx.Z47, ite_self, ty_3, ty_9, ty_22, ty_34, ty_54]
  have hx2' : c ≤ 9223372036854775807 := by simpa [maxLen] using hx2
  have hx3' : vs.length ≤ 140737488355328 := by simpa [most] using hx3
  have hv : RdC w 1 (.slice p vs.length c) vs.length vs := ⟨p, c, rfl, hx1, hx2, hx3, hp⟩
  have elt : ∀ k, k < vs.length → ∃ q d l, vs[k]? = some (.slice q l.length d) ∧ ls[k]? = some l ∧ RdI .u16 w (.slice q l.length d) l := fun k hk => by
    have e1 : vs[k]? = some vs[k] := List.getElem?_eq_getElem hk
    have e2 : ls[k]? = some ls[k] := List.getElem?_eq_getElem (by omega)
    have h := hrd k _ _ e1 e2
    obtain ⟨q, d, e, _⟩ := h.out
    exact ⟨q, d, _, by rw [e1, e], e2, by rw [← e]; exact h⟩
  refine loop_ok [false, false, false, true, false, true, false, false, false, false, false, true, true, true, true, true, true, true, true, true, true, true, true, false, false, false, false, false, false, false, false, false, false, false, false, false] (fun u wr => ∃ k : Nat, u 11 = .int .i64 k ∧ k ≤ vs.length ∧ u 3 = .int .i64 (ls.take k).flatten.length ∧ Below w.heap.size w wr)
    (fun u wr => vs.length - (intOf (u 11)).toNat) ⟨rfl, 0, rfl, Nat.zero_le _, rfl, Below.refl _ _⟩ ?_
  rintro u wr ⟨k, h11, hk, h3, hB⟩
  simp only [Z00, Z01, Z02, Z03, Z04, Z05, Z06, Z07, Z08, Z09, ↓Z0a, ↓Z0b, ↓Z0c, ↓Z0d, ↓Z0e, ↓Z0f, ↓Z0g, ↓Z0h, ↓Z0i, ↓Z0j, ↓Z0k, ↓Z0l, ↓Z0m, ↓Z0n, ↓Z0o, ↓Z0p, resL, res1, resK, Z0q, Z0r, Z0s, Z0t, Z0u, Z0v, Z0w, Z0x, Z0y, Z0z, Z10, Z11, Z12, Z13, Z14, ↓Z15, ↓Z16, Z17, Z18, Z19, Z1a, Z1b, Z1c, ↓Z1d, ↓Z1e, Z1f, ↓Z1g, ↓Z1h, ↓Z1n, ↓Z1q, ↓Z1t, ↓Z1w, ↓Z1z, ↓Z20, ↓Z21, Y00, Z2h, ↓Z2i, ↓Z2j, ↓Z2m, ↓Z2o, ↓Z2s, ↓Z2v, ↓Z2x, Z2y, Z2z, Z30, Z31, Z32, Z33, ev_t, ev_c, ev_g, ev_f, hv_t, hv_f, hv_n, Z34, Z35, Z36, Y01, Y02, Y03, Y04, Y05, Z3a, Y06, Y07, nth?, Y08, Y09, Y0a, Y0b, Y0c, Y0d, Y0e, putN, Z3i, repL, Y0f, Y0g, Y0h, Y0i, Y0j, Y0k, Y0l, Y0m, Y0n, Y0o, Y0p, Y0q, Y0r, Y0s, Z3r, Z3s, Z3t, depB, Fd, Fall, Dis, Dis1, Z3u, Z3v, appC, appN, mapC, mapN, List.append_eq, Z3w, Array.toArray_toList, Z3x, Z3y, List.getElem?_cons_zero, List.getElem?_cons_succ, Nat.reduceAdd, Nat.reduceSub, Nat.reduceMul, Nat.reduceEqDiff, Nat.zero_add, Nat.add_zero, Nat.mul_one, Nat.zero_mul, if_true, if_false, eq_self, true_and, and_true, reduceCtorEq, false_and, Addr.add_lit, ne_eq, not_false_eq_true, Array.empty_append, Array.append_empty, ↓Z3z, ↓Z40, ↓Z41, ↓Z42, ↓Z43, ↓Z44, ↓Z45, List.getElem?_toArray, Z46, Int.toNat_natCast, Nat.sub_zero, Int.toNat_sub, Sx.Z47, ite_self, ty_3, ty_9, ty_22, ty_34, ty_54, h11, h3]
  refine BrD (fun hlt => ?_) (fun hlt => ?_)
  · have hlt : k < vs.length := by omega
    obtain ⟨q, d, l, e1, e2, hl'⟩ := elt k hlt
    refine (RdC.below hv hB).atS (i := k) (by omega) (by omega) (by simpa using e1) fun _ _ => ?_
    have hfl := flat_le ls (k + 1)
    rw [flat_take ls k l e2, List.length_append] at hfl
    rw [wi (n := ((ls.take k).flatten.length : Int) + l.length) (by omega) (by omega)]
    refine BrD (fun h => absurd h (by omega)) (fun _ => ?_)
    rw [wi (n := (k : Int) + 1) (by omega) (by omega)]
    refine ⟨⟨k + 1, by simp, by omega, ?_, hB⟩, by simp [intOf]; omega⟩
    rw [flat_take ls k l e2, List.length_append]; simp
  · obtain rfl : k = vs.length := by omega
    have et : ls.take vs.length = ls := by rw [hl, List.take_length]
    rw [et] at h3 ⊢
    refine (grow_any wr ls.flatten.length (by omega) (by omega)).mono ?_
    rintro v w2 ⟨hown, h2⟩
    obtain ⟨p2, c2, rfl⟩ := hown.out
    have hB2 := hB.trans (h2.mono hB.size)
    refine loop_ok [false, false, false, false, false, false, true, false, true, false, false, false, false, false, false, false, false, false, false, false, false, false, false, false, false, false, false, true, true, true, true, true, true, true, true, false] (fun u wr => ∃ k : Nat, u 27 = .int .i64 k ∧ k ≤ vs.length ∧ OwnU wr w.heap.size (u 6) (ls.take k).flatten ∧ Below w.heap.size w wr)
      (fun u wr => vs.length - (intOf (u 27)).toNat) ⟨rfl, 0, rfl, Nat.zero_le _, hown.lower hB.size, hB2⟩ ?_
    rintro u wr ⟨k, h27, hk, h6, hB3⟩
    simp only [Z00, Z01, Z02, Z03, Z04, Z05, Z06, Z07, Z08, Z09, ↓Z0a, ↓Z0b, ↓Z0c, ↓Z0d, ↓Z0e, ↓Z0f, ↓Z0g, ↓Z0h, ↓Z0i, ↓Z0j, ↓Z0k, ↓Z0l, ↓Z0m, ↓Z0n, ↓Z0o, ↓Z0p, resL, res1, resK, Z0q, Z0r, Z0s, Z0t, Z0u, Z0v, Z0w, Z0x, Z0y, Z0z, Z10, Z11, Z12, Z13, Z14, ↓Z15, ↓Z16, Z17, Z18, Z19, Z1a, Z1b, Z1c, ↓Z1d, ↓Z1e, Z1f, ↓Z1g, ↓Z1h, ↓Z1n, ↓Z1q, ↓Z1t, ↓Z1w, ↓Z1z, ↓Z20, ↓Z21, Y00, Z2h, ↓Z2i, ↓Z2j, ↓Z2m, ↓Z2o, ↓Z2s, ↓Z2v, ↓Z2x, Z2y, Z2z, Z30, Z31, Z32, Z33, ev_t, ev_c, ev_g, ev_f, hv_t, hv_f, hv_n, Z34, Z35, Z36, Y01, Y02, Y03, Y04, Y05, Z3a, Y06, Y07, nth?, Y08, Y09, Y0a, Y0b, Y0c, Y0d, Y0e, putN, Z3i, repL, Y0f, Y0g, Y0h, Y0i, Y0j, Y0k, Y0l, Y0m, Y0n, Y0o, Y0p, Y0q, Y0r, Y0s, Z3r, Z3s, Z3t, depB, Fd, Fall, Dis, Dis1, Z3u, Z3v, appC, appN, mapC, mapN, List.append_eq, Z3w, Array.toArray_toList, Z3x, Z3y, List.getElem?_cons_zero, List.getElem?_cons_succ, Nat.reduceAdd, Nat.reduceSub, Nat.reduceMul, Nat.reduceEqDiff, Nat.zero_add, Nat.add_zero, Nat.mul_one, Nat.zero_mul, if_true, if_false, eq_self, true_and, and_true, reduceCtorEq, false_and, Addr.add_lit, ne_eq, not_false_eq_true, Array.empty_append, Array.append_empty, ↓Z3z, ↓Z40, ↓Z41, ↓Z42, ↓Z43, ↓Z44, ↓Z45, List.getElem?_toArray, Z46, Int.toNat_natCast, Nat.sub_zero, Int.toNat_sub, Sx.Z47, ite_self, ty_3, ty_9, ty_22, ty_34, ty_54, h27]
    refine BrD (fun hlt => ?_) (fun hlt => ?_)
    · have hlt : k < vs.length := by omega
      obtain ⟨q, d, l, e1, e2, hl'⟩ := elt k hlt
      refine (RdC.below hv hB3).atS (i := k) (by omega) (by omega) (by simpa using e1) fun _ _ => ?_
      have hfl := flat_le ls (k + 1)
      rw [flat_take ls k l e2, List.length_append] at hfl
      refine appU h6 (hl'.below hB3) (by omega) hB3.size ?_
      intro v' w' g1 _ _ g4
      simp only [Z00, Z01, Z02, Z03, Z04, Z05, Z06, Z07, Z08, Z09, ↓Z0a, ↓Z0b, ↓Z0c, ↓Z0d, ↓Z0e, ↓Z0f, ↓Z0g, ↓Z0h, ↓Z0i, ↓Z0j, ↓Z0k, ↓Z0l, ↓Z0m, ↓Z0n, ↓Z0o, ↓Z0p, resL, res1, resK, Z0q, Z0r, Z0s, Z0t, Z0u, Z0v, Z0w, Z0x, Z0y, Z0z, Z10, Z11, Z12, Z13, Z14, ↓Z15, ↓Z16, Z17, Z18, Z19, Z1a, Z1b, Z1c, ↓Z1d, ↓Z1e, Z1f, ↓Z1g, ↓Z1h, ↓Z1n, ↓Z1q, ↓Z1t, ↓Z1w, ↓Z1z, ↓Z20, ↓Z21, Y00, Z2h, ↓Z2i, ↓Z2j, ↓Z2m, ↓Z2o, ↓Z2s, ↓Z2v, ↓Z2x, Z2y, Z2z, Z30, Z31, Z32, Z33, ev_t, ev_c, ev_g, ev_f, hv_t, hv_f, hv_n, Z34, Z35, Z36, Y01, Y02, Y03, Y04, Y05, Z3a, Y06, Y07, nth?, Y08, Y09, Y0a, Y0b, Y0c, Y0d, Y0e, putN, Z3i, repL, Y0f, Y0g, Y0h, Y0i, Y0j, Y0k, Y0l, Y0m, Y0n, Y0o, Y0p, Y0q, Y0r, Y0s, Z3r, Z3s, Z3t, depB, Fd, Fall, Dis, Dis1, Z3u, Z3v, appC, appN, mapC, mapN, List.append_eq, Z3w, Array.toArray_toList, Z3x, Z3y, List.getElem?_cons_zero, List.getElem?_cons_succ, Nat.reduceAdd, Nat.reduceSub, Nat.reduceMul, Nat.reduceEqDiff, Nat.zero_add, Nat.add_zero, Nat.mul_one, Nat.zero_mul, if_true, if_false, eq_self, true_and, and_true, reduceCtorEq, false_and, Addr.add_lit, ne_eq, not_false_eq_true, Array.empty_append, Array.append_empty, ↓Z3z, ↓Z40, ↓Z41, ↓Z42, ↓Z43, ↓Z44, ↓Z45, List.getElem?_toArray, Z46, Int.toNat_natCast, Nat.sub_zero, Int.toNat_sub, Sx.Z47, ite_self, ty_3, ty_9, ty_22, ty_34, ty_54, h27]
      rw [wi (n := (k : Int) + 1) (by omega) (by omega)]
      refine ⟨⟨k + 1, by simp, by omega, ?_, hB3.trans g4⟩, by simp [intOf]; omega⟩
      rw [flat_take ls k l e2]; exact g1
    · obtain rfl : k = vs.length := by omega
      rw [et] at h6
      exact ⟨h6, hB3⟩
end Go.Proofs.YtdpfafgecchafaaDoor

/- Strings: bytes, the builder. -/
import Derived.Test.YtdpfafgecchafaaDoorWh
import Derived.Lib.AppendStr
import Derived.Lib.UnsafeStr
import Derived.Lib.Builder
import Derived.Lib.FrozenHead
import Derived.Lib.OthersKept
import Derived.Lib.ConvBytes
import Derived.Lib.Strings
set_option linter.unusedVariables false
set_option maxRecDepth 20000
set_option linter.unusedSimpArgs false
namespace Go.Proofs.YtdpfafgecchafaaDoor
open Go Go.RowKit Sx

/-- a text of these bytes -/
def st (l : List UInt8) : ByteArray := ⟨l.toArray⟩
theorem st_size (l : List UInt8) : (st l).size = l.length := rfl
theorem st_of (s : ByteArray) : s = st s.data.toList := by cases s; rfl
theorem st_data (l : List UInt8) : (st l).data.toList = l := rfl
theorem st_cells (l : List UInt8) : Lib.strCells (st l) = Lib.byteCells l := rfl
theorem st_append (a b : List UInt8) : st a ++ st b = st (a ++ b) := by
  apply ByteArray.ext
  simp [st]
theorem st_bt (l : List UInt8) (j : Nat) : bt (st l) j = ((l.getD j 0).toNat : Int) := rfl
theorem st_inj {a b : List UInt8} : st a = st b ↔ a = b := by
  constructor
  · intro h; have := congrArg (fun s => s.data.toList) h; exact this
  · rintro rfl; rfl
theorem st_strEq (a b : List UInt8) : strEq (st a) (st b) = decide (a = b) := by
  unfold strEq
  have e : ∀ l, (st l).toList = l := fun l => by
    rw [Lib.toList_data]; rfl
  rw [e, e]
  rw [Bool.eq_iff_iff]; simp
theorem st_extract (l : List UInt8) (a b : Nat) : (st l).extract a b = st ((l.take b).drop a) := by
  apply ByteArray.ext
  simp only [ByteArray.data_extract, st]
  apply Array.ext'
  simp only [Array.toList_extract, List.extract_eq_take_drop, List.take_drop]
  rcases Nat.le_total a b with h | h
  · rw [show a + (b - a) = b by omega]
  · rw [List.drop_eq_nil_of_le (by simp; omega), List.drop_eq_nil_of_le (by simp; omega)]

def RdB (w : World) (v : Value) (l : List UInt8) : Prop := RdC w 1 v l.length (Lib.byteCells l)
def OwnB (w : World) (base : Nat) (v : Value) (l : List UInt8) : Prop := OwnC w base 5 1 v l.length (Lib.byteCells l)
theorem OwnB.rd {w : World} {base : Nat} {v : Value} {l : List UInt8} (h : OwnB w base v l) : RdB w v l := OwnC.rd h
theorem OwnB.nil (w : World) (base : Nat) : OwnB w base (.slice none 0 0) [] := OwnC.nil _ _ _ _
theorem OwnB.below {w w' : World} {base : Nat} {v : Value} {l : List UInt8} (h : OwnB w base v l) (hb : Below w.heap.size w w') : OwnB w' base v l := OwnC.below h hb
theorem OwnB.out {w : World} {base : Nat} {v : Value} {l : List UInt8} (h : OwnB w base v l) : ∃ p c, v = .slice p l.length c := by
  obtain ⟨p, c, h, _⟩ := h.rd
  exact ⟨p, c, h⟩
theorem bytes_one (l : List UInt8) : ∀ u ∈ Lib.byteCells l, u.oneCell' = true := by
  intro u hu
  simp only [Lib.byteCells, List.mem_map] at hu
  obtain ⟨b, _, rfl⟩ := hu
  rfl
theorem E8 : Elem C.P 78 5 1 1 := elem_of (z := .int .u8 0) (by kernel_rfl) (by kernel_rfl) rfl (by decide)

theorem appB {w : World} {ty : TypeId} {base : Nat} {v x : Value} {l m : List UInt8} {K : KV} (hown : OwnB w base v l) (hx : RdB w x m) (hm : l.length + m.length ≤ 140737488355328) (hbase : base ≤ w.heap.size)
    (hk : ∀ v' w', OwnB w' base v' (l ++ m) → w.grownBy w' (roomOf v) → (roomOf v' = roomOf v ∨ roomOf v' = some w.heap.size) → Below base w w' → K v' w') : RunA C.P (Builtin.append_ #[78, 78] ty #[v, x]) w K := by
  refine app E8 hown hx (bytes_one _) (by simp only [most]; omega) (by omega) hbase ?_
  intro v' w' h1 h2 h3 h4
  refine hk v' w' ?_ h2 h3 h4
  show OwnC _ _ _ _ _ _ _
  rw [List.length_append, Lib.byteCells_append]
  exact h1
/-- one byte in a list of its own -/
theorem rdB1 {w w' : World} {b : Nat} {x : UInt8} {e : TypeId} (n : New w b (.cells #[.int .u8 x.toNat] e) w') : RdB w' (.slice (some ⟨b, 0, none⟩) 1 1) [x] := by
  refine ⟨_, 1, rfl, by simp, by decide, by simp [most], rfl, fun _ => ⟨b, 0, rfl, (Array.getElem?_eq_some_iff.1 n.at_).1, fun j y hj => ?_⟩⟩
  rw [cell_of_blk n.at_, Nat.zero_add, List.getElem?_toArray]; exact hj

theorem ownsRow_of {w : World} {base : Nat} {e : TypeId} {v : Value} {n : Nat} {xs : List Value} (h : OwnC w base e 1 v n xs) (hn : 0 < n) : w.ownsRow base e 1 v n xs := by
  refine ⟨h.1, ?_⟩
  rcases h.2.2 with ⟨p, rfl, rfl⟩ | h'
  · exact absurd hn (Nat.lt_irrefl _)
  · exact .inr h'
theorem ownC_of {w : World} {base : Nat} {e : TypeId} {v : Value} {n : Nat} {xs : List Value} (h : w.ownsRow base e 1 v n xs) (hn : n ≤ most) : OwnC w base e 1 v n xs := by
  refine ⟨h.1, hn, ?_⟩
  rcases h.2 with ⟨rfl, rfl⟩ | h'
  · exact .inl ⟨none, rfl, rfl⟩
  · exact .inr h'

/-- bytes of a text behind bytes of one's own -/
theorem app_str {w : World} {ty : TypeId} {base : Nat} {v : Value} {l : List Value} {n : Nat} {s : ByteArray} {K : KV} (hown : w.ownsRow base 5 1 v n l) (hm : n + s.size ≤ 140737488355328) (hbase : base ≤ w.heap.size)
    (hk : ∀ v' w', w'.ownsRow base 5 1 v' (n + s.size) (l ++ Lib.strCells s) → w.grownBy w' v.ownBlock → Below base w w' → K v' w') : RunA C.P (Builtin.append_ #[78, 9] ty #[v, .string s]) w K := by
  obtain ⟨i, z, hi, hz, hs, hb, hzs⟩ := E8.info
  obtain ⟨fi, hfi, hz'⟩ : ∃ i : TypeInfo, C.P.info? 5 = some i ∧ i.zero = some (.int .u8 0) := by
    have : (C.P.info? 5).map (fun i => i.zero) = some (some (.int .u8 0)) := by kernel_rfl
    cases h : C.P.info? 5 with
    | none => rw [h] at this; cases this
    | some i => rw [h] at this; exact ⟨i, rfl, by simpa using this⟩
  rw [hi] at hfi; cases hfi
  obtain ⟨v', w', hr, h1, h2, h3⟩ := Lib.run_append_own_string (P := C.P) (w := w) base 78 9 ty 5 i (by kernel_rfl) (by kernel_rfl) hi hz' hs hb v n l hown s (by simp only [maxLen]; omega) hm hbase
  have hblk : ∀ g, v.ownBlock = some g → base ≤ g ∧ ∃ cur, w.heap[g]? = some (.cells cur 5 (0, 0)) := by
    intro g hg
    rcases hown.2 with ⟨rfl, _⟩ | ⟨g', cap, cur, rfl, hb', hh, _⟩
    · cases hg
    · cases hg; exact ⟨hb', cur, hh⟩
  unfold RunA
  rw [hr]
  refine ⟨KeepD.grown h2 fun b hb => ?_, hk v' w' h1 h2 (grown_below h2 (fun g hg => (hblk g hg).1) hbase)⟩
  obtain ⟨_, cur, hh⟩ := hblk b hb
  exact ⟨_, hh, by intro x; simp⟩

/-- a builder that holds these bytes -/
def Bld (w : World) (base b : Nat) (l : List UInt8) : Prop := base ≤ b ∧ ∃ p v, (p = .pointer none ∨ p = .pointer (some ⟨b, 0, none⟩)) ∧ w.heap[b]? = some (.cells #[p, v] 80 (0, 0)) ∧ w.ownsRow base 5 1 v l.length (Lib.byteCells l) ∧ v.ownBlock ≠ some b
theorem Bld.lt {w : World} {base b : Nat} {l : List UInt8} (h : Bld w base b l) : b < w.heap.size := by
  obtain ⟨_, p, v, _, hb, _⟩ := h
  exact (Array.getElem?_eq_some_iff.1 hb).1
theorem ownsRow_keep {w w' : World} {base : Nat} {e : TypeId} {v : Value} {n : Nat} {xs : List Value} (h : w.ownsRow base e 1 v n xs) (hk : ∀ g, v.ownBlock = some g → w'.heap[g]? = w.heap[g]?) : w'.ownsRow base e 1 v n xs := by
  refine ⟨h.1, ?_⟩
  rcases h.2 with h' | ⟨g, cap, cur, rfl, r2, r3, r4⟩
  · exact .inl h'
  · exact .inr ⟨g, cap, cur, rfl, r2, by rw [hk g rfl]; exact r3, r4⟩
theorem ownsRow_lt {w : World} {base : Nat} {e : TypeId} {v : Value} {n : Nat} {xs : List Value} (h : w.ownsRow base e 1 v n xs) : ∀ g, v.ownBlock = some g → base ≤ g ∧ g < w.heap.size := by
  intro g hg
  rcases h.2 with ⟨rfl, _⟩ | ⟨g', cap, cur, rfl, hb', hh, _⟩
  · cases hg
  · cases hg; exact ⟨hb', (Array.getElem?_eq_some_iff.1 hh).1⟩
theorem Bld.below {w w' : World} {base b : Nat} {l : List UInt8} (h : Bld w base b l) (hb : Below w.heap.size w w') : Bld w' base b l := by
  obtain ⟨h0, p, v, h1, h2, h3, h4⟩ := h
  exact ⟨h0, p, v, h1, bheap hb h2, ownsRow_keep h3 fun g hg => hb.block g (ownsRow_lt h3 g hg).2, h4⟩
theorem Bld.new {w w' : World} {b : Nat} (n : New w b (.cells #[.pointer none, .slice none 0 0] 80) w') {base : Nat} (hb : base ≤ w.heap.size) : Bld w' base b [] :=
  ⟨by have := n.hb; omega, _, _, .inl rfl, n.at_, ⟨rfl, .inl ⟨rfl, rfl⟩⟩, fun h => by cases h⟩

theorem copyCheck_any (w : World) (base b : Nat) (l : List UInt8) (h : Bld w base b l) :
    CallG C.P 78 #[.pointer (some ⟨b, 0, none⟩)] w (fun v w' => v = .tuple #[] ∧ (∃ v, w'.heap[b]? = some (.cells #[.pointer (some ⟨b, 0, none⟩), v] 80 (0, 0)) ∧ w'.ownsRow base 5 1 v l.length (Lib.byteCells l) ∧ v.ownBlock ≠ some b) ∧ Below base w w') := by
  obtain ⟨h0, p, v, hp, hb, hown, hne⟩ := h
  refine fn_ok (C := C) (args := [_]) 19 [] Tryd.func78 rfl rfl rfl rfl ?_
  simp only [Tryd.f78, Z00, Z01, Z02, Z03, Z04, Z05, Z06, Z07, Z08, Z09, ↓Z0a, ↓Z0b, ↓Z0c, ↓Z0d, ↓Z0e, ↓Z0f, ↓Z0g, ↓Z0h, ↓Z0i, ↓Z0j, ↓Z0k, ↓Z0l, ↓Z0m, ↓Z0n, ↓Z0o, ↓Z0p, resL, res1, resK, Z0q, Z0r, Z0s, Z0t, Z0u, Z0v, Z0w, Z0x, Z0y, Z0z, Z10, Z11, Z12, Z13, Z14, ↓Z15, ↓Z16, Z17, Z18, Z19, Z1a, Z1b, Z1c, ↓Z1d, ↓Z1e, Z1f, ↓Z1g, ↓Z1n, ↓Z1o, ↓Z1p, ↓Z1q, ↓Z1v, ↓Z1y, ↓Z1z, ↓Z20, ↓Z21, Y00, Z2h, ↓Z2i, ↓Z2m, ↓Z2n, ↓Z2o, ↓Z2q, ↓Z2u, ↓Z2x, Z2y, Z2z, Z30, Z31, Z32, Z33, ev_t, ev_c, ev_g, ev_f, hv_t, hv_f, hv_n, Z34, Z35, Z36, Y01, Y02, Y03, Y04, Y05, Z3a, Y06, Y07, nth?, Y08, Y09, Y0a, Y0b, Y0c, Y0d, Y0e, putN, Z3i, repL, Y0f, Y0g, Y0h, Y0i, Y0j, Y0k, Y0l, Y0m, Y0n, Y0o, Y0p, Y0q, Y0r, Y0s, Z3r, Z3s, Z3t, depB, Fd, Fall, Dis, Dis1, Z3u, Z3v, appC, appN, mapC, mapN, List.append_eq, Z3w, Array.toArray_toList, Z3x, Z3y, List.getElem?_cons_zero, List.getElem?_cons_succ, Nat.reduceAdd, Nat.reduceSub, Nat.reduceMul, Nat.reduceEqDiff, Nat.zero_add, Nat.add_zero, Nat.mul_one, Nat.zero_mul, if_true, if_false, eq_self, true_and, and_true, reduceCtorEq, false_and, Addr.add_lit, ne_eq, not_false_eq_true, Array.empty_append, Array.append_empty, ↓Z3z, ↓Z40, ↓Z41, ↓Z42, ↓Z43, ↓Z44, ↓Z45, List.getElem?_toArray, Z46, Int.toNat_natCast, Nat.sub_zero, Int.toNat_sub, Sx.Z47, ite_self, ty_77, ty_79, ty_80, ty_135]
  rcases hp with rfl | rfl
  · simp only [ldPtr_blk hb, Z00, Z01, Z02, Z03, Z04, Z05, Z06, Z07, Z08, Z09, ↓Z0a, ↓Z0b, ↓Z0c, ↓Z0d, ↓Z0e, ↓Z0f, ↓Z0g, ↓Z0h, ↓Z0i, ↓Z0j, ↓Z0k, ↓Z0l, ↓Z0m, ↓Z0n, ↓Z0o, ↓Z0p, resL, res1, resK, Z0q, Z0r, Z0s, Z0t, Z0u, Z0v, Z0w, Z0x, Z0y, Z0z, Z10, Z11, Z12, Z13, Z14, ↓Z15, ↓Z16, Z17, Z18, Z19, Z1a, Z1b, Z1c, ↓Z1d, ↓Z1e, Z1f, ↓Z1g, ↓Z1n, ↓Z1o, ↓Z1p, ↓Z1q, ↓Z1v, ↓Z1y, ↓Z1z, ↓Z20, ↓Z21, Y00, Z2h, ↓Z2i, ↓Z2m, ↓Z2n, ↓Z2o, ↓Z2q, ↓Z2u, ↓Z2x, Z2y, Z2z, Z30, Z31, Z32, Z33, ev_t, ev_c, ev_g, ev_f, hv_t, hv_f, hv_n, Z34, Z35, Z36, Y01, Y02, Y03, Y04, Y05, Z3a, Y06, Y07, nth?, Y08, Y09, Y0a, Y0b, Y0c, Y0d, Y0e, putN, Z3i, repL, Y0f, Y0g, Y0h, Y0i, Y0j, Y0k, Y0l, Y0m, Y0n, Y0o, Y0p, Y0q, Y0r, Y0s, Z3r, Z3s, Z3t, depB, Fd, Fall, Dis, Dis1, Z3u, Z3v, appC, appN, mapC, mapN, List.append_eq, Z3w, Array.toArray_toList, Z3x, Z3y, List.getElem?_cons_zero, List.getElem?_cons_succ, Nat.reduceAdd, Nat.reduceSub, Nat.reduceMul, Nat.reduceEqDiff, Nat.zero_add, Nat.add_zero, Nat.mul_one, Nat.zero_mul, if_true, if_false, eq_self, true_and, and_true, reduceCtorEq, false_and, Addr.add_lit, ne_eq, not_false_eq_true, Array.empty_append, Array.append_empty, ↓Z3z, ↓Z40, ↓Z41, ↓Z42, ↓Z43, ↓Z44, ↓Z45, List.getElem?_toArray, Z46, Int.toNat_natCast, Nat.sub_zero, Int.toNat_sub, Sx.Z47, ite_self, ty_77, ty_79, ty_80, ty_135]
    have hsh : w.shape? b = some (80, 2) := by simp [World.shape?, hb]
    obtain ⟨j, hj, hjs⟩ := Option.map_eq_some_iff.1 (show (C.P.info? 80).map (fun i => i.size) = some 2 by kernel_rfl)
    refine Br.yes rfl ?_
    have r1 := Lib.run_to_unsafe (P := C.P) (src := 77) (dst := 135) (w := w) ⟨b, 0, none⟩ (by kernel_rfl) (by kernel_rfl) hj (by rw [hjs]; decide) hsh (Nat.zero_lt_succ 1)
    have r2 := Lib.run_from_unsafe (P := C.P) (src := 135) (dst := 77) (w := w) ⟨b, 0, none⟩ (by kernel_rfl) (by kernel_rfl) hj hsh (by kernel_rfl)
    unfold RunA
    rw [r1]
    refine ⟨KeepD.refl _, ?_⟩
    simp only [Z00, Z01, Z02, Z03, Z04, Z05, Z06, Z07, Z08, Z09, ↓Z0a, ↓Z0b, ↓Z0c, ↓Z0d, ↓Z0e, ↓Z0f, ↓Z0g, ↓Z0h, ↓Z0i, ↓Z0j, ↓Z0k, ↓Z0l, ↓Z0m, ↓Z0n, ↓Z0o, ↓Z0p, resL, res1, resK, Z0q, Z0r, Z0s, Z0t, Z0u, Z0v, Z0w, Z0x, Z0y, Z0z, Z10, Z11, Z12, Z13, Z14, ↓Z15, ↓Z16, Z17, Z18, Z19, Z1a, Z1b, Z1c, ↓Z1d, ↓Z1e, Z1f, ↓Z1g, ↓Z1n, ↓Z1o, ↓Z1p, ↓Z1q, ↓Z1v, ↓Z1y, ↓Z1z, ↓Z20, ↓Z21, Y00, Z2h, ↓Z2i, ↓Z2m, ↓Z2n, ↓Z2o, ↓Z2q, ↓Z2u, ↓Z2x, Z2y, Z2z, Z30, Z31, Z32, Z33, ev_t, ev_c, ev_g, ev_f, hv_t, hv_f, hv_n, Z34, Z35, Z36, Y01, Y02, Y03, Y04, Y05, Z3a, Y06, Y07, nth?, Y08, Y09, Y0a, Y0b, Y0c, Y0d, Y0e, putN, Z3i, repL, Y0f, Y0g, Y0h, Y0i, Y0j, Y0k, Y0l, Y0m, Y0n, Y0o, Y0p, Y0q, Y0r, Y0s, Z3r, Z3s, Z3t, depB, Fd, Fall, Dis, Dis1, Z3u, Z3v, appC, appN, mapC, mapN, List.append_eq, Z3w, Array.toArray_toList, Z3x, Z3y, List.getElem?_cons_zero, List.getElem?_cons_succ, Nat.reduceAdd, Nat.reduceSub, Nat.reduceMul, Nat.reduceEqDiff, Nat.zero_add, Nat.add_zero, Nat.mul_one, Nat.zero_mul, if_true, if_false, eq_self, true_and, and_true, reduceCtorEq, false_and, Addr.add_lit, ne_eq, not_false_eq_true, Array.empty_append, Array.append_empty, ↓Z3z, ↓Z40, ↓Z41, ↓Z42, ↓Z43, ↓Z44, ↓Z45, List.getElem?_toArray, Z46, Int.toNat_natCast, Nat.sub_zero, Int.toNat_sub, Sx.Z47, ite_self, ty_77, ty_79, ty_80, ty_135]
    refine .inr ⟨.pointer (some ⟨b, 0, none⟩), w, ?_, KeepD.refl _, ?_⟩
    · rw [run_callFunc_extern (f := 83) (fn := Tryd.f83) (by kernel_rfl) (by kernel_rfl) (by kernel_rfl) (by kernel_rfl) (e := Extern.AbiNoEscape.same) (by kernel_rfl)]
      rfl
    simp only [Z00, Z01, Z02, Z03, Z04, Z05, Z06, Z07, Z08, Z09, ↓Z0a, ↓Z0b, ↓Z0c, ↓Z0d, ↓Z0e, ↓Z0f, ↓Z0g, ↓Z0h, ↓Z0i, ↓Z0j, ↓Z0k, ↓Z0l, ↓Z0m, ↓Z0n, ↓Z0o, ↓Z0p, resL, res1, resK, Z0q, Z0r, Z0s, Z0t, Z0u, Z0v, Z0w, Z0x, Z0y, Z0z, Z10, Z11, Z12, Z13, Z14, ↓Z15, ↓Z16, Z17, Z18, Z19, Z1a, Z1b, Z1c, ↓Z1d, ↓Z1e, Z1f, ↓Z1g, ↓Z1n, ↓Z1o, ↓Z1p, ↓Z1q, ↓Z1v, ↓Z1y, ↓Z1z, ↓Z20, ↓Z21, Y00, Z2h, ↓Z2i, ↓Z2m, ↓Z2n, ↓Z2o, ↓Z2q, ↓Z2u, ↓Z2x, Z2y, Z2z, Z30, Z31, Z32, Z33, ev_t, ev_c, ev_g, ev_f, hv_t, hv_f, hv_n, Z34, Z35, Z36, Y01, Y02, Y03, Y04, Y05, Z3a, Y06, Y07, nth?, Y08, Y09, Y0a, Y0b, Y0c, Y0d, Y0e, putN, Z3i, repL, Y0f, Y0g, Y0h, Y0i, Y0j, Y0k, Y0l, Y0m, Y0n, Y0o, Y0p, Y0q, Y0r, Y0s, Z3r, Z3s, Z3t, depB, Fd, Fall, Dis, Dis1, Z3u, Z3v, appC, appN, mapC, mapN, List.append_eq, Z3w, Array.toArray_toList, Z3x, Z3y, List.getElem?_cons_zero, List.getElem?_cons_succ, Nat.reduceAdd, Nat.reduceSub, Nat.reduceMul, Nat.reduceEqDiff, Nat.zero_add, Nat.add_zero, Nat.mul_one, Nat.zero_mul, if_true, if_false, eq_self, true_and, and_true, reduceCtorEq, false_and, Addr.add_lit, ne_eq, not_false_eq_true, Array.empty_append, Array.append_empty, ↓Z3z, ↓Z40, ↓Z41, ↓Z42, ↓Z43, ↓Z44, ↓Z45, List.getElem?_toArray, Z46, Int.toNat_natCast, Nat.sub_zero, Int.toNat_sub, Sx.Z47, ite_self, ty_77, ty_79, ty_80, ty_135]
    unfold RunA
    rw [r2]
    refine ⟨KeepD.refl _, ?_⟩
    simp only [Z00, Z01, Z02, Z03, Z04, Z05, Z06, Z07, Z08, Z09, ↓Z0a, ↓Z0b, ↓Z0c, ↓Z0d, ↓Z0e, ↓Z0f, ↓Z0g, ↓Z0h, ↓Z0i, ↓Z0j, ↓Z0k, ↓Z0l, ↓Z0m, ↓Z0n, ↓Z0o, ↓Z0p, resL, res1, resK, Z0q, Z0r, Z0s, Z0t, Z0u, Z0v, Z0w, Z0x, Z0y, Z0z, Z10, Z11, Z12, Z13, Z14, ↓Z15, ↓Z16, Z17, Z18, Z19, Z1a, Z1b, Z1c, ↓Z1d, ↓Z1e, Z1f, ↓Z1g, ↓Z1n, ↓Z1o, ↓Z1p, ↓Z1q, ↓Z1v, ↓Z1y, ↓Z1z, ↓Z20, ↓Z21, Y00, Z2h, ↓Z2i, ↓Z2m, ↓Z2n, ↓Z2o, ↓Z2q, ↓Z2u, ↓Z2x, Z2y, Z2z, Z30, Z31, Z32, Z33, ev_t, ev_c, ev_g, ev_f, hv_t, hv_f, hv_n, Z34, Z35, Z36, Y01, Y02, Y03, Y04, Y05, Z3a, Y06, Y07, nth?, Y08, Y09, Y0a, Y0b, Y0c, Y0d, Y0e, putN, Z3i, repL, Y0f, Y0g, Y0h, Y0i, Y0j, Y0k, Y0l, Y0m, Y0n, Y0o, Y0p, Y0q, Y0r, Y0s, Z3r, Z3s, Z3t, depB, Fd, Fall, Dis, Dis1, Z3u, Z3v, appC, appN, mapC, mapN, List.append_eq, Z3w, Array.toArray_toList, Z3x, Z3y, List.getElem?_cons_zero, List.getElem?_cons_succ, Nat.reduceAdd, Nat.reduceSub, Nat.reduceMul, Nat.reduceEqDiff, Nat.zero_add, Nat.add_zero, Nat.mul_one, Nat.zero_mul, if_true, if_false, eq_self, true_and, and_true, reduceCtorEq, false_and, Addr.add_lit, ne_eq, not_false_eq_true, Array.empty_append, Array.append_empty, ↓Z3z, ↓Z40, ↓Z41, ↓Z42, ↓Z43, ↓Z44, ↓Z45, List.getElem?_toArray, Z46, Int.toNat_natCast, Nat.sub_zero, Int.toNat_sub, Sx.Z47, ite_self, ty_77, ty_79, ty_80, ty_135]
    refine ⟨rfl, StA.of hb (by simp) (by simp [Value.oneCell']) ?_⟩
    intro w2 u2
    exact ⟨⟨v, u2.at_, ownsRow_keep hown fun g hg => u2.rest g (fun e => hne (by rw [hg, e])), hne⟩, u2.below h0⟩
  · simp only [ldPtr_blk hb, Z00, Z01, Z02, Z03, Z04, Z05, Z06, Z07, Z08, Z09, ↓Z0a, ↓Z0b, ↓Z0c, ↓Z0d, ↓Z0e, ↓Z0f, ↓Z0g, ↓Z0h, ↓Z0i, ↓Z0j, ↓Z0k, ↓Z0l, ↓Z0m, ↓Z0n, ↓Z0o, ↓Z0p, resL, res1, resK, Z0q, Z0r, Z0s, Z0t, Z0u, Z0v, Z0w, Z0x, Z0y, Z0z, Z10, Z11, Z12, Z13, Z14, ↓Z15, ↓Z16, Z17, Z18, Z19, Z1a, Z1b, Z1c, ↓Z1d, ↓Z1e, Z1f, ↓Z1g, ↓Z1n, ↓Z1o, ↓Z1p, ↓Z1q, ↓Z1v, ↓Z1y, ↓Z1z, ↓Z20, ↓Z21, Y00, Z2h, ↓Z2i, ↓Z2m, ↓Z2n, ↓Z2o, ↓Z2q, ↓Z2u, ↓Z2x, Z2y, Z2z, Z30, Z31, Z32, Z33, ev_t, ev_c, ev_g, ev_f, hv_t, hv_f, hv_n, Z34, Z35, Z36, Y01, Y02, Y03, Y04, Y05, Z3a, Y06, Y07, nth?, Y08, Y09, Y0a, Y0b, Y0c, Y0d, Y0e, putN, Z3i, repL, Y0f, Y0g, Y0h, Y0i, Y0j, Y0k, Y0l, Y0m, Y0n, Y0o, Y0p, Y0q, Y0r, Y0s, Z3r, Z3s, Z3t, depB, Fd, Fall, Dis, Dis1, Z3u, Z3v, appC, appN, mapC, mapN, List.append_eq, Z3w, Array.toArray_toList, Z3x, Z3y, List.getElem?_cons_zero, List.getElem?_cons_succ, Nat.reduceAdd, Nat.reduceSub, Nat.reduceMul, Nat.reduceEqDiff, Nat.zero_add, Nat.add_zero, Nat.mul_one, Nat.zero_mul, if_true, if_false, eq_self, true_and, and_true, reduceCtorEq, false_and, Addr.add_lit, ne_eq, not_false_eq_true, Array.empty_append, Array.append_empty, ↓Z3z, ↓Z40, ↓Z41, ↓Z42, ↓Z43, ↓Z44, ↓Z45, List.getElem?_toArray, Z46, Int.toNat_natCast, Nat.sub_zero, Int.toNat_sub, Sx.Z47, ite_self, ty_77, ty_79, ty_80, ty_135]
    exact Br.no rfl ⟨⟨v, hb, hown, hne⟩, Below.refl _ _⟩

theorem blk_fst {w : World} {b : Nat} {v : Value} {e : TypeId} (h : w.heap[b]? = some (.cells #[.pointer (some ⟨b, 0, none⟩), v] e (0, 0))) (hv : ∃ p n c, v = .slice p n c) : ∃ p n c, v = .slice p n c ∧ w.heap[b]? = some (.cells #[.pointer (some ⟨b, 0, none⟩), .slice p n c] e (0, 0)) := by
  obtain ⟨p, n, c, rfl⟩ := hv
  exact ⟨p, n, c, rfl, h⟩
theorem ownsRow_slice {w : World} {base : Nat} {e : TypeId} {v : Value} {n : Nat} {xs : List Value} (h : w.ownsRow base e 1 v n xs) : ∃ p c, v = .slice p n c := by
  rcases h.2 with ⟨rfl, rfl⟩ | ⟨g, cap, cur, rfl, _⟩
  · exact ⟨none, 0, rfl⟩
  · exact ⟨_, cap, rfl⟩

theorem ownsRow_ne {w : World} {base : Nat} {e e' : TypeId} {v : Value} {n : Nat} {xs : List Value} {b : Nat} {cs : Array Value} {f : Nat × Nat} (h : w.ownsRow base e 1 v n xs) (hb : w.heap[b]? = some (.cells cs e' f)) (hne : e' ≠ e) : v.ownBlock ≠ some b := by
  intro hg
  rcases h.2 with ⟨rfl, _⟩ | ⟨g', cap, cur, rfl, hb', hh, _⟩
  · cases hg
  · cases hg; rw [hb] at hh; cases hh; exact hne rfl
theorem ownC_ne {w : World} {base : Nat} {e e' : TypeId} {v : Value} {sz n : Nat} {xs : List Value} {b : Nat} {cs : Array Value} {f : Nat × Nat} (h : OwnC w base e sz v n xs) (hb : w.heap[b]? = some (.cells cs e' f)) (hne : e' ≠ e) : roomOf v ≠ some b := by
  intro hg
  rcases h.2.2 with ⟨p, rfl, _⟩ | ⟨g', cap, cur, rfl, hb', hh, _⟩
  · cases p <;> simp [roomOf] at hg
  · simp [roomOf] at hg
    obtain ⟨_, rfl⟩ := hg
    rw [hb] at hh; cases hh; exact hne rfl

theorem writeString_any (w : World) (base b : Nat) (l m : List UInt8) (h : Bld w base b l) (hm : l.length + m.length ≤ 140737488355328) (hbase : base ≤ w.heap.size) :
    CallG C.P 52 #[.pointer (some ⟨b, 0, none⟩), .string (st m)] w (fun v w' => Bld w' base b (l ++ m) ∧ Below base w w') := by
  refine fn_ok (C := C) (args := [_, _]) 17 [.tmp 4, .tmp 5] Tryd.func52 rfl rfl rfl rfl ?_
  simp only [Tryd.f52, Z00, Z01, Z02, Z03, Z04, Z05, Z06, Z07, Z08, Z09, ↓Z0a, ↓Z0b, ↓Z0c, ↓Z0d, ↓Z0e, ↓Z0f, ↓Z0g, ↓Z0h, ↓Z0i, ↓Z0j, ↓Z0k, ↓Z0l, ↓Z0m, ↓Z0n, ↓Z0o, ↓Z0p, resL, res1, resK, Z0q, Z0r, Z0s, Z0t, Z0u, Z0v, Z0w, Z0x, Z0y, Z0z, Z10, Z11, Z12, Z13, Z14, ↓Z15, ↓Z16, Z17, Z18, Z19, Z1a, Z1b, Z1c, ↓Z1d, ↓Z1e, Z1f, ↓Z1g, ↓Z1h, ↓Z1n, ↓Z1o, ↓Z1p, ↓Z1v, ↓Z1z, ↓Z20, ↓Z21, Y00, Z2h, ↓Z2i, ↓Z2j, ↓Z2m, ↓Z2n, ↓Z2u, ↓Z2x, Z2y, Z2z, Z30, Z31, Z32, Z33, ev_t, ev_c, ev_g, ev_f, hv_t, hv_f, hv_n, Z34, Z35, Z36, Y01, Y02, Y03, Y04, Y05, Z3a, Y06, Y07, nth?, Y08, Y09, Y0a, Y0b, Y0c, Y0d, Y0e, putN, Z3i, repL, Y0f, Y0g, Y0h, Y0i, Y0j, Y0k, Y0l, Y0m, Y0n, Y0o, Y0p, Y0q, Y0r, Y0s, Z3r, Z3s, Z3t, depB, Fd, Fall, Dis, Dis1, Z3u, Z3v, appC, appN, mapC, mapN, List.append_eq, Z3w, Array.toArray_toList, Z3x, Z3y, List.getElem?_cons_zero, List.getElem?_cons_succ, Nat.reduceAdd, Nat.reduceSub, Nat.reduceMul, Nat.reduceEqDiff, Nat.zero_add, Nat.add_zero, Nat.mul_one, Nat.zero_mul, if_true, if_false, eq_self, true_and, and_true, reduceCtorEq, false_and, Addr.add_lit, ne_eq, not_false_eq_true, Array.empty_append, Array.append_empty, ↓Z3z, ↓Z40, ↓Z41, ↓Z42, ↓Z43, ↓Z44, ↓Z45, List.getElem?_toArray, Z46, Int.toNat_natCast, Nat.sub_zero, Int.toNat_sub, Sx.Z47, ite_self, ty_5, ty_9, ty_77, ty_78, ty_79, ty_80]
  refine (copyCheck_any w base b l h).mono ?_
  rintro _ w1 ⟨rfl, ⟨v, hb1, hown, hne⟩, hB1⟩
  obtain ⟨p, c, rfl⟩ := ownsRow_slice hown
  simp only [ldSl_blk hb1, Z00, Z01, Z02, Z03, Z04, Z05, Z06, Z07, Z08, Z09, ↓Z0a, ↓Z0b, ↓Z0c, ↓Z0d, ↓Z0e, ↓Z0f, ↓Z0g, ↓Z0h, ↓Z0i, ↓Z0j, ↓Z0k, ↓Z0l, ↓Z0m, ↓Z0n, ↓Z0o, ↓Z0p, resL, res1, resK, Z0q, Z0r, Z0s, Z0t, Z0u, Z0v, Z0w, Z0x, Z0y, Z0z, Z10, Z11, Z12, Z13, Z14, ↓Z15, ↓Z16, Z17, Z18, Z19, Z1a, Z1b, Z1c, ↓Z1d, ↓Z1e, Z1f, ↓Z1g, ↓Z1h, ↓Z1n, ↓Z1o, ↓Z1p, ↓Z1v, ↓Z1z, ↓Z20, ↓Z21, Y00, Z2h, ↓Z2i, ↓Z2j, ↓Z2m, ↓Z2n, ↓Z2u, ↓Z2x, Z2y, Z2z, Z30, Z31, Z32, Z33, ev_t, ev_c, ev_g, ev_f, hv_t, hv_f, hv_n, Z34, Z35, Z36, Y01, Y02, Y03, Y04, Y05, Z3a, Y06, Y07, nth?, Y08, Y09, Y0a, Y0b, Y0c, Y0d, Y0e, putN, Z3i, repL, Y0f, Y0g, Y0h, Y0i, Y0j, Y0k, Y0l, Y0m, Y0n, Y0o, Y0p, Y0q, Y0r, Y0s, Z3r, Z3s, Z3t, depB, Fd, Fall, Dis, Dis1, Z3u, Z3v, appC, appN, mapC, mapN, List.append_eq, Z3w, Array.toArray_toList, Z3x, Z3y, List.getElem?_cons_zero, List.getElem?_cons_succ, Nat.reduceAdd, Nat.reduceSub, Nat.reduceMul, Nat.reduceEqDiff, Nat.zero_add, Nat.add_zero, Nat.mul_one, Nat.zero_mul, if_true, if_false, eq_self, true_and, and_true, reduceCtorEq, false_and, Addr.add_lit, ne_eq, not_false_eq_true, Array.empty_append, Array.append_empty, ↓Z3z, ↓Z40, ↓Z41, ↓Z42, ↓Z43, ↓Z44, ↓Z45, List.getElem?_toArray, Z46, Int.toNat_natCast, Nat.sub_zero, Int.toNat_sub, Sx.Z47, ite_self, ty_5, ty_9, ty_77, ty_78, ty_79, ty_80]
  refine app_str hown (by rw [st_size]; exact hm) (Nat.le_trans hbase hB1.size) ?_
  intro v2 w2 hown2 hg hB2
  have hb2 : w2.heap[b]? = _ := (hg.block b (Array.getElem?_eq_some_iff.1 hb1).1 hne.symm).trans hb1
  rw [st_cells, ← Lib.byteCells_append, st_size, ← List.length_append] at hown2
  obtain ⟨p2, c2, rfl⟩ := ownsRow_slice hown2
  have hne2 : Value.ownBlock (.slice p2 (l ++ m).length c2) ≠ some b := ownsRow_ne hown2 hb2 (by decide)
  simp only [Z00, Z01, Z02, Z03, Z04, Z05, Z06, Z07, Z08, Z09, ↓Z0a, ↓Z0b, ↓Z0c, ↓Z0d, ↓Z0e, ↓Z0f, ↓Z0g, ↓Z0h, ↓Z0i, ↓Z0j, ↓Z0k, ↓Z0l, ↓Z0m, ↓Z0n, ↓Z0o, ↓Z0p, resL, res1, resK, Z0q, Z0r, Z0s, Z0t, Z0u, Z0v, Z0w, Z0x, Z0y, Z0z, Z10, Z11, Z12, Z13, Z14, ↓Z15, ↓Z16, Z17, Z18, Z19, Z1a, Z1b, Z1c, ↓Z1d, ↓Z1e, Z1f, ↓Z1g, ↓Z1h, ↓Z1n, ↓Z1o, ↓Z1p, ↓Z1v, ↓Z1z, ↓Z20, ↓Z21, Y00, Z2h, ↓Z2i, ↓Z2j, ↓Z2m, ↓Z2n, ↓Z2u, ↓Z2x, Z2y, Z2z, Z30, Z31, Z32, Z33, ev_t, ev_c, ev_g, ev_f, hv_t, hv_f, hv_n, Z34, Z35, Z36, Y01, Y02, Y03, Y04, Y05, Z3a, Y06, Y07, nth?, Y08, Y09, Y0a, Y0b, Y0c, Y0d, Y0e, putN, Z3i, repL, Y0f, Y0g, Y0h, Y0i, Y0j, Y0k, Y0l, Y0m, Y0n, Y0o, Y0p, Y0q, Y0r, Y0s, Z3r, Z3s, Z3t, depB, Fd, Fall, Dis, Dis1, Z3u, Z3v, appC, appN, mapC, mapN, List.append_eq, Z3w, Array.toArray_toList, Z3x, Z3y, List.getElem?_cons_zero, List.getElem?_cons_succ, Nat.reduceAdd, Nat.reduceSub, Nat.reduceMul, Nat.reduceEqDiff, Nat.zero_add, Nat.add_zero, Nat.mul_one, Nat.zero_mul, if_true, if_false, eq_self, true_and, and_true, reduceCtorEq, false_and, Addr.add_lit, ne_eq, not_false_eq_true, Array.empty_append, Array.append_empty, ↓Z3z, ↓Z40, ↓Z41, ↓Z42, ↓Z43, ↓Z44, ↓Z45, List.getElem?_toArray, Z46, Int.toNat_natCast, Nat.sub_zero, Int.toNat_sub, Sx.Z47, ite_self, ty_5, ty_9, ty_77, ty_78, ty_79, ty_80]
  refine ⟨rfl, StA.of hb2 (by simp) (by simp [Value.oneCell']) ?_⟩
  intro w3 u3
  refine ⟨⟨h.1, _, _, .inr rfl, u3.at_, ?_, hne2⟩, (hB1.trans hB2).trans (u3.below h.1)⟩
  exact ownsRow_keep hown2 fun g hg => u3.rest g (fun e => hne2 (by rw [hg, e]))

theorem writeByte_any (w : World) (base b : Nat) (l : List UInt8) (c : UInt8) (h : Bld w base b l) (hm : l.length + 1 ≤ 140737488355328) (hbase : base ≤ w.heap.size) :
    CallG C.P 54 #[.pointer (some ⟨b, 0, none⟩), .int .u8 c.toNat] w (fun v w' => Bld w' base b (l ++ [c]) ∧ Below base w w') := by
  refine fn_ok (C := C) (args := [_, _]) 15 [.tmp 4] Tryd.func54 rfl rfl rfl rfl ?_
  simp only [Tryd.f54, Z00, Z01, Z02, Z03, Z04, Z05, Z06, Z07, Z08, Z09, ↓Z0a, ↓Z0b, ↓Z0c, ↓Z0d, ↓Z0e, ↓Z0f, ↓Z0g, ↓Z0h, ↓Z0i, ↓Z0j, ↓Z0k, ↓Z0l, ↓Z0m, ↓Z0n, ↓Z0o, ↓Z0p, resL, res1, resK, Z0q, Z0r, Z0s, Z0t, Z0u, Z0v, Z0w, Z0x, Z0y, Z0z, Z10, Z11, Z12, Z13, Z14, ↓Z15, ↓Z16, Z17, Z18, Z19, Z1a, Z1b, Z1c, ↓Z1d, ↓Z1e, Z1f, ↓Z1g, ↓Z1h, ↓Z1m, ↓Z1n, ↓Z1o, ↓Z1p, ↓Z1v, ↓Z1z, ↓Z20, ↓Z21, Y00, Z2h, ↓Z2i, ↓Z2j, ↓Z2m, ↓Z2n, ↓Z2u, ↓Z2x, Z2y, Z2z, Z30, Z31, Z32, Z33, ev_t, ev_c, ev_g, ev_f, hv_t, hv_f, hv_n, Z34, Z35, Z36, Y01, Y02, Y03, Y04, Y05, Z3a, Y06, Y07, nth?, Y08, Y09, Y0a, Y0b, Y0c, Y0d, Y0e, putN, Z3i, repL, Y0f, Y0g, Y0h, Y0i, Y0j, Y0k, Y0l, Y0m, Y0n, Y0o, Y0p, Y0q, Y0r, Y0s, Z3r, Z3s, Z3t, depB, Fd, Fall, Dis, Dis1, Z3u, Z3v, appC, appN, mapC, mapN, List.append_eq, Z3w, Array.toArray_toList, Z3x, Z3y, List.getElem?_cons_zero, List.getElem?_cons_succ, Nat.reduceAdd, Nat.reduceSub, Nat.reduceMul, Nat.reduceEqDiff, Nat.zero_add, Nat.add_zero, Nat.mul_one, Nat.zero_mul, if_true, if_false, eq_self, true_and, and_true, reduceCtorEq, false_and, Addr.add_lit, ne_eq, not_false_eq_true, Array.empty_append, Array.append_empty, ↓Z3z, ↓Z40, ↓Z41, ↓Z42, ↓Z43, ↓Z44, ↓Z45, List.getElem?_toArray, Z46, Int.toNat_natCast, Nat.sub_zero, Int.toNat_sub, Sx.Z47, ite_self, ty_5, ty_77, ty_78, ty_79, ty_80]
  refine (copyCheck_any w base b l h).mono ?_
  rintro _ w1 ⟨rfl, ⟨v, hb1, hown, hne⟩, hB1⟩
  obtain ⟨p, cc, rfl⟩ := ownsRow_slice hown
  simp only [ldSl_blk hb1, Z00, Z01, Z02, Z03, Z04, Z05, Z06, Z07, Z08, Z09, ↓Z0a, ↓Z0b, ↓Z0c, ↓Z0d, ↓Z0e, ↓Z0f, ↓Z0g, ↓Z0h, ↓Z0i, ↓Z0j, ↓Z0k, ↓Z0l, ↓Z0m, ↓Z0n, ↓Z0o, ↓Z0p, resL, res1, resK, Z0q, Z0r, Z0s, Z0t, Z0u, Z0v, Z0w, Z0x, Z0y, Z0z, Z10, Z11, Z12, Z13, Z14, ↓Z15, ↓Z16, Z17, Z18, Z19, Z1a, Z1b, Z1c, ↓Z1d, ↓Z1e, Z1f, ↓Z1g, ↓Z1h, ↓Z1m, ↓Z1n, ↓Z1o, ↓Z1p, ↓Z1v, ↓Z1z, ↓Z20, ↓Z21, Y00, Z2h, ↓Z2i, ↓Z2j, ↓Z2m, ↓Z2n, ↓Z2u, ↓Z2x, Z2y, Z2z, Z30, Z31, Z32, Z33, ev_t, ev_c, ev_g, ev_f, hv_t, hv_f, hv_n, Z34, Z35, Z36, Y01, Y02, Y03, Y04, Y05, Z3a, Y06, Y07, nth?, Y08, Y09, Y0a, Y0b, Y0c, Y0d, Y0e, putN, Z3i, repL, Y0f, Y0g, Y0h, Y0i, Y0j, Y0k, Y0l, Y0m, Y0n, Y0o, Y0p, Y0q, Y0r, Y0s, Z3r, Z3s, Z3t, depB, Fd, Fall, Dis, Dis1, Z3u, Z3v, appC, appN, mapC, mapN, List.append_eq, Z3w, Array.toArray_toList, Z3x, Z3y, List.getElem?_cons_zero, List.getElem?_cons_succ, Nat.reduceAdd, Nat.reduceSub, Nat.reduceMul, Nat.reduceEqDiff, Nat.zero_add, Nat.add_zero, Nat.mul_one, Nat.zero_mul, if_true, if_false, eq_self, true_and, and_true, reduceCtorEq, false_and, Addr.add_lit, ne_eq, not_false_eq_true, Array.empty_append, Array.append_empty, ↓Z3z, ↓Z40, ↓Z41, ↓Z42, ↓Z43, ↓Z44, ↓Z45, List.getElem?_toArray, Z46, Int.toNat_natCast, Nat.sub_zero, Int.toNat_sub, Sx.Z47, ite_self, ty_5, ty_77, ty_78, ty_79, ty_80]
  refine ⟨⟨by omega, rfl⟩, ⟨rfl, by simp⟩, ?_⟩
  intro b2 w2 n2
  have hb2 := bheap n2.ext hb1
  have hownC : OwnB w2 base (.slice p l.length cc) l := OwnC.below (ownC_of hown (by simp only [most]; omega)) n2.ext
  have hs1 := hB1.size
  refine appB hownC (rdB1 n2) (by simpa using hm) (by have := n2.ext.size; omega) ?_
  intro v3 w3 g1 g2 g3 g4
  have hb3 : w3.heap[b]? = _ := (g2.block b (Array.getElem?_eq_some_iff.1 hb2).1 (by
    intro e
    exact ownC_ne hownC hb2 (by decide) e.symm)).trans hb2
  have hown3 := ownsRow_of g1 (by simp)
  obtain ⟨p3, c3, rfl⟩ := ownsRow_slice hown3
  have hne3 : Value.ownBlock (.slice p3 (l ++ [c]).length c3) ≠ some b := ownsRow_ne hown3 hb3 (by decide)
  simp only [Z00, Z01, Z02, Z03, Z04, Z05, Z06, Z07, Z08, Z09, ↓Z0a, ↓Z0b, ↓Z0c, ↓Z0d, ↓Z0e, ↓Z0f, ↓Z0g, ↓Z0h, ↓Z0i, ↓Z0j, ↓Z0k, ↓Z0l, ↓Z0m, ↓Z0n, ↓Z0o, ↓Z0p, resL, res1, resK, Z0q, Z0r, Z0s, Z0t, Z0u, Z0v, Z0w, Z0x, Z0y, Z0z, Z10, Z11, Z12, Z13, Z14, ↓Z15, ↓Z16, Z17, Z18, Z19, Z1a, Z1b, Z1c, ↓Z1d, ↓Z1e, Z1f, ↓Z1g, ↓Z1h, ↓Z1m, ↓Z1n, ↓Z1o, ↓Z1p, ↓Z1v, ↓Z1z, ↓Z20, ↓Z21, Y00, Z2h, ↓Z2i, ↓Z2j, ↓Z2m, ↓Z2n, ↓Z2u, ↓Z2x, Z2y, Z2z, Z30, Z31, Z32, Z33, ev_t, ev_c, ev_g, ev_f, hv_t, hv_f, hv_n, Z34, Z35, Z36, Y01, Y02, Y03, Y04, Y05, Z3a, Y06, Y07, nth?, Y08, Y09, Y0a, Y0b, Y0c, Y0d, Y0e, putN, Z3i, repL, Y0f, Y0g, Y0h, Y0i, Y0j, Y0k, Y0l, Y0m, Y0n, Y0o, Y0p, Y0q, Y0r, Y0s, Z3r, Z3s, Z3t, depB, Fd, Fall, Dis, Dis1, Z3u, Z3v, appC, appN, mapC, mapN, List.append_eq, Z3w, Array.toArray_toList, Z3x, Z3y, List.getElem?_cons_zero, List.getElem?_cons_succ, Nat.reduceAdd, Nat.reduceSub, Nat.reduceMul, Nat.reduceEqDiff, Nat.zero_add, Nat.add_zero, Nat.mul_one, Nat.zero_mul, if_true, if_false, eq_self, true_and, and_true, reduceCtorEq, false_and, Addr.add_lit, ne_eq, not_false_eq_true, Array.empty_append, Array.append_empty, ↓Z3z, ↓Z40, ↓Z41, ↓Z42, ↓Z43, ↓Z44, ↓Z45, List.getElem?_toArray, Z46, Int.toNat_natCast, Nat.sub_zero, Int.toNat_sub, Sx.Z47, ite_self, ty_5, ty_77, ty_78, ty_79, ty_80]
  refine ⟨rfl, StA.of hb3 (by simp) (by simp [Value.oneCell']) ?_⟩
  intro w4 u4
  refine ⟨⟨h.1, _, _, .inr rfl, u4.at_, ?_, hne3⟩, ((hB1.trans (n2.ext.mono (by omega))).trans g4).trans (u4.below h.1)⟩
  exact ownsRow_keep hown3 fun g hg => u4.rest g (fun e => hne3 (by rw [hg, e]))
end Go.Proofs.YtdpfafgecchafaaDoor

/- Words: the normal form. -/
import Derived.Test.YtdpfafgecchafaaDoorWc
set_option linter.unusedVariables false
set_option maxRecDepth 20000
set_option linter.unusedSimpArgs false
namespace Go.Proofs.YtdpfafgecchafaaDoor
open Go Go.RowKit Sx

/-- an element is read; where it lay may be asked behind -/
theorem RdI.at2 {k : IntKind} {w : World} {v : Value} {l : List Int} (h : RdI k w v l) {i : Int} (h0 : 0 ≤ i) (h1 : i < l.length) {K : Nat → Nat → Int → Prop} (hk : ∀ b o, K b o (nth l i.toNat)) :
    IxA 1 v i fun b o => LdInt w ⟨b, o, none⟩ k (K b o) := by
  obtain ⟨p, c, rfl, _, _, _, hc⟩ := h.out
  obtain ⟨b, o, rfl, _, hcell⟩ := hc (by omega)
  exact ⟨b, o, _, _, rfl, h0, h1, _, by rw [Nat.mul_one]; exact hcell i.toNat (by omega), hk _ _⟩

/-- how much of the stem stays, and how far the loop turns: i letters of the stem left, turned by t -/
def cutFrom (s L : List Int) : Nat → Nat → Nat × Nat
  | 0, t => (0, t)
  | i + 1, t => if nth s i = nth L ((t + L.length - 1) % L.length) then cutFrom s L i ((t + L.length - 1) % L.length) else (i + 1, t)
def nLoop0 (l : List Int) : List Int := l.take (per l)
def nCut (s l : List Int) : Nat × Nat := cutFrom s (nLoop0 l) s.length 0
def nStem (s l : List Int) : List Int := if l.length = 0 then [] else s.take (nCut s l).1
def nLoop (s l : List Int) : List Int := if l.length = 0 then [] else (nLoop0 l).drop (nCut s l).2 ++ (nLoop0 l).take (nCut s l).2

theorem perFrom_pos (l : List Int) (h : 0 < l.length) : ∀ f n, 1 ≤ n → n + f = l.length → 1 ≤ perFrom l f n ∧ perFrom l f n ≤ l.length := by
  intro f
  induction f with
  | zero => intro n h1 h2; simp only [perFrom]; omega
  | succ f ih =>
    intro n h1 h2
    simp only [perFrom]
    split
    · omega
    · exact ih (n + 1) (by omega) (by omega)
theorem per_pos {l : List Int} (h : 0 < l.length) : 1 ≤ per l ∧ per l ≤ l.length := perFrom_pos l h _ _ (Nat.le_refl _) (by omega)
theorem nLoop0_len {l : List Int} (h : 0 < l.length) : (nLoop0 l).length = per l := by
  have := per_pos h
  simp [nLoop0]; omega

/-- a word that a call owns -/
def OwnW (w : World) (base : Nat) (v : Value) (s l : List Int) : Prop := ∃ a b, v = .agg #[a, b] ∧ OwnU w base a s ∧ OwnU w base b l ∧ ∀ g, roomOf a = some g → roomOf b = some g → False
theorem OwnW.rd {w : World} {base : Nat} {v : Value} {s l : List Int} (h : OwnW w base v s l) : RdW w v s l := by
  obtain ⟨a, b, rfl, h1, h2, _⟩ := h
  exact ⟨a, b, rfl, h1.rd, h2.rd⟩
theorem OwnW.below {w w' : World} {base : Nat} {v : Value} {s l : List Int} (h : OwnW w base v s l) (hb : Below w.heap.size w w') : OwnW w' base v s l := by
  obtain ⟨a, b, rfl, h1, h2, h3⟩ := h
  exact ⟨a, b, rfl, h1.below hb, h2.below hb, h3⟩
theorem OwnW.lower {w : World} {base base' : Nat} {v : Value} {s l : List Int} (h : OwnW w base v s l) (hb : base' ≤ base) : OwnW w base' v s l := by
  obtain ⟨a, b, rfl, h1, h2, h3⟩ := h
  exact ⟨a, b, rfl, h1.lower hb, h2.lower hb, h3⟩
theorem OwnW.upd {w w' : World} {base b : Nat} {o : Obj} {v : Value} {s l : List Int} (h : OwnW w base v s l) (u : Upd w b o w') (hb : b < base) : OwnW w' base v s l := by
  obtain ⟨x, y, rfl, h1, h2, h3⟩ := h
  exact ⟨x, y, rfl, h1.upd u hb, h2.upd u hb, h3⟩
theorem OwnW.nil (w : World) (base : Nat) : OwnW w base (.agg #[.slice none 0 0, .slice none 0 0]) [] [] := ⟨_, _, rfl, OwnU.nil _ _, OwnU.nil _ _, fun g h => by cases h⟩

theorem normal_any (w : World) (s l : List Int) (v : Value) (hw : RdW w v s l) (hs : s.length ≤ 70368744177664) (hl : l.length ≤ 70368744177664) :
    CallG C.P 12 #[v] w (fun v w' => OwnW w' w.heap.size v (nStem s l) (nLoop s l) ∧ Below w.heap.size w w') := by
  obtain ⟨a, b, rfl, ha, hb⟩ := hw
  obtain ⟨p, c, rfl, hx1, hx2, hx3, hp⟩ := ha.out
  obtain ⟨q, d, rfl, hy1, hy2, hy3, hq⟩ := hb.out
  clear hp hq
  refine fn_ok (C := C) (args := [_]) 65 [.cell 2 24] Tryd.func12 rfl rfl rfl rfl ?_
  simp only [Tryd.f12, Z00, Z01, Z02, Z03, Z04, Z05, Z06, Z07, Z08, Z09, ↓Z0a, ↓Z0b, ↓Z0c, ↓Z0d, ↓Z0e, ↓Z0f, ↓Z0g, ↓Z0h, ↓Z0i, ↓Z0j, ↓Z0k, ↓Z0l, ↓Z0m, ↓Z0n, ↓Z0o, ↓Z0p, resL, res1, resK, Z0q, Z0r, Z0s, Z0t, Z0u, Z0v, Z0w, Z0x, Z0y, Z0z, Z10, Z11, Z12, Z13, Z14, ↓Z15, ↓Z16, Z17, Z18, Z19, Z1a, Z1b, Z1c, ↓Z1d, ↓Z1e, Z1f, ↓Z1g, ↓Z1h, ↓Z1i, ↓Z1j, ↓Z1k, ↓Z1l, ↓Z1m, ↓Z1n, ↓Z1o, ↓Z1q, ↓Z1u, ↓Z1v, ↓Z1w, ↓Z1z, ↓Z20, ↓Z21, Y00, Z2h, ↓Z2i, ↓Z2j, ↓Z2k, ↓Z2l, ↓Z2m, ↓Z2o, ↓Z2t, ↓Z2u, ↓Z2v, ↓Z2x, Z2y, Z2z, Z30, Z31, Z32, Z33, ev_t, ev_c, ev_g, ev_f, hv_t, hv_f, hv_n, Z34, Z35, Z36, Y01, Y02, Y03, Y04, Y05, Z3a, Y06, Y07, nth?, Y08, Y09, Y0a, Y0b, Y0c, Y0d, Y0e, putN, Z3i, repL, Y0f, Y0g, Y0h, Y0i, Y0j, Y0k, Y0l, Y0m, Y0n, Y0o, Y0p, Y0q, Y0r, Y0s, Z3r, Z3s, Z3t, depB, Fd, Fall, Dis, Dis1, Z3u, Z3v, appC, appN, mapC, mapN, List.append_eq, Z3w, Array.toArray_toList, Z3x, Z3y, List.getElem?_cons_zero, List.getElem?_cons_succ, Nat.reduceAdd, Nat.reduceSub, Nat.reduceMul, Nat.reduceEqDiff, Nat.zero_add, Nat.add_zero, Nat.mul_one, Nat.zero_mul, if_true, if_false, eq_self, true_and, and_true, reduceCtorEq, false_and, Addr.add_lit, ne_eq, not_false_eq_true, Array.empty_append, Array.append_empty, ↓Z3z, ↓Z40, ↓Z41, ↓Z42, ↓Z43, ↓Z44, ↓Z45, List.getElem?_toArray, Z46, Int.toNat_natCast, Nat.sub_zero, Int.toNat_sub, Sx.Z47, ite_self, ty_3, ty_22, ty_23, ty_24, ty_34, ty_54]
  intro b1 w1 n1 b2 w2 n2
  have hB := n1.ext.trans (n2.ext.mono n1.ext.size)
  have hsz := hB.size
  have hb2 : b2 < w2.heap.size := (Array.getElem?_eq_some_iff.1 n2.at_).1
  have hb2' : w.heap.size ≤ b2 := by have := n2.hb; have := n1.size; omega
  simp only [ldSl_blk (bheap n2.ext n1.at_), Z00, Z01, Z02, Z03, Z04, Z05, Z06, Z07, Z08, Z09, ↓Z0a, ↓Z0b, ↓Z0c, ↓Z0d, ↓Z0e, ↓Z0f, ↓Z0g, ↓Z0h, ↓Z0i, ↓Z0j, ↓Z0k, ↓Z0l, ↓Z0m, ↓Z0n, ↓Z0o, ↓Z0p, resL, res1, resK, Z0q, Z0r, Z0s, Z0t, Z0u, Z0v, Z0w, Z0x, Z0y, Z0z, Z10, Z11, Z12, Z13, Z14, ↓Z15, ↓Z16, Z17, Z18, Z19, Z1a, Z1b, Z1c, ↓Z1d, ↓Z1e, Z1f, ↓Z1g, ↓Z1h, ↓Z1i, ↓Z1j, ↓Z1k, ↓Z1l, ↓Z1m, ↓Z1n, ↓Z1o, ↓Z1q, ↓Z1u, ↓Z1v, ↓Z1w, ↓Z1z, ↓Z20, ↓Z21, Y00, Z2h, ↓Z2i, ↓Z2j, ↓Z2k, ↓Z2l, ↓Z2m, ↓Z2o, ↓Z2t, ↓Z2u, ↓Z2v, ↓Z2x, Z2y, Z2z, Z30, Z31, Z32, Z33, ev_t, ev_c, ev_g, ev_f, hv_t, hv_f, hv_n, Z34, Z35, Z36, Y01, Y02, Y03, Y04, Y05, Z3a, Y06, Y07, nth?, Y08, Y09, Y0a, Y0b, Y0c, Y0d, Y0e, putN, Z3i, repL, Y0f, Y0g, Y0h, Y0i, Y0j, Y0k, Y0l, Y0m, Y0n, Y0o, Y0p, Y0q, Y0r, Y0s, Z3r, Z3s, Z3t, depB, Fd, Fall, Dis, Dis1, Z3u, Z3v, appC, appN, mapC, mapN, List.append_eq, Z3w, Array.toArray_toList, Z3x, Z3y, List.getElem?_cons_zero, List.getElem?_cons_succ, Nat.reduceAdd, Nat.reduceSub, Nat.reduceMul, Nat.reduceEqDiff, Nat.zero_add, Nat.add_zero, Nat.mul_one, Nat.zero_mul, if_true, if_false, eq_self, true_and, and_true, reduceCtorEq, false_and, Addr.add_lit, ne_eq, not_false_eq_true, Array.empty_append, Array.append_empty, ↓Z3z, ↓Z40, ↓Z41, ↓Z42, ↓Z43, ↓Z44, ↓Z45, List.getElem?_toArray, Z46, Int.toNat_natCast, Nat.sub_zero, Int.toNat_sub, Sx.Z47, ite_self, ty_3, ty_22, ty_23, ty_24, ty_34, ty_54]
  refine BrE (fun h => ?_) (fun h => ?_)
  · have h0 : l.length = 0 := by omega
    simp only [nStem, nLoop, if_pos h0]
    refine ⟨rfl, rfl, StA.of n2.at_ (by simp) (by simp [Value.oneCell']) ?_⟩
    intro w3 u3
    simp only [ldAgg_blk (n := 2) u3.at_ rfl, Z00, Z01, Z02, Z03, Z04, Z05, Z06, Z07, Z08, Z09, ↓Z0a, ↓Z0b, ↓Z0c, ↓Z0d, ↓Z0e, ↓Z0f, ↓Z0g, ↓Z0h, ↓Z0i, ↓Z0j, ↓Z0k, ↓Z0l, ↓Z0m, ↓Z0n, ↓Z0o, ↓Z0p, resL, res1, resK, Z0q, Z0r, Z0s, Z0t, Z0u, Z0v, Z0w, Z0x, Z0y, Z0z, Z10, Z11, Z12, Z13, Z14, ↓Z15, ↓Z16, Z17, Z18, Z19, Z1a, Z1b, Z1c, ↓Z1d, ↓Z1e, Z1f, ↓Z1g, ↓Z1h, ↓Z1i, ↓Z1j, ↓Z1k, ↓Z1l, ↓Z1m, ↓Z1n, ↓Z1o, ↓Z1q, ↓Z1u, ↓Z1v, ↓Z1w, ↓Z1z, ↓Z20, ↓Z21, Y00, Z2h, ↓Z2i, ↓Z2j, ↓Z2k, ↓Z2l, ↓Z2m, ↓Z2o, ↓Z2t, ↓Z2u, ↓Z2v, ↓Z2x, Z2y, Z2z, Z30, Z31, Z32, Z33, ev_t, ev_c, ev_g, ev_f, hv_t, hv_f, hv_n, Z34, Z35, Z36, Y01, Y02, Y03, Y04, Y05, Z3a, Y06, Y07, nth?, Y08, Y09, Y0a, Y0b, Y0c, Y0d, Y0e, putN, Z3i, repL, Y0f, Y0g, Y0h, Y0i, Y0j, Y0k, Y0l, Y0m, Y0n, Y0o, Y0p, Y0q, Y0r, Y0s, Z3r, Z3s, Z3t, depB, Fd, Fall, Dis, Dis1, Z3u, Z3v, appC, appN, mapC, mapN, List.append_eq, Z3w, Array.toArray_toList, Z3x, Z3y, List.getElem?_cons_zero, List.getElem?_cons_succ, Nat.reduceAdd, Nat.reduceSub, Nat.reduceMul, Nat.reduceEqDiff, Nat.zero_add, Nat.add_zero, Nat.mul_one, Nat.zero_mul, if_true, if_false, eq_self, true_and, and_true, reduceCtorEq, false_and, Addr.add_lit, ne_eq, not_false_eq_true, Array.empty_append, Array.append_empty, ↓Z3z, ↓Z40, ↓Z41, ↓Z42, ↓Z43, ↓Z44, ↓Z45, List.getElem?_toArray, Z46, Int.toNat_natCast, Nat.sub_zero, Int.toNat_sub, Sx.Z47, ite_self, ty_3, ty_22, ty_23, ty_24, ty_34, ty_54]
    exact ⟨OwnW.nil _ _, hB.trans (u3.below hb2')⟩
  have h0 : 0 < l.length := by omega
  have hpp := per_pos h0
  refine draw_sp 10 [(6, (fun v _ => v = Value.int .i64 (per l)), noB)] (by kernel_rfl) (by kernel_rfl) (by decide) 66 rfl (by kernel_rfl) ⟨fun _ _ _ h _ => h, trivial⟩ ?_
  simp only [ldSl_blk (bheap n2.ext n1.at_), Z00, Z01, Z02, Z03, Z04, Z05, Z06, Z07, Z08, Z09, ↓Z0a, ↓Z0b, ↓Z0c, ↓Z0d, ↓Z0e, ↓Z0f, ↓Z0g, ↓Z0h, ↓Z0i, ↓Z0j, ↓Z0k, ↓Z0l, ↓Z0m, ↓Z0n, ↓Z0o, ↓Z0p, resL, res1, resK, Z0q, Z0r, Z0s, Z0t, Z0u, Z0v, Z0w, Z0x, Z0y, Z0z, Z10, Z11, Z12, Z13, Z14, ↓Z15, ↓Z16, Z17, Z18, Z19, Z1a, Z1b, Z1c, ↓Z1d, ↓Z1e, Z1f, ↓Z1g, ↓Z1h, ↓Z1i, ↓Z1j, ↓Z1k, ↓Z1l, ↓Z1m, ↓Z1n, ↓Z1o, ↓Z1q, ↓Z1u, ↓Z1v, ↓Z1w, ↓Z1z, ↓Z20, ↓Z21, Y00, Z2h, ↓Z2i, ↓Z2j, ↓Z2k, ↓Z2l, ↓Z2m, ↓Z2o, ↓Z2t, ↓Z2u, ↓Z2v, ↓Z2x, Z2y, Z2z, Z30, Z31, Z32, Z33, ev_t, ev_c, ev_g, ev_f, hv_t, hv_f, hv_n, Z34, Z35, Z36, Y01, Y02, Y03, Y04, Y05, Z3a, Y06, Y07, nth?, Y08, Y09, Y0a, Y0b, Y0c, Y0d, Y0e, putN, Z3i, repL, Y0f, Y0g, Y0h, Y0i, Y0j, Y0k, Y0l, Y0m, Y0n, Y0o, Y0p, Y0q, Y0r, Y0s, Z3r, Z3s, Z3t, depB, Fd, Fall, Dis, Dis1, Z3u, Z3v, appC, appN, mapC, mapN, List.append_eq, Z3w, Array.toArray_toList, Z3x, Z3y, List.getElem?_cons_zero, List.getElem?_cons_succ, Nat.reduceAdd, Nat.reduceSub, Nat.reduceMul, Nat.reduceEqDiff, Nat.zero_add, Nat.add_zero, Nat.mul_one, Nat.zero_mul, if_true, if_false, eq_self, true_and, and_true, reduceCtorEq, false_and, Addr.add_lit, ne_eq, not_false_eq_true, Array.empty_append, Array.append_empty, ↓Z3z, ↓Z40, ↓Z41, ↓Z42, ↓Z43, ↓Z44, ↓Z45, List.getElem?_toArray, Z46, Int.toNat_natCast, Nat.sub_zero, Int.toNat_sub, Sx.Z47, ite_self, ty_3, ty_22, ty_23, ty_24, ty_34, ty_54]
  refine ⟨fun W hW _ => ?_, ?_⟩
  · refine (period_any W l _ ((hb.below hB).below hW)).mono ?_
    rintro v W' ⟨rfl, h⟩
    exact ⟨h, rfl, FrOk.no _ _ _⟩
  rintro v ⟨_, _, rfl⟩
  simp only [Z00, Z01, Z02, Z03, Z04, Z05, Z06, Z07, Z08, Z09, ↓Z0a, ↓Z0b, ↓Z0c, ↓Z0d, ↓Z0e, ↓Z0f, ↓Z0g, ↓Z0h, ↓Z0i, ↓Z0j, ↓Z0k, ↓Z0l, ↓Z0m, ↓Z0n, ↓Z0o, ↓Z0p, resL, res1, resK, Z0q, Z0r, Z0s, Z0t, Z0u, Z0v, Z0w, Z0x, Z0y, Z0z, Z10, Z11, Z12, Z13, Z14, ↓Z15, ↓Z16, Z17, Z18, Z19, Z1a, Z1b, Z1c, ↓Z1d, ↓Z1e, Z1f, ↓Z1g, ↓Z1h, ↓Z1i, ↓Z1j, ↓Z1k, ↓Z1l, ↓Z1m, ↓Z1n, ↓Z1o, ↓Z1q, ↓Z1u, ↓Z1v, ↓Z1w, ↓Z1z, ↓Z20, ↓Z21, Y00, Z2h, ↓Z2i, ↓Z2j, ↓Z2k, ↓Z2l, ↓Z2m, ↓Z2o, ↓Z2t, ↓Z2u, ↓Z2v, ↓Z2x, Z2y, Z2z, Z30, Z31, Z32, Z33, ev_t, ev_c, ev_g, ev_f, hv_t, hv_f, hv_n, Z34, Z35, Z36, Y01, Y02, Y03, Y04, Y05, Z3a, Y06, Y07, nth?, Y08, Y09, Y0a, Y0b, Y0c, Y0d, Y0e, putN, Z3i, repL, Y0f, Y0g, Y0h, Y0i, Y0j, Y0k, Y0l, Y0m, Y0n, Y0o, Y0p, Y0q, Y0r, Y0s, Z3r, Z3s, Z3t, depB, Fd, Fall, Dis, Dis1, Z3u, Z3v, appC, appN, mapC, mapN, List.append_eq, Z3w, Array.toArray_toList, Z3x, Z3y, List.getElem?_cons_zero, List.getElem?_cons_succ, Nat.reduceAdd, Nat.reduceSub, Nat.reduceMul, Nat.reduceEqDiff, Nat.zero_add, Nat.add_zero, Nat.mul_one, Nat.zero_mul, if_true, if_false, eq_self, true_and, and_true, reduceCtorEq, false_and, Addr.add_lit, ne_eq, not_false_eq_true, Array.empty_append, Array.append_empty, ↓Z3z, ↓Z40, ↓Z41, ↓Z42, ↓Z43, ↓Z44, ↓Z45, List.getElem?_toArray, Z46, Int.toNat_natCast, Nat.sub_zero, Int.toNat_sub, Sx.Z47, ite_self, ty_3, ty_22, ty_23, ty_24, ty_34, ty_54]
  refine ⟨.inl trivial, ⟨by omega, by omega⟩, ?_⟩
  rintro W hW - -
  have hBW := hB.trans (hW.mono hsz)
  have hL := nLoop0_len h0
  have hbl : RdI .u16 w (.slice q (per l) d) (nLoop0 l) := hb.upto (per l) hpp.2
  refine loop_ok [false, false, false, false, false, true, true, false, false, false, false, false, false, false, false, false, false, false, false, false, false, false, true, true, true, true, true, true, true, true, true, true, true, true, true, true, true, true, true, true, true, true, true, true, true, true, true, true, true, true, true, true, true, false, false, false, false, false, false, false, false, false, false, false, false, false] (fun u wr => ∃ i t : Nat, u 5 = .int .i64 i ∧ u 6 = .int .i64 t ∧ i ≤ s.length ∧ t < per l ∧ Below w.heap.size w wr ∧ Below w2.heap.size w2 wr ∧ nCut s l = cutFrom s (nLoop0 l) i t)
    (fun u wr => (intOf (u 5)).toNat) ⟨rfl, s.length, 0, rfl, rfl, Nat.le_refl _, by omega, hBW, hW, rfl⟩ ?_
  rintro u wr ⟨i, t, h5, h6, hi, ht, hB3, hB32, hcut⟩
  have hin : i = 0 → nCut s l = (0, t) := fun h => by rw [hcut, h, cutFrom]
  have e1 : ((t : Int) + (per l : Nat) - 1).tmod (per l : Nat) = ((t + per l - 1) % per l : Nat) := by
    rw [show (t : Int) + (per l : Nat) - 1 = ((t + per l - 1 : Nat) : Int) by omega, Int.ofNat_tmod]
  have e1' : (t + per l - 1) % per l < per l := Nat.mod_lt _ (by omega)
  simp only [Z00, Z01, Z02, Z03, Z04, Z05, Z06, Z07, Z08, Z09, ↓Z0a, ↓Z0b, ↓Z0c, ↓Z0d, ↓Z0e, ↓Z0f, ↓Z0g, ↓Z0h, ↓Z0i, ↓Z0j, ↓Z0k, ↓Z0l, ↓Z0m, ↓Z0n, ↓Z0o, ↓Z0p, resL, res1, resK, Z0q, Z0r, Z0s, Z0t, Z0u, Z0v, Z0w, Z0x, Z0y, Z0z, Z10, Z11, Z12, Z13, Z14, ↓Z15, ↓Z16, Z17, Z18, Z19, Z1a, Z1b, Z1c, ↓Z1d, ↓Z1e, Z1f, ↓Z1g, ↓Z1h, ↓Z1i, ↓Z1j, ↓Z1k, ↓Z1l, ↓Z1m, ↓Z1n, ↓Z1o, ↓Z1q, ↓Z1u, ↓Z1v, ↓Z1w, ↓Z1z, ↓Z20, ↓Z21, Y00, Z2h, ↓Z2i, ↓Z2j, ↓Z2k, ↓Z2l, ↓Z2m, ↓Z2o, ↓Z2t, ↓Z2u, ↓Z2v, ↓Z2x, Z2y, Z2z, Z30, Z31, Z32, Z33, ev_t, ev_c, ev_g, ev_f, hv_t, hv_f, hv_n, Z34, Z35, Z36, Y01, Y02, Y03, Y04, Y05, Z3a, Y06, Y07, nth?, Y08, Y09, Y0a, Y0b, Y0c, Y0d, Y0e, putN, Z3i, repL, Y0f, Y0g, Y0h, Y0i, Y0j, Y0k, Y0l, Y0m, Y0n, Y0o, Y0p, Y0q, Y0r, Y0s, Z3r, Z3s, Z3t, depB, Fd, Fall, Dis, Dis1, Z3u, Z3v, appC, appN, mapC, mapN, List.append_eq, Z3w, Array.toArray_toList, Z3x, Z3y, List.getElem?_cons_zero, List.getElem?_cons_succ, Nat.reduceAdd, Nat.reduceSub, Nat.reduceMul, Nat.reduceEqDiff, Nat.zero_add, Nat.add_zero, Nat.mul_one, Nat.zero_mul, if_true, if_false, eq_self, true_and, and_true, reduceCtorEq, false_and, Addr.add_lit, ne_eq, not_false_eq_true, Array.empty_append, Array.append_empty, ↓Z3z, ↓Z40, ↓Z41, ↓Z42, ↓Z43, ↓Z44, ↓Z45, List.getElem?_toArray, Z46, Int.toNat_natCast, Nat.sub_zero, Int.toNat_sub, Sx.Z47, ite_self, ty_3, ty_22, ty_23, ty_24, ty_34, ty_54, h5, h6]
  refine draw_rd (by kernel_rfl) (by kernel_rfl) ?_
  simp only [Z00, Z01, Z02, Z03, Z04, Z05, Z06, Z07, Z08, Z09, ↓Z0a, ↓Z0b, ↓Z0c, ↓Z0d, ↓Z0e, ↓Z0f, ↓Z0g, ↓Z0h, ↓Z0i, ↓Z0j, ↓Z0k, ↓Z0l, ↓Z0m, ↓Z0n, ↓Z0o, ↓Z0p, resL, res1, resK, Z0q, Z0r, Z0s, Z0t, Z0u, Z0v, Z0w, Z0x, Z0y, Z0z, Z10, Z11, Z12, Z13, Z14, ↓Z15, ↓Z16, Z17, Z18, Z19, Z1a, Z1b, Z1c, ↓Z1d, ↓Z1e, Z1f, ↓Z1g, ↓Z1h, ↓Z1i, ↓Z1j, ↓Z1k, ↓Z1l, ↓Z1m, ↓Z1n, ↓Z1o, ↓Z1q, ↓Z1u, ↓Z1v, ↓Z1w, ↓Z1z, ↓Z20, ↓Z21, Y00, Z2h, ↓Z2i, ↓Z2j, ↓Z2k, ↓Z2l, ↓Z2m, ↓Z2o, ↓Z2t, ↓Z2u, ↓Z2v, ↓Z2x, Z2y, Z2z, Z30, Z31, Z32, Z33, ev_t, ev_c, ev_g, ev_f, hv_t, hv_f, hv_n, Z34, Z35, Z36, Y01, Y02, Y03, Y04, Y05, Z3a, Y06, Y07, nth?, Y08, Y09, Y0a, Y0b, Y0c, Y0d, Y0e, putN, Z3i, repL, Y0f, Y0g, Y0h, Y0i, Y0j, Y0k, Y0l, Y0m, Y0n, Y0o, Y0p, Y0q, Y0r, Y0s, Z3r, Z3s, Z3t, depB, Fd, Fall, Dis, Dis1, Z3u, Z3v, appC, appN, mapC, mapN, List.append_eq, Z3w, Array.toArray_toList, Z3x, Z3y, List.getElem?_cons_zero, List.getElem?_cons_succ, Nat.reduceAdd, Nat.reduceSub, Nat.reduceMul, Nat.reduceEqDiff, Nat.zero_add, Nat.add_zero, Nat.mul_one, Nat.zero_mul, if_true, if_false, eq_self, true_and, and_true, reduceCtorEq, false_and, Addr.add_lit, ne_eq, not_false_eq_true, Array.empty_append, Array.append_empty, ↓Z3z, ↓Z40, ↓Z41, ↓Z42, ↓Z43, ↓Z44, ↓Z45, List.getElem?_toArray, Z46, Int.toNat_natCast, Nat.sub_zero, Int.toNat_sub, Sx.Z47, ite_self, ty_3, ty_22, ty_23, ty_24, ty_34, ty_54, h5, h6]
  have hB3s := hB3.size
  refine BrD (fun hi0 => ?_) (fun hi0 => ?_)
  · obtain ⟨j, rfl⟩ : ∃ j, i = j + 1 := ⟨i - 1, by omega⟩
    simp only [wi (n := ((j + 1 : Nat) : Int) - 1) (by omega) (by omega), wi (n := (t : Int) + (per l : Nat)) (by omega) (by omega), wi (n := (t : Int) + (per l : Nat) - 1) (by omega) (by omega), e1]
    refine (ha.below hB3).at2 (i := ((j + 1 : Nat) : Int) - 1) (by omega) (by omega) fun _ _ => ⟨by omega, ?_⟩
    refine (hbl.below hB3).at2 (i := ((t + per l - 1) % per l : Nat)) (by omega) (by omega) fun _ _ => ?_
    intro W' hW' _ _
    have hBW' := hB3.trans (hW'.mono hB3s)
    have hBW2' := hB32.trans (hW'.mono hB32.size)
    have hst : nCut s l = if nth s j = nth (nLoop0 l) ((t + per l - 1) % per l) then cutFrom s (nLoop0 l) j ((t + per l - 1) % per l) else (j + 1, t) := by
      rw [hcut, cutFrom, hL]
    have ej : (((j + 1 : Nat) : Int) - 1).toNat = j := by omega
    rw [ej, Int.toNat_natCast]
    refine BrE (fun he => ?_) (fun he => ?_)
    · refine ⟨by omega, ⟨j, _, by rw [show ((j + 1 : Nat) : Int) - 1 = j by omega], rfl, by omega, e1', hBW', hBW2', by rw [hst, if_pos he]⟩, by simp [intOf]⟩
    · have hc : nCut s l = (j + 1, t) := by rw [hst, if_neg he]
      refine draw_sp 13 [(3, (fun v W => OwnU W W'.heap.size v (s.take (j + 1))), roomB), (10, (fun v W => RdC W 1 v 2 [Value.slice (if d = t then q else q.map (·.add t)) (per l - t) (d - t), Value.slice q t d]), noB), (11, (fun v W => OwnU W W'.heap.size v ((nLoop0 l).drop t ++ (nLoop0 l).take t)), roomB)] (by kernel_rfl) (by kernel_rfl) (by decide) 66 rfl (by kernel_rfl) ⟨fun _ _ _ h hb => h.below hb, fun _ _ _ h hb => h.below hb, fun _ _ _ h hb => h.below hb, trivial⟩ ?_
      simp only [Z00, Z01, Z02, Z03, Z04, Z05, Z06, Z07, Z08, Z09, ↓Z0a, ↓Z0b, ↓Z0c, ↓Z0d, ↓Z0e, ↓Z0f, ↓Z0g, ↓Z0h, ↓Z0i, ↓Z0j, ↓Z0k, ↓Z0l, ↓Z0m, ↓Z0n, ↓Z0o, ↓Z0p, resL, res1, resK, Z0q, Z0r, Z0s, Z0t, Z0u, Z0v, Z0w, Z0x, Z0y, Z0z, Z10, Z11, Z12, Z13, Z14, ↓Z15, ↓Z16, Z17, Z18, Z19, Z1a, Z1b, Z1c, ↓Z1d, ↓Z1e, Z1f, ↓Z1g, ↓Z1h, ↓Z1i, ↓Z1j, ↓Z1k, ↓Z1l, ↓Z1m, ↓Z1n, ↓Z1o, ↓Z1q, ↓Z1u, ↓Z1v, ↓Z1w, ↓Z1z, ↓Z20, ↓Z21, Y00, Z2h, ↓Z2i, ↓Z2j, ↓Z2k, ↓Z2l, ↓Z2m, ↓Z2o, ↓Z2t, ↓Z2u, ↓Z2v, ↓Z2x, Z2y, Z2z, Z30, Z31, Z32, Z33, ev_t, ev_c, ev_g, ev_f, hv_t, hv_f, hv_n, Z34, Z35, Z36, Y01, Y02, Y03, Y04, Y05, Z3a, Y06, Y07, nth?, Y08, Y09, Y0a, Y0b, Y0c, Y0d, Y0e, putN, Z3i, repL, Y0f, Y0g, Y0h, Y0i, Y0j, Y0k, Y0l, Y0m, Y0n, Y0o, Y0p, Y0q, Y0r, Y0s, Z3r, Z3s, Z3t, depB, Fd, Fall, Dis, Dis1, Z3u, Z3v, appC, appN, mapC, mapN, List.append_eq, Z3w, Array.toArray_toList, Z3x, Z3y, List.getElem?_cons_zero, List.getElem?_cons_succ, Nat.reduceAdd, Nat.reduceSub, Nat.reduceMul, Nat.reduceEqDiff, Nat.zero_add, Nat.add_zero, Nat.mul_one, Nat.zero_mul, if_true, if_false, eq_self, true_and, and_true, reduceCtorEq, false_and, Addr.add_lit, ne_eq, not_false_eq_true, Array.empty_append, Array.append_empty, ↓Z3z, ↓Z40, ↓Z41, ↓Z42, ↓Z43, ↓Z44, ↓Z45, List.getElem?_toArray, Z46, Int.toNat_natCast, Nat.sub_zero, Int.toNat_sub, Sx.Z47, ite_self, ty_3, ty_22, ty_23, ty_24, ty_34, ty_54, h5, h6]
      refine ⟨.inl trivial, ⟨by omega, by omega⟩, fun W hW _ => ?_, ?_⟩
      · refine (clone_any W _ _ (((ha.below hBW').below hW).upto (j + 1) (by omega)) (by simp; omega)).mono ?_
        rintro v V ⟨g1, g2⟩
        exact ⟨g2, g1.lower hW.size, g1.fr⟩
      rintro v3 ⟨_, _, o3⟩
      obtain ⟨p3, c3, rfl⟩ := o3.out
      refine ⟨.inl trivial, ⟨by omega, by omega⟩, .inl trivial, ⟨by omega, by omega⟩, fun W hW _ => ?_, ?_⟩
      · refine ⟨⟨by omega, rfl⟩, ⟨rfl, by simp⟩, ⟨rfl, by simp⟩, ?_⟩
        intro b w' n'
        refine ⟨n'.ext, ⟨_, 2, rfl, by omega, by decide, by decide, rfl, fun _ => ⟨b, 0, rfl, (Array.getElem?_eq_some_iff.1 n'.at_).1, fun j x hx => ?_⟩⟩, FrOk.no _ _ _⟩
        rw [cell_of_blk n'.at_, Nat.zero_add, List.getElem?_toArray]; exact hx
      rintro v10 ⟨_, _, o10⟩
      refine ⟨fun W hW hF => ?_, ?_⟩
      · have h10 : RdC W 1 v10 2 _ := hF.1
        refine (concat_any W v10 [_, _] [(nLoop0 l).drop t, (nLoop0 l).take t] h10 rfl ?_ (by simp [hL]; omega)).mono ?_
        · intro j v' l' hj hj'
          match j, hj, hj' with
          | 0, hj, hj' =>
            cases hj; cases hj'
            have := ((hbl.below hBW').below hW).from_ t (by omega)
            rwa [hL] at this
          | 1, hj, hj' => cases hj; cases hj'; exact ((hbl.below hBW').below hW).upto t (by omega)
        rintro v V ⟨g1, g2⟩
        simp only [List.flatten_cons, List.flatten_nil, List.append_nil] at g1
        exact ⟨g2, g1.lower hW.size, g1.fr⟩
      rintro v11 ⟨_, _, o11⟩
      obtain ⟨p11, c11, rfl⟩ := o11.out
      simp only [Z00, Z01, Z02, Z03, Z04, Z05, Z06, Z07, Z08, Z09, ↓Z0a, ↓Z0b, ↓Z0c, ↓Z0d, ↓Z0e, ↓Z0f, ↓Z0g, ↓Z0h, ↓Z0i, ↓Z0j, ↓Z0k, ↓Z0l, ↓Z0m, ↓Z0n, ↓Z0o, ↓Z0p, resL, res1, resK, Z0q, Z0r, Z0s, Z0t, Z0u, Z0v, Z0w, Z0x, Z0y, Z0z, Z10, Z11, Z12, Z13, Z14, ↓Z15, ↓Z16, Z17, Z18, Z19, Z1a, Z1b, Z1c, ↓Z1d, ↓Z1e, Z1f, ↓Z1g, ↓Z1h, ↓Z1i, ↓Z1j, ↓Z1k, ↓Z1l, ↓Z1m, ↓Z1n, ↓Z1o, ↓Z1q, ↓Z1u, ↓Z1v, ↓Z1w, ↓Z1z, ↓Z20, ↓Z21, Y00, Z2h, ↓Z2i, ↓Z2j, ↓Z2k, ↓Z2l, ↓Z2m, ↓Z2o, ↓Z2t, ↓Z2u, ↓Z2v, ↓Z2x, Z2y, Z2z, Z30, Z31, Z32, Z33, ev_t, ev_c, ev_g, ev_f, hv_t, hv_f, hv_n, Z34, Z35, Z36, Y01, Y02, Y03, Y04, Y05, Z3a, Y06, Y07, nth?, Y08, Y09, Y0a, Y0b, Y0c, Y0d, Y0e, putN, Z3i, repL, Y0f, Y0g, Y0h, Y0i, Y0j, Y0k, Y0l, Y0m, Y0n, Y0o, Y0p, Y0q, Y0r, Y0s, Z3r, Z3s, Z3t, depB, Fd, Fall, Dis, Dis1, Z3u, Z3v, appC, appN, mapC, mapN, List.append_eq, Z3w, Array.toArray_toList, Z3x, Z3y, List.getElem?_cons_zero, List.getElem?_cons_succ, Nat.reduceAdd, Nat.reduceSub, Nat.reduceMul, Nat.reduceEqDiff, Nat.zero_add, Nat.add_zero, Nat.mul_one, Nat.zero_mul, if_true, if_false, eq_self, true_and, and_true, reduceCtorEq, false_and, Addr.add_lit, ne_eq, not_false_eq_true, Array.empty_append, Array.append_empty, ↓Z3z, ↓Z40, ↓Z41, ↓Z42, ↓Z43, ↓Z44, ↓Z45, List.getElem?_toArray, Z46, Int.toNat_natCast, Nat.sub_zero, Int.toNat_sub, Sx.Z47, ite_self, ty_3, ty_22, ty_23, ty_24, ty_34, ty_54]
      refine ⟨rfl, ⟨rfl, by simp⟩, ⟨rfl, by simp⟩, ?_⟩
      rintro W hW ⟨f11, _, f3⟩ ⟨⟨_, hD⟩, _⟩
      have hbW : b2 < W'.heap.size := Nat.lt_of_lt_of_le hb2 hBW2'.size
      refine ⟨rfl, StA.of (bheap (hBW2'.trans (hW.mono hBW2'.size)) n2.at_) (by simp) (by simp [Value.oneCell']) ?_⟩
      intro w5 u5
      simp only [ldAgg_blk (n := 2) u5.at_ rfl, Z00, Z01, Z02, Z03, Z04, Z05, Z06, Z07, Z08, Z09, ↓Z0a, ↓Z0b, ↓Z0c, ↓Z0d, ↓Z0e, ↓Z0f, ↓Z0g, ↓Z0h, ↓Z0i, ↓Z0j, ↓Z0k, ↓Z0l, ↓Z0m, ↓Z0n, ↓Z0o, ↓Z0p, resL, res1, resK, Z0q, Z0r, Z0s, Z0t, Z0u, Z0v, Z0w, Z0x, Z0y, Z0z, Z10, Z11, Z12, Z13, Z14, ↓Z15, ↓Z16, Z17, Z18, Z19, Z1a, Z1b, Z1c, ↓Z1d, ↓Z1e, Z1f, ↓Z1g, ↓Z1h, ↓Z1i, ↓Z1j, ↓Z1k, ↓Z1l, ↓Z1m, ↓Z1n, ↓Z1o, ↓Z1q, ↓Z1u, ↓Z1v, ↓Z1w, ↓Z1z, ↓Z20, ↓Z21, Y00, Z2h, ↓Z2i, ↓Z2j, ↓Z2k, ↓Z2l, ↓Z2m, ↓Z2o, ↓Z2t, ↓Z2u, ↓Z2v, ↓Z2x, Z2y, Z2z, Z30, Z31, Z32, Z33, ev_t, ev_c, ev_g, ev_f, hv_t, hv_f, hv_n, Z34, Z35, Z36, Y01, Y02, Y03, Y04, Y05, Z3a, Y06, Y07, nth?, Y08, Y09, Y0a, Y0b, Y0c, Y0d, Y0e, putN, Z3i, repL, Y0f, Y0g, Y0h, Y0i, Y0j, Y0k, Y0l, Y0m, Y0n, Y0o, Y0p, Y0q, Y0r, Y0s, Z3r, Z3s, Z3t, depB, Fd, Fall, Dis, Dis1, Z3u, Z3v, appC, appN, mapC, mapN, List.append_eq, Z3w, Array.toArray_toList, Z3x, Z3y, List.getElem?_cons_zero, List.getElem?_cons_succ, Nat.reduceAdd, Nat.reduceSub, Nat.reduceMul, Nat.reduceEqDiff, Nat.zero_add, Nat.add_zero, Nat.mul_one, Nat.zero_mul, if_true, if_false, eq_self, true_and, and_true, reduceCtorEq, false_and, Addr.add_lit, ne_eq, not_false_eq_true, Array.empty_append, Array.append_empty, ↓Z3z, ↓Z40, ↓Z41, ↓Z42, ↓Z43, ↓Z44, ↓Z45, List.getElem?_toArray, Z46, Int.toNat_natCast, Nat.sub_zero, Int.toNat_sub, Sx.Z47, ite_self, ty_3, ty_22, ty_23, ty_24, ty_34, ty_54]
      have hl0 : ¬ l.length = 0 := by omega
      refine ⟨?_, (hBW'.trans (hW.mono hBW'.size)).trans (u5.below hb2')⟩
      rw [nStem, nLoop, if_neg hl0, if_neg hl0, hc]
      exact ⟨_, _, rfl, (f3.upd u5 hbW).lower hBW'.size, (f11.upd u5 hbW).lower hBW'.size, fun g h3 h11 => hD g h11 h3⟩
  · obtain rfl : i = 0 := by omega
    intro W' hW' _ _
    have hBW' := hB3.trans (hW'.mono hB3s)
    have hBW2' := hB32.trans (hW'.mono hB32.size)
    have hc : nCut s l = (0, t) := hin rfl
    refine draw_sp 13 [(3, (fun v W => OwnU W W'.heap.size v (s.take 0)), roomB), (10, (fun v W => RdC W 1 v 2 [Value.slice (if d = t then q else q.map (·.add t)) (per l - t) (d - t), Value.slice q t d]), noB), (11, (fun v W => OwnU W W'.heap.size v ((nLoop0 l).drop t ++ (nLoop0 l).take t)), roomB)] (by kernel_rfl) (by kernel_rfl) (by decide) 66 rfl (by kernel_rfl) ⟨fun _ _ _ h hb => h.below hb, fun _ _ _ h hb => h.below hb, fun _ _ _ h hb => h.below hb, trivial⟩ ?_
    simp only [Z00, Z01, Z02, Z03, Z04, Z05, Z06, Z07, Z08, Z09, ↓Z0a, ↓Z0b, ↓Z0c, ↓Z0d, ↓Z0e, ↓Z0f, ↓Z0g, ↓Z0h, ↓Z0i, ↓Z0j, ↓Z0k, ↓Z0l, ↓Z0m, ↓Z0n, ↓Z0o, ↓Z0p, resL, res1, resK, Z0q, Z0r, Z0s, Z0t, Z0u, Z0v, Z0w, Z0x, Z0y, Z0z, Z10, Z11, Z12, Z13, Z14, ↓Z15, ↓Z16, Z17, Z18, Z19, Z1a, Z1b, Z1c, ↓Z1d, ↓Z1e, Z1f, ↓Z1g, ↓Z1h, ↓Z1i, ↓Z1j, ↓Z1k, ↓Z1l, ↓Z1m, ↓Z1n, ↓Z1o, ↓Z1q, ↓Z1u, ↓Z1v, ↓Z1w, ↓Z1z, ↓Z20, ↓Z21, Y00, Z2h, ↓Z2i, ↓Z2j, ↓Z2k, ↓Z2l, ↓Z2m, ↓Z2o, ↓Z2t, ↓Z2u, ↓Z2v, ↓Z2x, Z2y, Z2z, Z30, Z31, Z32, Z33, ev_t, ev_c, ev_g, ev_f, hv_t, hv_f, hv_n, Z34, Z35, Z36, Y01, Y02, Y03, Y04, Y05, Z3a, Y06, Y07, nth?, Y08, Y09, Y0a, Y0b, Y0c, Y0d, Y0e, putN, Z3i, repL, Y0f, Y0g, Y0h, Y0i, Y0j, Y0k, Y0l, Y0m, Y0n, Y0o, Y0p, Y0q, Y0r, Y0s, Z3r, Z3s, Z3t, depB, Fd, Fall, Dis, Dis1, Z3u, Z3v, appC, appN, mapC, mapN, List.append_eq, Z3w, Array.toArray_toList, Z3x, Z3y, List.getElem?_cons_zero, List.getElem?_cons_succ, Nat.reduceAdd, Nat.reduceSub, Nat.reduceMul, Nat.reduceEqDiff, Nat.zero_add, Nat.add_zero, Nat.mul_one, Nat.zero_mul, if_true, if_false, eq_self, true_and, and_true, reduceCtorEq, false_and, Addr.add_lit, ne_eq, not_false_eq_true, Array.empty_append, Array.append_empty, ↓Z3z, ↓Z40, ↓Z41, ↓Z42, ↓Z43, ↓Z44, ↓Z45, List.getElem?_toArray, Z46, Int.toNat_natCast, Nat.sub_zero, Int.toNat_sub, Sx.Z47, ite_self, ty_3, ty_22, ty_23, ty_24, ty_34, ty_54, h5, h6]
    refine ⟨.inl trivial, ⟨by omega, by omega⟩, fun W hW _ => ?_, ?_⟩
    · refine (clone_any W _ _ (((ha.below hBW').below hW).upto 0 (by omega)) (by simp)).mono ?_
      rintro v V ⟨g1, g2⟩
      exact ⟨g2, g1.lower hW.size, g1.fr⟩
    rintro v3 ⟨_, _, o3⟩
    obtain ⟨p3, c3, rfl⟩ := o3.out
    refine ⟨.inl trivial, ⟨by omega, by omega⟩, .inl trivial, ⟨by omega, by omega⟩, fun W hW _ => ?_, ?_⟩
    · refine ⟨⟨by omega, rfl⟩, ⟨rfl, by simp⟩, ⟨rfl, by simp⟩, ?_⟩
      intro b w' n'
      refine ⟨n'.ext, ⟨_, 2, rfl, by omega, by decide, by decide, rfl, fun _ => ⟨b, 0, rfl, (Array.getElem?_eq_some_iff.1 n'.at_).1, fun j x hx => ?_⟩⟩, FrOk.no _ _ _⟩
      rw [cell_of_blk n'.at_, Nat.zero_add, List.getElem?_toArray]; exact hx
    rintro v10 ⟨_, _, o10⟩
    refine ⟨fun W hW hF => ?_, ?_⟩
    · have h10 : RdC W 1 v10 2 _ := hF.1
      refine (concat_any W v10 [_, _] [(nLoop0 l).drop t, (nLoop0 l).take t] h10 rfl ?_ (by simp [hL]; omega)).mono ?_
      · intro j v' l' hj hj'
        match j, hj, hj' with
        | 0, hj, hj' =>
          cases hj; cases hj'
          have := ((hbl.below hBW').below hW).from_ t (by omega)
          rwa [hL] at this
        | 1, hj, hj' => cases hj; cases hj'; exact ((hbl.below hBW').below hW).upto t (by omega)
      rintro v V ⟨g1, g2⟩
      simp only [List.flatten_cons, List.flatten_nil, List.append_nil] at g1
      exact ⟨g2, g1.lower hW.size, g1.fr⟩
    rintro v11 ⟨_, _, o11⟩
    obtain ⟨p11, c11, rfl⟩ := o11.out
    simp only [Z00, Z01, Z02, Z03, Z04, Z05, Z06, Z07, Z08, Z09, ↓Z0a, ↓Z0b, ↓Z0c, ↓Z0d, ↓Z0e, ↓Z0f, ↓Z0g, ↓Z0h, ↓Z0i, ↓Z0j, ↓Z0k, ↓Z0l, ↓Z0m, ↓Z0n, ↓Z0o, ↓Z0p, resL, res1, resK, Z0q, Z0r, Z0s, Z0t, Z0u, Z0v, Z0w, Z0x, Z0y, Z0z, Z10, Z11, Z12, Z13, Z14, ↓Z15, ↓Z16, Z17, Z18, Z19, Z1a, Z1b, Z1c, ↓Z1d, ↓Z1e, Z1f, ↓Z1g, ↓Z1h, ↓Z1i, ↓Z1j, ↓Z1k, ↓Z1l, ↓Z1m, ↓Z1n, ↓Z1o, ↓Z1q, ↓Z1u, ↓Z1v, ↓Z1w, ↓Z1z, ↓Z20, ↓Z21, Y00, Z2h, ↓Z2i, ↓Z2j, ↓Z2k, ↓Z2l, ↓Z2m, ↓Z2o, ↓Z2t, ↓Z2u, ↓Z2v, ↓Z2x, Z2y, Z2z, Z30, Z31, Z32, Z33, ev_t, ev_c, ev_g, ev_f, hv_t, hv_f, hv_n, Z34, Z35, Z36, Y01, Y02, Y03, Y04, Y05, Z3a, Y06, Y07, nth?, Y08, Y09, Y0a, Y0b, Y0c, Y0d, Y0e, putN, Z3i, repL, Y0f, Y0g, Y0h, Y0i, Y0j, Y0k, Y0l, Y0m, Y0n, Y0o, Y0p, Y0q, Y0r, Y0s, Z3r, Z3s, Z3t, depB, Fd, Fall, Dis, Dis1, Z3u, Z3v, appC, appN, mapC, mapN, List.append_eq, Z3w, Array.toArray_toList, Z3x, Z3y, List.getElem?_cons_zero, List.getElem?_cons_succ, Nat.reduceAdd, Nat.reduceSub, Nat.reduceMul, Nat.reduceEqDiff, Nat.zero_add, Nat.add_zero, Nat.mul_one, Nat.zero_mul, if_true, if_false, eq_self, true_and, and_true, reduceCtorEq, false_and, Addr.add_lit, ne_eq, not_false_eq_true, Array.empty_append, Array.append_empty, ↓Z3z, ↓Z40, ↓Z41, ↓Z42, ↓Z43, ↓Z44, ↓Z45, List.getElem?_toArray, Z46, Int.toNat_natCast, Nat.sub_zero, Int.toNat_sub, Sx.Z47, ite_self, ty_3, ty_22, ty_23, ty_24, ty_34, ty_54]
    refine ⟨rfl, ⟨rfl, by simp⟩, ⟨rfl, by simp⟩, ?_⟩
    rintro W hW ⟨f11, _, f3⟩ ⟨⟨_, hD⟩, _⟩
    have hbW : b2 < W'.heap.size := Nat.lt_of_lt_of_le hb2 hBW2'.size
    refine ⟨rfl, StA.of (bheap (hBW2'.trans (hW.mono hBW2'.size)) n2.at_) (by simp) (by simp [Value.oneCell']) ?_⟩
    intro w5 u5
    simp only [ldAgg_blk (n := 2) u5.at_ rfl, Z00, Z01, Z02, Z03, Z04, Z05, Z06, Z07, Z08, Z09, ↓Z0a, ↓Z0b, ↓Z0c, ↓Z0d, ↓Z0e, ↓Z0f, ↓Z0g, ↓Z0h, ↓Z0i, ↓Z0j, ↓Z0k, ↓Z0l, ↓Z0m, ↓Z0n, ↓Z0o, ↓Z0p, resL, res1, resK, Z0q, Z0r, Z0s, Z0t, Z0u, Z0v, Z0w, Z0x, Z0y, Z0z, Z10, Z11, Z12, Z13, Z14, ↓Z15, ↓Z16, Z17, Z18, Z19, Z1a, Z1b, Z1c, ↓Z1d, ↓Z1e, Z1f, ↓Z1g, ↓Z1h, ↓Z1i, ↓Z1j, ↓Z1k, ↓Z1l, ↓Z1m, ↓Z1n, ↓Z1o, ↓Z1q, ↓Z1u, ↓Z1v, ↓Z1w, ↓Z1z, ↓Z20, ↓Z21, Y00, Z2h, ↓Z2i, ↓Z2j, ↓Z2k, ↓Z2l, ↓Z2m, ↓Z2o, ↓Z2t, ↓Z2u, ↓Z2v, ↓Z2x, Z2y, Z2z, Z30, Z31, Z32, Z33, ev_t, ev_c, ev_g, ev_f, hv_t, hv_f, hv_n, Z34, Z35, Z36, Y01, Y02, Y03, Y04, Y05, Z3a, Y06, Y07, nth?, Y08, Y09, Y0a, Y0b, Y0c, Y0d, Y0e, putN, Z3i, repL, Y0f, Y0g, Y0h, Y0i, Y0j, Y0k, Y0l, Y0m, Y0n, Y0o, Y0p, Y0q, Y0r, Y0s, Z3r, Z3s, Z3t, depB, Fd, Fall, Dis, Dis1, Z3u, Z3v, appC, appN, mapC, mapN, List.append_eq, Z3w, Array.toArray_toList, Z3x, Z3y, List.getElem?_cons_zero, List.getElem?_cons_succ, Nat.reduceAdd, Nat.reduceSub, Nat.reduceMul, Nat.reduceEqDiff, Nat.zero_add, Nat.add_zero, Nat.mul_one, Nat.zero_mul, if_true, if_false, eq_self, true_and, and_true, reduceCtorEq, false_and, Addr.add_lit, ne_eq, not_false_eq_true, Array.empty_append, Array.append_empty, ↓Z3z, ↓Z40, ↓Z41, ↓Z42, ↓Z43, ↓Z44, ↓Z45, List.getElem?_toArray, Z46, Int.toNat_natCast, Nat.sub_zero, Int.toNat_sub, Sx.Z47, ite_self, ty_3, ty_22, ty_23, ty_24, ty_34, ty_54]
    have hl0 : ¬ l.length = 0 := by omega
    refine ⟨?_, (hBW'.trans (hW.mono hBW'.size)).trans (u5.below hb2')⟩
    rw [nStem, nLoop, if_neg hl0, if_neg hl0, hc]
    exact ⟨_, _, rfl, (f3.upd u5 hbW).lower hBW'.size, (f11.upd u5 hbW).lower hBW'.size, fun g h3 h11 => hD g h11 h3⟩
end Go.Proofs.YtdpfafgecchafaaDoor

/- Words, the small functions: Same, Places, Behind, At, pick, heavy. -/
import Derived.Test.YtdpfafgecchafaaDoorOwn
set_option linter.unusedVariables false
set_option maxRecDepth 20000
set_option linter.unusedSimpArgs false
namespace Go.Proofs.YtdpfafgecchafaaDoor
open Go Go.RowKit Sx

/-- what a program answers at a place: the stem's letter, then the loop's, over and over -/
def placesOf (s l : List Int) : Int := if l.length = 0 then 0 else (s.length : Int) + l.length
def behindOf (s l : List Int) (i : Int) : Int := if i < 0 ∨ placesOf s l ≤ i then -1 else if i = placesOf s l - 1 then s.length else i + 1
def atOf (s l : List Int) (i : Int) : Int := if i < 0 ∨ l.length = 0 then 0 else if i < s.length then nth s i.toNat else nth l ((i - s.length).toNat % l.length)

theorem sameLetters_any (w : World) (x y : List Int) (a b : Value) (ha : RdI .u16 w a x) (hb : RdI .u16 w b y) :
    CallG C.P 20 #[a, b] w (Ans w (.bool (decide (x = y)))) := by
  obtain ⟨p, c, rfl, hx1, hx2, hx3, hp⟩ := ha.out
  obtain ⟨q, d, rfl, hy1, hy2, hy3, hq⟩ := hb.out
  clear hp hq
  refine fn_ok (C := C) (args := [_, _]) 24 [.tmp 4] Tryd.func20 rfl rfl rfl rfl ?_
  simp only [Tryd.f20, Z00, Z01, Z02, Z03, Z04, Z05, Z06, Z07, Z08, Z09, ↓Z0a, ↓Z0b, ↓Z0c, ↓Z0d, ↓Z0e, ↓Z0f, ↓Z0g, ↓Z0h, ↓Z0i, ↓Z0j, ↓Z0k, ↓Z0l, ↓Z0m, ↓Z0n, ↓Z0o, ↓Z0p, resL, res1, resK, Z0q, Z0r, Z0s, Z0t, Z0u, Z0v, Z0w, Z0x, Z0y, Z0z, Z10, Z11, Z12, Z13, Z14, ↓Z15, ↓Z16, Z17, Z18, Z19, Z1a, Z1b, Z1c, ↓Z1d, ↓Z1e, Z1f, ↓Z1g, ↓Z1h, ↓Z1n, ↓Z1q, ↓Z1w, ↓Z1z, ↓Z20, ↓Z21, Y00, Z2h, ↓Z2i, ↓Z2j, ↓Z2m, ↓Z2o, ↓Z2v, ↓Z2x, Z2y, Z2z, Z30, Z31, Z32, Z33, ev_t, ev_c, ev_g, ev_f, hv_t, hv_f, hv_n, Z34, Z35, Z36, Y01, Y02, Y03, Y04, Y05, Z3a, Y06, Y07, nth?, Y08, Y09, Y0a, Y0b, Y0c, Y0d, Y0e, putN, Z3i, repL, Y0f, Y0g, Y0h, Y0i, Y0j, Y0k, Y0l, Y0m, Y0n, Y0o, Y0p, Y0q, Y0r, Y0s, Z3r, Z3s, Z3t, depB, Fd, Fall, Dis, Dis1, Z3u, Z3v, appC, appN, mapC, mapN, List.append_eq, Z3w, Array.toArray_toList, Z3x, Z3y, List.getElem?_cons_zero, List.getElem?_cons_succ, Nat.reduceAdd, Nat.reduceSub, Nat.reduceMul, Nat.reduceEqDiff, Nat.zero_add, Nat.add_zero, Nat.mul_one, Nat.zero_mul, if_true, if_false, eq_self, true_and, and_true, reduceCtorEq, false_and, Addr.add_lit, ne_eq, not_false_eq_true, Array.empty_append, Array.append_empty, ↓Z3z, ↓Z40, ↓Z41, ↓Z42, ↓Z43, ↓Z44, ↓Z45, List.getElem?_toArray, Z46, Int.toNat_natCast, Nat.sub_zero, Int.toNat_sub, Sx.Z47, ite_self, ty_3, ty_22, ty_54]
  refine Br.of (fun h => ?_) (fun h => ?_)
  · refine Ans.mk ?_ (Below.refl _ _)
    have : x ≠ y := by rintro rfl; simp at h
    simp [this]
  · have hl : x.length = y.length := by simp at h; omega
    refine loop_ok [false, false, false, false, true, true, false, false, false, false, false, true, true, true, true, true, true, true, true, true, true, true, true, true, true, true] (fun u wr => ∃ k : Nat, u 5 = .int .i64 k ∧ k ≤ x.length ∧ Below w.heap.size w wr ∧ ∀ j, j < k → nth x j = nth y j)
      (fun u wr => x.length - (intOf (u 5)).toNat) ⟨rfl, 0, rfl, Nat.zero_le _, Below.refl _ _, fun j hj => absurd hj (Nat.not_lt_zero _)⟩ ?_
    rintro u wr ⟨k, h5, hk, hB, hs⟩
    simp only [Z00, Z01, Z02, Z03, Z04, Z05, Z06, Z07, Z08, Z09, ↓Z0a, ↓Z0b, ↓Z0c, ↓Z0d, ↓Z0e, ↓Z0f, ↓Z0g, ↓Z0h, ↓Z0i, ↓Z0j, ↓Z0k, ↓Z0l, ↓Z0m, ↓Z0n, ↓Z0o, ↓Z0p, resL, res1, resK, Z0q, Z0r, Z0s, Z0t, Z0u, Z0v, Z0w, Z0x, Z0y, Z0z, Z10, Z11, Z12, Z13, Z14, ↓Z15, ↓Z16, Z17, Z18, Z19, Z1a, Z1b, Z1c, ↓Z1d, ↓Z1e, Z1f, ↓Z1g, ↓Z1h, ↓Z1n, ↓Z1q, ↓Z1w, ↓Z1z, ↓Z20, ↓Z21, Y00, Z2h, ↓Z2i, ↓Z2j, ↓Z2m, ↓Z2o, ↓Z2v, ↓Z2x, Z2y, Z2z, Z30, Z31, Z32, Z33, ev_t, ev_c, ev_g, ev_f, hv_t, hv_f, hv_n, Z34, Z35, Z36, Y01, Y02, Y03, Y04, Y05, Z3a, Y06, Y07, nth?, Y08, Y09, Y0a, Y0b, Y0c, Y0d, Y0e, putN, Z3i, repL, Y0f, Y0g, Y0h, Y0i, Y0j, Y0k, Y0l, Y0m, Y0n, Y0o, Y0p, Y0q, Y0r, Y0s, Z3r, Z3s, Z3t, depB, Fd, Fall, Dis, Dis1, Z3u, Z3v, appC, appN, mapC, mapN, List.append_eq, Z3w, Array.toArray_toList, Z3x, Z3y, List.getElem?_cons_zero, List.getElem?_cons_succ, Nat.reduceAdd, Nat.reduceSub, Nat.reduceMul, Nat.reduceEqDiff, Nat.zero_add, Nat.add_zero, Nat.mul_one, Nat.zero_mul, if_true, if_false, eq_self, true_and, and_true, reduceCtorEq, false_and, Addr.add_lit, ne_eq, not_false_eq_true, Array.empty_append, Array.append_empty, ↓Z3z, ↓Z40, ↓Z41, ↓Z42, ↓Z43, ↓Z44, ↓Z45, List.getElem?_toArray, Z46, Int.toNat_natCast, Nat.sub_zero, Int.toNat_sub, Sx.Z47, ite_self, ty_3, ty_22, ty_54, h5]
    refine Br.of (fun hlt => ?_) (fun hlt => ?_)
    · have hlt : k < x.length := by simpa using hlt
      refine draw_rd (by kernel_rfl) (by kernel_rfl) ?_
      simp only [Z00, Z01, Z02, Z03, Z04, Z05, Z06, Z07, Z08, Z09, ↓Z0a, ↓Z0b, ↓Z0c, ↓Z0d, ↓Z0e, ↓Z0f, ↓Z0g, ↓Z0h, ↓Z0i, ↓Z0j, ↓Z0k, ↓Z0l, ↓Z0m, ↓Z0n, ↓Z0o, ↓Z0p, resL, res1, resK, Z0q, Z0r, Z0s, Z0t, Z0u, Z0v, Z0w, Z0x, Z0y, Z0z, Z10, Z11, Z12, Z13, Z14, ↓Z15, ↓Z16, Z17, Z18, Z19, Z1a, Z1b, Z1c, ↓Z1d, ↓Z1e, Z1f, ↓Z1g, ↓Z1h, ↓Z1n, ↓Z1q, ↓Z1w, ↓Z1z, ↓Z20, ↓Z21, Y00, Z2h, ↓Z2i, ↓Z2j, ↓Z2m, ↓Z2o, ↓Z2v, ↓Z2x, Z2y, Z2z, Z30, Z31, Z32, Z33, ev_t, ev_c, ev_g, ev_f, hv_t, hv_f, hv_n, Z34, Z35, Z36, Y01, Y02, Y03, Y04, Y05, Z3a, Y06, Y07, nth?, Y08, Y09, Y0a, Y0b, Y0c, Y0d, Y0e, putN, Z3i, repL, Y0f, Y0g, Y0h, Y0i, Y0j, Y0k, Y0l, Y0m, Y0n, Y0o, Y0p, Y0q, Y0r, Y0s, Z3r, Z3s, Z3t, depB, Fd, Fall, Dis, Dis1, Z3u, Z3v, appC, appN, mapC, mapN, List.append_eq, Z3w, Array.toArray_toList, Z3x, Z3y, List.getElem?_cons_zero, List.getElem?_cons_succ, Nat.reduceAdd, Nat.reduceSub, Nat.reduceMul, Nat.reduceEqDiff, Nat.zero_add, Nat.add_zero, Nat.mul_one, Nat.zero_mul, if_true, if_false, eq_self, true_and, and_true, reduceCtorEq, false_and, Addr.add_lit, ne_eq, not_false_eq_true, Array.empty_append, Array.append_empty, ↓Z3z, ↓Z40, ↓Z41, ↓Z42, ↓Z43, ↓Z44, ↓Z45, List.getElem?_toArray, Z46, Int.toNat_natCast, Nat.sub_zero, Int.toNat_sub, Sx.Z47, ite_self, ty_3, ty_22, ty_54, h5]
      refine (ha.below hB).at_ (by omega) (by omega) ?_
      refine (hb.below hB).at_ (by omega) (by omega) ?_
      intro W hW _ _
      refine Br.of (fun hne => ?_) (fun heq => ?_)
      · refine Ans.mk ?_ (hB.trans (hW.mono hB.size))
        have : x ≠ y := by rintro rfl; simp at hne
        simp [this]
      · have e : nth x k = nth y k := by simpa using heq
        rw [wi (by omega) (by omega)]
        refine ⟨⟨k + 1, by simp, by omega, hB.trans (hW.mono hB.size), fun j hj => ?_⟩, by simp [intOf]; omega⟩
        rcases Nat.lt_succ_iff_lt_or_eq.1 hj with h | rfl
        · exact hs j h
        · exact e
    · have hge : x.length ≤ k := by simpa using hlt
      refine Ans.mk ?_ hB
      have : x = y := list_ext hl fun j hj => hs j (by omega)
      simp [this]
theorem refSameLetters_any (w : World) (x y : List Int) (a b : Value) (ha : RdI .u16 w a x) (hb : RdI .u16 w b y) :
    CallG C.P 85 #[a, b] w (Ans w (.bool (decide (x = y)))) := by
  obtain ⟨p, c, rfl, hx1, hx2, hx3, hp⟩ := ha.out
  obtain ⟨q, d, rfl, hy1, hy2, hy3, hq⟩ := hb.out
  clear hp hq
  refine fn_ok (C := C) (args := [_, _]) 24 [.tmp 4] Tryd.func85 rfl rfl rfl rfl ?_
  simp only [Tryd.f85, Z00, Z01, Z02, Z03, Z04, Z05, Z06, Z07, Z08, Z09, ↓Z0a, ↓Z0b, ↓Z0c, ↓Z0d, ↓Z0e, ↓Z0f, ↓Z0g, ↓Z0h, ↓Z0i, ↓Z0j, ↓Z0k, ↓Z0l, ↓Z0m, ↓Z0n, ↓Z0o, ↓Z0p, resL, res1, resK, Z0q, Z0r, Z0s, Z0t, Z0u, Z0v, Z0w, Z0x, Z0y, Z0z, Z10, Z11, Z12, Z13, Z14, ↓Z15, ↓Z16, Z17, Z18, Z19, Z1a, Z1b, Z1c, ↓Z1d, ↓Z1e, Z1f, ↓Z1g, ↓Z1h, ↓Z1n, ↓Z1q, ↓Z1w, ↓Z1z, ↓Z20, ↓Z21, Y00, Z2h, ↓Z2i, ↓Z2j, ↓Z2m, ↓Z2o, ↓Z2v, ↓Z2x, Z2y, Z2z, Z30, Z31, Z32, Z33, ev_t, ev_c, ev_g, ev_f, hv_t, hv_f, hv_n, Z34, Z35, Z36, Y01, Y02, Y03, Y04, Y05, Z3a, Y06, Y07, nth?, Y08, Y09, Y0a, Y0b, Y0c, Y0d, Y0e, putN, Z3i, repL, Y0f, Y0g, Y0h, Y0i, Y0j, Y0k, Y0l, Y0m, Y0n, Y0o, Y0p, Y0q, Y0r, Y0s, Z3r, Z3s, Z3t, depB, Fd, Fall, Dis, Dis1, Z3u, Z3v, appC, appN, mapC, mapN, List.append_eq, Z3w, Array.toArray_toList, Z3x, Z3y, List.getElem?_cons_zero, List.getElem?_cons_succ, Nat.reduceAdd, Nat.reduceSub, Nat.reduceMul, Nat.reduceEqDiff, Nat.zero_add, Nat.add_zero, Nat.mul_one, Nat.zero_mul, if_true, if_false, eq_self, true_and, and_true, reduceCtorEq, false_and, Addr.add_lit, ne_eq, not_false_eq_true, Array.empty_append, Array.append_empty, ↓Z3z, ↓Z40, ↓Z41, ↓Z42, ↓Z43, ↓Z44, ↓Z45, List.getElem?_toArray, Z46, Int.toNat_natCast, Nat.sub_zero, Int.toNat_sub, Sx.Z47, ite_self, ty_3, ty_22, ty_54]
  refine Br.of (fun h => ?_) (fun h => ?_)
  · refine Ans.mk ?_ (Below.refl _ _)
    have : x ≠ y := by rintro rfl; simp at h
    simp [this]
  · have hl : x.length = y.length := by simp at h; omega
    refine loop_ok [false, false, false, false, true, true, false, false, false, false, false, true, true, true, true, true, true, true, true, true, true, true, true, true, true, true] (fun u wr => ∃ k : Nat, u 5 = .int .i64 k ∧ k ≤ x.length ∧ Below w.heap.size w wr ∧ ∀ j, j < k → nth x j = nth y j)
      (fun u wr => x.length - (intOf (u 5)).toNat) ⟨rfl, 0, rfl, Nat.zero_le _, Below.refl _ _, fun j hj => absurd hj (Nat.not_lt_zero _)⟩ ?_
    rintro u wr ⟨k, h5, hk, hB, hs⟩
    simp only [Z00, Z01, Z02, Z03, Z04, Z05, Z06, Z07, Z08, Z09, ↓Z0a, ↓Z0b, ↓Z0c, ↓Z0d, ↓Z0e, ↓Z0f, ↓Z0g, ↓Z0h, ↓Z0i, ↓Z0j, ↓Z0k, ↓Z0l, ↓Z0m, ↓Z0n, ↓Z0o, ↓Z0p, resL, res1, resK, Z0q, Z0r, Z0s, Z0t, Z0u, Z0v, Z0w, Z0x, Z0y, Z0z, Z10, Z11, Z12, Z13, Z14, ↓Z15, ↓Z16, Z17, Z18, Z19, Z1a, Z1b, Z1c, ↓Z1d, ↓Z1e, Z1f, ↓Z1g, ↓Z1h, ↓Z1n, ↓Z1q, ↓Z1w, ↓Z1z, ↓Z20, ↓Z21, Y00, Z2h, ↓Z2i, ↓Z2j, ↓Z2m, ↓Z2o, ↓Z2v, ↓Z2x, Z2y, Z2z, Z30, Z31, Z32, Z33, ev_t, ev_c, ev_g, ev_f, hv_t, hv_f, hv_n, Z34, Z35, Z36, Y01, Y02, Y03, Y04, Y05, Z3a, Y06, Y07, nth?, Y08, Y09, Y0a, Y0b, Y0c, Y0d, Y0e, putN, Z3i, repL, Y0f, Y0g, Y0h, Y0i, Y0j, Y0k, Y0l, Y0m, Y0n, Y0o, Y0p, Y0q, Y0r, Y0s, Z3r, Z3s, Z3t, depB, Fd, Fall, Dis, Dis1, Z3u, Z3v, appC, appN, mapC, mapN, List.append_eq, Z3w, Array.toArray_toList, Z3x, Z3y, List.getElem?_cons_zero, List.getElem?_cons_succ, Nat.reduceAdd, Nat.reduceSub, Nat.reduceMul, Nat.reduceEqDiff, Nat.zero_add, Nat.add_zero, Nat.mul_one, Nat.zero_mul, if_true, if_false, eq_self, true_and, and_true, reduceCtorEq, false_and, Addr.add_lit, ne_eq, not_false_eq_true, Array.empty_append, Array.append_empty, ↓Z3z, ↓Z40, ↓Z41, ↓Z42, ↓Z43, ↓Z44, ↓Z45, List.getElem?_toArray, Z46, Int.toNat_natCast, Nat.sub_zero, Int.toNat_sub, Sx.Z47, ite_self, ty_3, ty_22, ty_54, h5]
    refine Br.of (fun hlt => ?_) (fun hlt => ?_)
    · have hlt : k < x.length := by simpa using hlt
      refine draw_rd (by kernel_rfl) (by kernel_rfl) ?_
      simp only [Z00, Z01, Z02, Z03, Z04, Z05, Z06, Z07, Z08, Z09, ↓Z0a, ↓Z0b, ↓Z0c, ↓Z0d, ↓Z0e, ↓Z0f, ↓Z0g, ↓Z0h, ↓Z0i, ↓Z0j, ↓Z0k, ↓Z0l, ↓Z0m, ↓Z0n, ↓Z0o, ↓Z0p, resL, res1, resK, Z0q, Z0r, Z0s, Z0t, Z0u, Z0v, Z0w, Z0x, Z0y, Z0z, Z10, Z11, Z12, Z13, Z14, ↓Z15, ↓Z16, Z17, Z18, Z19, Z1a, Z1b, Z1c, ↓Z1d, ↓Z1e, Z1f, ↓Z1g, ↓Z1h, ↓Z1n, ↓Z1q, ↓Z1w, ↓Z1z, ↓Z20, ↓Z21, Y00, Z2h, ↓Z2i, ↓Z2j, ↓Z2m, ↓Z2o, ↓Z2v, ↓Z2x, Z2y, Z2z, Z30, Z31, Z32, Z33, ev_t, ev_c, ev_g, ev_f, hv_t, hv_f, hv_n, Z34, Z35, Z36, Y01, Y02, Y03, Y04, Y05, Z3a, Y06, Y07, nth?, Y08, Y09, Y0a, Y0b, Y0c, Y0d, Y0e, putN, Z3i, repL, Y0f, Y0g, Y0h, Y0i, Y0j, Y0k, Y0l, Y0m, Y0n, Y0o, Y0p, Y0q, Y0r, Y0s, Z3r, Z3s, Z3t, depB, Fd, Fall, Dis, Dis1, Z3u, Z3v, appC, appN, mapC, mapN, List.append_eq, Z3w, Array.toArray_toList, Z3x, Z3y, List.getElem?_cons_zero, List.getElem?_cons_succ, Nat.reduceAdd, Nat.reduceSub, Nat.reduceMul, Nat.reduceEqDiff, Nat.zero_add, Nat.add_zero, Nat.mul_one, Nat.zero_mul, if_true, if_false, eq_self, true_and, and_true, reduceCtorEq, false_and, Addr.add_lit, ne_eq, not_false_eq_true, Array.empty_append, Array.append_empty, ↓Z3z, ↓Z40, ↓Z41, ↓Z42, ↓Z43, ↓Z44, ↓Z45, List.getElem?_toArray, Z46, Int.toNat_natCast, Nat.sub_zero, Int.toNat_sub, Sx.Z47, ite_self, ty_3, ty_22, ty_54, h5]
      refine (ha.below hB).at_ (by omega) (by omega) ?_
      refine (hb.below hB).at_ (by omega) (by omega) ?_
      intro W hW _ _
      refine Br.of (fun hne => ?_) (fun heq => ?_)
      · refine Ans.mk ?_ (hB.trans (hW.mono hB.size))
        have : x ≠ y := by rintro rfl; simp at hne
        simp [this]
      · have e : nth x k = nth y k := by simpa using heq
        rw [wi (by omega) (by omega)]
        refine ⟨⟨k + 1, by simp, by omega, hB.trans (hW.mono hB.size), fun j hj => ?_⟩, by simp [intOf]; omega⟩
        rcases Nat.lt_succ_iff_lt_or_eq.1 hj with h | rfl
        · exact hs j h
        · exact e
    · have hge : x.length ≤ k := by simpa using hlt
      refine Ans.mk ?_ hB
      have : x = y := list_ext hl fun j hj => hs j (by omega)
      simp [this]
theorem equal_any (w : World) (x y : List Int) (a b : Value) (ha : RdI .u16 w a x) (hb : RdI .u16 w b y) :
    CallG C.P 73 #[a, b] w (Ans w (.bool (decide (x = y)))) := by
  obtain ⟨p, c, rfl, hx1, hx2, hx3, hp⟩ := ha.out
  obtain ⟨q, d, rfl, hy1, hy2, hy3, hq⟩ := hb.out
  clear hp hq
  refine fn_ok (C := C) (args := [_, _]) 24 [.tmp 4] Tryd.func73 rfl rfl rfl rfl ?_
  simp only [Tryd.f73, Z00, Z01, Z02, Z03, Z04, Z05, Z06, Z07, Z08, Z09, ↓Z0a, ↓Z0b, ↓Z0c, ↓Z0d, ↓Z0e, ↓Z0f, ↓Z0g, ↓Z0h, ↓Z0i, ↓Z0j, ↓Z0k, ↓Z0l, ↓Z0m, ↓Z0n, ↓Z0o, ↓Z0p, resL, res1, resK, Z0q, Z0r, Z0s, Z0t, Z0u, Z0v, Z0w, Z0x, Z0y, Z0z, Z10, Z11, Z12, Z13, Z14, ↓Z15, ↓Z16, Z17, Z18, Z19, Z1a, Z1b, Z1c, ↓Z1d, ↓Z1e, Z1f, ↓Z1g, ↓Z1h, ↓Z1n, ↓Z1q, ↓Z1w, ↓Z1z, ↓Z20, ↓Z21, Y00, Z2h, ↓Z2i, ↓Z2j, ↓Z2m, ↓Z2o, ↓Z2v, ↓Z2x, Z2y, Z2z, Z30, Z31, Z32, Z33, ev_t, ev_c, ev_g, ev_f, hv_t, hv_f, hv_n, Z34, Z35, Z36, Y01, Y02, Y03, Y04, Y05, Z3a, Y06, Y07, nth?, Y08, Y09, Y0a, Y0b, Y0c, Y0d, Y0e, putN, Z3i, repL, Y0f, Y0g, Y0h, Y0i, Y0j, Y0k, Y0l, Y0m, Y0n, Y0o, Y0p, Y0q, Y0r, Y0s, Z3r, Z3s, Z3t, depB, Fd, Fall, Dis, Dis1, Z3u, Z3v, appC, appN, mapC, mapN, List.append_eq, Z3w, Array.toArray_toList, Z3x, Z3y, List.getElem?_cons_zero, List.getElem?_cons_succ, Nat.reduceAdd, Nat.reduceSub, Nat.reduceMul, Nat.reduceEqDiff, Nat.zero_add, Nat.add_zero, Nat.mul_one, Nat.zero_mul, if_true, if_false, eq_self, true_and, and_true, reduceCtorEq, false_and, Addr.add_lit, ne_eq, not_false_eq_true, Array.empty_append, Array.append_empty, ↓Z3z, ↓Z40, ↓Z41, ↓Z42, ↓Z43, ↓Z44, ↓Z45, List.getElem?_toArray, Z46, Int.toNat_natCast, Nat.sub_zero, Int.toNat_sub, Sx.Z47, ite_self, ty_3, ty_22, ty_54]
  refine Br.of (fun h => ?_) (fun h => ?_)
  · refine Ans.mk ?_ (Below.refl _ _)
    have : x ≠ y := by rintro rfl; simp at h
    simp [this]
  · have hl : x.length = y.length := by simp at h; omega
    refine loop_ok [false, false, false, false, true, true, false, false, false, false, false, false, false, true, true, true, true, true, true, true, true, true, true, true, true, true] (fun u wr => ∃ k : Nat, u 13 = .int .i64 k ∧ k ≤ x.length ∧ Below w.heap.size w wr ∧ ∀ j, j < k → nth x j = nth y j)
      (fun u wr => x.length - (intOf (u 13)).toNat) ⟨rfl, 0, rfl, Nat.zero_le _, Below.refl _ _, fun j hj => absurd hj (Nat.not_lt_zero _)⟩ ?_
    rintro u wr ⟨k, h13, hk, hB, hs⟩
    simp only [Z00, Z01, Z02, Z03, Z04, Z05, Z06, Z07, Z08, Z09, ↓Z0a, ↓Z0b, ↓Z0c, ↓Z0d, ↓Z0e, ↓Z0f, ↓Z0g, ↓Z0h, ↓Z0i, ↓Z0j, ↓Z0k, ↓Z0l, ↓Z0m, ↓Z0n, ↓Z0o, ↓Z0p, resL, res1, resK, Z0q, Z0r, Z0s, Z0t, Z0u, Z0v, Z0w, Z0x, Z0y, Z0z, Z10, Z11, Z12, Z13, Z14, ↓Z15, ↓Z16, Z17, Z18, Z19, Z1a, Z1b, Z1c, ↓Z1d, ↓Z1e, Z1f, ↓Z1g, ↓Z1h, ↓Z1n, ↓Z1q, ↓Z1w, ↓Z1z, ↓Z20, ↓Z21, Y00, Z2h, ↓Z2i, ↓Z2j, ↓Z2m, ↓Z2o, ↓Z2v, ↓Z2x, Z2y, Z2z, Z30, Z31, Z32, Z33, ev_t, ev_c, ev_g, ev_f, hv_t, hv_f, hv_n, Z34, Z35, Z36, Y01, Y02, Y03, Y04, Y05, Z3a, Y06, Y07, nth?, Y08, Y09, Y0a, Y0b, Y0c, Y0d, Y0e, putN, Z3i, repL, Y0f, Y0g, Y0h, Y0i, Y0j, Y0k, Y0l, Y0m, Y0n, Y0o, Y0p, Y0q, Y0r, Y0s, Z3r, Z3s, Z3t, depB, Fd, Fall, Dis, Dis1, Z3u, Z3v, appC, appN, mapC, mapN, List.append_eq, Z3w, Array.toArray_toList, Z3x, Z3y, List.getElem?_cons_zero, List.getElem?_cons_succ, Nat.reduceAdd, Nat.reduceSub, Nat.reduceMul, Nat.reduceEqDiff, Nat.zero_add, Nat.add_zero, Nat.mul_one, Nat.zero_mul, if_true, if_false, eq_self, true_and, and_true, reduceCtorEq, false_and, Addr.add_lit, ne_eq, not_false_eq_true, Array.empty_append, Array.append_empty, ↓Z3z, ↓Z40, ↓Z41, ↓Z42, ↓Z43, ↓Z44, ↓Z45, List.getElem?_toArray, Z46, Int.toNat_natCast, Nat.sub_zero, Int.toNat_sub, Sx.Z47, ite_self, ty_3, ty_22, ty_54, h13]
    refine Br.of (fun hlt => ?_) (fun hlt => ?_)
    · have hlt : k < x.length := by simpa using hlt
      refine draw_rd (by kernel_rfl) (by kernel_rfl) ?_
      simp only [Z00, Z01, Z02, Z03, Z04, Z05, Z06, Z07, Z08, Z09, ↓Z0a, ↓Z0b, ↓Z0c, ↓Z0d, ↓Z0e, ↓Z0f, ↓Z0g, ↓Z0h, ↓Z0i, ↓Z0j, ↓Z0k, ↓Z0l, ↓Z0m, ↓Z0n, ↓Z0o, ↓Z0p, resL, res1, resK, Z0q, Z0r, Z0s, Z0t, Z0u, Z0v, Z0w, Z0x, Z0y, Z0z, Z10, Z11, Z12, Z13, Z14, ↓Z15, ↓Z16, Z17, Z18, Z19, Z1a, Z1b, Z1c, ↓Z1d, ↓Z1e, Z1f, ↓Z1g, ↓Z1h, ↓Z1n, ↓Z1q, ↓Z1w, ↓Z1z, ↓Z20, ↓Z21, Y00, Z2h, ↓Z2i, ↓Z2j, ↓Z2m, ↓Z2o, ↓Z2v, ↓Z2x, Z2y, Z2z, Z30, Z31, Z32, Z33, ev_t, ev_c, ev_g, ev_f, hv_t, hv_f, hv_n, Z34, Z35, Z36, Y01, Y02, Y03, Y04, Y05, Z3a, Y06, Y07, nth?, Y08, Y09, Y0a, Y0b, Y0c, Y0d, Y0e, putN, Z3i, repL, Y0f, Y0g, Y0h, Y0i, Y0j, Y0k, Y0l, Y0m, Y0n, Y0o, Y0p, Y0q, Y0r, Y0s, Z3r, Z3s, Z3t, depB, Fd, Fall, Dis, Dis1, Z3u, Z3v, appC, appN, mapC, mapN, List.append_eq, Z3w, Array.toArray_toList, Z3x, Z3y, List.getElem?_cons_zero, List.getElem?_cons_succ, Nat.reduceAdd, Nat.reduceSub, Nat.reduceMul, Nat.reduceEqDiff, Nat.zero_add, Nat.add_zero, Nat.mul_one, Nat.zero_mul, if_true, if_false, eq_self, true_and, and_true, reduceCtorEq, false_and, Addr.add_lit, ne_eq, not_false_eq_true, Array.empty_append, Array.append_empty, ↓Z3z, ↓Z40, ↓Z41, ↓Z42, ↓Z43, ↓Z44, ↓Z45, List.getElem?_toArray, Z46, Int.toNat_natCast, Nat.sub_zero, Int.toNat_sub, Sx.Z47, ite_self, ty_3, ty_22, ty_54, h13]
      refine (ha.below hB).at_ (by omega) (by omega) ?_
      refine (hb.below hB).at_ (by omega) (by omega) ?_
      intro W hW _ _
      refine Br.of (fun hne => ?_) (fun heq => ?_)
      · refine Ans.mk ?_ (hB.trans (hW.mono hB.size))
        have : x ≠ y := by rintro rfl; simp at hne
        simp [this]
      · have e : nth x k = nth y k := by simpa using heq
        rw [wi (by omega) (by omega)]
        refine ⟨⟨k + 1, by simp, by omega, hB.trans (hW.mono hB.size), fun j hj => ?_⟩, by simp [intOf]; omega⟩
        rcases Nat.lt_succ_iff_lt_or_eq.1 hj with h | rfl
        · exact hs j h
        · exact e
    · have hge : x.length ≤ k := by simpa using hlt
      refine Ans.mk ?_ hB
      have : x = y := list_ext hl fun j hj => hs j (by omega)
      simp [this]

theorem places_any (w : World) (s l : List Int) (v : Value) (hv : RdW w v s l) :
    CallG C.P 24 #[v] w (Ans w (.int .i64 (placesOf s l))) := by
  obtain ⟨a, b, rfl, ha, hb⟩ := hv
  obtain ⟨p, c, rfl, hx1, hx2, hx3, hp⟩ := ha.out
  obtain ⟨q, d, rfl, hy1, hy2, hy3, hq⟩ := hb.out
  clear hp hq
  refine fn_ok (C := C) (args := [_]) 13 [.tmp 2] Tryd.func24 rfl rfl rfl rfl ?_
  simp only [Tryd.f24, Z00, Z01, Z02, Z03, Z04, Z05, Z06, Z07, Z08, Z09, ↓Z0a, ↓Z0b, ↓Z0c, ↓Z0d, ↓Z0e, ↓Z0f, ↓Z0g, ↓Z0h, ↓Z0i, ↓Z0j, ↓Z0k, ↓Z0l, ↓Z0m, ↓Z0n, ↓Z0o, ↓Z0p, resL, res1, resK, Z0q, Z0r, Z0s, Z0t, Z0u, Z0v, Z0w, Z0x, Z0y, Z0z, Z10, Z11, Z12, Z13, Z14, ↓Z15, ↓Z16, Z17, Z18, Z19, Z1a, Z1b, Z1c, ↓Z1d, ↓Z1e, Z1f, ↓Z1h, ↓Z1k, ↓Z1n, ↓Z1q, ↓Z1v, ↓Z1z, ↓Z20, ↓Z21, Y00, Z2h, ↓Z2j, ↓Z2m, ↓Z2o, ↓Z2u, ↓Z2x, Z2y, Z2z, Z30, Z31, Z32, Z33, ev_t, ev_c, ev_g, ev_f, hv_t, hv_f, hv_n, Z34, Z35, Z36, Y01, Y02, Y03, Y04, Y05, Z3a, Y06, Y07, nth?, Y08, Y09, Y0a, Y0b, Y0c, Y0d, Y0e, putN, Z3i, repL, Y0f, Y0g, Y0h, Y0i, Y0j, Y0k, Y0l, Y0m, Y0n, Y0o, Y0p, Y0q, Y0r, Y0s, Z3r, Z3s, Z3t, depB, Fd, Fall, Dis, Dis1, Z3u, Z3v, appC, appN, mapC, mapN, List.append_eq, Z3w, Array.toArray_toList, Z3x, Z3y, List.getElem?_cons_zero, List.getElem?_cons_succ, Nat.reduceAdd, Nat.reduceSub, Nat.reduceMul, Nat.reduceEqDiff, Nat.zero_add, Nat.add_zero, Nat.mul_one, Nat.zero_mul, if_true, if_false, eq_self, true_and, and_true, reduceCtorEq, false_and, Addr.add_lit, ne_eq, not_false_eq_true, Array.empty_append, Array.append_empty, ↓Z3z, ↓Z40, ↓Z41, ↓Z42, ↓Z43, ↓Z44, ↓Z45, List.getElem?_toArray, Z46, Int.toNat_natCast, Nat.sub_zero, Int.toNat_sub, Sx.Z47, ite_self, ty_3, ty_22, ty_23, ty_24, ty_54]
  intro b w1 n1
  simp only [ldSl_blk n1.at_, Z00, Z01, Z02, Z03, Z04, Z05, Z06, Z07, Z08, Z09, ↓Z0a, ↓Z0b, ↓Z0c, ↓Z0d, ↓Z0e, ↓Z0f, ↓Z0g, ↓Z0h, ↓Z0i, ↓Z0j, ↓Z0k, ↓Z0l, ↓Z0m, ↓Z0n, ↓Z0o, ↓Z0p, resL, res1, resK, Z0q, Z0r, Z0s, Z0t, Z0u, Z0v, Z0w, Z0x, Z0y, Z0z, Z10, Z11, Z12, Z13, Z14, ↓Z15, ↓Z16, Z17, Z18, Z19, Z1a, Z1b, Z1c, ↓Z1d, ↓Z1e, Z1f, ↓Z1h, ↓Z1k, ↓Z1n, ↓Z1q, ↓Z1v, ↓Z1z, ↓Z20, ↓Z21, Y00, Z2h, ↓Z2j, ↓Z2m, ↓Z2o, ↓Z2u, ↓Z2x, Z2y, Z2z, Z30, Z31, Z32, Z33, ev_t, ev_c, ev_g, ev_f, hv_t, hv_f, hv_n, Z34, Z35, Z36, Y01, Y02, Y03, Y04, Y05, Z3a, Y06, Y07, nth?, Y08, Y09, Y0a, Y0b, Y0c, Y0d, Y0e, putN, Z3i, repL, Y0f, Y0g, Y0h, Y0i, Y0j, Y0k, Y0l, Y0m, Y0n, Y0o, Y0p, Y0q, Y0r, Y0s, Z3r, Z3s, Z3t, depB, Fd, Fall, Dis, Dis1, Z3u, Z3v, appC, appN, mapC, mapN, List.append_eq, Z3w, Array.toArray_toList, Z3x, Z3y, List.getElem?_cons_zero, List.getElem?_cons_succ, Nat.reduceAdd, Nat.reduceSub, Nat.reduceMul, Nat.reduceEqDiff, Nat.zero_add, Nat.add_zero, Nat.mul_one, Nat.zero_mul, if_true, if_false, eq_self, true_and, and_true, reduceCtorEq, false_and, Addr.add_lit, ne_eq, not_false_eq_true, Array.empty_append, Array.append_empty, ↓Z3z, ↓Z40, ↓Z41, ↓Z42, ↓Z43, ↓Z44, ↓Z45, List.getElem?_toArray, Z46, Int.toNat_natCast, Nat.sub_zero, Int.toNat_sub, Sx.Z47, ite_self, ty_3, ty_22, ty_23, ty_24, ty_54]
  refine BrE (fun h => ?_) (fun h => ?_)
  · have h0 : l.length = 0 := by omega
    exact Ans.mk (by rw [placesOf, if_pos h0]) n1.ext
  · have h0 : l.length ≠ 0 := by omega
    rw [wi (by omega) (by omega)]
    exact Ans.mk (by rw [placesOf, if_neg h0]) n1.ext

theorem refPlaces_any (w : World) (s l : List Int) (v : Value) (hv : RdW w v s l) :
    CallG C.P 25 #[v] w (Ans w (.int .i64 (placesOf s l))) := by
  obtain ⟨a, b, rfl, ha, hb⟩ := hv
  obtain ⟨p, c, rfl, hx1, hx2, hx3, hp⟩ := ha.out
  obtain ⟨q, d, rfl, hy1, hy2, hy3, hq⟩ := hb.out
  clear hp hq
  refine fn_ok (C := C) (args := [_]) 13 [.tmp 2] Tryd.func25 rfl rfl rfl rfl ?_
  simp only [Tryd.f25, Z00, Z01, Z02, Z03, Z04, Z05, Z06, Z07, Z08, Z09, ↓Z0a, ↓Z0b, ↓Z0c, ↓Z0d, ↓Z0e, ↓Z0f, ↓Z0g, ↓Z0h, ↓Z0i, ↓Z0j, ↓Z0k, ↓Z0l, ↓Z0m, ↓Z0n, ↓Z0o, ↓Z0p, resL, res1, resK, Z0q, Z0r, Z0s, Z0t, Z0u, Z0v, Z0w, Z0x, Z0y, Z0z, Z10, Z11, Z12, Z13, Z14, ↓Z15, ↓Z16, Z17, Z18, Z19, Z1a, Z1b, Z1c, ↓Z1d, ↓Z1e, Z1f, ↓Z1h, ↓Z1k, ↓Z1n, ↓Z1q, ↓Z1v, ↓Z1z, ↓Z20, ↓Z21, Y00, Z2h, ↓Z2j, ↓Z2m, ↓Z2o, ↓Z2u, ↓Z2x, Z2y, Z2z, Z30, Z31, Z32, Z33, ev_t, ev_c, ev_g, ev_f, hv_t, hv_f, hv_n, Z34, Z35, Z36, Y01, Y02, Y03, Y04, Y05, Z3a, Y06, Y07, nth?, Y08, Y09, Y0a, Y0b, Y0c, Y0d, Y0e, putN, Z3i, repL, Y0f, Y0g, Y0h, Y0i, Y0j, Y0k, Y0l, Y0m, Y0n, Y0o, Y0p, Y0q, Y0r, Y0s, Z3r, Z3s, Z3t, depB, Fd, Fall, Dis, Dis1, Z3u, Z3v, appC, appN, mapC, mapN, List.append_eq, Z3w, Array.toArray_toList, Z3x, Z3y, List.getElem?_cons_zero, List.getElem?_cons_succ, Nat.reduceAdd, Nat.reduceSub, Nat.reduceMul, Nat.reduceEqDiff, Nat.zero_add, Nat.add_zero, Nat.mul_one, Nat.zero_mul, if_true, if_false, eq_self, true_and, and_true, reduceCtorEq, false_and, Addr.add_lit, ne_eq, not_false_eq_true, Array.empty_append, Array.append_empty, ↓Z3z, ↓Z40, ↓Z41, ↓Z42, ↓Z43, ↓Z44, ↓Z45, List.getElem?_toArray, Z46, Int.toNat_natCast, Nat.sub_zero, Int.toNat_sub, Sx.Z47, ite_self, ty_3, ty_22, ty_23, ty_24, ty_54]
  intro b w1 n1
  simp only [ldSl_blk n1.at_, Z00, Z01, Z02, Z03, Z04, Z05, Z06, Z07, Z08, Z09, ↓Z0a, ↓Z0b, ↓Z0c, ↓Z0d, ↓Z0e, ↓Z0f, ↓Z0g, ↓Z0h, ↓Z0i, ↓Z0j, ↓Z0k, ↓Z0l, ↓Z0m, ↓Z0n, ↓Z0o, ↓Z0p, resL, res1, resK, Z0q, Z0r, Z0s, Z0t, Z0u, Z0v, Z0w, Z0x, Z0y, Z0z, Z10, Z11, Z12, Z13, Z14, ↓Z15, ↓Z16, Z17, Z18, Z19, Z1a, Z1b, Z1c, ↓Z1d, ↓Z1e, Z1f, ↓Z1h, ↓Z1k, ↓Z1n, ↓Z1q, ↓Z1v, ↓Z1z, ↓Z20, ↓Z21, Y00, Z2h, ↓Z2j, ↓Z2m, ↓Z2o, ↓Z2u, ↓Z2x, Z2y, Z2z, Z30, Z31, Z32, Z33, ev_t, ev_c, ev_g, ev_f, hv_t, hv_f, hv_n, Z34, Z35, Z36, Y01, Y02, Y03, Y04, Y05, Z3a, Y06, Y07, nth?, Y08, Y09, Y0a, Y0b, Y0c, Y0d, Y0e, putN, Z3i, repL, Y0f, Y0g, Y0h, Y0i, Y0j, Y0k, Y0l, Y0m, Y0n, Y0o, Y0p, Y0q, Y0r, Y0s, Z3r, Z3s, Z3t, depB, Fd, Fall, Dis, Dis1, Z3u, Z3v, appC, appN, mapC, mapN, List.append_eq, Z3w, Array.toArray_toList, Z3x, Z3y, List.getElem?_cons_zero, List.getElem?_cons_succ, Nat.reduceAdd, Nat.reduceSub, Nat.reduceMul, Nat.reduceEqDiff, Nat.zero_add, Nat.add_zero, Nat.mul_one, Nat.zero_mul, if_true, if_false, eq_self, true_and, and_true, reduceCtorEq, false_and, Addr.add_lit, ne_eq, not_false_eq_true, Array.empty_append, Array.append_empty, ↓Z3z, ↓Z40, ↓Z41, ↓Z42, ↓Z43, ↓Z44, ↓Z45, List.getElem?_toArray, Z46, Int.toNat_natCast, Nat.sub_zero, Int.toNat_sub, Sx.Z47, ite_self, ty_3, ty_22, ty_23, ty_24, ty_54]
  refine BrE (fun h => ?_) (fun h => ?_)
  · have h0 : l.length = 0 := by omega
    exact Ans.mk (by rw [placesOf, if_pos h0]) n1.ext
  · have h0 : l.length ≠ 0 := by omega
    rw [wi (by omega) (by omega)]
    exact Ans.mk (by rw [placesOf, if_neg h0]) n1.ext

theorem behind_any (w : World) (s l : List Int) (v : Value) (hv : RdW w v s l) (i : Int) :
    CallG C.P 26 #[v, .int .i64 i] w (Ans w (.int .i64 (behindOf s l i))) := by
  have hv0 := hv
  obtain ⟨a, b, rfl, ha, hb⟩ := hv
  obtain ⟨p, c, rfl, hx1, hx2, hx3, hp⟩ := ha.out
  obtain ⟨q, d, rfl, hy1, hy2, hy3, hq⟩ := hb.out
  clear hp hq
  refine fn_ok (C := C) (args := [_, _]) 24 [.tmp 4] Tryd.func26 rfl rfl rfl rfl ?_
  simp only [Tryd.f26, Z00, Z01, Z02, Z03, Z04, Z05, Z06, Z07, Z08, Z09, ↓Z0a, ↓Z0b, ↓Z0c, ↓Z0d, ↓Z0e, ↓Z0f, ↓Z0g, ↓Z0h, ↓Z0i, ↓Z0j, ↓Z0k, ↓Z0l, ↓Z0m, ↓Z0n, ↓Z0o, ↓Z0p, resL, res1, resK, Z0q, Z0r, Z0s, Z0t, Z0u, Z0v, Z0w, Z0x, Z0y, Z0z, Z10, Z11, Z12, Z13, Z14, ↓Z15, ↓Z16, Z17, Z18, Z19, Z1a, Z1b, Z1c, ↓Z1d, ↓Z1e, Z1f, ↓Z1g, ↓Z1h, ↓Z1i, ↓Z1k, ↓Z1n, ↓Z1q, ↓Z1v, ↓Z1z, ↓Z20, ↓Z21, Y00, Z2h, ↓Z2i, ↓Z2j, ↓Z2k, ↓Z2m, ↓Z2o, ↓Z2u, ↓Z2x, Z2y, Z2z, Z30, Z31, Z32, Z33, ev_t, ev_c, ev_g, ev_f, hv_t, hv_f, hv_n, Z34, Z35, Z36, Y01, Y02, Y03, Y04, Y05, Z3a, Y06, Y07, nth?, Y08, Y09, Y0a, Y0b, Y0c, Y0d, Y0e, putN, Z3i, repL, Y0f, Y0g, Y0h, Y0i, Y0j, Y0k, Y0l, Y0m, Y0n, Y0o, Y0p, Y0q, Y0r, Y0s, Z3r, Z3s, Z3t, depB, Fd, Fall, Dis, Dis1, Z3u, Z3v, appC, appN, mapC, mapN, List.append_eq, Z3w, Array.toArray_toList, Z3x, Z3y, List.getElem?_cons_zero, List.getElem?_cons_succ, Nat.reduceAdd, Nat.reduceSub, Nat.reduceMul, Nat.reduceEqDiff, Nat.zero_add, Nat.add_zero, Nat.mul_one, Nat.zero_mul, if_true, if_false, eq_self, true_and, and_true, reduceCtorEq, false_and, Addr.add_lit, ne_eq, not_false_eq_true, Array.empty_append, Array.append_empty, ↓Z3z, ↓Z40, ↓Z41, ↓Z42, ↓Z43, ↓Z44, ↓Z45, List.getElem?_toArray, Z46, Int.toNat_natCast, Nat.sub_zero, Int.toNat_sub, Sx.Z47, ite_self, ty_3, ty_22, ty_23, ty_24, ty_54]
  intro b w1 n1
  simp only [ldAgg_blk (n := 2) n1.at_ rfl, Z00, Z01, Z02, Z03, Z04, Z05, Z06, Z07, Z08, Z09, ↓Z0a, ↓Z0b, ↓Z0c, ↓Z0d, ↓Z0e, ↓Z0f, ↓Z0g, ↓Z0h, ↓Z0i, ↓Z0j, ↓Z0k, ↓Z0l, ↓Z0m, ↓Z0n, ↓Z0o, ↓Z0p, resL, res1, resK, Z0q, Z0r, Z0s, Z0t, Z0u, Z0v, Z0w, Z0x, Z0y, Z0z, Z10, Z11, Z12, Z13, Z14, ↓Z15, ↓Z16, Z17, Z18, Z19, Z1a, Z1b, Z1c, ↓Z1d, ↓Z1e, Z1f, ↓Z1g, ↓Z1h, ↓Z1i, ↓Z1k, ↓Z1n, ↓Z1q, ↓Z1v, ↓Z1z, ↓Z20, ↓Z21, Y00, Z2h, ↓Z2i, ↓Z2j, ↓Z2k, ↓Z2m, ↓Z2o, ↓Z2u, ↓Z2x, Z2y, Z2z, Z30, Z31, Z32, Z33, ev_t, ev_c, ev_g, ev_f, hv_t, hv_f, hv_n, Z34, Z35, Z36, Y01, Y02, Y03, Y04, Y05, Z3a, Y06, Y07, nth?, Y08, Y09, Y0a, Y0b, Y0c, Y0d, Y0e, putN, Z3i, repL, Y0f, Y0g, Y0h, Y0i, Y0j, Y0k, Y0l, Y0m, Y0n, Y0o, Y0p, Y0q, Y0r, Y0s, Z3r, Z3s, Z3t, depB, Fd, Fall, Dis, Dis1, Z3u, Z3v, appC, appN, mapC, mapN, List.append_eq, Z3w, Array.toArray_toList, Z3x, Z3y, List.getElem?_cons_zero, List.getElem?_cons_succ, Nat.reduceAdd, Nat.reduceSub, Nat.reduceMul, Nat.reduceEqDiff, Nat.zero_add, Nat.add_zero, Nat.mul_one, Nat.zero_mul, if_true, if_false, eq_self, true_and, and_true, reduceCtorEq, false_and, Addr.add_lit, ne_eq, not_false_eq_true, Array.empty_append, Array.append_empty, ↓Z3z, ↓Z40, ↓Z41, ↓Z42, ↓Z43, ↓Z44, ↓Z45, List.getElem?_toArray, Z46, Int.toNat_natCast, Nat.sub_zero, Int.toNat_sub, Sx.Z47, ite_self, ty_3, ty_22, ty_23, ty_24, ty_54]
  refine (places_any w1 s l _ (hv0.below n1.ext)).mono ?_
  rintro v w2 ⟨rfl, h2⟩
  have hB := n1.ext.trans (h2.mono n1.ext.size)
  have hpl : 0 ≤ placesOf s l ∧ placesOf s l ≤ 281474976710656 := by unfold placesOf; split <;> omega
  simp only [ldSl_blk (bheap h2 n1.at_), wi (n := placesOf s l - 1) (by omega) (by omega), Z00, Z01, Z02, Z03, Z04, Z05, Z06, Z07, Z08, Z09, ↓Z0a, ↓Z0b, ↓Z0c, ↓Z0d, ↓Z0e, ↓Z0f, ↓Z0g, ↓Z0h, ↓Z0i, ↓Z0j, ↓Z0k, ↓Z0l, ↓Z0m, ↓Z0n, ↓Z0o, ↓Z0p, resL, res1, resK, Z0q, Z0r, Z0s, Z0t, Z0u, Z0v, Z0w, Z0x, Z0y, Z0z, Z10, Z11, Z12, Z13, Z14, ↓Z15, ↓Z16, Z17, Z18, Z19, Z1a, Z1b, Z1c, ↓Z1d, ↓Z1e, Z1f, ↓Z1g, ↓Z1h, ↓Z1i, ↓Z1k, ↓Z1n, ↓Z1q, ↓Z1v, ↓Z1z, ↓Z20, ↓Z21, Y00, Z2h, ↓Z2i, ↓Z2j, ↓Z2k, ↓Z2m, ↓Z2o, ↓Z2u, ↓Z2x, Z2y, Z2z, Z30, Z31, Z32, Z33, ev_t, ev_c, ev_g, ev_f, hv_t, hv_f, hv_n, Z34, Z35, Z36, Y01, Y02, Y03, Y04, Y05, Z3a, Y06, Y07, nth?, Y08, Y09, Y0a, Y0b, Y0c, Y0d, Y0e, putN, Z3i, repL, Y0f, Y0g, Y0h, Y0i, Y0j, Y0k, Y0l, Y0m, Y0n, Y0o, Y0p, Y0q, Y0r, Y0s, Z3r, Z3s, Z3t, depB, Fd, Fall, Dis, Dis1, Z3u, Z3v, appC, appN, mapC, mapN, List.append_eq, Z3w, Array.toArray_toList, Z3x, Z3y, List.getElem?_cons_zero, List.getElem?_cons_succ, Nat.reduceAdd, Nat.reduceSub, Nat.reduceMul, Nat.reduceEqDiff, Nat.zero_add, Nat.add_zero, Nat.mul_one, Nat.zero_mul, if_true, if_false, eq_self, true_and, and_true, reduceCtorEq, false_and, Addr.add_lit, ne_eq, not_false_eq_true, Array.empty_append, Array.append_empty, ↓Z3z, ↓Z40, ↓Z41, ↓Z42, ↓Z43, ↓Z44, ↓Z45, List.getElem?_toArray, Z46, Int.toNat_natCast, Nat.sub_zero, Int.toNat_sub, Sx.Z47, ite_self, ty_3, ty_22, ty_23, ty_24, ty_54]
  refine BrD (fun h => ?_) (fun h => BrD (fun h' => ?_) (fun h' => BrE (fun h'' => ?_) (fun h'' => ?_)))
  · exact Ans.mk (by rw [behindOf, if_pos (.inl h)]) hB
  · exact Ans.mk (by rw [behindOf, if_pos (.inr h')]) hB
  · have h0 : ¬ (i < 0 ∨ placesOf s l ≤ i) := by omega
    exact Ans.mk (by rw [behindOf, if_neg h0, if_pos h'']) hB
  · have h0 : ¬ (i < 0 ∨ placesOf s l ≤ i) := by omega
    rw [wi (by omega) (by omega)]
    exact Ans.mk (by rw [behindOf, if_neg h0, if_neg h'']) hB

theorem refBehind_any (w : World) (s l : List Int) (v : Value) (hv : RdW w v s l) (i : Int) :
    CallG C.P 27 #[v, .int .i64 i] w (Ans w (.int .i64 (behindOf s l i))) := by
  have hv0 := hv
  obtain ⟨a, b, rfl, ha, hb⟩ := hv
  obtain ⟨p, c, rfl, hx1, hx2, hx3, hp⟩ := ha.out
  obtain ⟨q, d, rfl, hy1, hy2, hy3, hq⟩ := hb.out
  clear hp hq
  refine fn_ok (C := C) (args := [_, _]) 22 [.tmp 4] Tryd.func27 rfl rfl rfl rfl ?_
  simp only [Tryd.f27, Z00, Z01, Z02, Z03, Z04, Z05, Z06, Z07, Z08, Z09, ↓Z0a, ↓Z0b, ↓Z0c, ↓Z0d, ↓Z0e, ↓Z0f, ↓Z0g, ↓Z0h, ↓Z0i, ↓Z0j, ↓Z0k, ↓Z0l, ↓Z0m, ↓Z0n, ↓Z0o, ↓Z0p, resL, res1, resK, Z0q, Z0r, Z0s, Z0t, Z0u, Z0v, Z0w, Z0x, Z0y, Z0z, Z10, Z11, Z12, Z13, Z14, ↓Z15, ↓Z16, Z17, Z18, Z19, Z1a, Z1b, Z1c, ↓Z1d, ↓Z1e, Z1f, ↓Z1g, ↓Z1h, ↓Z1i, ↓Z1k, ↓Z1n, ↓Z1q, ↓Z1v, ↓Z1z, ↓Z20, ↓Z21, Y00, Z2h, ↓Z2i, ↓Z2j, ↓Z2k, ↓Z2m, ↓Z2o, ↓Z2u, ↓Z2x, Z2y, Z2z, Z30, Z31, Z32, Z33, ev_t, ev_c, ev_g, ev_f, hv_t, hv_f, hv_n, Z34, Z35, Z36, Y01, Y02, Y03, Y04, Y05, Z3a, Y06, Y07, nth?, Y08, Y09, Y0a, Y0b, Y0c, Y0d, Y0e, putN, Z3i, repL, Y0f, Y0g, Y0h, Y0i, Y0j, Y0k, Y0l, Y0m, Y0n, Y0o, Y0p, Y0q, Y0r, Y0s, Z3r, Z3s, Z3t, depB, Fd, Fall, Dis, Dis1, Z3u, Z3v, appC, appN, mapC, mapN, List.append_eq, Z3w, Array.toArray_toList, Z3x, Z3y, List.getElem?_cons_zero, List.getElem?_cons_succ, Nat.reduceAdd, Nat.reduceSub, Nat.reduceMul, Nat.reduceEqDiff, Nat.zero_add, Nat.add_zero, Nat.mul_one, Nat.zero_mul, if_true, if_false, eq_self, true_and, and_true, reduceCtorEq, false_and, Addr.add_lit, ne_eq, not_false_eq_true, Array.empty_append, Array.append_empty, ↓Z3z, ↓Z40, ↓Z41, ↓Z42, ↓Z43, ↓Z44, ↓Z45, List.getElem?_toArray, Z46, Int.toNat_natCast, Nat.sub_zero, Int.toNat_sub, Sx.Z47, ite_self, ty_3, ty_22, ty_23, ty_24, ty_54]
  intro b w1 n1
  simp only [ldAgg_blk (n := 2) n1.at_ rfl, Z00, Z01, Z02, Z03, Z04, Z05, Z06, Z07, Z08, Z09, ↓Z0a, ↓Z0b, ↓Z0c, ↓Z0d, ↓Z0e, ↓Z0f, ↓Z0g, ↓Z0h, ↓Z0i, ↓Z0j, ↓Z0k, ↓Z0l, ↓Z0m, ↓Z0n, ↓Z0o, ↓Z0p, resL, res1, resK, Z0q, Z0r, Z0s, Z0t, Z0u, Z0v, Z0w, Z0x, Z0y, Z0z, Z10, Z11, Z12, Z13, Z14, ↓Z15, ↓Z16, Z17, Z18, Z19, Z1a, Z1b, Z1c, ↓Z1d, ↓Z1e, Z1f, ↓Z1g, ↓Z1h, ↓Z1i, ↓Z1k, ↓Z1n, ↓Z1q, ↓Z1v, ↓Z1z, ↓Z20, ↓Z21, Y00, Z2h, ↓Z2i, ↓Z2j, ↓Z2k, ↓Z2m, ↓Z2o, ↓Z2u, ↓Z2x, Z2y, Z2z, Z30, Z31, Z32, Z33, ev_t, ev_c, ev_g, ev_f, hv_t, hv_f, hv_n, Z34, Z35, Z36, Y01, Y02, Y03, Y04, Y05, Z3a, Y06, Y07, nth?, Y08, Y09, Y0a, Y0b, Y0c, Y0d, Y0e, putN, Z3i, repL, Y0f, Y0g, Y0h, Y0i, Y0j, Y0k, Y0l, Y0m, Y0n, Y0o, Y0p, Y0q, Y0r, Y0s, Z3r, Z3s, Z3t, depB, Fd, Fall, Dis, Dis1, Z3u, Z3v, appC, appN, mapC, mapN, List.append_eq, Z3w, Array.toArray_toList, Z3x, Z3y, List.getElem?_cons_zero, List.getElem?_cons_succ, Nat.reduceAdd, Nat.reduceSub, Nat.reduceMul, Nat.reduceEqDiff, Nat.zero_add, Nat.add_zero, Nat.mul_one, Nat.zero_mul, if_true, if_false, eq_self, true_and, and_true, reduceCtorEq, false_and, Addr.add_lit, ne_eq, not_false_eq_true, Array.empty_append, Array.append_empty, ↓Z3z, ↓Z40, ↓Z41, ↓Z42, ↓Z43, ↓Z44, ↓Z45, List.getElem?_toArray, Z46, Int.toNat_natCast, Nat.sub_zero, Int.toNat_sub, Sx.Z47, ite_self, ty_3, ty_22, ty_23, ty_24, ty_54]
  refine (refPlaces_any w1 s l _ (hv0.below n1.ext)).mono ?_
  rintro v w2 ⟨rfl, h2⟩
  have hB := n1.ext.trans (h2.mono n1.ext.size)
  have hpl : 0 ≤ placesOf s l ∧ placesOf s l ≤ 281474976710656 := by unfold placesOf; split <;> omega
  simp only [ldSl_blk (bheap h2 n1.at_), wi (n := placesOf s l - 1) (by omega) (by omega), Z00, Z01, Z02, Z03, Z04, Z05, Z06, Z07, Z08, Z09, ↓Z0a, ↓Z0b, ↓Z0c, ↓Z0d, ↓Z0e, ↓Z0f, ↓Z0g, ↓Z0h, ↓Z0i, ↓Z0j, ↓Z0k, ↓Z0l, ↓Z0m, ↓Z0n, ↓Z0o, ↓Z0p, resL, res1, resK, Z0q, Z0r, Z0s, Z0t, Z0u, Z0v, Z0w, Z0x, Z0y, Z0z, Z10, Z11, Z12, Z13, Z14, ↓Z15, ↓Z16, Z17, Z18, Z19, Z1a, Z1b, Z1c, ↓Z1d, ↓Z1e, Z1f, ↓Z1g, ↓Z1h, ↓Z1i, ↓Z1k, ↓Z1n, ↓Z1q, ↓Z1v, ↓Z1z, ↓Z20, ↓Z21, Y00, Z2h, ↓Z2i, ↓Z2j, ↓Z2k, ↓Z2m, ↓Z2o, ↓Z2u, ↓Z2x, Z2y, Z2z, Z30, Z31, Z32, Z33, ev_t, ev_c, ev_g, ev_f, hv_t, hv_f, hv_n, Z34, Z35, Z36, Y01, Y02, Y03, Y04, Y05, Z3a, Y06, Y07, nth?, Y08, Y09, Y0a, Y0b, Y0c, Y0d, Y0e, putN, Z3i, repL, Y0f, Y0g, Y0h, Y0i, Y0j, Y0k, Y0l, Y0m, Y0n, Y0o, Y0p, Y0q, Y0r, Y0s, Z3r, Z3s, Z3t, depB, Fd, Fall, Dis, Dis1, Z3u, Z3v, appC, appN, mapC, mapN, List.append_eq, Z3w, Array.toArray_toList, Z3x, Z3y, List.getElem?_cons_zero, List.getElem?_cons_succ, Nat.reduceAdd, Nat.reduceSub, Nat.reduceMul, Nat.reduceEqDiff, Nat.zero_add, Nat.add_zero, Nat.mul_one, Nat.zero_mul, if_true, if_false, eq_self, true_and, and_true, reduceCtorEq, false_and, Addr.add_lit, ne_eq, not_false_eq_true, Array.empty_append, Array.append_empty, ↓Z3z, ↓Z40, ↓Z41, ↓Z42, ↓Z43, ↓Z44, ↓Z45, List.getElem?_toArray, Z46, Int.toNat_natCast, Nat.sub_zero, Int.toNat_sub, Sx.Z47, ite_self, ty_3, ty_22, ty_23, ty_24, ty_54]
  refine BrD (fun h => ?_) (fun h => BrD (fun h' => ?_) (fun h' => ?_))
  · exact Ans.mk (by rw [behindOf, if_pos (.inl h)]) hB
  · exact Ans.mk (by rw [behindOf, if_pos (.inr h')]) hB
  have h0 : ¬ (i < 0 ∨ placesOf s l ≤ i) := by omega
  rw [wi (by omega) (by omega)]
  refine BrD (fun h'' => ?_) (fun h'' => ?_)
  · exact Ans.mk (by rw [behindOf, if_neg h0, if_neg (by omega)]) hB
  · exact Ans.mk (by rw [behindOf, if_neg h0, if_pos (by omega)]) hB

theorem at_any (w : World) (s l : List Int) (v : Value) (hv : RdW w v s l) (i : Int) (hi : i ≤ 9223372036854775807) :
    CallG C.P 28 #[v, .int .i64 i] w (Ans w (.int .u16 (atOf s l i))) := by
  obtain ⟨a, b, rfl, ha, hb⟩ := hv
  obtain ⟨p, c, rfl, hx1, hx2, hx3, hp⟩ := ha.out
  obtain ⟨q, d, rfl, hy1, hy2, hy3, hq⟩ := hb.out
  clear hp hq
  refine fn_ok (C := C) (args := [_, _]) 36 [.tmp 4] Tryd.func28 rfl rfl rfl rfl ?_
  simp only [Tryd.f28, Z00, Z01, Z02, Z03, Z04, Z05, Z06, Z07, Z08, Z09, ↓Z0a, ↓Z0b, ↓Z0c, ↓Z0d, ↓Z0e, ↓Z0f, ↓Z0g, ↓Z0h, ↓Z0i, ↓Z0j, ↓Z0k, ↓Z0l, ↓Z0m, ↓Z0n, ↓Z0o, ↓Z0p, resL, res1, resK, Z0q, Z0r, Z0s, Z0t, Z0u, Z0v, Z0w, Z0x, Z0y, Z0z, Z10, Z11, Z12, Z13, Z14, ↓Z15, ↓Z16, Z17, Z18, Z19, Z1a, Z1b, Z1c, ↓Z1d, ↓Z1e, Z1f, ↓Z1g, ↓Z1h, ↓Z1i, ↓Z1k, ↓Z1n, ↓Z1q, ↓Z1v, ↓Z1w, ↓Z1z, ↓Z20, ↓Z21, Y00, Z2h, ↓Z2i, ↓Z2j, ↓Z2k, ↓Z2m, ↓Z2o, ↓Z2u, ↓Z2v, ↓Z2x, Z2y, Z2z, Z30, Z31, Z32, Z33, ev_t, ev_c, ev_g, ev_f, hv_t, hv_f, hv_n, Z34, Z35, Z36, Y01, Y02, Y03, Y04, Y05, Z3a, Y06, Y07, nth?, Y08, Y09, Y0a, Y0b, Y0c, Y0d, Y0e, putN, Z3i, repL, Y0f, Y0g, Y0h, Y0i, Y0j, Y0k, Y0l, Y0m, Y0n, Y0o, Y0p, Y0q, Y0r, Y0s, Z3r, Z3s, Z3t, depB, Fd, Fall, Dis, Dis1, Z3u, Z3v, appC, appN, mapC, mapN, List.append_eq, Z3w, Array.toArray_toList, Z3x, Z3y, List.getElem?_cons_zero, List.getElem?_cons_succ, Nat.reduceAdd, Nat.reduceSub, Nat.reduceMul, Nat.reduceEqDiff, Nat.zero_add, Nat.add_zero, Nat.mul_one, Nat.zero_mul, if_true, if_false, eq_self, true_and, and_true, reduceCtorEq, false_and, Addr.add_lit, ne_eq, not_false_eq_true, Array.empty_append, Array.append_empty, ↓Z3z, ↓Z40, ↓Z41, ↓Z42, ↓Z43, ↓Z44, ↓Z45, List.getElem?_toArray, Z46, Int.toNat_natCast, Nat.sub_zero, Int.toNat_sub, Sx.Z47, ite_self, ty_3, ty_22, ty_23, ty_24, ty_54]
  intro b w1 n1
  simp only [ldSl_blk n1.at_, Z00, Z01, Z02, Z03, Z04, Z05, Z06, Z07, Z08, Z09, ↓Z0a, ↓Z0b, ↓Z0c, ↓Z0d, ↓Z0e, ↓Z0f, ↓Z0g, ↓Z0h, ↓Z0i, ↓Z0j, ↓Z0k, ↓Z0l, ↓Z0m, ↓Z0n, ↓Z0o, ↓Z0p, resL, res1, resK, Z0q, Z0r, Z0s, Z0t, Z0u, Z0v, Z0w, Z0x, Z0y, Z0z, Z10, Z11, Z12, Z13, Z14, ↓Z15, ↓Z16, Z17, Z18, Z19, Z1a, Z1b, Z1c, ↓Z1d, ↓Z1e, Z1f, ↓Z1g, ↓Z1h, ↓Z1i, ↓Z1k, ↓Z1n, ↓Z1q, ↓Z1v, ↓Z1w, ↓Z1z, ↓Z20, ↓Z21, Y00, Z2h, ↓Z2i, ↓Z2j, ↓Z2k, ↓Z2m, ↓Z2o, ↓Z2u, ↓Z2v, ↓Z2x, Z2y, Z2z, Z30, Z31, Z32, Z33, ev_t, ev_c, ev_g, ev_f, hv_t, hv_f, hv_n, Z34, Z35, Z36, Y01, Y02, Y03, Y04, Y05, Z3a, Y06, Y07, nth?, Y08, Y09, Y0a, Y0b, Y0c, Y0d, Y0e, putN, Z3i, repL, Y0f, Y0g, Y0h, Y0i, Y0j, Y0k, Y0l, Y0m, Y0n, Y0o, Y0p, Y0q, Y0r, Y0s, Z3r, Z3s, Z3t, depB, Fd, Fall, Dis, Dis1, Z3u, Z3v, appC, appN, mapC, mapN, List.append_eq, Z3w, Array.toArray_toList, Z3x, Z3y, List.getElem?_cons_zero, List.getElem?_cons_succ, Nat.reduceAdd, Nat.reduceSub, Nat.reduceMul, Nat.reduceEqDiff, Nat.zero_add, Nat.add_zero, Nat.mul_one, Nat.zero_mul, if_true, if_false, eq_self, true_and, and_true, reduceCtorEq, false_and, Addr.add_lit, ne_eq, not_false_eq_true, Array.empty_append, Array.append_empty, ↓Z3z, ↓Z40, ↓Z41, ↓Z42, ↓Z43, ↓Z44, ↓Z45, List.getElem?_toArray, Z46, Int.toNat_natCast, Nat.sub_zero, Int.toNat_sub, Sx.Z47, ite_self, ty_3, ty_22, ty_23, ty_24, ty_54]
  refine BrD (fun h => ?_) (fun h => BrE (fun h' => ?_) (fun h' => BrD (fun h'' => ?_) (fun h'' => ?_)))
  · exact Ans.mk (by rw [atOf, if_pos (.inl h)]) n1.ext
  · exact Ans.mk (by rw [atOf, if_pos (.inr (by omega))]) n1.ext
  · have h0 : ¬ (i < 0 ∨ l.length = 0) := by omega
    have h1 : i < s.length := h''
    refine (ha.below n1.ext).at_ (by omega) h1 ?_
    exact Ans.mk (by rw [atOf, if_neg h0, if_pos h1]) n1.ext
  · have h0 : ¬ (i < 0 ∨ l.length = 0) := by omega
    have h1 : ¬ i < s.length := h''
    refine draw_rd (by kernel_rfl) (by kernel_rfl) ?_
    simp only [ldSl_blk n1.at_, Z00, Z01, Z02, Z03, Z04, Z05, Z06, Z07, Z08, Z09, ↓Z0a, ↓Z0b, ↓Z0c, ↓Z0d, ↓Z0e, ↓Z0f, ↓Z0g, ↓Z0h, ↓Z0i, ↓Z0j, ↓Z0k, ↓Z0l, ↓Z0m, ↓Z0n, ↓Z0o, ↓Z0p, resL, res1, resK, Z0q, Z0r, Z0s, Z0t, Z0u, Z0v, Z0w, Z0x, Z0y, Z0z, Z10, Z11, Z12, Z13, Z14, ↓Z15, ↓Z16, Z17, Z18, Z19, Z1a, Z1b, Z1c, ↓Z1d, ↓Z1e, Z1f, ↓Z1g, ↓Z1h, ↓Z1i, ↓Z1k, ↓Z1n, ↓Z1q, ↓Z1v, ↓Z1w, ↓Z1z, ↓Z20, ↓Z21, Y00, Z2h, ↓Z2i, ↓Z2j, ↓Z2k, ↓Z2m, ↓Z2o, ↓Z2u, ↓Z2v, ↓Z2x, Z2y, Z2z, Z30, Z31, Z32, Z33, ev_t, ev_c, ev_g, ev_f, hv_t, hv_f, hv_n, Z34, Z35, Z36, Y01, Y02, Y03, Y04, Y05, Z3a, Y06, Y07, nth?, Y08, Y09, Y0a, Y0b, Y0c, Y0d, Y0e, putN, Z3i, repL, Y0f, Y0g, Y0h, Y0i, Y0j, Y0k, Y0l, Y0m, Y0n, Y0o, Y0p, Y0q, Y0r, Y0s, Z3r, Z3s, Z3t, depB, Fd, Fall, Dis, Dis1, Z3u, Z3v, appC, appN, mapC, mapN, List.append_eq, Z3w, Array.toArray_toList, Z3x, Z3y, List.getElem?_cons_zero, List.getElem?_cons_succ, Nat.reduceAdd, Nat.reduceSub, Nat.reduceMul, Nat.reduceEqDiff, Nat.zero_add, Nat.add_zero, Nat.mul_one, Nat.zero_mul, if_true, if_false, eq_self, true_and, and_true, reduceCtorEq, false_and, Addr.add_lit, ne_eq, not_false_eq_true, Array.empty_append, Array.append_empty, ↓Z3z, ↓Z40, ↓Z41, ↓Z42, ↓Z43, ↓Z44, ↓Z45, List.getElem?_toArray, Z46, Int.toNat_natCast, Nat.sub_zero, Int.toNat_sub, Sx.Z47, ite_self, ty_3, ty_22, ty_23, ty_24, ty_54]
    rw [wi (n := i - s.length) (by omega) (by omega)]
    have hm : 0 ≤ (i - (s.length : Int)).tmod l.length ∧ (i - (s.length : Int)).tmod l.length < l.length := ⟨Int.tmod_nonneg _ (by omega), Int.tmod_lt_of_pos _ (by omega)⟩
    refine ⟨by omega, (hb.below n1.ext).at_ hm.1 hm.2 ?_⟩
    intro W hW _ _
    refine Ans.mk ?_ (n1.ext.trans (hW.mono n1.ext.size))
    have e : ((i - (s.length : Int)).tmod l.length).toNat = (i - s.length).toNat % l.length := by
      obtain ⟨m, hm⟩ := Int.eq_ofNat_of_zero_le (show 0 ≤ i - (s.length : Int) by omega)
      rw [hm, ← Int.ofNat_tmod, Int.toNat_natCast, Int.toNat_natCast]
    rw [atOf, if_neg h0, if_neg h1, e]

theorem refAt_any (w : World) (s l : List Int) (v : Value) (hv : RdW w v s l) (i : Int) (hi : i ≤ 9223372036854775807) :
    CallG C.P 29 #[v, .int .i64 i] w (Ans w (.int .u16 (atOf s l i))) := by
  obtain ⟨a, b, rfl, ha, hb⟩ := hv
  obtain ⟨p, c, rfl, hx1, hx2, hx3, hp⟩ := ha.out
  obtain ⟨q, d, rfl, hy1, hy2, hy3, hq⟩ := hb.out
  clear hp hq
  refine fn_ok (C := C) (args := [_, _]) 34 [.tmp 4] Tryd.func29 rfl rfl rfl rfl ?_
  simp only [Tryd.f29, Z00, Z01, Z02, Z03, Z04, Z05, Z06, Z07, Z08, Z09, ↓Z0a, ↓Z0b, ↓Z0c, ↓Z0d, ↓Z0e, ↓Z0f, ↓Z0g, ↓Z0h, ↓Z0i, ↓Z0j, ↓Z0k, ↓Z0l, ↓Z0m, ↓Z0n, ↓Z0o, ↓Z0p, resL, res1, resK, Z0q, Z0r, Z0s, Z0t, Z0u, Z0v, Z0w, Z0x, Z0y, Z0z, Z10, Z11, Z12, Z13, Z14, ↓Z15, ↓Z16, Z17, Z18, Z19, Z1a, Z1b, Z1c, ↓Z1d, ↓Z1e, Z1f, ↓Z1g, ↓Z1h, ↓Z1i, ↓Z1k, ↓Z1n, ↓Z1q, ↓Z1v, ↓Z1w, ↓Z1z, ↓Z20, ↓Z21, Y00, Z2h, ↓Z2i, ↓Z2j, ↓Z2k, ↓Z2m, ↓Z2o, ↓Z2u, ↓Z2v, ↓Z2x, Z2y, Z2z, Z30, Z31, Z32, Z33, ev_t, ev_c, ev_g, ev_f, hv_t, hv_f, hv_n, Z34, Z35, Z36, Y01, Y02, Y03, Y04, Y05, Z3a, Y06, Y07, nth?, Y08, Y09, Y0a, Y0b, Y0c, Y0d, Y0e, putN, Z3i, repL, Y0f, Y0g, Y0h, Y0i, Y0j, Y0k, Y0l, Y0m, Y0n, Y0o, Y0p, Y0q, Y0r, Y0s, Z3r, Z3s, Z3t, depB, Fd, Fall, Dis, Dis1, Z3u, Z3v, appC, appN, mapC, mapN, List.append_eq, Z3w, Array.toArray_toList, Z3x, Z3y, List.getElem?_cons_zero, List.getElem?_cons_succ, Nat.reduceAdd, Nat.reduceSub, Nat.reduceMul, Nat.reduceEqDiff, Nat.zero_add, Nat.add_zero, Nat.mul_one, Nat.zero_mul, if_true, if_false, eq_self, true_and, and_true, reduceCtorEq, false_and, Addr.add_lit, ne_eq, not_false_eq_true, Array.empty_append, Array.append_empty, ↓Z3z, ↓Z40, ↓Z41, ↓Z42, ↓Z43, ↓Z44, ↓Z45, List.getElem?_toArray, Z46, Int.toNat_natCast, Nat.sub_zero, Int.toNat_sub, Sx.Z47, ite_self, ty_3, ty_22, ty_23, ty_24, ty_54]
  intro b w1 n1
  simp only [ldSl_blk n1.at_, Z00, Z01, Z02, Z03, Z04, Z05, Z06, Z07, Z08, Z09, ↓Z0a, ↓Z0b, ↓Z0c, ↓Z0d, ↓Z0e, ↓Z0f, ↓Z0g, ↓Z0h, ↓Z0i, ↓Z0j, ↓Z0k, ↓Z0l, ↓Z0m, ↓Z0n, ↓Z0o, ↓Z0p, resL, res1, resK, Z0q, Z0r, Z0s, Z0t, Z0u, Z0v, Z0w, Z0x, Z0y, Z0z, Z10, Z11, Z12, Z13, Z14, ↓Z15, ↓Z16, Z17, Z18, Z19, Z1a, Z1b, Z1c, ↓Z1d, ↓Z1e, Z1f, ↓Z1g, ↓Z1h, ↓Z1i, ↓Z1k, ↓Z1n, ↓Z1q, ↓Z1v, ↓Z1w, ↓Z1z, ↓Z20, ↓Z21, Y00, Z2h, ↓Z2i, ↓Z2j, ↓Z2k, ↓Z2m, ↓Z2o, ↓Z2u, ↓Z2v, ↓Z2x, Z2y, Z2z, Z30, Z31, Z32, Z33, ev_t, ev_c, ev_g, ev_f, hv_t, hv_f, hv_n, Z34, Z35, Z36, Y01, Y02, Y03, Y04, Y05, Z3a, Y06, Y07, nth?, Y08, Y09, Y0a, Y0b, Y0c, Y0d, Y0e, putN, Z3i, repL, Y0f, Y0g, Y0h, Y0i, Y0j, Y0k, Y0l, Y0m, Y0n, Y0o, Y0p, Y0q, Y0r, Y0s, Z3r, Z3s, Z3t, depB, Fd, Fall, Dis, Dis1, Z3u, Z3v, appC, appN, mapC, mapN, List.append_eq, Z3w, Array.toArray_toList, Z3x, Z3y, List.getElem?_cons_zero, List.getElem?_cons_succ, Nat.reduceAdd, Nat.reduceSub, Nat.reduceMul, Nat.reduceEqDiff, Nat.zero_add, Nat.add_zero, Nat.mul_one, Nat.zero_mul, if_true, if_false, eq_self, true_and, and_true, reduceCtorEq, false_and, Addr.add_lit, ne_eq, not_false_eq_true, Array.empty_append, Array.append_empty, ↓Z3z, ↓Z40, ↓Z41, ↓Z42, ↓Z43, ↓Z44, ↓Z45, List.getElem?_toArray, Z46, Int.toNat_natCast, Nat.sub_zero, Int.toNat_sub, Sx.Z47, ite_self, ty_3, ty_22, ty_23, ty_24, ty_54]
  refine BrE (fun h' => ?_) (fun h' => BrD (fun h => ?_) (fun h => BrD (fun h'' => ?_) (fun h'' => ?_)))
  · exact Ans.mk (by rw [atOf, if_pos (.inr (by omega))]) n1.ext
  · exact Ans.mk (by rw [atOf, if_pos (.inl h)]) n1.ext
  · have h0 : ¬ (i < 0 ∨ l.length = 0) := by omega
    have h1 : i < s.length := h''
    refine (ha.below n1.ext).at_ (by omega) h1 ?_
    exact Ans.mk (by rw [atOf, if_neg h0, if_pos h1]) n1.ext
  · have h0 : ¬ (i < 0 ∨ l.length = 0) := by omega
    have h1 : ¬ i < s.length := h''
    refine draw_rd (by kernel_rfl) (by kernel_rfl) ?_
    simp only [ldSl_blk n1.at_, Z00, Z01, Z02, Z03, Z04, Z05, Z06, Z07, Z08, Z09, ↓Z0a, ↓Z0b, ↓Z0c, ↓Z0d, ↓Z0e, ↓Z0f, ↓Z0g, ↓Z0h, ↓Z0i, ↓Z0j, ↓Z0k, ↓Z0l, ↓Z0m, ↓Z0n, ↓Z0o, ↓Z0p, resL, res1, resK, Z0q, Z0r, Z0s, Z0t, Z0u, Z0v, Z0w, Z0x, Z0y, Z0z, Z10, Z11, Z12, Z13, Z14, ↓Z15, ↓Z16, Z17, Z18, Z19, Z1a, Z1b, Z1c, ↓Z1d, ↓Z1e, Z1f, ↓Z1g, ↓Z1h, ↓Z1i, ↓Z1k, ↓Z1n, ↓Z1q, ↓Z1v, ↓Z1w, ↓Z1z, ↓Z20, ↓Z21, Y00, Z2h, ↓Z2i, ↓Z2j, ↓Z2k, ↓Z2m, ↓Z2o, ↓Z2u, ↓Z2v, ↓Z2x, Z2y, Z2z, Z30, Z31, Z32, Z33, ev_t, ev_c, ev_g, ev_f, hv_t, hv_f, hv_n, Z34, Z35, Z36, Y01, Y02, Y03, Y04, Y05, Z3a, Y06, Y07, nth?, Y08, Y09, Y0a, Y0b, Y0c, Y0d, Y0e, putN, Z3i, repL, Y0f, Y0g, Y0h, Y0i, Y0j, Y0k, Y0l, Y0m, Y0n, Y0o, Y0p, Y0q, Y0r, Y0s, Z3r, Z3s, Z3t, depB, Fd, Fall, Dis, Dis1, Z3u, Z3v, appC, appN, mapC, mapN, List.append_eq, Z3w, Array.toArray_toList, Z3x, Z3y, List.getElem?_cons_zero, List.getElem?_cons_succ, Nat.reduceAdd, Nat.reduceSub, Nat.reduceMul, Nat.reduceEqDiff, Nat.zero_add, Nat.add_zero, Nat.mul_one, Nat.zero_mul, if_true, if_false, eq_self, true_and, and_true, reduceCtorEq, false_and, Addr.add_lit, ne_eq, not_false_eq_true, Array.empty_append, Array.append_empty, ↓Z3z, ↓Z40, ↓Z41, ↓Z42, ↓Z43, ↓Z44, ↓Z45, List.getElem?_toArray, Z46, Int.toNat_natCast, Nat.sub_zero, Int.toNat_sub, Sx.Z47, ite_self, ty_3, ty_22, ty_23, ty_24, ty_54]
    rw [wi (n := i - s.length) (by omega) (by omega)]
    have hm : 0 ≤ (i - (s.length : Int)).tmod l.length ∧ (i - (s.length : Int)).tmod l.length < l.length := ⟨Int.tmod_nonneg _ (by omega), Int.tmod_lt_of_pos _ (by omega)⟩
    refine ⟨by omega, (hb.below n1.ext).at_ hm.1 hm.2 ?_⟩
    intro W hW _ _
    refine Ans.mk ?_ (n1.ext.trans (hW.mono n1.ext.size))
    have e : ((i - (s.length : Int)).tmod l.length).toNat = (i - s.length).toNat % l.length := by
      obtain ⟨m, hm⟩ := Int.eq_ofNat_of_zero_le (show 0 ≤ i - (s.length : Int) by omega)
      rw [hm, ← Int.ofNat_tmod, Int.toNat_natCast, Int.toNat_natCast]
    rw [atOf, if_neg h0, if_neg h1, e]

end Go.Proofs.YtdpfafgecchafaaDoor

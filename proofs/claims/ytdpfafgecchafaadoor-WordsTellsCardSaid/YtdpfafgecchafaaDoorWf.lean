/- Words, the reference: again, Normal. -/
import Derived.Test.YtdpfafgecchafaaDoorWe
set_option linter.unusedVariables false
set_option maxRecDepth 20000
set_option linter.unusedSimpArgs false
namespace Go.Proofs.YtdpfafgecchafaaDoor
open Go Go.RowKit Sx

theorem good_all {l : List Int} {n : Nat} (hn : n ≤ l.length) : good l n ↔ l.length % n = 0 ∧ ∀ j, n ≤ j → j < l.length → nth l j = nth l (j - n) := by
  unfold good
  refine and_congr Iff.rfl ⟨fun h j h1 h2 => ?_, fun h => ?_⟩
  · have e1 : nth (l.drop n) (j - n) = nth l j := by rw [nth_drop]; congr 1; omega
    have e2 : nth (l.take (l.length - n)) (j - n) = nth l (j - n) := nth_take (by omega)
    rw [← e1, h, e2]
  · refine list_ext (by simp) fun j hj => ?_
    simp at hj
    rw [nth_drop, nth_take (by omega), h (n + j) (by omega) (by omega)]
    congr 1; omega
theorem good_len {l : List Int} : good l l.length := by
  unfold good; simp

theorem again_any (w : World) (l : List Int) (v : Value) (n : Nat) (hv : RdI .u16 w v l) (h1 : 1 ≤ n) (h2 : n ≤ l.length) :
    CallG C.P 49 #[v, .int .i64 n] w (Ans w (.bool (decide (good l n)))) := by
  obtain ⟨p, c, rfl, hx1, hx2, hx3, hp⟩ := hv.out
  clear hp
  refine fn_ok (C := C) (args := [_, _]) 27 [.tmp 4] Tryd.func49 rfl rfl rfl rfl ?_
  simp only [Tryd.f49, Z00, Z01, Z02, Z03, Z04, Z05, Z06, Z07, Z08, Z09, ↓Z0a, ↓Z0b, ↓Z0c, ↓Z0d, ↓Z0e, ↓Z0f, ↓Z0g, ↓Z0h, ↓Z0i, ↓Z0j, ↓Z0k, ↓Z0l, ↓Z0m, ↓Z0n, ↓Z0o, ↓Z0p, resL, res1, resK, Z0q, Z0r, Z0s, Z0t, Z0u, Z0v, Z0w, Z0x, Z0y, Z0z, Z10, Z11, Z12, Z13, Z14, ↓Z15, ↓Z16, Z17, Z18, Z19, Z1a, Z1b, Z1c, ↓Z1d, ↓Z1e, Z1f, ↓Z1g, ↓Z1h, ↓Z1n, ↓Z1q, ↓Z1w, ↓Z1z, ↓Z20, ↓Z21, Y00, Z2h, ↓Z2i, ↓Z2j, ↓Z2m, ↓Z2o, ↓Z2v, ↓Z2x, Z2y, Z2z, Z30, Z31, Z32, Z33, ev_t, ev_c, ev_g, ev_f, hv_t, hv_f, hv_n, Z34, Z35, Z36, Y01, Y02, Y03, Y04, Y05, Z3a, Y06, Y07, nth?, Y08, Y09, Y0a, Y0b, Y0c, Y0d, Y0e, putN, Z3i, repL, Y0f, Y0g, Y0h, Y0i, Y0j, Y0k, Y0l, Y0m, Y0n, Y0o, Y0p, Y0q, Y0r, Y0s, Z3r, Z3s, Z3t, depB, Fd, Fall, Dis, Dis1, Z3u, Z3v, appC, appN, mapC, mapN, List.append_eq, Z3w, Array.toArray_toList, Z3x, Z3y, List.getElem?_cons_zero, List.getElem?_cons_succ, Nat.reduceAdd, Nat.reduceSub, Nat.reduceMul, Nat.reduceEqDiff, Nat.zero_add, Nat.add_zero, Nat.mul_one, Nat.zero_mul, if_true, if_false, eq_self, true_and, and_true, reduceCtorEq, false_and, Addr.add_lit, ne_eq, not_false_eq_true, Array.empty_append, Array.append_empty, ↓Z3z, ↓Z40, ↓Z41, ↓Z42, ↓Z43, ↓Z44, ↓Z45, List.getElem?_toArray, Z46, Int.toNat_natCast, Nat.sub_zero, Int.toNat_sub, Sx.Z47, ite_self, ty_3, ty_22, ty_54]
  refine ⟨by omega, BrN (fun h => ?_) (fun h => ?_)⟩
  · refine Ans.mk ?_ (Below.refl _ _)
    rw [← Int.ofNat_tmod] at h
    have : ¬ good l n := fun hg => h (by have := hg.1; omega)
    simp [this]
  · rw [← Int.ofNat_tmod] at h
    refine loop_ok [false, false, false, false, true, true, false, false, false, false, false, false, true, true, true, true, true, true, true, true, true, true, true, true, true, true, true, true, true] (fun u wr => ∃ k : Nat, u 5 = .int .i64 k ∧ n ≤ k ∧ k ≤ l.length ∧ Below w.heap.size w wr ∧ ∀ j, n ≤ j → j < k → nth l j = nth l (j - n))
      (fun u wr => l.length - (intOf (u 5)).toNat) ⟨rfl, n, rfl, Nat.le_refl _, h2, Below.refl _ _, fun j h1 h2 => by omega⟩ ?_
    rintro u wr ⟨k, h5, hk1, hk, hB, hs⟩
    simp only [Z00, Z01, Z02, Z03, Z04, Z05, Z06, Z07, Z08, Z09, ↓Z0a, ↓Z0b, ↓Z0c, ↓Z0d, ↓Z0e, ↓Z0f, ↓Z0g, ↓Z0h, ↓Z0i, ↓Z0j, ↓Z0k, ↓Z0l, ↓Z0m, ↓Z0n, ↓Z0o, ↓Z0p, resL, res1, resK, Z0q, Z0r, Z0s, Z0t, Z0u, Z0v, Z0w, Z0x, Z0y, Z0z, Z10, Z11, Z12, Z13, Z14, ↓Z15, ↓Z16, Z17, Z18, Z19, Z1a, Z1b, Z1c, ↓Z1d, ↓Z1e, Z1f, ↓Z1g, ↓Z1h, ↓Z1n, ↓Z1q, ↓Z1w, ↓Z1z, ↓Z20, ↓Z21, Y00, Z2h, ↓Z2i, ↓Z2j, ↓Z2m, ↓Z2o, ↓Z2v, ↓Z2x, Z2y, Z2z, Z30, Z31, Z32, Z33, ev_t, ev_c, ev_g, ev_f, hv_t, hv_f, hv_n, Z34, Z35, Z36, Y01, Y02, Y03, Y04, Y05, Z3a, Y06, Y07, nth?, Y08, Y09, Y0a, Y0b, Y0c, Y0d, Y0e, putN, Z3i, repL, Y0f, Y0g, Y0h, Y0i, Y0j, Y0k, Y0l, Y0m, Y0n, Y0o, Y0p, Y0q, Y0r, Y0s, Z3r, Z3s, Z3t, depB, Fd, Fall, Dis, Dis1, Z3u, Z3v, appC, appN, mapC, mapN, List.append_eq, Z3w, Array.toArray_toList, Z3x, Z3y, List.getElem?_cons_zero, List.getElem?_cons_succ, Nat.reduceAdd, Nat.reduceSub, Nat.reduceMul, Nat.reduceEqDiff, Nat.zero_add, Nat.add_zero, Nat.mul_one, Nat.zero_mul, if_true, if_false, eq_self, true_and, and_true, reduceCtorEq, false_and, Addr.add_lit, ne_eq, not_false_eq_true, Array.empty_append, Array.append_empty, ↓Z3z, ↓Z40, ↓Z41, ↓Z42, ↓Z43, ↓Z44, ↓Z45, List.getElem?_toArray, Z46, Int.toNat_natCast, Nat.sub_zero, Int.toNat_sub, Sx.Z47, ite_self, ty_3, ty_22, ty_54, h5]
    refine BrD (fun hlt => ?_) (fun hlt => ?_)
    · refine draw_rd (by kernel_rfl) (by kernel_rfl) ?_
      simp only [Z00, Z01, Z02, Z03, Z04, Z05, Z06, Z07, Z08, Z09, ↓Z0a, ↓Z0b, ↓Z0c, ↓Z0d, ↓Z0e, ↓Z0f, ↓Z0g, ↓Z0h, ↓Z0i, ↓Z0j, ↓Z0k, ↓Z0l, ↓Z0m, ↓Z0n, ↓Z0o, ↓Z0p, resL, res1, resK, Z0q, Z0r, Z0s, Z0t, Z0u, Z0v, Z0w, Z0x, Z0y, Z0z, Z10, Z11, Z12, Z13, Z14, ↓Z15, ↓Z16, Z17, Z18, Z19, Z1a, Z1b, Z1c, ↓Z1d, ↓Z1e, Z1f, ↓Z1g, ↓Z1h, ↓Z1n, ↓Z1q, ↓Z1w, ↓Z1z, ↓Z20, ↓Z21, Y00, Z2h, ↓Z2i, ↓Z2j, ↓Z2m, ↓Z2o, ↓Z2v, ↓Z2x, Z2y, Z2z, Z30, Z31, Z32, Z33, ev_t, ev_c, ev_g, ev_f, hv_t, hv_f, hv_n, Z34, Z35, Z36, Y01, Y02, Y03, Y04, Y05, Z3a, Y06, Y07, nth?, Y08, Y09, Y0a, Y0b, Y0c, Y0d, Y0e, putN, Z3i, repL, Y0f, Y0g, Y0h, Y0i, Y0j, Y0k, Y0l, Y0m, Y0n, Y0o, Y0p, Y0q, Y0r, Y0s, Z3r, Z3s, Z3t, depB, Fd, Fall, Dis, Dis1, Z3u, Z3v, appC, appN, mapC, mapN, List.append_eq, Z3w, Array.toArray_toList, Z3x, Z3y, List.getElem?_cons_zero, List.getElem?_cons_succ, Nat.reduceAdd, Nat.reduceSub, Nat.reduceMul, Nat.reduceEqDiff, Nat.zero_add, Nat.add_zero, Nat.mul_one, Nat.zero_mul, if_true, if_false, eq_self, true_and, and_true, reduceCtorEq, false_and, Addr.add_lit, ne_eq, not_false_eq_true, Array.empty_append, Array.append_empty, ↓Z3z, ↓Z40, ↓Z41, ↓Z42, ↓Z43, ↓Z44, ↓Z45, List.getElem?_toArray, Z46, Int.toNat_natCast, Nat.sub_zero, Int.toNat_sub, Sx.Z47, ite_self, ty_3, ty_22, ty_54, h5]
      rw [wi (n := (k : Int) - n) (by omega) (by omega)]
      refine (hv.below hB).at_ (by omega) (by omega) ?_
      refine (hv.below hB).at_ (by omega) (by omega) ?_
      intro W hW _ _
      have hBW := hB.trans (hW.mono hB.size)
      have e : ((k : Int) - n).toNat = k - n := by omega
      rw [e]
      refine BrN (fun hne => ?_) (fun heq => ?_)
      · refine Ans.mk ?_ hBW
        have : ¬ good l n := fun hg => hne (((good_all h2).1 hg).2 k hk1 (by omega))
        simp [this]
      · rw [wi (by omega) (by omega)]
        refine ⟨⟨k + 1, by simp, by omega, by omega, hBW, fun j h1 hj => ?_⟩, by simp [intOf, h5]; omega⟩
        rcases Nat.lt_succ_iff_lt_or_eq.1 hj with h | rfl
        · exact hs j h1 h
        · simpa using heq
    · refine Ans.mk ?_ hB
      have : good l n := (good_all h2).2 ⟨by omega, fun j h1 h2 => hs j h1 (by omega)⟩
      simp [this]

theorem per_of_good {l : List Int} {n : Nat} (h1 : n ≤ l.length) (hp : per l = perFrom l (l.length - n) n) (hg : good l n) : per l = n := by
  rcases Nat.lt_or_eq_of_le h1 with h | h
  · rw [hp, perFrom_yes h hg]
  · rw [hp, perFrom_end (by omega), h]

theorem cut_turn {n k : Nat} (hn : 1 ≤ n) : ((n - k % n) % n + n - 1) % n = (n - (k + 1) % n) % n ∧ (n - 1 - k % n + n) % n = ((n - k % n) % n + n - 1) % n := by
  have h := Nat.mod_lt k (show 0 < n by omega)
  have e1 : (k + 1) % n = if k % n + 1 = n then 0 else k % n + 1 := by
    rw [Nat.add_mod]
    by_cases h1 : n = 1
    · subst h1; simp [Nat.mod_one]
    · rw [Nat.mod_eq_of_lt (show 1 < n by omega)]
      split
      · rename_i h2; rw [h2, Nat.mod_self]
      · exact Nat.mod_eq_of_lt (by omega)
  generalize k % n = r at *
  have e2 : (n - r) % n = if r = 0 then 0 else n - r := by
    split
    · rename_i h0; subst h0; simp
    · exact Nat.mod_eq_of_lt (by omega)
  have e3 : (n - 1 - r + n) % n = n - 1 - r := by rw [Nat.add_mod_right]; exact Nat.mod_eq_of_lt (by omega)
  rw [e1, e2, e3]
  constructor
  · split
    · rename_i h0; subst h0
      split
      · have : n = 1 := by omega
        subst this; simp
      · rw [Nat.zero_add, Nat.mod_eq_of_lt (show n - 1 < n by omega)]
    · rw [show n - r + n - 1 = (n - r - 1) + n by omega, Nat.add_mod_right, Nat.mod_eq_of_lt (by omega)]
      split
      · have : n - r - 1 = 0 := by omega
        rw [this]; simp
      · rw [Nat.mod_eq_of_lt (by omega)]; omega
  · split
    · rename_i h0; subst h0; rw [Nat.zero_add, Nat.mod_eq_of_lt (by omega)]; omega
    · rw [show n - r + n - 1 = (n - r - 1) + n by omega, Nat.add_mod_right, Nat.mod_eq_of_lt (by omega)]; omega

theorem nth_loop {l : List Int} {n t i : Nat} (hl : n ≤ l.length) (ht : t < n) (hi : i < n) : nth ((l.take n).drop t ++ (l.take n).take t) i = nth l ((i + t) % n) := by
  by_cases h : i < n - t
  · rw [nth_append_left (by simp; omega), nth_drop, nth_take (by omega), Nat.mod_eq_of_lt (by omega)]
    congr 1; omega
  · rw [nth_append_right (by simp; omega), nth_take (by simp; omega), nth_take (by simp; omega)]
    have e : (i + t) % n = i + t - n := by
      rw [show i + t = (i + t - n) + n by omega, Nat.add_mod_right, Nat.mod_eq_of_lt (by omega)]; omega
    rw [e]
    congr 1
    simp; omega

theorem refNormal_any (w : World) (s l : List Int) (v : Value) (hw : RdW w v s l) (hs : s.length ≤ 70368744177664) (hl : l.length ≤ 70368744177664) :
    CallG C.P 17 #[v] w (fun v w' => OwnW w' w.heap.size v (nStem s l) (nLoop s l) ∧ Below w.heap.size w w') := by
  obtain ⟨a, b, rfl, ha, hb⟩ := hw
  obtain ⟨p, c, rfl, hx1, hx2, hx3, hp⟩ := ha.out
  obtain ⟨q, d, rfl, hy1, hy2, hy3, hq⟩ := hb.out
  clear hp hq
  refine fn_ok (C := C) (args := [_]) 84 [.cell 2 24] Tryd.func17 rfl rfl rfl rfl ?_
  simp only [Tryd.f17, Z00, Z01, Z02, Z03, Z04, Z05, Z06, Z07, Z08, Z09, ↓Z0a, ↓Z0b, ↓Z0c, ↓Z0d, ↓Z0e, ↓Z0f, ↓Z0g, ↓Z0h, ↓Z0i, ↓Z0j, ↓Z0k, ↓Z0l, ↓Z0m, ↓Z0n, ↓Z0o, ↓Z0p, resL, res1, resK, Z0q, Z0r, Z0s, Z0t, Z0u, Z0v, Z0w, Z0x, Z0y, Z0z, Z10, Z11, Z12, Z13, Z14, ↓Z15, ↓Z16, Z17, Z18, Z19, Z1a, Z1b, Z1c, ↓Z1d, ↓Z1e, Z1f, ↓Z1g, ↓Z1h, ↓Z1i, ↓Z1j, ↓Z1k, ↓Z1l, ↓Z1m, ↓Z1n, ↓Z1o, ↓Z1q, ↓Z1u, ↓Z1v, ↓Z1w, ↓Z1z, ↓Z20, ↓Z21, Y00, Z2h, ↓Z2i, ↓Z2j, ↓Z2k, ↓Z2l, ↓Z2m, ↓Z2o, ↓Z2t, ↓Z2u, ↓Z2v, ↓Z2x, Z2y, Z2z, Z30, Z31, Z32, Z33, ev_t, ev_c, ev_g, ev_f, hv_t, hv_f, hv_n, Z34, Z35, Z36, Y01, Y02, Y03, Y04, Y05, Z3a, Y06, Y07, nth?, Y08, Y09, Y0a, Y0b, Y0c, Y0d, Y0e, putN, Z3i, repL, Y0f, Y0g, Y0h, Y0i, Y0j, Y0k, Y0l, Y0m, Y0n, Y0o, Y0p, Y0q, Y0r, Y0s, Z3r, Z3s, Z3t, depB, Fd, Fall, Dis, Dis1, Z3u, Z3v, appC, appN, mapC, mapN, List.append_eq, Z3w, Array.toArray_toList, Z3x, Z3y, List.getElem?_cons_zero, List.getElem?_cons_succ, Nat.reduceAdd, Nat.reduceSub, Nat.reduceMul, Nat.reduceEqDiff, Nat.zero_add, Nat.add_zero, Nat.mul_one, Nat.zero_mul, if_true, if_false, eq_self, true_and, and_true, reduceCtorEq, false_and, Addr.add_lit, ne_eq, not_false_eq_true, Array.empty_append, Array.append_empty, ↓Z3z, ↓Z40, ↓Z41, ↓Z42, ↓Z43, ↓Z44, ↓Z45, List.getElem?_toArray, Z46, Int.toNat_natCast, Nat.sub_zero, Int.toNat_sub, Sx.Z47, ite_self, ty_3, ty_22, ty_23, ty_24, ty_54]
  intro b1 w1 n1 b2 w2 n2
  have hB := n1.ext.trans (n2.ext.mono n1.ext.size)
  have hsz := hB.size
  have hb2 : b2 < w2.heap.size := (Array.getElem?_eq_some_iff.1 n2.at_).1
  have hb2' : w.heap.size ≤ b2 := by have := n2.hb; have := n1.size; omega
  have hat1 := bheap n2.ext n1.at_
  simp only [ldSl_blk hat1, Z00, Z01, Z02, Z03, Z04, Z05, Z06, Z07, Z08, Z09, ↓Z0a, ↓Z0b, ↓Z0c, ↓Z0d, ↓Z0e, ↓Z0f, ↓Z0g, ↓Z0h, ↓Z0i, ↓Z0j, ↓Z0k, ↓Z0l, ↓Z0m, ↓Z0n, ↓Z0o, ↓Z0p, resL, res1, resK, Z0q, Z0r, Z0s, Z0t, Z0u, Z0v, Z0w, Z0x, Z0y, Z0z, Z10, Z11, Z12, Z13, Z14, ↓Z15, ↓Z16, Z17, Z18, Z19, Z1a, Z1b, Z1c, ↓Z1d, ↓Z1e, Z1f, ↓Z1g, ↓Z1h, ↓Z1i, ↓Z1j, ↓Z1k, ↓Z1l, ↓Z1m, ↓Z1n, ↓Z1o, ↓Z1q, ↓Z1u, ↓Z1v, ↓Z1w, ↓Z1z, ↓Z20, ↓Z21, Y00, Z2h, ↓Z2i, ↓Z2j, ↓Z2k, ↓Z2l, ↓Z2m, ↓Z2o, ↓Z2t, ↓Z2u, ↓Z2v, ↓Z2x, Z2y, Z2z, Z30, Z31, Z32, Z33, ev_t, ev_c, ev_g, ev_f, hv_t, hv_f, hv_n, Z34, Z35, Z36, Y01, Y02, Y03, Y04, Y05, Z3a, Y06, Y07, nth?, Y08, Y09, Y0a, Y0b, Y0c, Y0d, Y0e, putN, Z3i, repL, Y0f, Y0g, Y0h, Y0i, Y0j, Y0k, Y0l, Y0m, Y0n, Y0o, Y0p, Y0q, Y0r, Y0s, Z3r, Z3s, Z3t, depB, Fd, Fall, Dis, Dis1, Z3u, Z3v, appC, appN, mapC, mapN, List.append_eq, Z3w, Array.toArray_toList, Z3x, Z3y, List.getElem?_cons_zero, List.getElem?_cons_succ, Nat.reduceAdd, Nat.reduceSub, Nat.reduceMul, Nat.reduceEqDiff, Nat.zero_add, Nat.add_zero, Nat.mul_one, Nat.zero_mul, if_true, if_false, eq_self, true_and, and_true, reduceCtorEq, false_and, Addr.add_lit, ne_eq, not_false_eq_true, Array.empty_append, Array.append_empty, ↓Z3z, ↓Z40, ↓Z41, ↓Z42, ↓Z43, ↓Z44, ↓Z45, List.getElem?_toArray, Z46, Int.toNat_natCast, Nat.sub_zero, Int.toNat_sub, Sx.Z47, ite_self, ty_3, ty_22, ty_23, ty_24, ty_54]
  refine BrE (fun h => ?_) (fun h => ?_)
  · obtain ⟨e1, e2⟩ := nForm_nil s l (by omega)
    rw [e1, e2]
    exact ⟨rfl, rfl, ret_ownW (base := w2.heap.size) n2.at_ rfl rfl rfl (OwnW.nil _ _) hb2 hb2' hB⟩
  have h0 : 0 < l.length := by omega
  have hpp := per_pos h0
  refine loop_ok [false, false, false, true, true, false, false, false, false, false, false, false, false, false, true, true, true, true, true, true, true, false, false, false, false, false, false, false, false, false, false, false, false, false, false, false, false, false, false, false, false, false, false, false, false, false, false, false, false, false, false, false, false, false, false, false, false, false, false, false, false, false, false, false, false, false, false, false, false, false, false, false, false, false, false, false, false, false, false, false, false, false, false, false, false] (fun u wr => ∃ n : Nat, u 3 = .int .i64 n ∧ 1 ≤ n ∧ n ≤ l.length ∧ Below w2.heap.size w2 wr ∧ per l = perFrom l (l.length - n) n)
    (fun u wr => l.length + 1 - (intOf (u 3)).toNat) ⟨rfl, 1, rfl, Nat.le_refl _, by omega, Below.refl _ _, rfl⟩ ?_
  rintro u wr ⟨n, h3, hn1, hn2, hB3, hper⟩
  simp only [ldSl_blk (bheap hB3 hat1), Z00, Z01, Z02, Z03, Z04, Z05, Z06, Z07, Z08, Z09, ↓Z0a, ↓Z0b, ↓Z0c, ↓Z0d, ↓Z0e, ↓Z0f, ↓Z0g, ↓Z0h, ↓Z0i, ↓Z0j, ↓Z0k, ↓Z0l, ↓Z0m, ↓Z0n, ↓Z0o, ↓Z0p, resL, res1, resK, Z0q, Z0r, Z0s, Z0t, Z0u, Z0v, Z0w, Z0x, Z0y, Z0z, Z10, Z11, Z12, Z13, Z14, ↓Z15, ↓Z16, Z17, Z18, Z19, Z1a, Z1b, Z1c, ↓Z1d, ↓Z1e, Z1f, ↓Z1g, ↓Z1h, ↓Z1i, ↓Z1j, ↓Z1k, ↓Z1l, ↓Z1m, ↓Z1n, ↓Z1o, ↓Z1q, ↓Z1u, ↓Z1v, ↓Z1w, ↓Z1z, ↓Z20, ↓Z21, Y00, Z2h, ↓Z2i, ↓Z2j, ↓Z2k, ↓Z2l, ↓Z2m, ↓Z2o, ↓Z2t, ↓Z2u, ↓Z2v, ↓Z2x, Z2y, Z2z, Z30, Z31, Z32, Z33, ev_t, ev_c, ev_g, ev_f, hv_t, hv_f, hv_n, Z34, Z35, Z36, Y01, Y02, Y03, Y04, Y05, Z3a, Y06, Y07, nth?, Y08, Y09, Y0a, Y0b, Y0c, Y0d, Y0e, putN, Z3i, repL, Y0f, Y0g, Y0h, Y0i, Y0j, Y0k, Y0l, Y0m, Y0n, Y0o, Y0p, Y0q, Y0r, Y0s, Z3r, Z3s, Z3t, depB, Fd, Fall, Dis, Dis1, Z3u, Z3v, appC, appN, mapC, mapN, List.append_eq, Z3w, Array.toArray_toList, Z3x, Z3y, List.getElem?_cons_zero, List.getElem?_cons_succ, Nat.reduceAdd, Nat.reduceSub, Nat.reduceMul, Nat.reduceEqDiff, Nat.zero_add, Nat.add_zero, Nat.mul_one, Nat.zero_mul, if_true, if_false, eq_self, true_and, and_true, reduceCtorEq, false_and, Addr.add_lit, ne_eq, not_false_eq_true, Array.empty_append, Array.append_empty, ↓Z3z, ↓Z40, ↓Z41, ↓Z42, ↓Z43, ↓Z44, ↓Z45, List.getElem?_toArray, Z46, Int.toNat_natCast, Nat.sub_zero, Int.toNat_sub, Sx.Z47, ite_self, ty_3, ty_22, ty_23, ty_24, ty_54, h3]
  refine (again_any wr l _ n ((hb.below hB).below hB3) hn1 hn2).mono ?_
  rintro v w4 ⟨rfl, h4⟩
  simp only [Z00, Z01, Z02, Z03, Z04, Z05, Z06, Z07, Z08, Z09, ↓Z0a, ↓Z0b, ↓Z0c, ↓Z0d, ↓Z0e, ↓Z0f, ↓Z0g, ↓Z0h, ↓Z0i, ↓Z0j, ↓Z0k, ↓Z0l, ↓Z0m, ↓Z0n, ↓Z0o, ↓Z0p, resL, res1, resK, Z0q, Z0r, Z0s, Z0t, Z0u, Z0v, Z0w, Z0x, Z0y, Z0z, Z10, Z11, Z12, Z13, Z14, ↓Z15, ↓Z16, Z17, Z18, Z19, Z1a, Z1b, Z1c, ↓Z1d, ↓Z1e, Z1f, ↓Z1g, ↓Z1h, ↓Z1i, ↓Z1j, ↓Z1k, ↓Z1l, ↓Z1m, ↓Z1n, ↓Z1o, ↓Z1q, ↓Z1u, ↓Z1v, ↓Z1w, ↓Z1z, ↓Z20, ↓Z21, Y00, Z2h, ↓Z2i, ↓Z2j, ↓Z2k, ↓Z2l, ↓Z2m, ↓Z2o, ↓Z2t, ↓Z2u, ↓Z2v, ↓Z2x, Z2y, Z2z, Z30, Z31, Z32, Z33, ev_t, ev_c, ev_g, ev_f, hv_t, hv_f, hv_n, Z34, Z35, Z36, Y01, Y02, Y03, Y04, Y05, Z3a, Y06, Y07, nth?, Y08, Y09, Y0a, Y0b, Y0c, Y0d, Y0e, putN, Z3i, repL, Y0f, Y0g, Y0h, Y0i, Y0j, Y0k, Y0l, Y0m, Y0n, Y0o, Y0p, Y0q, Y0r, Y0s, Z3r, Z3s, Z3t, depB, Fd, Fall, Dis, Dis1, Z3u, Z3v, appC, appN, mapC, mapN, List.append_eq, Z3w, Array.toArray_toList, Z3x, Z3y, List.getElem?_cons_zero, List.getElem?_cons_succ, Nat.reduceAdd, Nat.reduceSub, Nat.reduceMul, Nat.reduceEqDiff, Nat.zero_add, Nat.add_zero, Nat.mul_one, Nat.zero_mul, if_true, if_false, eq_self, true_and, and_true, reduceCtorEq, false_and, Addr.add_lit, ne_eq, not_false_eq_true, Array.empty_append, Array.append_empty, ↓Z3z, ↓Z40, ↓Z41, ↓Z42, ↓Z43, ↓Z44, ↓Z45, List.getElem?_toArray, Z46, Int.toNat_natCast, Nat.sub_zero, Int.toNat_sub, Sx.Z47, ite_self, ty_3, ty_22, ty_23, ty_24, ty_54, h3]
  have hB4 := hB3.trans (h4.mono hB3.size)
  refine BrD (fun hg => ?_) (fun hg => ?_)
  · have ep : per l = n := per_of_good hn2 hper hg
    have hat4 := bheap hB4 hat1
    simp only [ldSl_blk hat4, Z00, Z01, Z02, Z03, Z04, Z05, Z06, Z07, Z08, Z09, ↓Z0a, ↓Z0b, ↓Z0c, ↓Z0d, ↓Z0e, ↓Z0f, ↓Z0g, ↓Z0h, ↓Z0i, ↓Z0j, ↓Z0k, ↓Z0l, ↓Z0m, ↓Z0n, ↓Z0o, ↓Z0p, resL, res1, resK, Z0q, Z0r, Z0s, Z0t, Z0u, Z0v, Z0w, Z0x, Z0y, Z0z, Z10, Z11, Z12, Z13, Z14, ↓Z15, ↓Z16, Z17, Z18, Z19, Z1a, Z1b, Z1c, ↓Z1d, ↓Z1e, Z1f, ↓Z1g, ↓Z1h, ↓Z1i, ↓Z1j, ↓Z1k, ↓Z1l, ↓Z1m, ↓Z1n, ↓Z1o, ↓Z1q, ↓Z1u, ↓Z1v, ↓Z1w, ↓Z1z, ↓Z20, ↓Z21, Y00, Z2h, ↓Z2i, ↓Z2j, ↓Z2k, ↓Z2l, ↓Z2m, ↓Z2o, ↓Z2t, ↓Z2u, ↓Z2v, ↓Z2x, Z2y, Z2z, Z30, Z31, Z32, Z33, ev_t, ev_c, ev_g, ev_f, hv_t, hv_f, hv_n, Z34, Z35, Z36, Y01, Y02, Y03, Y04, Y05, Z3a, Y06, Y07, nth?, Y08, Y09, Y0a, Y0b, Y0c, Y0d, Y0e, putN, Z3i, repL, Y0f, Y0g, Y0h, Y0i, Y0j, Y0k, Y0l, Y0m, Y0n, Y0o, Y0p, Y0q, Y0r, Y0s, Z3r, Z3s, Z3t, depB, Fd, Fall, Dis, Dis1, Z3u, Z3v, appC, appN, mapC, mapN, List.append_eq, Z3w, Array.toArray_toList, Z3x, Z3y, List.getElem?_cons_zero, List.getElem?_cons_succ, Nat.reduceAdd, Nat.reduceSub, Nat.reduceMul, Nat.reduceEqDiff, Nat.zero_add, Nat.add_zero, Nat.mul_one, Nat.zero_mul, if_true, if_false, eq_self, true_and, and_true, reduceCtorEq, false_and, Addr.add_lit, ne_eq, not_false_eq_true, Array.empty_append, Array.append_empty, ↓Z3z, ↓Z40, ↓Z41, ↓Z42, ↓Z43, ↓Z44, ↓Z45, List.getElem?_toArray, Z46, Int.toNat_natCast, Nat.sub_zero, Int.toNat_sub, Sx.Z47, ite_self, ty_3, ty_22, ty_23, ty_24, ty_54, h3]
    have hL : nLoop0 l = l.take n := by rw [nLoop0, ep]
    have hLl : (l.take n).length = n := by simp; omega
    refine loop_cut [false, false, false, false, false, true, true, false, false, false, false, false, false, false, false, false, false, false, false, false, false, false, false, false, true, true, true, true, true, true, true, true, true, true, true, true, true, true, true, true, true, true, true, true, true, true, true, true, true, true, true, true, true, false, false, false, false, false, false, false, false, false, false, false, false, false, false, false, false, false, false, false, false, false, false, false, false, false, false, false, false, false, false, false, false] 2 (fun u wr => ∃ i k : Nat, u 5 = .int .i64 i ∧ u 6 = .int .i64 k ∧ i + k = s.length ∧ Below w2.heap.size w2 wr ∧ nCut s l = cutFrom s (l.take n) i ((n - k % n) % n))
      (fun u wr => (intOf (u 5)).toNat) (fun u wr => ∃ i k : Nat, u 5 = .int .i64 i ∧ u 6 = .int .i64 k ∧ i ≤ s.length ∧ k ≤ s.length ∧ Below w2.heap.size w2 wr ∧ nCut s l = (i, ((n - k % n) % n)))
      ⟨rfl, s.length, 0, rfl, rfl, rfl, hB4, by rw [nCut, hL]; simp⟩ ?_ ?_
    · rintro u2 wr2 ⟨i, k, h5, h6, hik, hB5, hcut⟩
      have hkn := Nat.mod_lt k (show 0 < n by omega)
      have ht := cut_turn (n := n) (k := k) hn1
      have hat5 := bheap hB5 hat1
      simp only [Z00, Z01, Z02, Z03, Z04, Z05, Z06, Z07, Z08, Z09, ↓Z0a, ↓Z0b, ↓Z0c, ↓Z0d, ↓Z0e, ↓Z0f, ↓Z0g, ↓Z0h, ↓Z0i, ↓Z0j, ↓Z0k, ↓Z0l, ↓Z0m, ↓Z0n, ↓Z0o, ↓Z0p, resL, res1, resK, Z0q, Z0r, Z0s, Z0t, Z0u, Z0v, Z0w, Z0x, Z0y, Z0z, Z10, Z11, Z12, Z13, Z14, ↓Z15, ↓Z16, Z17, Z18, Z19, Z1a, Z1b, Z1c, ↓Z1d, ↓Z1e, Z1f, ↓Z1g, ↓Z1h, ↓Z1i, ↓Z1j, ↓Z1k, ↓Z1l, ↓Z1m, ↓Z1n, ↓Z1o, ↓Z1q, ↓Z1u, ↓Z1v, ↓Z1w, ↓Z1z, ↓Z20, ↓Z21, Y00, Z2h, ↓Z2i, ↓Z2j, ↓Z2k, ↓Z2l, ↓Z2m, ↓Z2o, ↓Z2t, ↓Z2u, ↓Z2v, ↓Z2x, Z2y, Z2z, Z30, Z31, Z32, Z33, ev_t, ev_c, ev_g, ev_f, hv_t, hv_f, hv_n, Z34, Z35, Z36, Y01, Y02, Y03, Y04, Y05, Z3a, Y06, Y07, nth?, Y08, Y09, Y0a, Y0b, Y0c, Y0d, Y0e, putN, Z3i, repL, Y0f, Y0g, Y0h, Y0i, Y0j, Y0k, Y0l, Y0m, Y0n, Y0o, Y0p, Y0q, Y0r, Y0s, Z3r, Z3s, Z3t, depB, Fd, Fall, Dis, Dis1, Z3u, Z3v, appC, appN, mapC, mapN, List.append_eq, Z3w, Array.toArray_toList, Z3x, Z3y, List.getElem?_cons_zero, List.getElem?_cons_succ, Nat.reduceAdd, Nat.reduceSub, Nat.reduceMul, Nat.reduceEqDiff, Nat.zero_add, Nat.add_zero, Nat.mul_one, Nat.zero_mul, if_true, if_false, eq_self, true_and, and_true, reduceCtorEq, false_and, Addr.add_lit, ne_eq, not_false_eq_true, Array.empty_append, Array.append_empty, ↓Z3z, ↓Z40, ↓Z41, ↓Z42, ↓Z43, ↓Z44, ↓Z45, List.getElem?_toArray, Z46, Int.toNat_natCast, Nat.sub_zero, Int.toNat_sub, Sx.Z47, ite_self, ty_3, ty_22, ty_23, ty_24, ty_54, h5, h6]
      refine draw_rd (by kernel_rfl) (by kernel_rfl) ?_
      simp only [ldSl_blk hat5, Z00, Z01, Z02, Z03, Z04, Z05, Z06, Z07, Z08, Z09, ↓Z0a, ↓Z0b, ↓Z0c, ↓Z0d, ↓Z0e, ↓Z0f, ↓Z0g, ↓Z0h, ↓Z0i, ↓Z0j, ↓Z0k, ↓Z0l, ↓Z0m, ↓Z0n, ↓Z0o, ↓Z0p, resL, res1, resK, Z0q, Z0r, Z0s, Z0t, Z0u, Z0v, Z0w, Z0x, Z0y, Z0z, Z10, Z11, Z12, Z13, Z14, ↓Z15, ↓Z16, Z17, Z18, Z19, Z1a, Z1b, Z1c, ↓Z1d, ↓Z1e, Z1f, ↓Z1g, ↓Z1h, ↓Z1i, ↓Z1j, ↓Z1k, ↓Z1l, ↓Z1m, ↓Z1n, ↓Z1o, ↓Z1q, ↓Z1u, ↓Z1v, ↓Z1w, ↓Z1z, ↓Z20, ↓Z21, Y00, Z2h, ↓Z2i, ↓Z2j, ↓Z2k, ↓Z2l, ↓Z2m, ↓Z2o, ↓Z2t, ↓Z2u, ↓Z2v, ↓Z2x, Z2y, Z2z, Z30, Z31, Z32, Z33, ev_t, ev_c, ev_g, ev_f, hv_t, hv_f, hv_n, Z34, Z35, Z36, Y01, Y02, Y03, Y04, Y05, Z3a, Y06, Y07, nth?, Y08, Y09, Y0a, Y0b, Y0c, Y0d, Y0e, putN, Z3i, repL, Y0f, Y0g, Y0h, Y0i, Y0j, Y0k, Y0l, Y0m, Y0n, Y0o, Y0p, Y0q, Y0r, Y0s, Z3r, Z3s, Z3t, depB, Fd, Fall, Dis, Dis1, Z3u, Z3v, appC, appN, mapC, mapN, List.append_eq, Z3w, Array.toArray_toList, Z3x, Z3y, List.getElem?_cons_zero, List.getElem?_cons_succ, Nat.reduceAdd, Nat.reduceSub, Nat.reduceMul, Nat.reduceEqDiff, Nat.zero_add, Nat.add_zero, Nat.mul_one, Nat.zero_mul, if_true, if_false, eq_self, true_and, and_true, reduceCtorEq, false_and, Addr.add_lit, ne_eq, not_false_eq_true, Array.empty_append, Array.append_empty, ↓Z3z, ↓Z40, ↓Z41, ↓Z42, ↓Z43, ↓Z44, ↓Z45, List.getElem?_toArray, Z46, Int.toNat_natCast, Nat.sub_zero, Int.toNat_sub, Sx.Z47, ite_self, ty_3, ty_22, ty_23, ty_24, ty_54, h5, h6, h3]
      refine BrD (fun hi0 => ?_) (fun hi0 => ?_)
      · obtain ⟨j, rfl⟩ : ∃ j, i = j + 1 := ⟨i - 1, by omega⟩
        have e1 : (IntKind.i64.wrap (IntKind.i64.wrap (IntKind.i64.wrap ((n : Int) - 1) - (k : Int).tmod n) + n)).tmod n = ((n - 1 - k % n + n) % n : Nat) := by
          rw [← Int.ofNat_tmod, wi (n := (n : Int) - 1) (by omega) (by omega), wi (n := (n : Int) - 1 - (k % n : Nat)) (by omega) (by omega), wi (by omega) (by omega)]
          rw [show (n : Int) - 1 - (k % n : Nat) + n = ((n - 1 - k % n + n : Nat) : Int) by omega, ← Int.ofNat_tmod]
        have e2 : (n - 1 - k % n + n) % n < n := Nat.mod_lt _ (by omega)
        rw [e1, wi (n := ((j + 1 : Nat) : Int) - 1) (by omega) (by omega), wi (n := (k : Int) + 1) (by omega) (by omega)]
        have ej : (((j + 1 : Nat) : Int) - 1).toNat = j := by omega
        refine ((ha.below hB).below hB5).at2 (i := ((j + 1 : Nat) : Int) - 1) (by omega) (by omega) fun _ _ => ⟨by omega, by omega, ?_⟩
        refine ((hb.below hB).below hB5).at2 (i := ((n - 1 - k % n + n) % n : Nat)) (by omega) (by omega) fun _ _ => ?_
        intro W hW _ _
        have hBW := hB5.trans (hW.mono hB5.size)
        rw [ej, Int.toNat_natCast]
        have hst : nCut s l = if nth s j = nth l ((n - 1 - k % n + n) % n) then cutFrom s (l.take n) j ((n - (k + 1) % n) % n) else (j + 1, (n - k % n) % n) := by
          have e3 := Nat.mod_lt ((n - k % n) % n + n - 1) (show 0 < n by omega)
          rw [hcut, cutFrom, hLl, nth_take e3, ht.1, ht.2, ht.1]
        refine BrE (fun he => ?_) (fun he => ?_)
        · exact ⟨⟨j, k + 1, by rw [show ((j + 1 : Nat) : Int) - 1 = j by omega], by simp, by omega, hBW, by rw [hst, if_pos he]⟩, by simp [intOf]⟩
        · exact ⟨j + 1, k, rfl, rfl, by omega, by omega, hBW, by rw [hst, if_neg he]⟩
      · obtain rfl : i = 0 := by omega
        intro W hW _ _
        exact ⟨0, k, rfl, rfl, by omega, by omega, hB5.trans (hW.mono hB5.size), by rw [hcut, cutFrom]⟩
    rintro u3 W3 ⟨i, k, h5, h6, hi, hk, hB5, hcut⟩
    have hkn := Nat.mod_lt k (show 0 < n by omega)
    generalize ht : (n - k % n) % n = t at hcut
    have htn : t < n := by rw [← ht]; exact Nat.mod_lt _ (by omega)
    have hat5 := bheap hB5 hat1
    simp only [Z00, Z01, Z02, Z03, Z04, Z05, Z06, Z07, Z08, Z09, ↓Z0a, ↓Z0b, ↓Z0c, ↓Z0d, ↓Z0e, ↓Z0f, ↓Z0g, ↓Z0h, ↓Z0i, ↓Z0j, ↓Z0k, ↓Z0l, ↓Z0m, ↓Z0n, ↓Z0o, ↓Z0p, resL, res1, resK, Z0q, Z0r, Z0s, Z0t, Z0u, Z0v, Z0w, Z0x, Z0y, Z0z, Z10, Z11, Z12, Z13, Z14, ↓Z15, ↓Z16, Z17, Z18, Z19, Z1a, Z1b, Z1c, ↓Z1d, ↓Z1e, Z1f, ↓Z1g, ↓Z1h, ↓Z1i, ↓Z1j, ↓Z1k, ↓Z1l, ↓Z1m, ↓Z1n, ↓Z1o, ↓Z1q, ↓Z1u, ↓Z1v, ↓Z1w, ↓Z1z, ↓Z20, ↓Z21, Y00, Z2h, ↓Z2i, ↓Z2j, ↓Z2k, ↓Z2l, ↓Z2m, ↓Z2o, ↓Z2t, ↓Z2u, ↓Z2v, ↓Z2x, Z2y, Z2z, Z30, Z31, Z32, Z33, ev_t, ev_c, ev_g, ev_f, hv_t, hv_f, hv_n, Z34, Z35, Z36, Y01, Y02, Y03, Y04, Y05, Z3a, Y06, Y07, nth?, Y08, Y09, Y0a, Y0b, Y0c, Y0d, Y0e, putN, Z3i, repL, Y0f, Y0g, Y0h, Y0i, Y0j, Y0k, Y0l, Y0m, Y0n, Y0o, Y0p, Y0q, Y0r, Y0s, Z3r, Z3s, Z3t, depB, Fd, Fall, Dis, Dis1, Z3u, Z3v, appC, appN, mapC, mapN, List.append_eq, Z3w, Array.toArray_toList, Z3x, Z3y, List.getElem?_cons_zero, List.getElem?_cons_succ, Nat.reduceAdd, Nat.reduceSub, Nat.reduceMul, Nat.reduceEqDiff, Nat.zero_add, Nat.add_zero, Nat.mul_one, Nat.zero_mul, if_true, if_false, eq_self, true_and, and_true, reduceCtorEq, false_and, Addr.add_lit, ne_eq, not_false_eq_true, Array.empty_append, Array.append_empty, ↓Z3z, ↓Z40, ↓Z41, ↓Z42, ↓Z43, ↓Z44, ↓Z45, List.getElem?_toArray, Z46, Int.toNat_natCast, Nat.sub_zero, Int.toNat_sub, Sx.Z47, ite_self, ty_3, ty_22, ty_23, ty_24, ty_54, h5, h6]
    intro b7 w7 n7
    have hB7 := hB5.trans (n7.ext.mono hB5.size)
    have hat7 := bheap hB7 hat1
    have h7lt : b7 < w7.heap.size := (Array.getElem?_eq_some_iff.1 n7.at_).1
    have h7ge : w2.heap.size ≤ b7 := by have := n7.hb; have := hB5.size; omega
    refine draw_sp 7 [(6, (fun v W => OwnU W w7.heap.size v (s.take i)), noB)] (by kernel_rfl) (by kernel_rfl) (by decide) 85 rfl (by kernel_rfl) ⟨fun _ _ _ h hb => h.below hb, trivial⟩ ?_
    simp only [ldSl_blk n7.at_, ldSl_blk hat7, Z00, Z01, Z02, Z03, Z04, Z05, Z06, Z07, Z08, Z09, ↓Z0a, ↓Z0b, ↓Z0c, ↓Z0d, ↓Z0e, ↓Z0f, ↓Z0g, ↓Z0h, ↓Z0i, ↓Z0j, ↓Z0k, ↓Z0l, ↓Z0m, ↓Z0n, ↓Z0o, ↓Z0p, resL, res1, resK, Z0q, Z0r, Z0s, Z0t, Z0u, Z0v, Z0w, Z0x, Z0y, Z0z, Z10, Z11, Z12, Z13, Z14, ↓Z15, ↓Z16, Z17, Z18, Z19, Z1a, Z1b, Z1c, ↓Z1d, ↓Z1e, Z1f, ↓Z1g, ↓Z1h, ↓Z1i, ↓Z1j, ↓Z1k, ↓Z1l, ↓Z1m, ↓Z1n, ↓Z1o, ↓Z1q, ↓Z1u, ↓Z1v, ↓Z1w, ↓Z1z, ↓Z20, ↓Z21, Y00, Z2h, ↓Z2i, ↓Z2j, ↓Z2k, ↓Z2l, ↓Z2m, ↓Z2o, ↓Z2t, ↓Z2u, ↓Z2v, ↓Z2x, Z2y, Z2z, Z30, Z31, Z32, Z33, ev_t, ev_c, ev_g, ev_f, hv_t, hv_f, hv_n, Z34, Z35, Z36, Y01, Y02, Y03, Y04, Y05, Z3a, Y06, Y07, nth?, Y08, Y09, Y0a, Y0b, Y0c, Y0d, Y0e, putN, Z3i, repL, Y0f, Y0g, Y0h, Y0i, Y0j, Y0k, Y0l, Y0m, Y0n, Y0o, Y0p, Y0q, Y0r, Y0s, Z3r, Z3s, Z3t, depB, Fd, Fall, Dis, Dis1, Z3u, Z3v, appC, appN, mapC, mapN, List.append_eq, Z3w, Array.toArray_toList, Z3x, Z3y, List.getElem?_cons_zero, List.getElem?_cons_succ, Nat.reduceAdd, Nat.reduceSub, Nat.reduceMul, Nat.reduceEqDiff, Nat.zero_add, Nat.add_zero, Nat.mul_one, Nat.zero_mul, if_true, if_false, eq_self, true_and, and_true, reduceCtorEq, false_and, Addr.add_lit, ne_eq, not_false_eq_true, Array.empty_append, Array.append_empty, ↓Z3z, ↓Z40, ↓Z41, ↓Z42, ↓Z43, ↓Z44, ↓Z45, List.getElem?_toArray, Z46, Int.toNat_natCast, Nat.sub_zero, Int.toNat_sub, Sx.Z47, ite_self, ty_3, ty_22, ty_23, ty_24, ty_54, h5, h6, h3]
    refine ⟨.inl trivial, ⟨by omega, by omega⟩, fun W hW _ => ?_, ?_⟩
    · refine appU (base := W.heap.size) (l := []) (OwnU.nil _ _) ((((ha.below hB).below hB7).below hW).upto i (by omega)) (by simp; omega) (Nat.le_refl _) ?_
      intro v' V g1 _ _ g4
      exact ⟨g4, g1.lower hW.size, FrOk.no _ _ _⟩
    rintro v ⟨_, _, o6⟩
    obtain ⟨p6, c6, rfl⟩ := o6.out
    rintro W hW f6 -
    simp only [Z00, Z01, Z02, Z03, Z04, Z05, Z06, Z07, Z08, Z09, ↓Z0a, ↓Z0b, ↓Z0c, ↓Z0d, ↓Z0e, ↓Z0f, ↓Z0g, ↓Z0h, ↓Z0i, ↓Z0j, ↓Z0k, ↓Z0l, ↓Z0m, ↓Z0n, ↓Z0o, ↓Z0p, resL, res1, resK, Z0q, Z0r, Z0s, Z0t, Z0u, Z0v, Z0w, Z0x, Z0y, Z0z, Z10, Z11, Z12, Z13, Z14, ↓Z15, ↓Z16, Z17, Z18, Z19, Z1a, Z1b, Z1c, ↓Z1d, ↓Z1e, Z1f, ↓Z1g, ↓Z1h, ↓Z1i, ↓Z1j, ↓Z1k, ↓Z1l, ↓Z1m, ↓Z1n, ↓Z1o, ↓Z1q, ↓Z1u, ↓Z1v, ↓Z1w, ↓Z1z, ↓Z20, ↓Z21, Y00, Z2h, ↓Z2i, ↓Z2j, ↓Z2k, ↓Z2l, ↓Z2m, ↓Z2o, ↓Z2t, ↓Z2u, ↓Z2v, ↓Z2x, Z2y, Z2z, Z30, Z31, Z32, Z33, ev_t, ev_c, ev_g, ev_f, hv_t, hv_f, hv_n, Z34, Z35, Z36, Y01, Y02, Y03, Y04, Y05, Z3a, Y06, Y07, nth?, Y08, Y09, Y0a, Y0b, Y0c, Y0d, Y0e, putN, Z3i, repL, Y0f, Y0g, Y0h, Y0i, Y0j, Y0k, Y0l, Y0m, Y0n, Y0o, Y0p, Y0q, Y0r, Y0s, Z3r, Z3s, Z3t, depB, Fd, Fall, Dis, Dis1, Z3u, Z3v, appC, appN, mapC, mapN, List.append_eq, Z3w, Array.toArray_toList, Z3x, Z3y, List.getElem?_cons_zero, List.getElem?_cons_succ, Nat.reduceAdd, Nat.reduceSub, Nat.reduceMul, Nat.reduceEqDiff, Nat.zero_add, Nat.add_zero, Nat.mul_one, Nat.zero_mul, if_true, if_false, eq_self, true_and, and_true, reduceCtorEq, false_and, Addr.add_lit, ne_eq, not_false_eq_true, Array.empty_append, Array.append_empty, ↓Z3z, ↓Z40, ↓Z41, ↓Z42, ↓Z43, ↓Z44, ↓Z45, List.getElem?_toArray, Z46, Int.toNat_natCast, Nat.sub_zero, Int.toNat_sub, Sx.Z47, ite_self, ty_3, ty_22, ty_23, ty_24, ty_54] at f6 ⊢
    have hstem : nStem s l = s.take i := by rw [nStem, if_neg (by omega), hcut]
    have hloop : nLoop s l = (l.take n).drop t ++ (l.take n).take t := by rw [nLoop, if_neg (by omega), hcut, hL]
    have hnl : ((l.take n).drop t ++ (l.take n).take t).length = n := by simp; omega
    have hnth : ∀ j, j < n → nth ((l.take n).drop t ++ (l.take n).take t) j = nth l ((j + t) % n) := fun j hj => nth_loop hn2 htn hj
    generalize (l.take n).drop t ++ (l.take n).take t = nl at *
    refine ⟨rfl, StA.of (bheap hW n7.at_) (by simp) (by simp [Value.oneCell']) ?_⟩
    intro w8 u8
    have f6 := f6.upd u8 h7lt
    have hB8 : Below w2.heap.size w2 w8 := (hB7.trans (hW.mono hB7.size)).trans (u8.below h7ge)
    refine loop_cut [false, false, false, false, false, false, false, false, true, false, false, false, false, false, false, false, false, false, false, false, false, false, false, false, false, false, false, false, false, false, false, false, false, false, false, false, false, false, false, false, false, false, false, false, false, false, false, false, false, false, false, false, false, false, false, false, false, false, false, false, false, true, true, true, true, true, true, true, true, true, true, true, true, true, true, true, true, true, true, true, true, true, true, true, false] 4 (fun u wr => ∃ (j : Nat) (pa pb : Option Addr) (ca cb : Nat), u 8 = .int .i64 j ∧ j ≤ n ∧ wr.heap[b7]? = some (.cells #[.slice pa (s.take i).length ca, .slice pb (nl.take j).length cb] 24 (0, 0)) ∧
        OwnU wr w7.heap.size (.slice pa (s.take i).length ca) (s.take i) ∧ OwnU wr w7.heap.size (.slice pb (nl.take j).length cb) (nl.take j) ∧ (∀ g, roomOf (.slice pa (s.take i).length ca) = some g → roomOf (.slice pb (nl.take j).length cb) = some g → False) ∧ Below w2.heap.size w2 wr ∧ w7.heap.size ≤ wr.heap.size)
      (fun u wr => n - (intOf (u 8)).toNat) (fun u wr => ∃ (pa pb : Option Addr) (ca cb : Nat), wr.heap[b7]? = some (.cells #[.slice pa (s.take i).length ca, .slice pb nl.length cb] 24 (0, 0)) ∧
        OwnU wr w7.heap.size (.slice pa (s.take i).length ca) (s.take i) ∧ OwnU wr w7.heap.size (.slice pb nl.length cb) nl ∧ (∀ g, roomOf (.slice pa (s.take i).length ca) = some g → roomOf (.slice pb nl.length cb) = some g → False) ∧ Below w2.heap.size w2 wr)
      ⟨rfl, 0, p6, none, c6, 0, rfl, by omega, u8.at_, f6, OwnU.nil _ _, (fun g _ h => by cases h), hB8, by have := hW.size; have := u8.size; omega⟩ ?_ ?_
    · rintro u9 w9 ⟨j, pa, pb, ca, cb, h8, hj, hb7, oa, ob, hd, hB9, hs9⟩
      have hat9 := bheap hB9 hat1
      simp only [Z00, Z01, Z02, Z03, Z04, Z05, Z06, Z07, Z08, Z09, ↓Z0a, ↓Z0b, ↓Z0c, ↓Z0d, ↓Z0e, ↓Z0f, ↓Z0g, ↓Z0h, ↓Z0i, ↓Z0j, ↓Z0k, ↓Z0l, ↓Z0m, ↓Z0n, ↓Z0o, ↓Z0p, resL, res1, resK, Z0q, Z0r, Z0s, Z0t, Z0u, Z0v, Z0w, Z0x, Z0y, Z0z, Z10, Z11, Z12, Z13, Z14, ↓Z15, ↓Z16, Z17, Z18, Z19, Z1a, Z1b, Z1c, ↓Z1d, ↓Z1e, Z1f, ↓Z1g, ↓Z1h, ↓Z1i, ↓Z1j, ↓Z1k, ↓Z1l, ↓Z1m, ↓Z1n, ↓Z1o, ↓Z1q, ↓Z1u, ↓Z1v, ↓Z1w, ↓Z1z, ↓Z20, ↓Z21, Y00, Z2h, ↓Z2i, ↓Z2j, ↓Z2k, ↓Z2l, ↓Z2m, ↓Z2o, ↓Z2t, ↓Z2u, ↓Z2v, ↓Z2x, Z2y, Z2z, Z30, Z31, Z32, Z33, ev_t, ev_c, ev_g, ev_f, hv_t, hv_f, hv_n, Z34, Z35, Z36, Y01, Y02, Y03, Y04, Y05, Z3a, Y06, Y07, nth?, Y08, Y09, Y0a, Y0b, Y0c, Y0d, Y0e, putN, Z3i, repL, Y0f, Y0g, Y0h, Y0i, Y0j, Y0k, Y0l, Y0m, Y0n, Y0o, Y0p, Y0q, Y0r, Y0s, Z3r, Z3s, Z3t, depB, Fd, Fall, Dis, Dis1, Z3u, Z3v, appC, appN, mapC, mapN, List.append_eq, Z3w, Array.toArray_toList, Z3x, Z3y, List.getElem?_cons_zero, List.getElem?_cons_succ, Nat.reduceAdd, Nat.reduceSub, Nat.reduceMul, Nat.reduceEqDiff, Nat.zero_add, Nat.add_zero, Nat.mul_one, Nat.zero_mul, if_true, if_false, eq_self, true_and, and_true, reduceCtorEq, false_and, Addr.add_lit, ne_eq, not_false_eq_true, Array.empty_append, Array.append_empty, ↓Z3z, ↓Z40, ↓Z41, ↓Z42, ↓Z43, ↓Z44, ↓Z45, List.getElem?_toArray, Z46, Int.toNat_natCast, Nat.sub_zero, Int.toNat_sub, Sx.Z47, ite_self, ty_3, ty_22, ty_23, ty_24, ty_54, h8]
      refine BrD (fun hlt => ?_) (fun hlt => ?_)
      · have hlt : j < n := by omega
        have e1 : (IntKind.i64.wrap (IntKind.i64.wrap ((j : Int) - (k : Int).tmod n) + n)).tmod n = ((j + t) % n : Nat) := by
          have e2 : (j + (n - k % n)) % n = (j + t) % n := by rw [← ht, Nat.add_mod_mod]
          rw [← Int.ofNat_tmod, wi (n := (j : Int) - (k % n : Nat)) (by omega) (by omega), wi (by omega) (by omega), ← e2]
          rw [show (j : Int) - (k % n : Nat) + n = ((j + (n - k % n) : Nat) : Int) by omega, ← Int.ofNat_tmod]
        have e2 : (j + t) % n < n := Nat.mod_lt _ (by omega)
        refine draw_sp 16 [(15, (fun v W => RdI .u16 W v [nth l ((j + t) % n)]), noB)] (by kernel_rfl) (by kernel_rfl) (by decide) 85 rfl (by kernel_rfl) ⟨fun _ _ _ h hb => h.below hb, trivial⟩ ?_
        simp only [ldSl_blk hb7, ldSl_blk hat9, Z00, Z01, Z02, Z03, Z04, Z05, Z06, Z07, Z08, Z09, ↓Z0a, ↓Z0b, ↓Z0c, ↓Z0d, ↓Z0e, ↓Z0f, ↓Z0g, ↓Z0h, ↓Z0i, ↓Z0j, ↓Z0k, ↓Z0l, ↓Z0m, ↓Z0n, ↓Z0o, ↓Z0p, resL, res1, resK, Z0q, Z0r, Z0s, Z0t, Z0u, Z0v, Z0w, Z0x, Z0y, Z0z, Z10, Z11, Z12, Z13, Z14, ↓Z15, ↓Z16, Z17, Z18, Z19, Z1a, Z1b, Z1c, ↓Z1d, ↓Z1e, Z1f, ↓Z1g, ↓Z1h, ↓Z1i, ↓Z1j, ↓Z1k, ↓Z1l, ↓Z1m, ↓Z1n, ↓Z1o, ↓Z1q, ↓Z1u, ↓Z1v, ↓Z1w, ↓Z1z, ↓Z20, ↓Z21, Y00, Z2h, ↓Z2i, ↓Z2j, ↓Z2k, ↓Z2l, ↓Z2m, ↓Z2o, ↓Z2t, ↓Z2u, ↓Z2v, ↓Z2x, Z2y, Z2z, Z30, Z31, Z32, Z33, ev_t, ev_c, ev_g, ev_f, hv_t, hv_f, hv_n, Z34, Z35, Z36, Y01, Y02, Y03, Y04, Y05, Z3a, Y06, Y07, nth?, Y08, Y09, Y0a, Y0b, Y0c, Y0d, Y0e, putN, Z3i, repL, Y0f, Y0g, Y0h, Y0i, Y0j, Y0k, Y0l, Y0m, Y0n, Y0o, Y0p, Y0q, Y0r, Y0s, Z3r, Z3s, Z3t, depB, Fd, Fall, Dis, Dis1, Z3u, Z3v, appC, appN, mapC, mapN, List.append_eq, Z3w, Array.toArray_toList, Z3x, Z3y, List.getElem?_cons_zero, List.getElem?_cons_succ, Nat.reduceAdd, Nat.reduceSub, Nat.reduceMul, Nat.reduceEqDiff, Nat.zero_add, Nat.add_zero, Nat.mul_one, Nat.zero_mul, if_true, if_false, eq_self, true_and, and_true, reduceCtorEq, false_and, Addr.add_lit, ne_eq, not_false_eq_true, Array.empty_append, Array.append_empty, ↓Z3z, ↓Z40, ↓Z41, ↓Z42, ↓Z43, ↓Z44, ↓Z45, List.getElem?_toArray, Z46, Int.toNat_natCast, Nat.sub_zero, Int.toNat_sub, Sx.Z47, ite_self, ty_3, ty_22, ty_23, ty_24, ty_54, h8, h6, h3]
        rw [e1]
        refine ⟨by omega, by omega, ?_⟩
        refine ((hb.below hB).below hB9).at2 (i := ((j + t) % n : Nat)) (by omega) (by omega) fun _ _ => ?_
        rw [Int.toNat_natCast]
        refine ⟨fun W hW _ => ?_, ?_⟩
        · refine ⟨⟨by omega, rfl⟩, ⟨rfl, by simp⟩, ?_⟩
          intro b w' n'
          exact ⟨n'.ext, rd1 n', FrOk.no _ _ _⟩
        rintro v ⟨_, _, px, cx, rfl, -⟩
        rintro W hW fx -
        simp only [Z00, Z01, Z02, Z03, Z04, Z05, Z06, Z07, Z08, Z09, ↓Z0a, ↓Z0b, ↓Z0c, ↓Z0d, ↓Z0e, ↓Z0f, ↓Z0g, ↓Z0h, ↓Z0i, ↓Z0j, ↓Z0k, ↓Z0l, ↓Z0m, ↓Z0n, ↓Z0o, ↓Z0p, resL, res1, resK, Z0q, Z0r, Z0s, Z0t, Z0u, Z0v, Z0w, Z0x, Z0y, Z0z, Z10, Z11, Z12, Z13, Z14, ↓Z15, ↓Z16, Z17, Z18, Z19, Z1a, Z1b, Z1c, ↓Z1d, ↓Z1e, Z1f, ↓Z1g, ↓Z1h, ↓Z1i, ↓Z1j, ↓Z1k, ↓Z1l, ↓Z1m, ↓Z1n, ↓Z1o, ↓Z1q, ↓Z1u, ↓Z1v, ↓Z1w, ↓Z1z, ↓Z20, ↓Z21, Y00, Z2h, ↓Z2i, ↓Z2j, ↓Z2k, ↓Z2l, ↓Z2m, ↓Z2o, ↓Z2t, ↓Z2u, ↓Z2v, ↓Z2x, Z2y, Z2z, Z30, Z31, Z32, Z33, ev_t, ev_c, ev_g, ev_f, hv_t, hv_f, hv_n, Z34, Z35, Z36, Y01, Y02, Y03, Y04, Y05, Z3a, Y06, Y07, nth?, Y08, Y09, Y0a, Y0b, Y0c, Y0d, Y0e, putN, Z3i, repL, Y0f, Y0g, Y0h, Y0i, Y0j, Y0k, Y0l, Y0m, Y0n, Y0o, Y0p, Y0q, Y0r, Y0s, Z3r, Z3s, Z3t, depB, Fd, Fall, Dis, Dis1, Z3u, Z3v, appC, appN, mapC, mapN, List.append_eq, Z3w, Array.toArray_toList, Z3x, Z3y, List.getElem?_cons_zero, List.getElem?_cons_succ, Nat.reduceAdd, Nat.reduceSub, Nat.reduceMul, Nat.reduceEqDiff, Nat.zero_add, Nat.add_zero, Nat.mul_one, Nat.zero_mul, if_true, if_false, eq_self, true_and, and_true, reduceCtorEq, false_and, Addr.add_lit, ne_eq, not_false_eq_true, Array.empty_append, Array.append_empty, ↓Z3z, ↓Z40, ↓Z41, ↓Z42, ↓Z43, ↓Z44, ↓Z45, List.getElem?_toArray, Z46, Int.toNat_natCast, Nat.sub_zero, Int.toNat_sub, Sx.Z47, ite_self, ty_3, ty_22, ty_23, ty_24, ty_54] at fx ⊢
        refine appU (ob.below hW) fx (by simp; omega) (Nat.le_trans hs9 hW.size) ?_
        intro v' wA g1 g2 g3 g4
        obtain ⟨pv, cv, rfl⟩ := g1.out
        have hb7A : wA.heap[b7]? = _ := (g4.block b7 h7lt).trans (bheap hW hb7)
        have oaA := OwnC.grown (oa.below hW) g2 (by
          rcases hra : roomOf (.slice pa (s.take i).length ca) with _ | g
          · exact .inl rfl
          · right
            rcases hrb : roomOf (.slice pb (nl.take j).length cb) with _ | g'
            · simp
            · intro e; exact hd g hra (by rw [hrb, ← e]))
        have hdA : ∀ g, roomOf (.slice pa (s.take i).length ca) = some g → roomOf (.slice pv (nl.take j ++ [nth l ((j + t) % n)]).length cv) = some g → False := by
          intro g h1 h2
          rcases g3 with g3 | g3
          · exact hd g h1 (by rw [← g3]; exact h2)
          · rw [g3] at h2
            have := (OwnC.room (oa.below hW) g h1).2
            cases h2
            exact absurd this (Nat.lt_irrefl _)
        have esucc : nl.take (j + 1) = nl.take j ++ [nth l ((j + t) % n)] := by rw [take_succ_nth (by omega), hnth j hlt]
        simp only [Z00, Z01, Z02, Z03, Z04, Z05, Z06, Z07, Z08, Z09, ↓Z0a, ↓Z0b, ↓Z0c, ↓Z0d, ↓Z0e, ↓Z0f, ↓Z0g, ↓Z0h, ↓Z0i, ↓Z0j, ↓Z0k, ↓Z0l, ↓Z0m, ↓Z0n, ↓Z0o, ↓Z0p, resL, res1, resK, Z0q, Z0r, Z0s, Z0t, Z0u, Z0v, Z0w, Z0x, Z0y, Z0z, Z10, Z11, Z12, Z13, Z14, ↓Z15, ↓Z16, Z17, Z18, Z19, Z1a, Z1b, Z1c, ↓Z1d, ↓Z1e, Z1f, ↓Z1g, ↓Z1h, ↓Z1i, ↓Z1j, ↓Z1k, ↓Z1l, ↓Z1m, ↓Z1n, ↓Z1o, ↓Z1q, ↓Z1u, ↓Z1v, ↓Z1w, ↓Z1z, ↓Z20, ↓Z21, Y00, Z2h, ↓Z2i, ↓Z2j, ↓Z2k, ↓Z2l, ↓Z2m, ↓Z2o, ↓Z2t, ↓Z2u, ↓Z2v, ↓Z2x, Z2y, Z2z, Z30, Z31, Z32, Z33, ev_t, ev_c, ev_g, ev_f, hv_t, hv_f, hv_n, Z34, Z35, Z36, Y01, Y02, Y03, Y04, Y05, Z3a, Y06, Y07, nth?, Y08, Y09, Y0a, Y0b, Y0c, Y0d, Y0e, putN, Z3i, repL, Y0f, Y0g, Y0h, Y0i, Y0j, Y0k, Y0l, Y0m, Y0n, Y0o, Y0p, Y0q, Y0r, Y0s, Z3r, Z3s, Z3t, depB, Fd, Fall, Dis, Dis1, Z3u, Z3v, appC, appN, mapC, mapN, List.append_eq, Z3w, Array.toArray_toList, Z3x, Z3y, List.getElem?_cons_zero, List.getElem?_cons_succ, Nat.reduceAdd, Nat.reduceSub, Nat.reduceMul, Nat.reduceEqDiff, Nat.zero_add, Nat.add_zero, Nat.mul_one, Nat.zero_mul, if_true, if_false, eq_self, true_and, and_true, reduceCtorEq, false_and, Addr.add_lit, ne_eq, not_false_eq_true, Array.empty_append, Array.append_empty, ↓Z3z, ↓Z40, ↓Z41, ↓Z42, ↓Z43, ↓Z44, ↓Z45, List.getElem?_toArray, Z46, Int.toNat_natCast, Nat.sub_zero, Int.toNat_sub, Sx.Z47, ite_self, ty_3, ty_22, ty_23, ty_24, ty_54, h8]
        refine ⟨rfl, StA.of hb7A (by simp) (by simp [Value.oneCell']) ?_⟩
        intro wB uB
        rw [wi (n := (j : Int) + 1) (by omega) (by omega)]
        refine ⟨⟨j + 1, pa, pv, ca, cv, by simp, by omega, by rw [esucc]; exact uB.at_, OwnU.upd oaA uB h7lt, by rw [esucc]; exact g1.upd uB h7lt, by rw [esucc]; exact hdA, ?_, ?_⟩, by simp [intOf, h8]; omega⟩
        · exact ((hB9.trans (hW.mono hB9.size)).trans (g4.mono hB7.size)).trans (uB.below h7ge)
        · have h1 := hW.size
          have h2 := g4.size
          have h3 := uB.size
          omega
      · obtain rfl : j = n := by omega
        rw [← hnl, List.take_length] at hb7 ob hd
        exact ⟨pa, pb, ca, cb, hb7, oa, ob, hd, hB9⟩
    · rintro u9 w9 ⟨pa, pb, ca, cb, hb7, oa, ob, hd, hB9⟩
      simp only [ldAgg_blk (n := 2) hb7 rfl, Z00, Z01, Z02, Z03, Z04, Z05, Z06, Z07, Z08, Z09, ↓Z0a, ↓Z0b, ↓Z0c, ↓Z0d, ↓Z0e, ↓Z0f, ↓Z0g, ↓Z0h, ↓Z0i, ↓Z0j, ↓Z0k, ↓Z0l, ↓Z0m, ↓Z0n, ↓Z0o, ↓Z0p, resL, res1, resK, Z0q, Z0r, Z0s, Z0t, Z0u, Z0v, Z0w, Z0x, Z0y, Z0z, Z10, Z11, Z12, Z13, Z14, ↓Z15, ↓Z16, Z17, Z18, Z19, Z1a, Z1b, Z1c, ↓Z1d, ↓Z1e, Z1f, ↓Z1g, ↓Z1h, ↓Z1i, ↓Z1j, ↓Z1k, ↓Z1l, ↓Z1m, ↓Z1n, ↓Z1o, ↓Z1q, ↓Z1u, ↓Z1v, ↓Z1w, ↓Z1z, ↓Z20, ↓Z21, Y00, Z2h, ↓Z2i, ↓Z2j, ↓Z2k, ↓Z2l, ↓Z2m, ↓Z2o, ↓Z2t, ↓Z2u, ↓Z2v, ↓Z2x, Z2y, Z2z, Z30, Z31, Z32, Z33, ev_t, ev_c, ev_g, ev_f, hv_t, hv_f, hv_n, Z34, Z35, Z36, Y01, Y02, Y03, Y04, Y05, Z3a, Y06, Y07, nth?, Y08, Y09, Y0a, Y0b, Y0c, Y0d, Y0e, putN, Z3i, repL, Y0f, Y0g, Y0h, Y0i, Y0j, Y0k, Y0l, Y0m, Y0n, Y0o, Y0p, Y0q, Y0r, Y0s, Z3r, Z3s, Z3t, depB, Fd, Fall, Dis, Dis1, Z3u, Z3v, appC, appN, mapC, mapN, List.append_eq, Z3w, Array.toArray_toList, Z3x, Z3y, List.getElem?_cons_zero, List.getElem?_cons_succ, Nat.reduceAdd, Nat.reduceSub, Nat.reduceMul, Nat.reduceEqDiff, Nat.zero_add, Nat.add_zero, Nat.mul_one, Nat.zero_mul, if_true, if_false, eq_self, true_and, and_true, reduceCtorEq, false_and, Addr.add_lit, ne_eq, not_false_eq_true, Array.empty_append, Array.append_empty, ↓Z3z, ↓Z40, ↓Z41, ↓Z42, ↓Z43, ↓Z44, ↓Z45, List.getElem?_toArray, Z46, Int.toNat_natCast, Nat.sub_zero, Int.toNat_sub, Sx.Z47, ite_self, ty_3, ty_22, ty_23, ty_24, ty_54]
      rw [hstem, hloop]
      exact ⟨rfl, ret_ownW (base := w7.heap.size) (bheap hB9 n2.at_) rfl rfl rfl ⟨_, _, rfl, oa, ob, hd⟩ (Nat.lt_of_lt_of_le hb2 hB7.size) hb2' (hB.trans (hB9.mono hsz))⟩
  · have hlt : n < l.length := by
      rcases Nat.lt_or_eq_of_le hn2 with h | rfl
      · exact h
      · exact absurd good_len hg
    rw [wi (by omega) (by omega)]
    exact ⟨⟨n + 1, by simp, by omega, by omega, hB4, by rw [hper, perFrom_no hlt hg]⟩, by simp [intOf, h3]; omega⟩
end Go.Proofs.YtdpfafgecchafaaDoor

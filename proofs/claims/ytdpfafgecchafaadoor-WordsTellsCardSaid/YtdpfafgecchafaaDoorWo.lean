/- Words: works. -/
import Derived.Test.YtdpfafgecchafaaDoorWn
import Derived.Test.YtdpfafgecchafaaDoorWk
import Derived.Test.YtdpfafgecchafaaDoorWl
set_option linter.unusedVariables false
set_option maxRecDepth 20000
set_option linter.unusedSimpArgs false
namespace Go.Proofs.YtdpfafgecchafaaDoor
open Go Go.RowKit Sx

theorem rdLit {w w' : World} {b : Nat} {e : TypeId} (l : List Int) (n : New w b (.cells (nums .u16 l).toArray e) w') (hl : l.length ≤ 1000 := by decide) : RdI .u16 w' (.slice (some ⟨b, 0, none⟩) l.length l.length) l := by
  refine rd_of_cells n.at_ rfl (Nat.le_refl _) (by simp only [maxLen]; omega) (by simp only [most]; omega) fun j hj => ?_
  rw [List.getElem?_toArray, nums_get _ _ _ hj]

/-- a block is laid and written whole -/
theorem StA.new {w w' : World} {b : Nat} {cs : Array Value} {e : TypeId} {vs : List Value} {K : World → Prop} (n : New w b (.cells cs e (0, 0)) w') (hl : vs.length = cs.size) (h1 : ∀ v ∈ vs, v.oneCell' = true)
    (hk : ∀ w'', New w b (.cells vs.toArray e (0, 0)) w'' → K w'') : StA w' ⟨b, 0, none⟩ vs K := by
  refine StA.of n.at_ (by omega) h1 ?_
  intro w'' u
  refine hk w'' ⟨n.hb, n.ext.trans (u.below (Nat.le_of_eq n.hb.symm)), ?_, by rw [u.size, n.size]⟩
  have := u.at_
  have e : cs.toList.drop (0 + vs.length) = [] := List.drop_eq_nil_of_le (by simp; omega)
  rw [e] at this
  simpa using this
theorem U16.of {l : List Int} (h : l.all (fun x => decide (0 ≤ x ∧ x ≤ 65535)) = true) : U16 l := by
  intro x hx
  have := List.all_eq_true.1 h x hx
  have := of_decide_eq_true this
  omega

theorem dg {n : Nat} (h : n < 10) : digs (n : Int) = [UInt8.ofNat (48 + n)] := dig_small (by simpa using h)
theorem dg0 : digs 0 = [48] := dg (n := 0) (by decide)
theorem dg1 : digs 1 = [49] := dg (n := 1) (by decide)
theorem dg2 : digs 2 = [50] := dg (n := 2) (by decide)
theorem dg3 : digs 3 = [51] := dg (n := 3) (by decide)
theorem dg4 : digs 4 = [52] := dg (n := 4) (by decide)
theorem strEq_self (a : ByteArray) : strEq a a = true := by
  rw [st_of a, st_strEq]; simp
theorem works_all : ((wordsOf 1 2).flatMap fun x => showOf x.1 x.2) = [40, 48, 41, 40, 49, 41, 40, 48, 32, 49, 41, 40, 49, 32, 48, 41, 48, 32, 40, 49, 41, 49, 32, 40, 48, 41] := by
  rw [show wordsOf 1 2 = [([], [0]), ([], [1]), ([], [0, 1]), ([], [1, 0]), ([0], [1]), ([1], [0])] by decide]
  simp only [List.flatMap_cons, List.flatMap_nil, showOf, showS, showL, dg0, dg1]
  rfl
theorem show1 : st (showOf [1] [2, 3]) = ⟨#[49, 32, 40, 50, 32, 51, 41]⟩ := by
  simp only [showOf, showS, showL, dg1, dg2, dg3]; rfl
theorem show2 : st (showOf [] [4, 3]) = ⟨#[40, 52, 32, 51, 41]⟩ := by
  simp only [showOf, showS, showL, dg4, dg3]; rfl
theorem show3 : st ((wordsOf 1 2).flatMap fun x => showOf x.1 x.2) = ⟨#[40, 48, 41, 40, 49, 41, 40, 48, 32, 49, 41, 40, 49, 32, 48, 41, 48, 32, 40, 49, 41, 49, 32, 40, 48, 41]⟩ := by
  rw [works_all]; rfl

set_option maxHeartbeats 4000000 in
theorem works_any (w : World) (B : Nat) (ht : Tab B w) (hBw : B ≤ w.heap.size) : CallG C.P 8 #[] w (Ans w (.bool true)) := by
  refine fn_okM (C := C) (args := []) 141 [.tmp 0] Tryd.func8 rfl rfl rfl rfl ?_
  simp only [Tryd.f8, Z00, Z01, Z02, Z03, Z04, Z05, Z06, Z07, Z08, Z09, ↓Z0a, ↓Z0b, ↓Z0c, ↓Z0d, ↓Z0e, ↓Z0f, ↓Z0g, ↓Z0h, ↓Z0i, ↓Z0j, ↓Z0k, ↓Z0l, ↓Z0m, ↓Z0n, ↓Z0o, ↓Z0p, resL, res1, resK, Z0q, Z0r, Z0s, Z0t, Z0u, Z0v, Z0w, Z0x, Z0y, Z0z, Z10, Z11, Z12, Z13, Z14, ↓Z15, ↓Z16, Z17, Z18, Z19, Z1a, Z1b, Z1c, ↓Z1d, ↓Z1e, Z1f, ↓Z1g, ↓Z1h, ↓Z1i, ↓Z1j, ↓Z1l, ↓Z1m, ↓Z1n, ↓Z1o, ↓Z1q, ↓Z1v, ↓Z1w, ↓Z1x, ↓Z1z, ↓Z20, ↓Z21, Y00, Z2h, ↓Z2i, ↓Z2j, ↓Z2k, ↓Z2l, ↓Z2m, ↓Z2o, ↓Z2u, ↓Z2v, ↓Z2w, ↓Z2x, Z2y, Z2z, Z30, Z31, Z32, Z33, ev_t, ev_c, ev_g, ev_f, hv_t, hv_f, hv_n, Z34, Z35, Z36, Y01, Y02, Y03, Y04, Y05, Z3a, Y06, Y07, nth?, Y08, Y09, Y0a, Y0b, Y0c, Y0d, Y0e, putN, Z3i, repL, Y0f, Y0g, Y0h, Y0i, Y0j, Y0k, Y0l, Y0m, Y0n, Y0o, Y0p, Y0q, Y0r, Y0s, Z3r, Z3s, Z3t, depB, Fd, Fall, Dis, Dis1, Z3u, Z3v, appC, appN, mapC, mapN, List.append_eq, Z3w, Array.toArray_toList, Z3x, Z3y, List.getElem?_cons_zero, List.getElem?_cons_succ, Nat.reduceAdd, Nat.reduceSub, Nat.reduceMul, Nat.reduceEqDiff, Nat.zero_add, Nat.add_zero, Nat.mul_one, Nat.zero_mul, if_true, if_false, eq_self, true_and, and_true, reduceCtorEq, false_and, Addr.add_lit, ne_eq, not_false_eq_true, Array.empty_append, Array.append_empty, ↓Z3z, ↓Z40, ↓Z41, ↓Z42, ↓Z43, ↓Z44, ↓Z45, List.getElem?_toArray, Z46, Int.toNat_natCast, Nat.sub_zero, Int.toNat_sub, Sx.Z47, ite_self, ty_3, ty_9, ty_22, ty_23, ty_24, ty_50, ty_54, ty_63, ty_64]
  -- 1
  refine ⟨by decide, by decide, by decide, ?_⟩
  intro b1 w1 n1
  refine ⟨by decide, by decide, by decide, by decide, by decide, ?_⟩
  intro b2 w2 n2
  refine ⟨rfl, ⟨rfl, by simp⟩, ⟨rfl, by simp⟩, ?_⟩
  intro b3 w3 n3
  simp only [Z00, Z01, Z02, Z03, Z04, Z05, Z06, Z07, Z08, Z09, ↓Z0a, ↓Z0b, ↓Z0c, ↓Z0d, ↓Z0e, ↓Z0f, ↓Z0g, ↓Z0h, ↓Z0i, ↓Z0j, ↓Z0k, ↓Z0l, ↓Z0m, ↓Z0n, ↓Z0o, ↓Z0p, resL, res1, resK, Z0q, Z0r, Z0s, Z0t, Z0u, Z0v, Z0w, Z0x, Z0y, Z0z, Z10, Z11, Z12, Z13, Z14, ↓Z15, ↓Z16, Z17, Z18, Z19, Z1a, Z1b, Z1c, ↓Z1d, ↓Z1e, Z1f, ↓Z1g, ↓Z1h, ↓Z1i, ↓Z1j, ↓Z1l, ↓Z1m, ↓Z1n, ↓Z1o, ↓Z1q, ↓Z1v, ↓Z1w, ↓Z1x, ↓Z1z, ↓Z20, ↓Z21, Y00, Z2h, ↓Z2i, ↓Z2j, ↓Z2k, ↓Z2l, ↓Z2m, ↓Z2o, ↓Z2u, ↓Z2v, ↓Z2w, ↓Z2x, Z2y, Z2z, Z30, Z31, Z32, Z33, ev_t, ev_c, ev_g, ev_f, hv_t, hv_f, hv_n, Z34, Z35, Z36, Y01, Y02, Y03, Y04, Y05, Z3a, Y06, Y07, nth?, Y08, Y09, Y0a, Y0b, Y0c, Y0d, Y0e, putN, Z3i, repL, Y0f, Y0g, Y0h, Y0i, Y0j, Y0k, Y0l, Y0m, Y0n, Y0o, Y0p, Y0q, Y0r, Y0s, Z3r, Z3s, Z3t, depB, Fd, Fall, Dis, Dis1, Z3u, Z3v, appC, appN, mapC, mapN, List.append_eq, Z3w, Array.toArray_toList, Z3x, Z3y, List.getElem?_cons_zero, List.getElem?_cons_succ, Nat.reduceAdd, Nat.reduceSub, Nat.reduceMul, Nat.reduceEqDiff, Nat.zero_add, Nat.add_zero, Nat.mul_one, Nat.zero_mul, if_true, if_false, eq_self, true_and, and_true, reduceCtorEq, false_and, Addr.add_lit, ne_eq, not_false_eq_true, Array.empty_append, Array.append_empty, ↓Z3z, ↓Z40, ↓Z41, ↓Z42, ↓Z43, ↓Z44, ↓Z45, List.getElem?_toArray, Z46, Int.toNat_natCast, Nat.sub_zero, Int.toNat_sub, Sx.Z47, ite_self, ty_3, ty_9, ty_22, ty_23, ty_24, ty_50, ty_54, ty_63, ty_64]
  refine ⟨rfl, StA.new n3 rfl (by simp [Value.oneCell']) ?_⟩
  clear n3 w3
  intro w3 n3
  have hB1 := n1.ext
  have hB2 := hB1.trans (n2.ext.mono hB1.size)
  have hB3 := hB2.trans (n3.ext.mono hB2.size)
  have r12 : RdI .u16 w3 (.slice (some ⟨b1, 0, none⟩) 2 2) [1, 2] := ((rdLit [1, 2] n1).below n2.ext).below n3.ext
  have r3232 : RdI .u16 w3 (.slice (some ⟨b2, 0, none⟩) 4 4) [3, 2, 3, 2] := (rdLit [3, 2, 3, 2] n2).below n3.ext
  simp only [ldAgg_blk (n := 2) n3.at_ rfl, Z00, Z01, Z02, Z03, Z04, Z05, Z06, Z07, Z08, Z09, ↓Z0a, ↓Z0b, ↓Z0c, ↓Z0d, ↓Z0e, ↓Z0f, ↓Z0g, ↓Z0h, ↓Z0i, ↓Z0j, ↓Z0k, ↓Z0l, ↓Z0m, ↓Z0n, ↓Z0o, ↓Z0p, resL, res1, resK, Z0q, Z0r, Z0s, Z0t, Z0u, Z0v, Z0w, Z0x, Z0y, Z0z, Z10, Z11, Z12, Z13, Z14, ↓Z15, ↓Z16, Z17, Z18, Z19, Z1a, Z1b, Z1c, ↓Z1d, ↓Z1e, Z1f, ↓Z1g, ↓Z1h, ↓Z1i, ↓Z1j, ↓Z1l, ↓Z1m, ↓Z1n, ↓Z1o, ↓Z1q, ↓Z1v, ↓Z1w, ↓Z1x, ↓Z1z, ↓Z20, ↓Z21, Y00, Z2h, ↓Z2i, ↓Z2j, ↓Z2k, ↓Z2l, ↓Z2m, ↓Z2o, ↓Z2u, ↓Z2v, ↓Z2w, ↓Z2x, Z2y, Z2z, Z30, Z31, Z32, Z33, ev_t, ev_c, ev_g, ev_f, hv_t, hv_f, hv_n, Z34, Z35, Z36, Y01, Y02, Y03, Y04, Y05, Z3a, Y06, Y07, nth?, Y08, Y09, Y0a, Y0b, Y0c, Y0d, Y0e, putN, Z3i, repL, Y0f, Y0g, Y0h, Y0i, Y0j, Y0k, Y0l, Y0m, Y0n, Y0o, Y0p, Y0q, Y0r, Y0s, Z3r, Z3s, Z3t, depB, Fd, Fall, Dis, Dis1, Z3u, Z3v, appC, appN, mapC, mapN, List.append_eq, Z3w, Array.toArray_toList, Z3x, Z3y, List.getElem?_cons_zero, List.getElem?_cons_succ, Nat.reduceAdd, Nat.reduceSub, Nat.reduceMul, Nat.reduceEqDiff, Nat.zero_add, Nat.add_zero, Nat.mul_one, Nat.zero_mul, if_true, if_false, eq_self, true_and, and_true, reduceCtorEq, false_and, Addr.add_lit, ne_eq, not_false_eq_true, Array.empty_append, Array.append_empty, ↓Z3z, ↓Z40, ↓Z41, ↓Z42, ↓Z43, ↓Z44, ↓Z45, List.getElem?_toArray, Z46, Int.toNat_natCast, Nat.sub_zero, Int.toNat_sub, Sx.Z47, ite_self, ty_3, ty_9, ty_22, ty_23, ty_24, ty_50, ty_54, ty_63, ty_64]
  refine (normal_any w3 [1, 2] [3, 2, 3, 2] _ ⟨_, _, rfl, r12, r3232⟩ (by decide) (by decide)).mono ?_
  rintro v w4 ⟨o4, h4⟩
  have hB4 := hB3.trans (h4.mono hB3.size)
  have o4 : OwnW w4 w3.heap.size v [1] [2, 3] := o4
  obtain ⟨p1, c1, p2, c2, rfl⟩ := o4.out
  simp only [Z00, Z01, Z02, Z03, Z04, Z05, Z06, Z07, Z08, Z09, ↓Z0a, ↓Z0b, ↓Z0c, ↓Z0d, ↓Z0e, ↓Z0f, ↓Z0g, ↓Z0h, ↓Z0i, ↓Z0j, ↓Z0k, ↓Z0l, ↓Z0m, ↓Z0n, ↓Z0o, ↓Z0p, resL, res1, resK, Z0q, Z0r, Z0s, Z0t, Z0u, Z0v, Z0w, Z0x, Z0y, Z0z, Z10, Z11, Z12, Z13, Z14, ↓Z15, ↓Z16, Z17, Z18, Z19, Z1a, Z1b, Z1c, ↓Z1d, ↓Z1e, Z1f, ↓Z1g, ↓Z1h, ↓Z1i, ↓Z1j, ↓Z1l, ↓Z1m, ↓Z1n, ↓Z1o, ↓Z1q, ↓Z1v, ↓Z1w, ↓Z1x, ↓Z1z, ↓Z20, ↓Z21, Y00, Z2h, ↓Z2i, ↓Z2j, ↓Z2k, ↓Z2l, ↓Z2m, ↓Z2o, ↓Z2u, ↓Z2v, ↓Z2w, ↓Z2x, Z2y, Z2z, Z30, Z31, Z32, Z33, ev_t, ev_c, ev_g, ev_f, hv_t, hv_f, hv_n, Z34, Z35, Z36, Y01, Y02, Y03, Y04, Y05, Z3a, Y06, Y07, nth?, Y08, Y09, Y0a, Y0b, Y0c, Y0d, Y0e, putN, Z3i, repL, Y0f, Y0g, Y0h, Y0i, Y0j, Y0k, Y0l, Y0m, Y0n, Y0o, Y0p, Y0q, Y0r, Y0s, Z3r, Z3s, Z3t, depB, Fd, Fall, Dis, Dis1, Z3u, Z3v, appC, appN, mapC, mapN, List.append_eq, Z3w, Array.toArray_toList, Z3x, Z3y, List.getElem?_cons_zero, List.getElem?_cons_succ, Nat.reduceAdd, Nat.reduceSub, Nat.reduceMul, Nat.reduceEqDiff, Nat.zero_add, Nat.add_zero, Nat.mul_one, Nat.zero_mul, if_true, if_false, eq_self, true_and, and_true, reduceCtorEq, false_and, Addr.add_lit, ne_eq, not_false_eq_true, Array.empty_append, Array.append_empty, ↓Z3z, ↓Z40, ↓Z41, ↓Z42, ↓Z43, ↓Z44, ↓Z45, List.getElem?_toArray, Z46, Int.toNat_natCast, Nat.sub_zero, Int.toNat_sub, Sx.Z47, ite_self, ty_3, ty_9, ty_22, ty_23, ty_24, ty_50, ty_54, ty_63, ty_64]
  intro b4 w5 n5
  simp only [Z00, Z01, Z02, Z03, Z04, Z05, Z06, Z07, Z08, Z09, ↓Z0a, ↓Z0b, ↓Z0c, ↓Z0d, ↓Z0e, ↓Z0f, ↓Z0g, ↓Z0h, ↓Z0i, ↓Z0j, ↓Z0k, ↓Z0l, ↓Z0m, ↓Z0n, ↓Z0o, ↓Z0p, resL, res1, resK, Z0q, Z0r, Z0s, Z0t, Z0u, Z0v, Z0w, Z0x, Z0y, Z0z, Z10, Z11, Z12, Z13, Z14, ↓Z15, ↓Z16, Z17, Z18, Z19, Z1a, Z1b, Z1c, ↓Z1d, ↓Z1e, Z1f, ↓Z1g, ↓Z1h, ↓Z1i, ↓Z1j, ↓Z1l, ↓Z1m, ↓Z1n, ↓Z1o, ↓Z1q, ↓Z1v, ↓Z1w, ↓Z1x, ↓Z1z, ↓Z20, ↓Z21, Y00, Z2h, ↓Z2i, ↓Z2j, ↓Z2k, ↓Z2l, ↓Z2m, ↓Z2o, ↓Z2u, ↓Z2v, ↓Z2w, ↓Z2x, Z2y, Z2z, Z30, Z31, Z32, Z33, ev_t, ev_c, ev_g, ev_f, hv_t, hv_f, hv_n, Z34, Z35, Z36, Y01, Y02, Y03, Y04, Y05, Z3a, Y06, Y07, nth?, Y08, Y09, Y0a, Y0b, Y0c, Y0d, Y0e, putN, Z3i, repL, Y0f, Y0g, Y0h, Y0i, Y0j, Y0k, Y0l, Y0m, Y0n, Y0o, Y0p, Y0q, Y0r, Y0s, Z3r, Z3s, Z3t, depB, Fd, Fall, Dis, Dis1, Z3u, Z3v, appC, appN, mapC, mapN, List.append_eq, Z3w, Array.toArray_toList, Z3x, Z3y, List.getElem?_cons_zero, List.getElem?_cons_succ, Nat.reduceAdd, Nat.reduceSub, Nat.reduceMul, Nat.reduceEqDiff, Nat.zero_add, Nat.add_zero, Nat.mul_one, Nat.zero_mul, if_true, if_false, eq_self, true_and, and_true, reduceCtorEq, false_and, Addr.add_lit, ne_eq, not_false_eq_true, Array.empty_append, Array.append_empty, ↓Z3z, ↓Z40, ↓Z41, ↓Z42, ↓Z43, ↓Z44, ↓Z45, List.getElem?_toArray, Z46, Int.toNat_natCast, Nat.sub_zero, Int.toNat_sub, Sx.Z47, ite_self, ty_3, ty_9, ty_22, ty_23, ty_24, ty_50, ty_54, ty_63, ty_64]
  refine ⟨rfl, StA.new n5 rfl (by simp [Value.oneCell']) ?_⟩
  clear n5 w5
  intro w5 n5
  have hB5 := hB4.trans (n5.ext.mono hB4.size)
  simp only [ldAgg_blk (n := 2) n5.at_ rfl, Z00, Z01, Z02, Z03, Z04, Z05, Z06, Z07, Z08, Z09, ↓Z0a, ↓Z0b, ↓Z0c, ↓Z0d, ↓Z0e, ↓Z0f, ↓Z0g, ↓Z0h, ↓Z0i, ↓Z0j, ↓Z0k, ↓Z0l, ↓Z0m, ↓Z0n, ↓Z0o, ↓Z0p, resL, res1, resK, Z0q, Z0r, Z0s, Z0t, Z0u, Z0v, Z0w, Z0x, Z0y, Z0z, Z10, Z11, Z12, Z13, Z14, ↓Z15, ↓Z16, Z17, Z18, Z19, Z1a, Z1b, Z1c, ↓Z1d, ↓Z1e, Z1f, ↓Z1g, ↓Z1h, ↓Z1i, ↓Z1j, ↓Z1l, ↓Z1m, ↓Z1n, ↓Z1o, ↓Z1q, ↓Z1v, ↓Z1w, ↓Z1x, ↓Z1z, ↓Z20, ↓Z21, Y00, Z2h, ↓Z2i, ↓Z2j, ↓Z2k, ↓Z2l, ↓Z2m, ↓Z2o, ↓Z2u, ↓Z2v, ↓Z2w, ↓Z2x, Z2y, Z2z, Z30, Z31, Z32, Z33, ev_t, ev_c, ev_g, ev_f, hv_t, hv_f, hv_n, Z34, Z35, Z36, Y01, Y02, Y03, Y04, Y05, Z3a, Y06, Y07, nth?, Y08, Y09, Y0a, Y0b, Y0c, Y0d, Y0e, putN, Z3i, repL, Y0f, Y0g, Y0h, Y0i, Y0j, Y0k, Y0l, Y0m, Y0n, Y0o, Y0p, Y0q, Y0r, Y0s, Z3r, Z3s, Z3t, depB, Fd, Fall, Dis, Dis1, Z3u, Z3v, appC, appN, mapC, mapN, List.append_eq, Z3w, Array.toArray_toList, Z3x, Z3y, List.getElem?_cons_zero, List.getElem?_cons_succ, Nat.reduceAdd, Nat.reduceSub, Nat.reduceMul, Nat.reduceEqDiff, Nat.zero_add, Nat.add_zero, Nat.mul_one, Nat.zero_mul, if_true, if_false, eq_self, true_and, and_true, reduceCtorEq, false_and, Addr.add_lit, ne_eq, not_false_eq_true, Array.empty_append, Array.append_empty, ↓Z3z, ↓Z40, ↓Z41, ↓Z42, ↓Z43, ↓Z44, ↓Z45, List.getElem?_toArray, Z46, Int.toNat_natCast, Nat.sub_zero, Int.toNat_sub, Sx.Z47, ite_self, ty_3, ty_9, ty_22, ty_23, ty_24, ty_50, ty_54, ty_63, ty_64]
  refine (show_any w5 B _ _ _ (o4.rd.below n5.ext) (by decide) (by decide) (U16.of (by decide)) (U16.of (by decide)) (ht.on hB5 hBw) (Nat.le_trans hBw hB5.size)).mono ?_
  rintro v w6 ⟨rfl, h6⟩
  have hB6 := hB5.trans (h6.mono hB5.size)
  simp only [Z00, Z01, Z02, Z03, Z04, Z05, Z06, Z07, Z08, Z09, ↓Z0a, ↓Z0b, ↓Z0c, ↓Z0d, ↓Z0e, ↓Z0f, ↓Z0g, ↓Z0h, ↓Z0i, ↓Z0j, ↓Z0k, ↓Z0l, ↓Z0m, ↓Z0n, ↓Z0o, ↓Z0p, resL, res1, resK, Z0q, Z0r, Z0s, Z0t, Z0u, Z0v, Z0w, Z0x, Z0y, Z0z, Z10, Z11, Z12, Z13, Z14, ↓Z15, ↓Z16, Z17, Z18, Z19, Z1a, Z1b, Z1c, ↓Z1d, ↓Z1e, Z1f, ↓Z1g, ↓Z1h, ↓Z1i, ↓Z1j, ↓Z1l, ↓Z1m, ↓Z1n, ↓Z1o, ↓Z1q, ↓Z1v, ↓Z1w, ↓Z1x, ↓Z1z, ↓Z20, ↓Z21, Y00, Z2h, ↓Z2i, ↓Z2j, ↓Z2k, ↓Z2l, ↓Z2m, ↓Z2o, ↓Z2u, ↓Z2v, ↓Z2w, ↓Z2x, Z2y, Z2z, Z30, Z31, Z32, Z33, ev_t, ev_c, ev_g, ev_f, hv_t, hv_f, hv_n, Z34, Z35, Z36, Y01, Y02, Y03, Y04, Y05, Z3a, Y06, Y07, nth?, Y08, Y09, Y0a, Y0b, Y0c, Y0d, Y0e, putN, Z3i, repL, Y0f, Y0g, Y0h, Y0i, Y0j, Y0k, Y0l, Y0m, Y0n, Y0o, Y0p, Y0q, Y0r, Y0s, Z3r, Z3s, Z3t, depB, Fd, Fall, Dis, Dis1, Z3u, Z3v, appC, appN, mapC, mapN, List.append_eq, Z3w, Array.toArray_toList, Z3x, Z3y, List.getElem?_cons_zero, List.getElem?_cons_succ, Nat.reduceAdd, Nat.reduceSub, Nat.reduceMul, Nat.reduceEqDiff, Nat.zero_add, Nat.add_zero, Nat.mul_one, Nat.zero_mul, if_true, if_false, eq_self, true_and, and_true, reduceCtorEq, false_and, Addr.add_lit, ne_eq, not_false_eq_true, Array.empty_append, Array.append_empty, ↓Z3z, ↓Z40, ↓Z41, ↓Z42, ↓Z43, ↓Z44, ↓Z45, List.getElem?_toArray, Z46, Int.toNat_natCast, Nat.sub_zero, Int.toNat_sub, Sx.Z47, ite_self, ty_3, ty_9, ty_22, ty_23, ty_24, ty_50, ty_54, ty_63, ty_64]
  -- 4
  refine ⟨by decide, by decide, by decide, ?_⟩
  intro b6 w7 n7
  refine ⟨by decide, by decide, by decide, ?_⟩
  intro b7 w8 n8
  refine ⟨rfl, ⟨rfl, by simp⟩, ⟨rfl, by simp⟩, ?_⟩
  have hB7 := hB6.trans (n7.ext.mono hB6.size)
  have hB8 := hB7.trans (n8.ext.mono hB7.size)
  have r34 : RdI .u16 w8 (.slice (some ⟨b7, 0, none⟩) 2 2) [3, 4] := rdLit [3, 4] n8
  refine (suffix_any w8 [1, 2] [3, 4] _ 3 ⟨_, _, rfl, (rdLit [1, 2] n7).below n8.ext, r34⟩ (by decide) (by decide) (by decide)).mono ?_
  rintro v w9 ⟨o9, h9⟩
  have hB9 := hB8.trans (h9.mono hB8.size)
  have o9 : OwnW w9 w8.heap.size v [] [4, 3] := o9
  simp only [Z00, Z01, Z02, Z03, Z04, Z05, Z06, Z07, Z08, Z09, ↓Z0a, ↓Z0b, ↓Z0c, ↓Z0d, ↓Z0e, ↓Z0f, ↓Z0g, ↓Z0h, ↓Z0i, ↓Z0j, ↓Z0k, ↓Z0l, ↓Z0m, ↓Z0n, ↓Z0o, ↓Z0p, resL, res1, resK, Z0q, Z0r, Z0s, Z0t, Z0u, Z0v, Z0w, Z0x, Z0y, Z0z, Z10, Z11, Z12, Z13, Z14, ↓Z15, ↓Z16, Z17, Z18, Z19, Z1a, Z1b, Z1c, ↓Z1d, ↓Z1e, Z1f, ↓Z1g, ↓Z1h, ↓Z1i, ↓Z1j, ↓Z1l, ↓Z1m, ↓Z1n, ↓Z1o, ↓Z1q, ↓Z1v, ↓Z1w, ↓Z1x, ↓Z1z, ↓Z20, ↓Z21, Y00, Z2h, ↓Z2i, ↓Z2j, ↓Z2k, ↓Z2l, ↓Z2m, ↓Z2o, ↓Z2u, ↓Z2v, ↓Z2w, ↓Z2x, Z2y, Z2z, Z30, Z31, Z32, Z33, ev_t, ev_c, ev_g, ev_f, hv_t, hv_f, hv_n, Z34, Z35, Z36, Y01, Y02, Y03, Y04, Y05, Z3a, Y06, Y07, nth?, Y08, Y09, Y0a, Y0b, Y0c, Y0d, Y0e, putN, Z3i, repL, Y0f, Y0g, Y0h, Y0i, Y0j, Y0k, Y0l, Y0m, Y0n, Y0o, Y0p, Y0q, Y0r, Y0s, Z3r, Z3s, Z3t, depB, Fd, Fall, Dis, Dis1, Z3u, Z3v, appC, appN, mapC, mapN, List.append_eq, Z3w, Array.toArray_toList, Z3x, Z3y, List.getElem?_cons_zero, List.getElem?_cons_succ, Nat.reduceAdd, Nat.reduceSub, Nat.reduceMul, Nat.reduceEqDiff, Nat.zero_add, Nat.add_zero, Nat.mul_one, Nat.zero_mul, if_true, if_false, eq_self, true_and, and_true, reduceCtorEq, false_and, Addr.add_lit, ne_eq, not_false_eq_true, Array.empty_append, Array.append_empty, ↓Z3z, ↓Z40, ↓Z41, ↓Z42, ↓Z43, ↓Z44, ↓Z45, List.getElem?_toArray, Z46, Int.toNat_natCast, Nat.sub_zero, Int.toNat_sub, Sx.Z47, ite_self, ty_3, ty_9, ty_22, ty_23, ty_24, ty_50, ty_54, ty_63, ty_64]
  refine (show_any w9 B _ _ _ o9.rd (by decide) (by decide) (U16.of (by decide)) (U16.of (by decide)) (ht.on hB9 hBw) (Nat.le_trans hBw hB9.size)).mono ?_
  rintro v w10 ⟨rfl, h10⟩
  have hB10 := hB9.trans (h10.mono hB9.size)
  simp only [Z00, Z01, Z02, Z03, Z04, Z05, Z06, Z07, Z08, Z09, ↓Z0a, ↓Z0b, ↓Z0c, ↓Z0d, ↓Z0e, ↓Z0f, ↓Z0g, ↓Z0h, ↓Z0i, ↓Z0j, ↓Z0k, ↓Z0l, ↓Z0m, ↓Z0n, ↓Z0o, ↓Z0p, resL, res1, resK, Z0q, Z0r, Z0s, Z0t, Z0u, Z0v, Z0w, Z0x, Z0y, Z0z, Z10, Z11, Z12, Z13, Z14, ↓Z15, ↓Z16, Z17, Z18, Z19, Z1a, Z1b, Z1c, ↓Z1d, ↓Z1e, Z1f, ↓Z1g, ↓Z1h, ↓Z1i, ↓Z1j, ↓Z1l, ↓Z1m, ↓Z1n, ↓Z1o, ↓Z1q, ↓Z1v, ↓Z1w, ↓Z1x, ↓Z1z, ↓Z20, ↓Z21, Y00, Z2h, ↓Z2i, ↓Z2j, ↓Z2k, ↓Z2l, ↓Z2m, ↓Z2o, ↓Z2u, ↓Z2v, ↓Z2w, ↓Z2x, Z2y, Z2z, Z30, Z31, Z32, Z33, ev_t, ev_c, ev_g, ev_f, hv_t, hv_f, hv_n, Z34, Z35, Z36, Y01, Y02, Y03, Y04, Y05, Z3a, Y06, Y07, nth?, Y08, Y09, Y0a, Y0b, Y0c, Y0d, Y0e, putN, Z3i, repL, Y0f, Y0g, Y0h, Y0i, Y0j, Y0k, Y0l, Y0m, Y0n, Y0o, Y0p, Y0q, Y0r, Y0s, Z3r, Z3s, Z3t, depB, Fd, Fall, Dis, Dis1, Z3u, Z3v, appC, appN, mapC, mapN, List.append_eq, Z3w, Array.toArray_toList, Z3x, Z3y, List.getElem?_cons_zero, List.getElem?_cons_succ, Nat.reduceAdd, Nat.reduceSub, Nat.reduceMul, Nat.reduceEqDiff, Nat.zero_add, Nat.add_zero, Nat.mul_one, Nat.zero_mul, if_true, if_false, eq_self, true_and, and_true, reduceCtorEq, false_and, Addr.add_lit, ne_eq, not_false_eq_true, Array.empty_append, Array.append_empty, ↓Z3z, ↓Z40, ↓Z41, ↓Z42, ↓Z43, ↓Z44, ↓Z45, List.getElem?_toArray, Z46, Int.toNat_natCast, Nat.sub_zero, Int.toNat_sub, Sx.Z47, ite_self, ty_3, ty_9, ty_22, ty_23, ty_24, ty_50, ty_54, ty_63, ty_64]
  -- 5
  refine (read_any w10 [32, 49, 32, 50, 40, 51, 32, 32, 52, 32, 41, 32] (by decide)).mono ?_
  rintro v w11 ⟨o11, h11⟩
  have hB11 := hB10.trans (h11.mono hB10.size)
  rw [show readOf [32, 49, 32, 50, 40, 51, 32, 32, 52, 32, 41, 32] = .ok ([1, 2], [3, 4]) from rfl] at o11
  obtain ⟨x11, rfl, o11⟩ := o11
  obtain ⟨p1, c1, p2, c2, rfl⟩ := o11.out
  simp only [Z00, Z01, Z02, Z03, Z04, Z05, Z06, Z07, Z08, Z09, ↓Z0a, ↓Z0b, ↓Z0c, ↓Z0d, ↓Z0e, ↓Z0f, ↓Z0g, ↓Z0h, ↓Z0i, ↓Z0j, ↓Z0k, ↓Z0l, ↓Z0m, ↓Z0n, ↓Z0o, ↓Z0p, resL, res1, resK, Z0q, Z0r, Z0s, Z0t, Z0u, Z0v, Z0w, Z0x, Z0y, Z0z, Z10, Z11, Z12, Z13, Z14, ↓Z15, ↓Z16, Z17, Z18, Z19, Z1a, Z1b, Z1c, ↓Z1d, ↓Z1e, Z1f, ↓Z1g, ↓Z1h, ↓Z1i, ↓Z1j, ↓Z1l, ↓Z1m, ↓Z1n, ↓Z1o, ↓Z1q, ↓Z1v, ↓Z1w, ↓Z1x, ↓Z1z, ↓Z20, ↓Z21, Y00, Z2h, ↓Z2i, ↓Z2j, ↓Z2k, ↓Z2l, ↓Z2m, ↓Z2o, ↓Z2u, ↓Z2v, ↓Z2w, ↓Z2x, Z2y, Z2z, Z30, Z31, Z32, Z33, ev_t, ev_c, ev_g, ev_f, hv_t, hv_f, hv_n, Z34, Z35, Z36, Y01, Y02, Y03, Y04, Y05, Z3a, Y06, Y07, nth?, Y08, Y09, Y0a, Y0b, Y0c, Y0d, Y0e, putN, Z3i, repL, Y0f, Y0g, Y0h, Y0i, Y0j, Y0k, Y0l, Y0m, Y0n, Y0o, Y0p, Y0q, Y0r, Y0s, Z3r, Z3s, Z3t, depB, Fd, Fall, Dis, Dis1, Z3u, Z3v, appC, appN, mapC, mapN, List.append_eq, Z3w, Array.toArray_toList, Z3x, Z3y, List.getElem?_cons_zero, List.getElem?_cons_succ, Nat.reduceAdd, Nat.reduceSub, Nat.reduceMul, Nat.reduceEqDiff, Nat.zero_add, Nat.add_zero, Nat.mul_one, Nat.zero_mul, if_true, if_false, eq_self, true_and, and_true, reduceCtorEq, false_and, Addr.add_lit, ne_eq, not_false_eq_true, Array.empty_append, Array.append_empty, ↓Z3z, ↓Z40, ↓Z41, ↓Z42, ↓Z43, ↓Z44, ↓Z45, List.getElem?_toArray, Z46, Int.toNat_natCast, Nat.sub_zero, Int.toNat_sub, Sx.Z47, ite_self, ty_3, ty_9, ty_22, ty_23, ty_24, ty_50, ty_54, ty_63, ty_64]
  intro b11 w12 n12
  simp only [Z00, Z01, Z02, Z03, Z04, Z05, Z06, Z07, Z08, Z09, ↓Z0a, ↓Z0b, ↓Z0c, ↓Z0d, ↓Z0e, ↓Z0f, ↓Z0g, ↓Z0h, ↓Z0i, ↓Z0j, ↓Z0k, ↓Z0l, ↓Z0m, ↓Z0n, ↓Z0o, ↓Z0p, resL, res1, resK, Z0q, Z0r, Z0s, Z0t, Z0u, Z0v, Z0w, Z0x, Z0y, Z0z, Z10, Z11, Z12, Z13, Z14, ↓Z15, ↓Z16, Z17, Z18, Z19, Z1a, Z1b, Z1c, ↓Z1d, ↓Z1e, Z1f, ↓Z1g, ↓Z1h, ↓Z1i, ↓Z1j, ↓Z1l, ↓Z1m, ↓Z1n, ↓Z1o, ↓Z1q, ↓Z1v, ↓Z1w, ↓Z1x, ↓Z1z, ↓Z20, ↓Z21, Y00, Z2h, ↓Z2i, ↓Z2j, ↓Z2k, ↓Z2l, ↓Z2m, ↓Z2o, ↓Z2u, ↓Z2v, ↓Z2w, ↓Z2x, Z2y, Z2z, Z30, Z31, Z32, Z33, ev_t, ev_c, ev_g, ev_f, hv_t, hv_f, hv_n, Z34, Z35, Z36, Y01, Y02, Y03, Y04, Y05, Z3a, Y06, Y07, nth?, Y08, Y09, Y0a, Y0b, Y0c, Y0d, Y0e, putN, Z3i, repL, Y0f, Y0g, Y0h, Y0i, Y0j, Y0k, Y0l, Y0m, Y0n, Y0o, Y0p, Y0q, Y0r, Y0s, Z3r, Z3s, Z3t, depB, Fd, Fall, Dis, Dis1, Z3u, Z3v, appC, appN, mapC, mapN, List.append_eq, Z3w, Array.toArray_toList, Z3x, Z3y, List.getElem?_cons_zero, List.getElem?_cons_succ, Nat.reduceAdd, Nat.reduceSub, Nat.reduceMul, Nat.reduceEqDiff, Nat.zero_add, Nat.add_zero, Nat.mul_one, Nat.zero_mul, if_true, if_false, eq_self, true_and, and_true, reduceCtorEq, false_and, Addr.add_lit, ne_eq, not_false_eq_true, Array.empty_append, Array.append_empty, ↓Z3z, ↓Z40, ↓Z41, ↓Z42, ↓Z43, ↓Z44, ↓Z45, List.getElem?_toArray, Z46, Int.toNat_natCast, Nat.sub_zero, Int.toNat_sub, Sx.Z47, ite_self, ty_3, ty_9, ty_22, ty_23, ty_24, ty_50, ty_54, ty_63, ty_64]
  refine ⟨rfl, StA.new n12 rfl (by simp [Value.oneCell']) ?_⟩
  clear n12 w12
  intro w12 n12
  have hB := hB11.trans (n12.ext.mono hB11.size)
  have e11 := n12.at_
  have r5 := o11.rd.below n12.ext
  clear hB1 hB2 hB3 hB4 hB5 hB6 hB7 hB8 hB9 hB10 hB11 o4 o9 o11 h4 h6 h9 h10 h11 n5 n7 n8 n12 r34 r12 r3232
  -- 6
  refine (read_any w12 [40, 48, 49, 41] (by decide)).mono ?_
  rintro v w13 ⟨o13, h13⟩
  rw [show readOf [40, 48, 49, 41] = .error 2 from rfl] at o13
  have o13 : v = .tuple #[.agg #[.slice none 0 0, .slice none 0 0], .int .i64 51, .int .i64 2] := o13
  subst o13
  simp only [Z00, Z01, Z02, Z03, Z04, Z05, Z06, Z07, Z08, Z09, ↓Z0a, ↓Z0b, ↓Z0c, ↓Z0d, ↓Z0e, ↓Z0f, ↓Z0g, ↓Z0h, ↓Z0i, ↓Z0j, ↓Z0k, ↓Z0l, ↓Z0m, ↓Z0n, ↓Z0o, ↓Z0p, resL, res1, resK, Z0q, Z0r, Z0s, Z0t, Z0u, Z0v, Z0w, Z0x, Z0y, Z0z, Z10, Z11, Z12, Z13, Z14, ↓Z15, ↓Z16, Z17, Z18, Z19, Z1a, Z1b, Z1c, ↓Z1d, ↓Z1e, Z1f, ↓Z1g, ↓Z1h, ↓Z1i, ↓Z1j, ↓Z1l, ↓Z1m, ↓Z1n, ↓Z1o, ↓Z1q, ↓Z1v, ↓Z1w, ↓Z1x, ↓Z1z, ↓Z20, ↓Z21, Y00, Z2h, ↓Z2i, ↓Z2j, ↓Z2k, ↓Z2l, ↓Z2m, ↓Z2o, ↓Z2u, ↓Z2v, ↓Z2w, ↓Z2x, Z2y, Z2z, Z30, Z31, Z32, Z33, ev_t, ev_c, ev_g, ev_f, hv_t, hv_f, hv_n, Z34, Z35, Z36, Y01, Y02, Y03, Y04, Y05, Z3a, Y06, Y07, nth?, Y08, Y09, Y0a, Y0b, Y0c, Y0d, Y0e, putN, Z3i, repL, Y0f, Y0g, Y0h, Y0i, Y0j, Y0k, Y0l, Y0m, Y0n, Y0o, Y0p, Y0q, Y0r, Y0s, Z3r, Z3s, Z3t, depB, Fd, Fall, Dis, Dis1, Z3u, Z3v, appC, appN, mapC, mapN, List.append_eq, Z3w, Array.toArray_toList, Z3x, Z3y, List.getElem?_cons_zero, List.getElem?_cons_succ, Nat.reduceAdd, Nat.reduceSub, Nat.reduceMul, Nat.reduceEqDiff, Nat.zero_add, Nat.add_zero, Nat.mul_one, Nat.zero_mul, if_true, if_false, eq_self, true_and, and_true, reduceCtorEq, false_and, Addr.add_lit, ne_eq, not_false_eq_true, Array.empty_append, Array.append_empty, ↓Z3z, ↓Z40, ↓Z41, ↓Z42, ↓Z43, ↓Z44, ↓Z45, List.getElem?_toArray, Z46, Int.toNat_natCast, Nat.sub_zero, Int.toNat_sub, Sx.Z47, ite_self, ty_3, ty_9, ty_22, ty_23, ty_24, ty_50, ty_54, ty_63, ty_64]
  intro b13 w14 n14
  simp only [Z00, Z01, Z02, Z03, Z04, Z05, Z06, Z07, Z08, Z09, ↓Z0a, ↓Z0b, ↓Z0c, ↓Z0d, ↓Z0e, ↓Z0f, ↓Z0g, ↓Z0h, ↓Z0i, ↓Z0j, ↓Z0k, ↓Z0l, ↓Z0m, ↓Z0n, ↓Z0o, ↓Z0p, resL, res1, resK, Z0q, Z0r, Z0s, Z0t, Z0u, Z0v, Z0w, Z0x, Z0y, Z0z, Z10, Z11, Z12, Z13, Z14, ↓Z15, ↓Z16, Z17, Z18, Z19, Z1a, Z1b, Z1c, ↓Z1d, ↓Z1e, Z1f, ↓Z1g, ↓Z1h, ↓Z1i, ↓Z1j, ↓Z1l, ↓Z1m, ↓Z1n, ↓Z1o, ↓Z1q, ↓Z1v, ↓Z1w, ↓Z1x, ↓Z1z, ↓Z20, ↓Z21, Y00, Z2h, ↓Z2i, ↓Z2j, ↓Z2k, ↓Z2l, ↓Z2m, ↓Z2o, ↓Z2u, ↓Z2v, ↓Z2w, ↓Z2x, Z2y, Z2z, Z30, Z31, Z32, Z33, ev_t, ev_c, ev_g, ev_f, hv_t, hv_f, hv_n, Z34, Z35, Z36, Y01, Y02, Y03, Y04, Y05, Z3a, Y06, Y07, nth?, Y08, Y09, Y0a, Y0b, Y0c, Y0d, Y0e, putN, Z3i, repL, Y0f, Y0g, Y0h, Y0i, Y0j, Y0k, Y0l, Y0m, Y0n, Y0o, Y0p, Y0q, Y0r, Y0s, Z3r, Z3s, Z3t, depB, Fd, Fall, Dis, Dis1, Z3u, Z3v, appC, appN, mapC, mapN, List.append_eq, Z3w, Array.toArray_toList, Z3x, Z3y, List.getElem?_cons_zero, List.getElem?_cons_succ, Nat.reduceAdd, Nat.reduceSub, Nat.reduceMul, Nat.reduceEqDiff, Nat.zero_add, Nat.add_zero, Nat.mul_one, Nat.zero_mul, if_true, if_false, eq_self, true_and, and_true, reduceCtorEq, false_and, Addr.add_lit, ne_eq, not_false_eq_true, Array.empty_append, Array.append_empty, ↓Z3z, ↓Z40, ↓Z41, ↓Z42, ↓Z43, ↓Z44, ↓Z45, List.getElem?_toArray, Z46, Int.toNat_natCast, Nat.sub_zero, Int.toNat_sub, Sx.Z47, ite_self, ty_3, ty_9, ty_22, ty_23, ty_24, ty_50, ty_54, ty_63, ty_64]
  refine ⟨rfl, StA.new n14 rfl (by simp [Value.oneCell']) ?_⟩
  clear n14 w14
  intro w14 n14
  replace h13 := h13.trans (n14.ext.mono h13.size)
  replace hB := hB.trans (h13.mono hB.size)
  replace e11 := bheap h13 e11
  replace r5 := r5.below h13
  -- 7
  simp only [ldAgg_blk (n := 2) e11 rfl, Z00, Z01, Z02, Z03, Z04, Z05, Z06, Z07, Z08, Z09, ↓Z0a, ↓Z0b, ↓Z0c, ↓Z0d, ↓Z0e, ↓Z0f, ↓Z0g, ↓Z0h, ↓Z0i, ↓Z0j, ↓Z0k, ↓Z0l, ↓Z0m, ↓Z0n, ↓Z0o, ↓Z0p, resL, res1, resK, Z0q, Z0r, Z0s, Z0t, Z0u, Z0v, Z0w, Z0x, Z0y, Z0z, Z10, Z11, Z12, Z13, Z14, ↓Z15, ↓Z16, Z17, Z18, Z19, Z1a, Z1b, Z1c, ↓Z1d, ↓Z1e, Z1f, ↓Z1g, ↓Z1h, ↓Z1i, ↓Z1j, ↓Z1l, ↓Z1m, ↓Z1n, ↓Z1o, ↓Z1q, ↓Z1v, ↓Z1w, ↓Z1x, ↓Z1z, ↓Z20, ↓Z21, Y00, Z2h, ↓Z2i, ↓Z2j, ↓Z2k, ↓Z2l, ↓Z2m, ↓Z2o, ↓Z2u, ↓Z2v, ↓Z2w, ↓Z2x, Z2y, Z2z, Z30, Z31, Z32, Z33, ev_t, ev_c, ev_g, ev_f, hv_t, hv_f, hv_n, Z34, Z35, Z36, Y01, Y02, Y03, Y04, Y05, Z3a, Y06, Y07, nth?, Y08, Y09, Y0a, Y0b, Y0c, Y0d, Y0e, putN, Z3i, repL, Y0f, Y0g, Y0h, Y0i, Y0j, Y0k, Y0l, Y0m, Y0n, Y0o, Y0p, Y0q, Y0r, Y0s, Z3r, Z3s, Z3t, depB, Fd, Fall, Dis, Dis1, Z3u, Z3v, appC, appN, mapC, mapN, List.append_eq, Z3w, Array.toArray_toList, Z3x, Z3y, List.getElem?_cons_zero, List.getElem?_cons_succ, Nat.reduceAdd, Nat.reduceSub, Nat.reduceMul, Nat.reduceEqDiff, Nat.zero_add, Nat.add_zero, Nat.mul_one, Nat.zero_mul, if_true, if_false, eq_self, true_and, and_true, reduceCtorEq, false_and, Addr.add_lit, ne_eq, not_false_eq_true, Array.empty_append, Array.append_empty, ↓Z3z, ↓Z40, ↓Z41, ↓Z42, ↓Z43, ↓Z44, ↓Z45, List.getElem?_toArray, Z46, Int.toNat_natCast, Nat.sub_zero, Int.toNat_sub, Sx.Z47, ite_self, ty_3, ty_9, ty_22, ty_23, ty_24, ty_50, ty_54, ty_63, ty_64]
  refine (behind_any w14 _ _ _ r5 3).mono ?_
  rintro v w15 ⟨rfl, h15⟩
  replace hB := hB.trans (h15.mono hB.size)
  replace e11 := bheap h15 e11
  replace r5 := r5.below h15
  simp only [ldAgg_blk (n := 2) e11 rfl, Z00, Z01, Z02, Z03, Z04, Z05, Z06, Z07, Z08, Z09, ↓Z0a, ↓Z0b, ↓Z0c, ↓Z0d, ↓Z0e, ↓Z0f, ↓Z0g, ↓Z0h, ↓Z0i, ↓Z0j, ↓Z0k, ↓Z0l, ↓Z0m, ↓Z0n, ↓Z0o, ↓Z0p, resL, res1, resK, Z0q, Z0r, Z0s, Z0t, Z0u, Z0v, Z0w, Z0x, Z0y, Z0z, Z10, Z11, Z12, Z13, Z14, ↓Z15, ↓Z16, Z17, Z18, Z19, Z1a, Z1b, Z1c, ↓Z1d, ↓Z1e, Z1f, ↓Z1g, ↓Z1h, ↓Z1i, ↓Z1j, ↓Z1l, ↓Z1m, ↓Z1n, ↓Z1o, ↓Z1q, ↓Z1v, ↓Z1w, ↓Z1x, ↓Z1z, ↓Z20, ↓Z21, Y00, Z2h, ↓Z2i, ↓Z2j, ↓Z2k, ↓Z2l, ↓Z2m, ↓Z2o, ↓Z2u, ↓Z2v, ↓Z2w, ↓Z2x, Z2y, Z2z, Z30, Z31, Z32, Z33, ev_t, ev_c, ev_g, ev_f, hv_t, hv_f, hv_n, Z34, Z35, Z36, Y01, Y02, Y03, Y04, Y05, Z3a, Y06, Y07, nth?, Y08, Y09, Y0a, Y0b, Y0c, Y0d, Y0e, putN, Z3i, repL, Y0f, Y0g, Y0h, Y0i, Y0j, Y0k, Y0l, Y0m, Y0n, Y0o, Y0p, Y0q, Y0r, Y0s, Z3r, Z3s, Z3t, depB, Fd, Fall, Dis, Dis1, Z3u, Z3v, appC, appN, mapC, mapN, List.append_eq, Z3w, Array.toArray_toList, Z3x, Z3y, List.getElem?_cons_zero, List.getElem?_cons_succ, Nat.reduceAdd, Nat.reduceSub, Nat.reduceMul, Nat.reduceEqDiff, Nat.zero_add, Nat.add_zero, Nat.mul_one, Nat.zero_mul, if_true, if_false, eq_self, true_and, and_true, reduceCtorEq, false_and, Addr.add_lit, ne_eq, not_false_eq_true, Array.empty_append, Array.append_empty, ↓Z3z, ↓Z40, ↓Z41, ↓Z42, ↓Z43, ↓Z44, ↓Z45, List.getElem?_toArray, Z46, Int.toNat_natCast, Nat.sub_zero, Int.toNat_sub, Sx.Z47, ite_self, ty_3, ty_9, ty_22, ty_23, ty_24, ty_50, ty_54, ty_63, ty_64]
  refine (check_any w15 _ _ _ 3 r5 (U16.of (by decide)) (U16.of (by decide))).mono ?_
  rintro v w16 ⟨rfl, h16⟩
  replace hB := hB.trans (h16.mono hB.size)
  replace e11 := bheap h16 e11
  replace r5 := r5.below h16
  simp only [ldAgg_blk (n := 2) e11 rfl, Z00, Z01, Z02, Z03, Z04, Z05, Z06, Z07, Z08, Z09, ↓Z0a, ↓Z0b, ↓Z0c, ↓Z0d, ↓Z0e, ↓Z0f, ↓Z0g, ↓Z0h, ↓Z0i, ↓Z0j, ↓Z0k, ↓Z0l, ↓Z0m, ↓Z0n, ↓Z0o, ↓Z0p, resL, res1, resK, Z0q, Z0r, Z0s, Z0t, Z0u, Z0v, Z0w, Z0x, Z0y, Z0z, Z10, Z11, Z12, Z13, Z14, ↓Z15, ↓Z16, Z17, Z18, Z19, Z1a, Z1b, Z1c, ↓Z1d, ↓Z1e, Z1f, ↓Z1g, ↓Z1h, ↓Z1i, ↓Z1j, ↓Z1l, ↓Z1m, ↓Z1n, ↓Z1o, ↓Z1q, ↓Z1v, ↓Z1w, ↓Z1x, ↓Z1z, ↓Z20, ↓Z21, Y00, Z2h, ↓Z2i, ↓Z2j, ↓Z2k, ↓Z2l, ↓Z2m, ↓Z2o, ↓Z2u, ↓Z2v, ↓Z2w, ↓Z2x, Z2y, Z2z, Z30, Z31, Z32, Z33, ev_t, ev_c, ev_g, ev_f, hv_t, hv_f, hv_n, Z34, Z35, Z36, Y01, Y02, Y03, Y04, Y05, Z3a, Y06, Y07, nth?, Y08, Y09, Y0a, Y0b, Y0c, Y0d, Y0e, putN, Z3i, repL, Y0f, Y0g, Y0h, Y0i, Y0j, Y0k, Y0l, Y0m, Y0n, Y0o, Y0p, Y0q, Y0r, Y0s, Z3r, Z3s, Z3t, depB, Fd, Fall, Dis, Dis1, Z3u, Z3v, appC, appN, mapC, mapN, List.append_eq, Z3w, Array.toArray_toList, Z3x, Z3y, List.getElem?_cons_zero, List.getElem?_cons_succ, Nat.reduceAdd, Nat.reduceSub, Nat.reduceMul, Nat.reduceEqDiff, Nat.zero_add, Nat.add_zero, Nat.mul_one, Nat.zero_mul, if_true, if_false, eq_self, true_and, and_true, reduceCtorEq, false_and, Addr.add_lit, ne_eq, not_false_eq_true, Array.empty_append, Array.append_empty, ↓Z3z, ↓Z40, ↓Z41, ↓Z42, ↓Z43, ↓Z44, ↓Z45, List.getElem?_toArray, Z46, Int.toNat_natCast, Nat.sub_zero, Int.toNat_sub, Sx.Z47, ite_self, ty_3, ty_9, ty_22, ty_23, ty_24, ty_50, ty_54, ty_63, ty_64]
  refine (check_any w16 _ _ _ 2 r5 (U16.of (by decide)) (U16.of (by decide))).mono ?_
  rintro v w17 ⟨rfl, h17⟩
  replace hB := hB.trans (h17.mono hB.size)
  replace e11 := bheap h17 e11
  replace r5 := r5.below h17
  simp only [ldAgg_blk (n := 2) e11 rfl, Z00, Z01, Z02, Z03, Z04, Z05, Z06, Z07, Z08, Z09, ↓Z0a, ↓Z0b, ↓Z0c, ↓Z0d, ↓Z0e, ↓Z0f, ↓Z0g, ↓Z0h, ↓Z0i, ↓Z0j, ↓Z0k, ↓Z0l, ↓Z0m, ↓Z0n, ↓Z0o, ↓Z0p, resL, res1, resK, Z0q, Z0r, Z0s, Z0t, Z0u, Z0v, Z0w, Z0x, Z0y, Z0z, Z10, Z11, Z12, Z13, Z14, ↓Z15, ↓Z16, Z17, Z18, Z19, Z1a, Z1b, Z1c, ↓Z1d, ↓Z1e, Z1f, ↓Z1g, ↓Z1h, ↓Z1i, ↓Z1j, ↓Z1l, ↓Z1m, ↓Z1n, ↓Z1o, ↓Z1q, ↓Z1v, ↓Z1w, ↓Z1x, ↓Z1z, ↓Z20, ↓Z21, Y00, Z2h, ↓Z2i, ↓Z2j, ↓Z2k, ↓Z2l, ↓Z2m, ↓Z2o, ↓Z2u, ↓Z2v, ↓Z2w, ↓Z2x, Z2y, Z2z, Z30, Z31, Z32, Z33, ev_t, ev_c, ev_g, ev_f, hv_t, hv_f, hv_n, Z34, Z35, Z36, Y01, Y02, Y03, Y04, Y05, Z3a, Y06, Y07, nth?, Y08, Y09, Y0a, Y0b, Y0c, Y0d, Y0e, putN, Z3i, repL, Y0f, Y0g, Y0h, Y0i, Y0j, Y0k, Y0l, Y0m, Y0n, Y0o, Y0p, Y0q, Y0r, Y0s, Z3r, Z3s, Z3t, depB, Fd, Fall, Dis, Dis1, Z3u, Z3v, appC, appN, mapC, mapN, List.append_eq, Z3w, Array.toArray_toList, Z3x, Z3y, List.getElem?_cons_zero, List.getElem?_cons_succ, Nat.reduceAdd, Nat.reduceSub, Nat.reduceMul, Nat.reduceEqDiff, Nat.zero_add, Nat.add_zero, Nat.mul_one, Nat.zero_mul, if_true, if_false, eq_self, true_and, and_true, reduceCtorEq, false_and, Addr.add_lit, ne_eq, not_false_eq_true, Array.empty_append, Array.append_empty, ↓Z3z, ↓Z40, ↓Z41, ↓Z42, ↓Z43, ↓Z44, ↓Z45, List.getElem?_toArray, Z46, Int.toNat_natCast, Nat.sub_zero, Int.toNat_sub, Sx.Z47, ite_self, ty_3, ty_9, ty_22, ty_23, ty_24, ty_50, ty_54, ty_63, ty_64]
  refine (places_any w17 _ _ _ r5).mono ?_
  rintro v w18 ⟨rfl, h18⟩
  replace hB := hB.trans (h18.mono hB.size)
  replace e11 := bheap h18 e11
  replace r5 := r5.below h18
  simp only [ldAgg_blk (n := 2) e11 rfl, Z00, Z01, Z02, Z03, Z04, Z05, Z06, Z07, Z08, Z09, ↓Z0a, ↓Z0b, ↓Z0c, ↓Z0d, ↓Z0e, ↓Z0f, ↓Z0g, ↓Z0h, ↓Z0i, ↓Z0j, ↓Z0k, ↓Z0l, ↓Z0m, ↓Z0n, ↓Z0o, ↓Z0p, resL, res1, resK, Z0q, Z0r, Z0s, Z0t, Z0u, Z0v, Z0w, Z0x, Z0y, Z0z, Z10, Z11, Z12, Z13, Z14, ↓Z15, ↓Z16, Z17, Z18, Z19, Z1a, Z1b, Z1c, ↓Z1d, ↓Z1e, Z1f, ↓Z1g, ↓Z1h, ↓Z1i, ↓Z1j, ↓Z1l, ↓Z1m, ↓Z1n, ↓Z1o, ↓Z1q, ↓Z1v, ↓Z1w, ↓Z1x, ↓Z1z, ↓Z20, ↓Z21, Y00, Z2h, ↓Z2i, ↓Z2j, ↓Z2k, ↓Z2l, ↓Z2m, ↓Z2o, ↓Z2u, ↓Z2v, ↓Z2w, ↓Z2x, Z2y, Z2z, Z30, Z31, Z32, Z33, ev_t, ev_c, ev_g, ev_f, hv_t, hv_f, hv_n, Z34, Z35, Z36, Y01, Y02, Y03, Y04, Y05, Z3a, Y06, Y07, nth?, Y08, Y09, Y0a, Y0b, Y0c, Y0d, Y0e, putN, Z3i, repL, Y0f, Y0g, Y0h, Y0i, Y0j, Y0k, Y0l, Y0m, Y0n, Y0o, Y0p, Y0q, Y0r, Y0s, Z3r, Z3s, Z3t, depB, Fd, Fall, Dis, Dis1, Z3u, Z3v, appC, appN, mapC, mapN, List.append_eq, Z3w, Array.toArray_toList, Z3x, Z3y, List.getElem?_cons_zero, List.getElem?_cons_succ, Nat.reduceAdd, Nat.reduceSub, Nat.reduceMul, Nat.reduceEqDiff, Nat.zero_add, Nat.add_zero, Nat.mul_one, Nat.zero_mul, if_true, if_false, eq_self, true_and, and_true, reduceCtorEq, false_and, Addr.add_lit, ne_eq, not_false_eq_true, Array.empty_append, Array.append_empty, ↓Z3z, ↓Z40, ↓Z41, ↓Z42, ↓Z43, ↓Z44, ↓Z45, List.getElem?_toArray, Z46, Int.toNat_natCast, Nat.sub_zero, Int.toNat_sub, Sx.Z47, ite_self, ty_3, ty_9, ty_22, ty_23, ty_24, ty_50, ty_54, ty_63, ty_64]
  refine (at_any w18 _ _ _ r5 5 (by decide)).mono ?_
  rintro v w19 ⟨rfl, h19⟩
  replace hB := hB.trans (h19.mono hB.size)
  replace e11 := bheap h19 e11
  replace r5 := r5.below h19
  simp only [ldAgg_blk (n := 2) e11 rfl, Z00, Z01, Z02, Z03, Z04, Z05, Z06, Z07, Z08, Z09, ↓Z0a, ↓Z0b, ↓Z0c, ↓Z0d, ↓Z0e, ↓Z0f, ↓Z0g, ↓Z0h, ↓Z0i, ↓Z0j, ↓Z0k, ↓Z0l, ↓Z0m, ↓Z0n, ↓Z0o, ↓Z0p, resL, res1, resK, Z0q, Z0r, Z0s, Z0t, Z0u, Z0v, Z0w, Z0x, Z0y, Z0z, Z10, Z11, Z12, Z13, Z14, ↓Z15, ↓Z16, Z17, Z18, Z19, Z1a, Z1b, Z1c, ↓Z1d, ↓Z1e, Z1f, ↓Z1g, ↓Z1h, ↓Z1i, ↓Z1j, ↓Z1l, ↓Z1m, ↓Z1n, ↓Z1o, ↓Z1q, ↓Z1v, ↓Z1w, ↓Z1x, ↓Z1z, ↓Z20, ↓Z21, Y00, Z2h, ↓Z2i, ↓Z2j, ↓Z2k, ↓Z2l, ↓Z2m, ↓Z2o, ↓Z2u, ↓Z2v, ↓Z2w, ↓Z2x, Z2y, Z2z, Z30, Z31, Z32, Z33, ev_t, ev_c, ev_g, ev_f, hv_t, hv_f, hv_n, Z34, Z35, Z36, Y01, Y02, Y03, Y04, Y05, Z3a, Y06, Y07, nth?, Y08, Y09, Y0a, Y0b, Y0c, Y0d, Y0e, putN, Z3i, repL, Y0f, Y0g, Y0h, Y0i, Y0j, Y0k, Y0l, Y0m, Y0n, Y0o, Y0p, Y0q, Y0r, Y0s, Z3r, Z3s, Z3t, depB, Fd, Fall, Dis, Dis1, Z3u, Z3v, appC, appN, mapC, mapN, List.append_eq, Z3w, Array.toArray_toList, Z3x, Z3y, List.getElem?_cons_zero, List.getElem?_cons_succ, Nat.reduceAdd, Nat.reduceSub, Nat.reduceMul, Nat.reduceEqDiff, Nat.zero_add, Nat.add_zero, Nat.mul_one, Nat.zero_mul, if_true, if_false, eq_self, true_and, and_true, reduceCtorEq, false_and, Addr.add_lit, ne_eq, not_false_eq_true, Array.empty_append, Array.append_empty, ↓Z3z, ↓Z40, ↓Z41, ↓Z42, ↓Z43, ↓Z44, ↓Z45, List.getElem?_toArray, Z46, Int.toNat_natCast, Nat.sub_zero, Int.toNat_sub, Sx.Z47, ite_self, ty_3, ty_9, ty_22, ty_23, ty_24, ty_50, ty_54, ty_63, ty_64]
  -- 12
  refine ⟨by decide, by decide, by decide, by decide, ?_⟩
  intro b20 w20 n20
  refine ⟨by decide, by decide, by decide, ?_⟩
  intro b21 w21 n21
  refine ⟨rfl, ⟨rfl, by simp⟩, ⟨rfl, by simp⟩, ?_⟩
  have h21 := n20.ext.trans (n21.ext.mono n20.ext.size)
  replace hB := hB.trans (h21.mono hB.size)
  replace e11 := bheap h21 e11
  replace r5 := r5.below h21
  refine (same_any w21 [1, 2] [3, 4] [1, 2, 3] [4, 3] _ _ r5 ⟨_, _, rfl, (rdLit [1, 2, 3] n20).below n21.ext, rdLit [4, 3] n21⟩ (by decide) (by decide) (by decide) (by decide)).mono ?_
  rintro v w22 ⟨rfl, h22⟩
  rw [show decide (([3, 4] : List Int) ≠ [] ∧ ([4, 3] : List Int) ≠ [] ∧ nStem [1, 2] [3, 4] = nStem [1, 2, 3] [4, 3] ∧ nLoop [1, 2] [3, 4] = nLoop [1, 2, 3] [4, 3]) = true from by decide]
  replace hB := hB.trans (h22.mono hB.size)
  replace e11 := bheap h22 e11
  replace r5 := r5.below h22
  simp only [Z00, Z01, Z02, Z03, Z04, Z05, Z06, Z07, Z08, Z09, ↓Z0a, ↓Z0b, ↓Z0c, ↓Z0d, ↓Z0e, ↓Z0f, ↓Z0g, ↓Z0h, ↓Z0i, ↓Z0j, ↓Z0k, ↓Z0l, ↓Z0m, ↓Z0n, ↓Z0o, ↓Z0p, resL, res1, resK, Z0q, Z0r, Z0s, Z0t, Z0u, Z0v, Z0w, Z0x, Z0y, Z0z, Z10, Z11, Z12, Z13, Z14, ↓Z15, ↓Z16, Z17, Z18, Z19, Z1a, Z1b, Z1c, ↓Z1d, ↓Z1e, Z1f, ↓Z1g, ↓Z1h, ↓Z1i, ↓Z1j, ↓Z1l, ↓Z1m, ↓Z1n, ↓Z1o, ↓Z1q, ↓Z1v, ↓Z1w, ↓Z1x, ↓Z1z, ↓Z20, ↓Z21, Y00, Z2h, ↓Z2i, ↓Z2j, ↓Z2k, ↓Z2l, ↓Z2m, ↓Z2o, ↓Z2u, ↓Z2v, ↓Z2w, ↓Z2x, Z2y, Z2z, Z30, Z31, Z32, Z33, ev_t, ev_c, ev_g, ev_f, hv_t, hv_f, hv_n, Z34, Z35, Z36, Y01, Y02, Y03, Y04, Y05, Z3a, Y06, Y07, nth?, Y08, Y09, Y0a, Y0b, Y0c, Y0d, Y0e, putN, Z3i, repL, Y0f, Y0g, Y0h, Y0i, Y0j, Y0k, Y0l, Y0m, Y0n, Y0o, Y0p, Y0q, Y0r, Y0s, Z3r, Z3s, Z3t, depB, Fd, Fall, Dis, Dis1, Z3u, Z3v, appC, appN, mapC, mapN, List.append_eq, Z3w, Array.toArray_toList, Z3x, Z3y, List.getElem?_cons_zero, List.getElem?_cons_succ, Nat.reduceAdd, Nat.reduceSub, Nat.reduceMul, Nat.reduceEqDiff, Nat.zero_add, Nat.add_zero, Nat.mul_one, Nat.zero_mul, if_true, if_false, eq_self, true_and, and_true, reduceCtorEq, false_and, Addr.add_lit, ne_eq, not_false_eq_true, Array.empty_append, Array.append_empty, ↓Z3z, ↓Z40, ↓Z41, ↓Z42, ↓Z43, ↓Z44, ↓Z45, List.getElem?_toArray, Z46, Int.toNat_natCast, Nat.sub_zero, Int.toNat_sub, Sx.Z47, ite_self, ty_3, ty_9, ty_22, ty_23, ty_24, ty_50, ty_54, ty_63, ty_64]
  -- 13
  refine ⟨by decide, by decide, ?_⟩
  intro b23 w23 n23
  refine ⟨by decide, by decide, by decide, ?_⟩
  intro b24 w24 n24
  refine ⟨rfl, ⟨rfl, by simp⟩, ?_⟩
  have h24 := n23.ext.trans (n24.ext.mono n23.ext.size)
  refine (join_any w24 [4] [] [3, 4] _ _ ((rdLit [4] n23).below n24.ext) ⟨_, _, rfl, RdI.nil _ _, rdLit [3, 4] n24⟩ (by decide) (by decide)).mono ?_
  rintro v w25 ⟨o25, h25⟩
  replace h24 := h24.trans (h25.mono h24.size)
  replace hB := hB.trans (h24.mono hB.size)
  replace e11 := bheap h24 e11
  replace r5 := r5.below h24
  have o25 : OwnW w25 w24.heap.size v [] [4, 3] := o25
  simp only [Z00, Z01, Z02, Z03, Z04, Z05, Z06, Z07, Z08, Z09, ↓Z0a, ↓Z0b, ↓Z0c, ↓Z0d, ↓Z0e, ↓Z0f, ↓Z0g, ↓Z0h, ↓Z0i, ↓Z0j, ↓Z0k, ↓Z0l, ↓Z0m, ↓Z0n, ↓Z0o, ↓Z0p, resL, res1, resK, Z0q, Z0r, Z0s, Z0t, Z0u, Z0v, Z0w, Z0x, Z0y, Z0z, Z10, Z11, Z12, Z13, Z14, ↓Z15, ↓Z16, Z17, Z18, Z19, Z1a, Z1b, Z1c, ↓Z1d, ↓Z1e, Z1f, ↓Z1g, ↓Z1h, ↓Z1i, ↓Z1j, ↓Z1l, ↓Z1m, ↓Z1n, ↓Z1o, ↓Z1q, ↓Z1v, ↓Z1w, ↓Z1x, ↓Z1z, ↓Z20, ↓Z21, Y00, Z2h, ↓Z2i, ↓Z2j, ↓Z2k, ↓Z2l, ↓Z2m, ↓Z2o, ↓Z2u, ↓Z2v, ↓Z2w, ↓Z2x, Z2y, Z2z, Z30, Z31, Z32, Z33, ev_t, ev_c, ev_g, ev_f, hv_t, hv_f, hv_n, Z34, Z35, Z36, Y01, Y02, Y03, Y04, Y05, Z3a, Y06, Y07, nth?, Y08, Y09, Y0a, Y0b, Y0c, Y0d, Y0e, putN, Z3i, repL, Y0f, Y0g, Y0h, Y0i, Y0j, Y0k, Y0l, Y0m, Y0n, Y0o, Y0p, Y0q, Y0r, Y0s, Z3r, Z3s, Z3t, depB, Fd, Fall, Dis, Dis1, Z3u, Z3v, appC, appN, mapC, mapN, List.append_eq, Z3w, Array.toArray_toList, Z3x, Z3y, List.getElem?_cons_zero, List.getElem?_cons_succ, Nat.reduceAdd, Nat.reduceSub, Nat.reduceMul, Nat.reduceEqDiff, Nat.zero_add, Nat.add_zero, Nat.mul_one, Nat.zero_mul, if_true, if_false, eq_self, true_and, and_true, reduceCtorEq, false_and, Addr.add_lit, ne_eq, not_false_eq_true, Array.empty_append, Array.append_empty, ↓Z3z, ↓Z40, ↓Z41, ↓Z42, ↓Z43, ↓Z44, ↓Z45, List.getElem?_toArray, Z46, Int.toNat_natCast, Nat.sub_zero, Int.toNat_sub, Sx.Z47, ite_self, ty_3, ty_9, ty_22, ty_23, ty_24, ty_50, ty_54, ty_63, ty_64]
  refine (show_any w25 B _ _ _ o25.rd (by decide) (by decide) (U16.of (by decide)) (U16.of (by decide)) (ht.on hB hBw) (Nat.le_trans hBw hB.size)).mono ?_
  rintro v w26 ⟨rfl, h26⟩
  replace hB := hB.trans (h26.mono hB.size)
  replace e11 := bheap h26 e11
  replace r5 := r5.below h26
  simp only [ldAgg_blk (n := 2) e11 rfl, Z00, Z01, Z02, Z03, Z04, Z05, Z06, Z07, Z08, Z09, ↓Z0a, ↓Z0b, ↓Z0c, ↓Z0d, ↓Z0e, ↓Z0f, ↓Z0g, ↓Z0h, ↓Z0i, ↓Z0j, ↓Z0k, ↓Z0l, ↓Z0m, ↓Z0n, ↓Z0o, ↓Z0p, resL, res1, resK, Z0q, Z0r, Z0s, Z0t, Z0u, Z0v, Z0w, Z0x, Z0y, Z0z, Z10, Z11, Z12, Z13, Z14, ↓Z15, ↓Z16, Z17, Z18, Z19, Z1a, Z1b, Z1c, ↓Z1d, ↓Z1e, Z1f, ↓Z1g, ↓Z1h, ↓Z1i, ↓Z1j, ↓Z1l, ↓Z1m, ↓Z1n, ↓Z1o, ↓Z1q, ↓Z1v, ↓Z1w, ↓Z1x, ↓Z1z, ↓Z20, ↓Z21, Y00, Z2h, ↓Z2i, ↓Z2j, ↓Z2k, ↓Z2l, ↓Z2m, ↓Z2o, ↓Z2u, ↓Z2v, ↓Z2w, ↓Z2x, Z2y, Z2z, Z30, Z31, Z32, Z33, ev_t, ev_c, ev_g, ev_f, hv_t, hv_f, hv_n, Z34, Z35, Z36, Y01, Y02, Y03, Y04, Y05, Z3a, Y06, Y07, nth?, Y08, Y09, Y0a, Y0b, Y0c, Y0d, Y0e, putN, Z3i, repL, Y0f, Y0g, Y0h, Y0i, Y0j, Y0k, Y0l, Y0m, Y0n, Y0o, Y0p, Y0q, Y0r, Y0s, Z3r, Z3s, Z3t, depB, Fd, Fall, Dis, Dis1, Z3u, Z3v, appC, appN, mapC, mapN, List.append_eq, Z3w, Array.toArray_toList, Z3x, Z3y, List.getElem?_cons_zero, List.getElem?_cons_succ, Nat.reduceAdd, Nat.reduceSub, Nat.reduceMul, Nat.reduceEqDiff, Nat.zero_add, Nat.add_zero, Nat.mul_one, Nat.zero_mul, if_true, if_false, eq_self, true_and, and_true, reduceCtorEq, false_and, Addr.add_lit, ne_eq, not_false_eq_true, Array.empty_append, Array.append_empty, ↓Z3z, ↓Z40, ↓Z41, ↓Z42, ↓Z43, ↓Z44, ↓Z45, List.getElem?_toArray, Z46, Int.toNat_natCast, Nat.sub_zero, Int.toNat_sub, Sx.Z47, ite_self, ty_3, ty_9, ty_22, ty_23, ty_24, ty_50, ty_54, ty_63, ty_64]
  -- 14
  refine (prefix_any w26 [1, 2] [3, 4] _ 3 r5).mono ?_
  rintro v w27 ⟨o27, h27⟩
  replace hB := hB.trans (h27.mono hB.size)
  replace e11 := bheap h27 e11
  have o27 : OwnU w27 w26.heap.size v [1, 2, 3] := o27
  obtain ⟨p27, c27, rfl⟩ := o27.out
  have r27 := o27.rd
  clear r5 o27
  simp only [Z00, Z01, Z02, Z03, Z04, Z05, Z06, Z07, Z08, Z09, ↓Z0a, ↓Z0b, ↓Z0c, ↓Z0d, ↓Z0e, ↓Z0f, ↓Z0g, ↓Z0h, ↓Z0i, ↓Z0j, ↓Z0k, ↓Z0l, ↓Z0m, ↓Z0n, ↓Z0o, ↓Z0p, resL, res1, resK, Z0q, Z0r, Z0s, Z0t, Z0u, Z0v, Z0w, Z0x, Z0y, Z0z, Z10, Z11, Z12, Z13, Z14, ↓Z15, ↓Z16, Z17, Z18, Z19, Z1a, Z1b, Z1c, ↓Z1d, ↓Z1e, Z1f, ↓Z1g, ↓Z1h, ↓Z1i, ↓Z1j, ↓Z1l, ↓Z1m, ↓Z1n, ↓Z1o, ↓Z1q, ↓Z1v, ↓Z1w, ↓Z1x, ↓Z1z, ↓Z20, ↓Z21, Y00, Z2h, ↓Z2i, ↓Z2j, ↓Z2k, ↓Z2l, ↓Z2m, ↓Z2o, ↓Z2u, ↓Z2v, ↓Z2w, ↓Z2x, Z2y, Z2z, Z30, Z31, Z32, Z33, ev_t, ev_c, ev_g, ev_f, hv_t, hv_f, hv_n, Z34, Z35, Z36, Y01, Y02, Y03, Y04, Y05, Z3a, Y06, Y07, nth?, Y08, Y09, Y0a, Y0b, Y0c, Y0d, Y0e, putN, Z3i, repL, Y0f, Y0g, Y0h, Y0i, Y0j, Y0k, Y0l, Y0m, Y0n, Y0o, Y0p, Y0q, Y0r, Y0s, Z3r, Z3s, Z3t, depB, Fd, Fall, Dis, Dis1, Z3u, Z3v, appC, appN, mapC, mapN, List.append_eq, Z3w, Array.toArray_toList, Z3x, Z3y, List.getElem?_cons_zero, List.getElem?_cons_succ, Nat.reduceAdd, Nat.reduceSub, Nat.reduceMul, Nat.reduceEqDiff, Nat.zero_add, Nat.add_zero, Nat.mul_one, Nat.zero_mul, if_true, if_false, eq_self, true_and, and_true, reduceCtorEq, false_and, Addr.add_lit, ne_eq, not_false_eq_true, Array.empty_append, Array.append_empty, ↓Z3z, ↓Z40, ↓Z41, ↓Z42, ↓Z43, ↓Z44, ↓Z45, List.getElem?_toArray, Z46, Int.toNat_natCast, Nat.sub_zero, Int.toNat_sub, Sx.Z47, ite_self, ty_3, ty_9, ty_22, ty_23, ty_24, ty_50, ty_54, ty_63, ty_64]
  -- 15
  refine (all_any 1 2 w27).mono ?_
  rintro v w28 ⟨⟨pc, zc, rfl, hpb, hzb, hpc, hzc⟩, h28⟩
  simp only [Z00, Z01, Z02, Z03, Z04, Z05, Z06, Z07, Z08, Z09, ↓Z0a, ↓Z0b, ↓Z0c, ↓Z0d, ↓Z0e, ↓Z0f, ↓Z0g, ↓Z0h, ↓Z0i, ↓Z0j, ↓Z0k, ↓Z0l, ↓Z0m, ↓Z0n, ↓Z0o, ↓Z0p, resL, res1, resK, Z0q, Z0r, Z0s, Z0t, Z0u, Z0v, Z0w, Z0x, Z0y, Z0z, Z10, Z11, Z12, Z13, Z14, ↓Z15, ↓Z16, Z17, Z18, Z19, Z1a, Z1b, Z1c, ↓Z1d, ↓Z1e, Z1f, ↓Z1g, ↓Z1h, ↓Z1i, ↓Z1j, ↓Z1l, ↓Z1m, ↓Z1n, ↓Z1o, ↓Z1q, ↓Z1v, ↓Z1w, ↓Z1x, ↓Z1z, ↓Z20, ↓Z21, Y00, Z2h, ↓Z2i, ↓Z2j, ↓Z2k, ↓Z2l, ↓Z2m, ↓Z2o, ↓Z2u, ↓Z2v, ↓Z2w, ↓Z2x, Z2y, Z2z, Z30, Z31, Z32, Z33, ev_t, ev_c, ev_g, ev_f, hv_t, hv_f, hv_n, Z34, Z35, Z36, Y01, Y02, Y03, Y04, Y05, Z3a, Y06, Y07, nth?, Y08, Y09, Y0a, Y0b, Y0c, Y0d, Y0e, putN, Z3i, repL, Y0f, Y0g, Y0h, Y0i, Y0j, Y0k, Y0l, Y0m, Y0n, Y0o, Y0p, Y0q, Y0r, Y0s, Z3r, Z3s, Z3t, depB, Fd, Fall, Dis, Dis1, Z3u, Z3v, appC, appN, mapC, mapN, List.append_eq, Z3w, Array.toArray_toList, Z3x, Z3y, List.getElem?_cons_zero, List.getElem?_cons_succ, Nat.reduceAdd, Nat.reduceSub, Nat.reduceMul, Nat.reduceEqDiff, Nat.zero_add, Nat.add_zero, Nat.mul_one, Nat.zero_mul, if_true, if_false, eq_self, true_and, and_true, reduceCtorEq, false_and, Addr.add_lit, ne_eq, not_false_eq_true, Array.empty_append, Array.append_empty, ↓Z3z, ↓Z40, ↓Z41, ↓Z42, ↓Z43, ↓Z44, ↓Z45, List.getElem?_toArray, Z46, Int.toNat_natCast, Nat.sub_zero, Int.toNat_sub, Sx.Z47, ite_self, ty_3, ty_9, ty_22, ty_23, ty_24, ty_50, ty_54, ty_63, ty_64]
  intro b29 w29 n29
  refine ⟨rfl, StA.new n29 rfl (by simp [Value.oneCell']) ?_⟩
  clear n29 w29
  intro w29 n29
  have h29 := h28.trans (n29.ext.mono h28.size)
  have hpl' := (Array.getElem?_eq_some_iff.1 hpc).1
  have hzl' := (Array.getElem?_eq_some_iff.1 hzc).1
  replace hpc := bheap n29.ext hpc
  replace hzc := bheap n29.ext hzc
  have hb29 := n29.hb
  have hpl := (Array.getElem?_eq_some_iff.1 hpc).1
  have hzl := (Array.getElem?_eq_some_iff.1 hzc).1
  refine range_box (E := encW) (bd := none) (xs := wordsOf 1 2) (rdb := fun b => b = pc ∨ b = zc) (G0 := fun b => b < w27.heap.size ∨ b = b29) (cap := #[ptr pc, ptr zc]) 24 21 rfl Good_all1 (fun w' h => all1_any none 1 2 pc zc w' (bheap h hpc) (bheap h hzc) (by decide) (by decide) (.inl (by decide)))
    (fun pre G W => (∀ b, G b ↔ b < w27.heap.size ∨ b = b29) ∧ Below w27.heap.size w27 W ∧ W.heap[b29]? = some (.cells #[.string (st (pre.flatMap fun x => showOf x.1 x.2))] 9 (0, 0))) (fun _ _ _ _ => False) ?_ (fun _ _ => ⟨fun h => h.elim, fun h => h.elim⟩) ⟨fun _ => Iff.rfl, h29, n29.at_⟩ ?_ (fun N h => by cases h)
    ?_ ?_ ?_ (fun _ _ _ _ h => h.elim)
  · intro pre
    refine ⟨?_, ?_⟩
    · rintro G W ⟨hG, hbl, hb⟩ b h
      rcases (hG b).1 h with h | rfl
      · exact Nat.lt_of_lt_of_le h hbl.size
      · exact (Array.getElem?_eq_some_iff.1 hb).1
    · rintro G W W' ⟨hG, hbl, hb⟩ hk
      exact ⟨hG, hbl.trans ⟨hk.os, hk.tape, hk.output, hk.size, fun k hlt => hk.block k (Nat.lt_of_lt_of_le hlt hbl.size) fun h => h ((hG k).2 (.inl hlt))⟩, hk.at_ hb fun h => h ((hG b29).2 (.inr rfl))⟩
  · rintro b (rfl | rfl)
    · exact ⟨by omega, hpl⟩
    · exact ⟨by omega, hzl⟩
  · rintro x v W hx
    obtain ⟨p1, c1, p2, c2, rfl⟩ := hx.out
    simp only [Z00, Z01, Z02, Z03, Z04, Z05, Z06, Z07, Z08, Z09, ↓Z0a, ↓Z0b, ↓Z0c, ↓Z0d, ↓Z0e, ↓Z0f, ↓Z0g, ↓Z0h, ↓Z0i, ↓Z0j, ↓Z0k, ↓Z0l, ↓Z0m, ↓Z0n, ↓Z0o, ↓Z0p, resL, res1, resK, Z0q, Z0r, Z0s, Z0t, Z0u, Z0v, Z0w, Z0x, Z0y, Z0z, Z10, Z11, Z12, Z13, Z14, ↓Z15, ↓Z16, Z17, Z18, Z19, Z1a, Z1b, Z1c, ↓Z1d, ↓Z1e, Z1f, ↓Z1g, ↓Z1h, ↓Z1i, ↓Z1j, ↓Z1l, ↓Z1m, ↓Z1n, ↓Z1o, ↓Z1q, ↓Z1v, ↓Z1w, ↓Z1x, ↓Z1z, ↓Z20, ↓Z21, Y00, Z2h, ↓Z2i, ↓Z2j, ↓Z2k, ↓Z2l, ↓Z2m, ↓Z2o, ↓Z2u, ↓Z2v, ↓Z2w, ↓Z2x, Z2y, Z2z, Z30, Z31, Z32, Z33, ev_t, ev_c, ev_g, ev_f, hv_t, hv_f, hv_n, Z34, Z35, Z36, Y01, Y02, Y03, Y04, Y05, Z3a, Y06, Y07, nth?, Y08, Y09, Y0a, Y0b, Y0c, Y0d, Y0e, putN, Z3i, repL, Y0f, Y0g, Y0h, Y0i, Y0j, Y0k, Y0l, Y0m, Y0n, Y0o, Y0p, Y0q, Y0r, Y0s, Z3r, Z3s, Z3t, depB, Fd, Fall, Dis, Dis1, Z3u, Z3v, appC, appN, mapC, mapN, List.append_eq, Z3w, Array.toArray_toList, Z3x, Z3y, List.getElem?_cons_zero, List.getElem?_cons_succ, Nat.reduceAdd, Nat.reduceSub, Nat.reduceMul, Nat.reduceEqDiff, Nat.zero_add, Nat.add_zero, Nat.mul_one, Nat.zero_mul, if_true, if_false, eq_self, true_and, and_true, reduceCtorEq, false_and, Addr.add_lit, ne_eq, not_false_eq_true, Array.empty_append, Array.append_empty, ↓Z3z, ↓Z40, ↓Z41, ↓Z42, ↓Z43, ↓Z44, ↓Z45, List.getElem?_toArray, Z46, Int.toNat_natCast, Nat.sub_zero, Int.toNat_sub, Sx.Z47, ite_self, ty_3, ty_9, ty_22, ty_23, ty_24, ty_50, ty_54, ty_63, ty_64]
    intro b w' n
    refine ⟨rfl, StA.new n rfl (by simp [Value.oneCell']) ?_⟩
    intro w'' n''
    exact (boxA.mk' n'' rfl).2
  · rintro pre x v G b W hpre hsz ⟨hG, hbl, hbs⟩ hx hb hd1 hd2 hd3 hd4
    obtain ⟨p1, c1, p2, c2, rfl⟩ := hx.out
    have hmem : x ∈ wordsOf 1 2 := hpre.subset (by simp)
    obtain ⟨_, _, m1, m2, m3, m4, _⟩ := wordsOf_mem hmem
    simp only [Z00, Z01, Z02, Z03, Z04, Z05, Z06, Z07, Z08, Z09, ↓Z0a, ↓Z0b, ↓Z0c, ↓Z0d, ↓Z0e, ↓Z0f, ↓Z0g, ↓Z0h, ↓Z0i, ↓Z0j, ↓Z0k, ↓Z0l, ↓Z0m, ↓Z0n, ↓Z0o, ↓Z0p, resL, res1, resK, Z0q, Z0r, Z0s, Z0t, Z0u, Z0v, Z0w, Z0x, Z0y, Z0z, Z10, Z11, Z12, Z13, Z14, ↓Z15, ↓Z16, Z17, Z18, Z19, Z1a, Z1b, Z1c, ↓Z1d, ↓Z1e, Z1f, ↓Z1g, ↓Z1h, ↓Z1i, ↓Z1j, ↓Z1l, ↓Z1m, ↓Z1n, ↓Z1o, ↓Z1q, ↓Z1v, ↓Z1w, ↓Z1x, ↓Z1z, ↓Z20, ↓Z21, Y00, Z2h, ↓Z2i, ↓Z2j, ↓Z2k, ↓Z2l, ↓Z2m, ↓Z2o, ↓Z2u, ↓Z2v, ↓Z2w, ↓Z2x, Z2y, Z2z, Z30, Z31, Z32, Z33, ev_t, ev_c, ev_g, ev_f, hv_t, hv_f, hv_n, Z34, Z35, Z36, Y01, Y02, Y03, Y04, Y05, Z3a, Y06, Y07, nth?, Y08, Y09, Y0a, Y0b, Y0c, Y0d, Y0e, putN, Z3i, repL, Y0f, Y0g, Y0h, Y0i, Y0j, Y0k, Y0l, Y0m, Y0n, Y0o, Y0p, Y0q, Y0r, Y0s, Z3r, Z3s, Z3t, depB, Fd, Fall, Dis, Dis1, Z3u, Z3v, appC, appN, mapC, mapN, List.append_eq, Z3w, Array.toArray_toList, Z3x, Z3y, List.getElem?_cons_zero, List.getElem?_cons_succ, Nat.reduceAdd, Nat.reduceSub, Nat.reduceMul, Nat.reduceEqDiff, Nat.zero_add, Nat.add_zero, Nat.mul_one, Nat.zero_mul, if_true, if_false, eq_self, true_and, and_true, reduceCtorEq, false_and, Addr.add_lit, ne_eq, not_false_eq_true, Array.empty_append, Array.append_empty, ↓Z3z, ↓Z40, ↓Z41, ↓Z42, ↓Z43, ↓Z44, ↓Z45, List.getElem?_toArray, Z46, Int.toNat_natCast, Nat.sub_zero, Int.toNat_sub, Sx.Z47, ite_self, ty_3, ty_9, ty_22, ty_23, ty_24, ty_50, ty_54, ty_63, ty_64]
    have hsb : b29 ≠ b := fun e => hd2 ((hG b).2 (.inr e.symm))
    refine draw_sp 4 [(2, (fun v _ => v = .string (st (showOf x.1 x.2))), noB)] (by kernel_rfl) (by kernel_rfl) (by decide) 141 rfl (by kernel_rfl) ⟨fun _ _ _ h _ => h, trivial⟩ ?_
    simp only [ldStr_blk hbs, ldAgg_blk (n := 2) hb rfl, Z00, Z01, Z02, Z03, Z04, Z05, Z06, Z07, Z08, Z09, ↓Z0a, ↓Z0b, ↓Z0c, ↓Z0d, ↓Z0e, ↓Z0f, ↓Z0g, ↓Z0h, ↓Z0i, ↓Z0j, ↓Z0k, ↓Z0l, ↓Z0m, ↓Z0n, ↓Z0o, ↓Z0p, resL, res1, resK, Z0q, Z0r, Z0s, Z0t, Z0u, Z0v, Z0w, Z0x, Z0y, Z0z, Z10, Z11, Z12, Z13, Z14, ↓Z15, ↓Z16, Z17, Z18, Z19, Z1a, Z1b, Z1c, ↓Z1d, ↓Z1e, Z1f, ↓Z1g, ↓Z1h, ↓Z1i, ↓Z1j, ↓Z1l, ↓Z1m, ↓Z1n, ↓Z1o, ↓Z1q, ↓Z1v, ↓Z1w, ↓Z1x, ↓Z1z, ↓Z20, ↓Z21, Y00, Z2h, ↓Z2i, ↓Z2j, ↓Z2k, ↓Z2l, ↓Z2m, ↓Z2o, ↓Z2u, ↓Z2v, ↓Z2w, ↓Z2x, Z2y, Z2z, Z30, Z31, Z32, Z33, ev_t, ev_c, ev_g, ev_f, hv_t, hv_f, hv_n, Z34, Z35, Z36, Y01, Y02, Y03, Y04, Y05, Z3a, Y06, Y07, nth?, Y08, Y09, Y0a, Y0b, Y0c, Y0d, Y0e, putN, Z3i, repL, Y0f, Y0g, Y0h, Y0i, Y0j, Y0k, Y0l, Y0m, Y0n, Y0o, Y0p, Y0q, Y0r, Y0s, Z3r, Z3s, Z3t, depB, Fd, Fall, Dis, Dis1, Z3u, Z3v, appC, appN, mapC, mapN, List.append_eq, Z3w, Array.toArray_toList, Z3x, Z3y, List.getElem?_cons_zero, List.getElem?_cons_succ, Nat.reduceAdd, Nat.reduceSub, Nat.reduceMul, Nat.reduceEqDiff, Nat.zero_add, Nat.add_zero, Nat.mul_one, Nat.zero_mul, if_true, if_false, eq_self, true_and, and_true, reduceCtorEq, false_and, Addr.add_lit, ne_eq, not_false_eq_true, Array.empty_append, Array.append_empty, ↓Z3z, ↓Z40, ↓Z41, ↓Z42, ↓Z43, ↓Z44, ↓Z45, List.getElem?_toArray, Z46, Int.toNat_natCast, Nat.sub_zero, Int.toNat_sub, Sx.Z47, ite_self, ty_3, ty_9, ty_22, ty_23, ty_24, ty_50, ty_54, ty_63, ty_64]
    have hB' : Below w.heap.size w W := hB.trans (hbl.mono hB.size)
    have hp := pow_le_256 (k := 1) (by decide) (by decide)
    refine ⟨fun W1 h1 _ => ?_, ?_⟩
    · refine (show_any W1 B x.1 x.2 _ ((OwnW.rd hx).below h1) (by omega) (by omega) (fun c hc => by have := m3 c hc; omega) (fun c hc => by have := m4 c hc; omega) ((ht.on hB' hBw).on h1 (Nat.le_trans hBw hB'.size)) (Nat.le_trans hBw (Nat.le_trans hB'.size h1.size))).mono ?_
      rintro v W2 ⟨rfl, h2⟩
      exact ⟨h2, rfl, FrOk.no _ _ _⟩
    rintro v ⟨_, _, rfl⟩
    simp only [st_append, Z00, Z01, Z02, Z03, Z04, Z05, Z06, Z07, Z08, Z09, ↓Z0a, ↓Z0b, ↓Z0c, ↓Z0d, ↓Z0e, ↓Z0f, ↓Z0g, ↓Z0h, ↓Z0i, ↓Z0j, ↓Z0k, ↓Z0l, ↓Z0m, ↓Z0n, ↓Z0o, ↓Z0p, resL, res1, resK, Z0q, Z0r, Z0s, Z0t, Z0u, Z0v, Z0w, Z0x, Z0y, Z0z, Z10, Z11, Z12, Z13, Z14, ↓Z15, ↓Z16, Z17, Z18, Z19, Z1a, Z1b, Z1c, ↓Z1d, ↓Z1e, Z1f, ↓Z1g, ↓Z1h, ↓Z1i, ↓Z1j, ↓Z1l, ↓Z1m, ↓Z1n, ↓Z1o, ↓Z1q, ↓Z1v, ↓Z1w, ↓Z1x, ↓Z1z, ↓Z20, ↓Z21, Y00, Z2h, ↓Z2i, ↓Z2j, ↓Z2k, ↓Z2l, ↓Z2m, ↓Z2o, ↓Z2u, ↓Z2v, ↓Z2w, ↓Z2x, Z2y, Z2z, Z30, Z31, Z32, Z33, ev_t, ev_c, ev_g, ev_f, hv_t, hv_f, hv_n, Z34, Z35, Z36, Y01, Y02, Y03, Y04, Y05, Z3a, Y06, Y07, nth?, Y08, Y09, Y0a, Y0b, Y0c, Y0d, Y0e, putN, Z3i, repL, Y0f, Y0g, Y0h, Y0i, Y0j, Y0k, Y0l, Y0m, Y0n, Y0o, Y0p, Y0q, Y0r, Y0s, Z3r, Z3s, Z3t, depB, Fd, Fall, Dis, Dis1, Z3u, Z3v, appC, appN, mapC, mapN, List.append_eq, Z3w, Array.toArray_toList, Z3x, Z3y, List.getElem?_cons_zero, List.getElem?_cons_succ, Nat.reduceAdd, Nat.reduceSub, Nat.reduceMul, Nat.reduceEqDiff, Nat.zero_add, Nat.add_zero, Nat.mul_one, Nat.zero_mul, if_true, if_false, eq_self, true_and, and_true, reduceCtorEq, false_and, Addr.add_lit, ne_eq, not_false_eq_true, Array.empty_append, Array.append_empty, ↓Z3z, ↓Z40, ↓Z41, ↓Z42, ↓Z43, ↓Z44, ↓Z45, List.getElem?_toArray, Z46, Int.toNat_natCast, Nat.sub_zero, Int.toNat_sub, Sx.Z47, ite_self, ty_3, ty_9, ty_22, ty_23, ty_24, ty_50, ty_54, ty_63, ty_64]
    refine ⟨?_, ?_⟩
    · obtain ⟨tl, htl⟩ := hpre
      have := congrArg (fun l => (List.flatMap (fun x : Wrd => showOf x.1 x.2) l).length) htl
      rw [works_all] at this
      simp only [List.flatMap_append, List.flatMap_cons, List.flatMap_nil, List.length_append, List.append_nil, List.length_cons, List.length_nil] at this
      rw [st_size, st_size]
      omega
    rintro W1 h1 - -
    refine ⟨rfl, StA.of (bheap h1 hbs) (by simp) (by simp [Value.oneCell']) ?_⟩
    intro W2 u2
    refine ⟨G, (Kp.below h1).trans (Kp.upd u2 (T := fun k => k = b29) rfl) (fun k _ h => .inl ((hG k).2 (.inr h))), fun k h => .inl (.inl h), hG, ?_, ?_⟩
    · exact (hbl.trans (h1.mono hbl.size)).trans (u2.below (by omega))
    · rw [u2.at_, List.flatMap_append]; simp
  · rintro G W ⟨hG, hbl, hbs⟩ hk hG2
    rw [show3] at hbs
    simp only [List.append_eq, List.cons_append, List.nil_append]
    simp only [show1, show2, show behindOf [1, 2] [3, 4] 3 = 2 by decide, show checkOf [1, 2] [3, 4] 3 = 0 by decide, show checkOf [1, 2] [3, 4] 2 = 50 by decide, show placesOf [1, 2] [3, 4] = 4 by decide, show atOf [1, 2] [3, 4] 5 = 4 by decide, strEq_self, beq_self_eq_true, Z00, Z01, Z02, Z03, Z04, Z05, Z06, Z07, Z08, Z09, ↓Z0a, ↓Z0b, ↓Z0c, ↓Z0d, ↓Z0e, ↓Z0f, ↓Z0g, ↓Z0h, ↓Z0i, ↓Z0j, ↓Z0k, ↓Z0l, ↓Z0m, ↓Z0n, ↓Z0o, ↓Z0p, resL, res1, resK, Z0q, Z0r, Z0s, Z0t, Z0u, Z0v, Z0w, Z0x, Z0y, Z0z, Z10, Z11, Z12, Z13, Z14, ↓Z15, ↓Z16, Z17, Z18, Z19, Z1a, Z1b, Z1c, ↓Z1d, ↓Z1e, Z1f, ↓Z1g, ↓Z1h, ↓Z1i, ↓Z1j, ↓Z1l, ↓Z1m, ↓Z1n, ↓Z1o, ↓Z1q, ↓Z1v, ↓Z1w, ↓Z1x, ↓Z1z, ↓Z20, ↓Z21, Y00, Z2h, ↓Z2i, ↓Z2j, ↓Z2k, ↓Z2l, ↓Z2m, ↓Z2o, ↓Z2u, ↓Z2v, ↓Z2w, ↓Z2x, Z2y, Z2z, Z30, Z31, Z32, Z33, ev_t, ev_c, ev_g, ev_f, hv_t, hv_f, hv_n, Z34, Z35, Z36, Y01, Y02, Y03, Y04, Y05, Z3a, Y06, Y07, nth?, Y08, Y09, Y0a, Y0b, Y0c, Y0d, Y0e, putN, Z3i, repL, Y0f, Y0g, Y0h, Y0i, Y0j, Y0k, Y0l, Y0m, Y0n, Y0o, Y0p, Y0q, Y0r, Y0s, Z3r, Z3s, Z3t, depB, Fd, Fall, Dis, Dis1, Z3u, Z3v, appC, appN, mapC, mapN, List.append_eq, Z3w, Array.toArray_toList, Z3x, Z3y, List.getElem?_cons_zero, List.getElem?_cons_succ, Nat.reduceAdd, Nat.reduceSub, Nat.reduceMul, Nat.reduceEqDiff, Nat.zero_add, Nat.add_zero, Nat.mul_one, Nat.zero_mul, if_true, if_false, eq_self, true_and, and_true, reduceCtorEq, false_and, Addr.add_lit, ne_eq, not_false_eq_true, Array.empty_append, Array.append_empty, ↓Z3z, ↓Z40, ↓Z41, ↓Z42, ↓Z43, ↓Z44, ↓Z45, List.getElem?_toArray, Z46, Int.toNat_natCast, Nat.sub_zero, Int.toNat_sub, Sx.Z47, ite_self, ty_3, ty_9, ty_22, ty_23, ty_24, ty_50, ty_54, ty_63, ty_64]
    simp only [ldSl_blk (bheap hbl e11), Z00, Z01, Z02, Z03, Z04, Z05, Z06, Z07, Z08, Z09, ↓Z0a, ↓Z0b, ↓Z0c, ↓Z0d, ↓Z0e, ↓Z0f, ↓Z0g, ↓Z0h, ↓Z0i, ↓Z0j, ↓Z0k, ↓Z0l, ↓Z0m, ↓Z0n, ↓Z0o, ↓Z0p, resL, res1, resK, Z0q, Z0r, Z0s, Z0t, Z0u, Z0v, Z0w, Z0x, Z0y, Z0z, Z10, Z11, Z12, Z13, Z14, ↓Z15, ↓Z16, Z17, Z18, Z19, Z1a, Z1b, Z1c, ↓Z1d, ↓Z1e, Z1f, ↓Z1g, ↓Z1h, ↓Z1i, ↓Z1j, ↓Z1l, ↓Z1m, ↓Z1n, ↓Z1o, ↓Z1q, ↓Z1v, ↓Z1w, ↓Z1x, ↓Z1z, ↓Z20, ↓Z21, Y00, Z2h, ↓Z2i, ↓Z2j, ↓Z2k, ↓Z2l, ↓Z2m, ↓Z2o, ↓Z2u, ↓Z2v, ↓Z2w, ↓Z2x, Z2y, Z2z, Z30, Z31, Z32, Z33, ev_t, ev_c, ev_g, ev_f, hv_t, hv_f, hv_n, Z34, Z35, Z36, Y01, Y02, Y03, Y04, Y05, Z3a, Y06, Y07, nth?, Y08, Y09, Y0a, Y0b, Y0c, Y0d, Y0e, putN, Z3i, repL, Y0f, Y0g, Y0h, Y0i, Y0j, Y0k, Y0l, Y0m, Y0n, Y0o, Y0p, Y0q, Y0r, Y0s, Z3r, Z3s, Z3t, depB, Fd, Fall, Dis, Dis1, Z3u, Z3v, appC, appN, mapC, mapN, List.append_eq, Z3w, Array.toArray_toList, Z3x, Z3y, List.getElem?_cons_zero, List.getElem?_cons_succ, Nat.reduceAdd, Nat.reduceSub, Nat.reduceMul, Nat.reduceEqDiff, Nat.zero_add, Nat.add_zero, Nat.mul_one, Nat.zero_mul, if_true, if_false, eq_self, true_and, and_true, reduceCtorEq, false_and, Addr.add_lit, ne_eq, not_false_eq_true, Array.empty_append, Array.append_empty, ↓Z3z, ↓Z40, ↓Z41, ↓Z42, ↓Z43, ↓Z44, ↓Z45, List.getElem?_toArray, Z46, Int.toNat_natCast, Nat.sub_zero, Int.toNat_sub, Sx.Z47, ite_self, ty_3, ty_9, ty_22, ty_23, ty_24, ty_50, ty_54, ty_63, ty_64]
    refine BrE (fun _ => BrE (fun _ => ?_) (fun h => absurd rfl h)) (fun h => absurd rfl h)
    refine (r27.below hbl).at2 (i := 2) (by decide) (by decide) fun b o => ?_
    refine BrE (fun _ => ?_) (fun h => absurd rfl h)
    simp only [ldStr_blk hbs, strEq_self, retM_r, Z00, Z01, Z02, Z03, Z04, Z05, Z06, Z07, Z08, Z09, ↓Z0a, ↓Z0b, ↓Z0c, ↓Z0d, ↓Z0e, ↓Z0f, ↓Z0g, ↓Z0h, ↓Z0i, ↓Z0j, ↓Z0k, ↓Z0l, ↓Z0m, ↓Z0n, ↓Z0o, ↓Z0p, resL, res1, resK, Z0q, Z0r, Z0s, Z0t, Z0u, Z0v, Z0w, Z0x, Z0y, Z0z, Z10, Z11, Z12, Z13, Z14, ↓Z15, ↓Z16, Z17, Z18, Z19, Z1a, Z1b, Z1c, ↓Z1d, ↓Z1e, Z1f, ↓Z1g, ↓Z1h, ↓Z1i, ↓Z1j, ↓Z1l, ↓Z1m, ↓Z1n, ↓Z1o, ↓Z1q, ↓Z1v, ↓Z1w, ↓Z1x, ↓Z1z, ↓Z20, ↓Z21, Y00, Z2h, ↓Z2i, ↓Z2j, ↓Z2k, ↓Z2l, ↓Z2m, ↓Z2o, ↓Z2u, ↓Z2v, ↓Z2w, ↓Z2x, Z2y, Z2z, Z30, Z31, Z32, Z33, ev_t, ev_c, ev_g, ev_f, hv_t, hv_f, hv_n, Z34, Z35, Z36, Y01, Y02, Y03, Y04, Y05, Z3a, Y06, Y07, nth?, Y08, Y09, Y0a, Y0b, Y0c, Y0d, Y0e, putN, Z3i, repL, Y0f, Y0g, Y0h, Y0i, Y0j, Y0k, Y0l, Y0m, Y0n, Y0o, Y0p, Y0q, Y0r, Y0s, Z3r, Z3s, Z3t, depB, Fd, Fall, Dis, Dis1, Z3u, Z3v, appC, appN, mapC, mapN, List.append_eq, Z3w, Array.toArray_toList, Z3x, Z3y, List.getElem?_cons_zero, List.getElem?_cons_succ, Nat.reduceAdd, Nat.reduceSub, Nat.reduceMul, Nat.reduceEqDiff, Nat.zero_add, Nat.add_zero, Nat.mul_one, Nat.zero_mul, if_true, if_false, eq_self, true_and, and_true, reduceCtorEq, false_and, Addr.add_lit, ne_eq, not_false_eq_true, Array.empty_append, Array.append_empty, ↓Z3z, ↓Z40, ↓Z41, ↓Z42, ↓Z43, ↓Z44, ↓Z45, List.getElem?_toArray, Z46, Int.toNat_natCast, Nat.sub_zero, Int.toNat_sub, Sx.Z47, ite_self, ty_3, ty_9, ty_22, ty_23, ty_24, ty_50, ty_54, ty_63, ty_64]
    intro W' hs
    exact Ans.mk rfl ((hB.trans (hbl.mono hB.size)).trans hs.below)
end Go.Proofs.YtdpfafgecchafaaDoor

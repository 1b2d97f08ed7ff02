/- Words: all words, one after another: the outer function; All. -/
import Derived.Test.YtdpfafgecchafaaDoorWm
set_option linter.unusedVariables false
set_option maxRecDepth 20000
set_option linter.unusedSimpArgs false
namespace Go.Proofs.YtdpfafgecchafaaDoor
open Go Go.RowKit Sx

theorem wordsN_split (k n s : Nat) (h : s < n) : ∃ tl, (List.range s).flatMap (fun st => emit k st n []) ++ emit k s n [] ++ tl = wordsN k n := by
  obtain ⟨d, rfl⟩ : ∃ d, n = s + 1 + d := ⟨n - (s + 1), by omega⟩
  refine ⟨((List.range d).map (s + 1 + ·)).flatMap (fun st => emit k st (s + 1 + d) []), ?_⟩
  rw [wordsN, List.range_add, List.flatMap_append, List.range_succ, List.flatMap_append]
  simp
theorem wordsTo_split (k m n : Nat) (h : n < m) : ∃ tl, wordsTo k n ++ wordsN k (n + 1) ++ tl = wordsTo k m := by
  obtain ⟨d, rfl⟩ : ∃ d, m = n + 1 + d := ⟨m - (n + 1), by omega⟩
  refine ⟨((List.range d).map (n + 1 + ·)).flatMap (fun n => wordsN k (n + 1)), ?_⟩
  rw [wordsTo, wordsTo, List.range_add, List.flatMap_append, List.range_succ, List.flatMap_append]
  simp
theorem wordsTo_succ (k n : Nat) : wordsTo k (n + 1) = wordsTo k n ++ wordsN k (n + 1) := by
  rw [wordsTo, wordsTo, List.range_succ, List.flatMap_append]; simp
theorem wordsTo_le (k : Nat) {n m : Nat} (h : n ≤ m) : (wordsTo k n).length ≤ (wordsTo k m).length := by
  rcases Nat.lt_or_eq_of_le h with h | rfl
  · obtain ⟨tl, h⟩ := wordsTo_split k m n h
    rw [← h]; simp
  · exact Nat.le_refl _

theorem emit_mem (k st : Nat) : ∀ (n : Nat) (r : List Int) (x : Wrd), x ∈ emit k st n r → ∃ s : List Int, s.length = n ∧ (∀ c ∈ s, 0 ≤ c ∧ c < 2 ^ k) ∧ x = ((r ++ s).take st, (r ++ s).drop st) ∧ isN x = true := by
  intro n
  induction n with
  | zero =>
    intro r x hx
    rw [emit] at hx
    split at hx
    · rename_i h
      rw [List.mem_singleton] at hx
      subst hx
      exact ⟨[], rfl, (fun c hc => by cases hc), by simp, h⟩
    · cases hx
  | succ n ih =>
    intro r x hx
    rw [emit, List.mem_flatMap] at hx
    obtain ⟨c, hc, hx⟩ := hx
    rw [List.mem_range] at hc
    obtain ⟨s, h1, h2, h3, h4⟩ := ih _ _ hx
    refine ⟨(c : Int) :: s, by simp [h1], ?_, by rw [h3]; simp, h4⟩
    intro d hd
    rcases List.mem_cons.1 hd with rfl | hd
    · refine ⟨by omega, ?_⟩
      have : ((c : Nat) : Int) < ((2 ^ k : Nat) : Int) := by omega
      simpa using this
    · exact h2 d hd
theorem wordsTo_mem {k m : Nat} {x : Wrd} (h : x ∈ wordsTo k m) : x.1.length + x.2.length ≤ m ∧ 0 < x.2.length ∧ (∀ c ∈ x.1, 0 ≤ c ∧ c < 2 ^ k) ∧ (∀ c ∈ x.2, 0 ≤ c ∧ c < 2 ^ k) ∧ isN x = true := by
  rw [wordsTo, List.mem_flatMap] at h
  obtain ⟨n, hn, h⟩ := h
  rw [List.mem_range] at hn
  rw [wordsN, List.mem_flatMap] at h
  obtain ⟨s, hs, h⟩ := h
  rw [List.mem_range] at hs
  obtain ⟨l, h1, h2, h3, h4⟩ := emit_mem _ _ _ _ _ h
  rw [List.nil_append] at h3
  subst h3
  refine ⟨by simp; omega, by simp; omega, fun c hc => h2 c (List.mem_of_mem_take hc), fun c hc => h2 c (List.mem_of_mem_drop hc), h4⟩

def wordsOf (k m : Int) : List Wrd := if 0 ≤ k ∧ k ≤ 8 then wordsTo k.toNat m.toNat else []

theorem all1_any (bd : Option Nat) (k m : Int) (pc zc : Nat) (w : World) (hp : w.heap[pc]? = some (.cells #[.int .i64 k] 3 (0, 0))) (hz : w.heap[zc]? = some (.cells #[.int .i64 m] 3 (0, 0)))
    (hm0 : -9223372036854775808 ≤ m) (hm : m ≤ 9223372036854775807) (hbig : m ≤ 1000000 ∨ ∃ N, bd = some N ∧ N < (wordsTo k.toNat 1000000).length) :
    Seq bd C.P 71 #[ptr pc, ptr zc] encW (wordsOf k m) (fun b => b = pc ∨ b = zc) w := by
  intro l G J Jx hJ hJx hj hrd hR hbd
  show CallG C.P _ #[.func (.yield l) #[] #[], .pointer (some ⟨pc, 0, none⟩), .pointer (some ⟨zc, 0, none⟩)] w _
  refine fn_ok (C := C) (args := [_, _, _]) 26 [] Tryd.func71 rfl rfl rfl rfl ?_
  simp only [Tryd.f71, Z00, Z01, Z02, Z03, Z04, Z05, Z06, Z07, Z08, Z09, ↓Z0a, ↓Z0b, ↓Z0c, ↓Z0d, ↓Z0e, ↓Z0f, ↓Z0g, ↓Z0h, ↓Z0i, ↓Z0j, ↓Z0k, ↓Z0l, ↓Z0m, ↓Z0n, ↓Z0o, ↓Z0p, resL, res1, resK, Z0q, Z0r, Z0s, Z0t, Z0u, Z0v, Z0w, Z0x, Z0y, Z0z, Z10, Z11, Z12, Z13, Z14, ↓Z15, ↓Z16, Z17, Z18, Z19, Z1a, Z1b, Z1c, ↓Z1d, ↓Z1e, Z1f, ↓Z1g, ↓Z1h, ↓Z1i, ↓Z1j, ↓Z1k, ↓Z1n, ↓Z1o, ↓Z1q, ↓Z1r, ↓Z1s, ↓Z1z, ↓Z20, ↓Z21, Y00, Z2h, ↓Z2i, ↓Z2j, ↓Z2k, ↓Z2m, ↓Z2o, ↓Z2p, ↓Z2r, ↓Z2x, Z2y, Z2z, Z30, Z31, Z32, Z33, ev_t, ev_c, ev_g, ev_f, hv_t, hv_f, hv_n, Z34, Z35, Z36, Y01, Y02, Y03, Y04, Y05, Z3a, Y06, Y07, nth?, Y08, Y09, Y0a, Y0b, Y0c, Y0d, Y0e, putN, Z3i, repL, Y0f, Y0g, Y0h, Y0i, Y0j, Y0k, Y0l, Y0m, Y0n, Y0o, Y0p, Y0q, Y0r, Y0s, Z3r, Z3s, Z3t, depB, Fd, Fall, Dis, Dis1, Z3u, Z3v, appC, appN, mapC, mapN, List.append_eq, Z3w, Array.toArray_toList, Z3x, Z3y, List.getElem?_cons_zero, List.getElem?_cons_succ, Nat.reduceAdd, Nat.reduceSub, Nat.reduceMul, Nat.reduceEqDiff, Nat.zero_add, Nat.add_zero, Nat.mul_one, Nat.zero_mul, if_true, if_false, eq_self, true_and, and_true, reduceCtorEq, false_and, Addr.add_lit, ne_eq, not_false_eq_true, Array.empty_append, Array.append_empty, ↓Z3z, ↓Z40, ↓Z41, ↓Z42, ↓Z43, ↓Z44, ↓Z45, List.getElem?_toArray, Z46, Int.toNat_natCast, Nat.sub_zero, Int.toNat_sub, Sx.Z47, ite_self, ty_3, ty_22, ty_26, ty_54, ty_102]
  intro b3 w1 n1
  simp only [ldInt_blk (bheap n1.ext hp), ldInt_blk (bheap n1.ext hz), Z00, Z01, Z02, Z03, Z04, Z05, Z06, Z07, Z08, Z09, ↓Z0a, ↓Z0b, ↓Z0c, ↓Z0d, ↓Z0e, ↓Z0f, ↓Z0g, ↓Z0h, ↓Z0i, ↓Z0j, ↓Z0k, ↓Z0l, ↓Z0m, ↓Z0n, ↓Z0o, ↓Z0p, resL, res1, resK, Z0q, Z0r, Z0s, Z0t, Z0u, Z0v, Z0w, Z0x, Z0y, Z0z, Z10, Z11, Z12, Z13, Z14, ↓Z15, ↓Z16, Z17, Z18, Z19, Z1a, Z1b, Z1c, ↓Z1d, ↓Z1e, Z1f, ↓Z1g, ↓Z1h, ↓Z1i, ↓Z1j, ↓Z1k, ↓Z1n, ↓Z1o, ↓Z1q, ↓Z1r, ↓Z1s, ↓Z1z, ↓Z20, ↓Z21, Y00, Z2h, ↓Z2i, ↓Z2j, ↓Z2k, ↓Z2m, ↓Z2o, ↓Z2p, ↓Z2r, ↓Z2x, Z2y, Z2z, Z30, Z31, Z32, Z33, ev_t, ev_c, ev_g, ev_f, hv_t, hv_f, hv_n, Z34, Z35, Z36, Y01, Y02, Y03, Y04, Y05, Z3a, Y06, Y07, nth?, Y08, Y09, Y0a, Y0b, Y0c, Y0d, Y0e, putN, Z3i, repL, Y0f, Y0g, Y0h, Y0i, Y0j, Y0k, Y0l, Y0m, Y0n, Y0o, Y0p, Y0q, Y0r, Y0s, Z3r, Z3s, Z3t, depB, Fd, Fall, Dis, Dis1, Z3u, Z3v, appC, appN, mapC, mapN, List.append_eq, Z3w, Array.toArray_toList, Z3x, Z3y, List.getElem?_cons_zero, List.getElem?_cons_succ, Nat.reduceAdd, Nat.reduceSub, Nat.reduceMul, Nat.reduceEqDiff, Nat.zero_add, Nat.add_zero, Nat.mul_one, Nat.zero_mul, if_true, if_false, eq_self, true_and, and_true, reduceCtorEq, false_and, Addr.add_lit, ne_eq, not_false_eq_true, Array.empty_append, Array.append_empty, ↓Z3z, ↓Z40, ↓Z41, ↓Z42, ↓Z43, ↓Z44, ↓Z45, List.getElem?_toArray, Z46, Int.toNat_natCast, Nat.sub_zero, Int.toNat_sub, Sx.Z47, ite_self, ty_3, ty_22, ty_26, ty_54, ty_102]
  refine BrD (fun h => ?_) (fun h0 => BrD (fun h => ?_) (fun h8 => ?_))
  · refine ⟨G, Kp.new n1, fun b h => .inl h, .inl ?_⟩
    rw [wordsOf, if_neg (by omega)]
    exact (hJ _).keep hj (Kp.new n1)
  · refine ⟨G, Kp.new n1, fun b h => .inl h, .inl ?_⟩
    rw [wordsOf, if_neg (by omega)]
    exact (hJ _).keep hj (Kp.new n1)
  obtain ⟨kn, rfl⟩ : ∃ kn : Nat, k = kn := ⟨k.toNat, by omega⟩
  have hkn : kn ≤ 8 := by omega
  have hws : wordsOf kn m = wordsTo kn m.toNat := by rw [wordsOf, if_pos ⟨by omega, by omega⟩]; rfl
  rw [hws] at hR ⊢
  rw [Int.toNat_natCast] at hbig
  intro b4 w2 n2 b5 w3 n3
  simp only [Z00, Z01, Z02, Z03, Z04, Z05, Z06, Z07, Z08, Z09, ↓Z0a, ↓Z0b, ↓Z0c, ↓Z0d, ↓Z0e, ↓Z0f, ↓Z0g, ↓Z0h, ↓Z0i, ↓Z0j, ↓Z0k, ↓Z0l, ↓Z0m, ↓Z0n, ↓Z0o, ↓Z0p, resL, res1, resK, Z0q, Z0r, Z0s, Z0t, Z0u, Z0v, Z0w, Z0x, Z0y, Z0z, Z10, Z11, Z12, Z13, Z14, ↓Z15, ↓Z16, Z17, Z18, Z19, Z1a, Z1b, Z1c, ↓Z1d, ↓Z1e, Z1f, ↓Z1g, ↓Z1h, ↓Z1i, ↓Z1j, ↓Z1k, ↓Z1n, ↓Z1o, ↓Z1q, ↓Z1r, ↓Z1s, ↓Z1z, ↓Z20, ↓Z21, Y00, Z2h, ↓Z2i, ↓Z2j, ↓Z2k, ↓Z2m, ↓Z2o, ↓Z2p, ↓Z2r, ↓Z2x, Z2y, Z2z, Z30, Z31, Z32, Z33, ev_t, ev_c, ev_g, ev_f, hv_t, hv_f, hv_n, Z34, Z35, Z36, Y01, Y02, Y03, Y04, Y05, Z3a, Y06, Y07, nth?, Y08, Y09, Y0a, Y0b, Y0c, Y0d, Y0e, putN, Z3i, repL, Y0f, Y0g, Y0h, Y0i, Y0j, Y0k, Y0l, Y0m, Y0n, Y0o, Y0p, Y0q, Y0r, Y0s, Z3r, Z3s, Z3t, depB, Fd, Fall, Dis, Dis1, Z3u, Z3v, appC, appN, mapC, mapN, List.append_eq, Z3w, Array.toArray_toList, Z3x, Z3y, List.getElem?_cons_zero, List.getElem?_cons_succ, Nat.reduceAdd, Nat.reduceSub, Nat.reduceMul, Nat.reduceEqDiff, Nat.zero_add, Nat.add_zero, Nat.mul_one, Nat.zero_mul, if_true, if_false, eq_self, true_and, and_true, reduceCtorEq, false_and, Addr.add_lit, ne_eq, not_false_eq_true, Array.empty_append, Array.append_empty, ↓Z3z, ↓Z40, ↓Z41, ↓Z42, ↓Z43, ↓Z44, ↓Z45, List.getElem?_toArray, Z46, Int.toNat_natCast, Nat.sub_zero, Int.toNat_sub, Sx.Z47, ite_self, ty_3, ty_22, ty_26, ty_54, ty_102]
  refine ⟨rfl, StA.of n3.at_ (by simp) (by simp [Value.oneCell']) ?_⟩
  intro w4 u4 b6 w5 n5
  simp only [Z00, Z01, Z02, Z03, Z04, Z05, Z06, Z07, Z08, Z09, ↓Z0a, ↓Z0b, ↓Z0c, ↓Z0d, ↓Z0e, ↓Z0f, ↓Z0g, ↓Z0h, ↓Z0i, ↓Z0j, ↓Z0k, ↓Z0l, ↓Z0m, ↓Z0n, ↓Z0o, ↓Z0p, resL, res1, resK, Z0q, Z0r, Z0s, Z0t, Z0u, Z0v, Z0w, Z0x, Z0y, Z0z, Z10, Z11, Z12, Z13, Z14, ↓Z15, ↓Z16, Z17, Z18, Z19, Z1a, Z1b, Z1c, ↓Z1d, ↓Z1e, Z1f, ↓Z1g, ↓Z1h, ↓Z1i, ↓Z1j, ↓Z1k, ↓Z1n, ↓Z1o, ↓Z1q, ↓Z1r, ↓Z1s, ↓Z1z, ↓Z20, ↓Z21, Y00, Z2h, ↓Z2i, ↓Z2j, ↓Z2k, ↓Z2m, ↓Z2o, ↓Z2p, ↓Z2r, ↓Z2x, Z2y, Z2z, Z30, Z31, Z32, Z33, ev_t, ev_c, ev_g, ev_f, hv_t, hv_f, hv_n, Z34, Z35, Z36, Y01, Y02, Y03, Y04, Y05, Z3a, Y06, Y07, nth?, Y08, Y09, Y0a, Y0b, Y0c, Y0d, Y0e, putN, Z3i, repL, Y0f, Y0g, Y0h, Y0i, Y0j, Y0k, Y0l, Y0m, Y0n, Y0o, Y0p, Y0q, Y0r, Y0s, Z3r, Z3s, Z3t, depB, Fd, Fall, Dis, Dis1, Z3u, Z3v, appC, appN, mapC, mapN, List.append_eq, Z3w, Array.toArray_toList, Z3x, Z3y, List.getElem?_cons_zero, List.getElem?_cons_succ, Nat.reduceAdd, Nat.reduceSub, Nat.reduceMul, Nat.reduceEqDiff, Nat.zero_add, Nat.add_zero, Nat.mul_one, Nat.zero_mul, if_true, if_false, eq_self, true_and, and_true, reduceCtorEq, false_and, Addr.add_lit, ne_eq, not_false_eq_true, Array.empty_append, Array.append_empty, ↓Z3z, ↓Z40, ↓Z41, ↓Z42, ↓Z43, ↓Z44, ↓Z45, List.getElem?_toArray, Z46, Int.toNat_natCast, Nat.sub_zero, Int.toNat_sub, Sx.Z47, ite_self, ty_3, ty_22, ty_26, ty_54, ty_102]
  refine ⟨rfl, StA.of n5.at_ (by simp) (by simp [Value.oneCell']) ?_⟩
  intro w6 u6
  simp only [Z00, Z01, Z02, Z03, Z04, Z05, Z06, Z07, Z08, Z09, ↓Z0a, ↓Z0b, ↓Z0c, ↓Z0d, ↓Z0e, ↓Z0f, ↓Z0g, ↓Z0h, ↓Z0i, ↓Z0j, ↓Z0k, ↓Z0l, ↓Z0m, ↓Z0n, ↓Z0o, ↓Z0p, resL, res1, resK, Z0q, Z0r, Z0s, Z0t, Z0u, Z0v, Z0w, Z0x, Z0y, Z0z, Z10, Z11, Z12, Z13, Z14, ↓Z15, ↓Z16, Z17, Z18, Z19, Z1a, Z1b, Z1c, ↓Z1d, ↓Z1e, Z1f, ↓Z1g, ↓Z1h, ↓Z1i, ↓Z1j, ↓Z1k, ↓Z1n, ↓Z1o, ↓Z1q, ↓Z1r, ↓Z1s, ↓Z1z, ↓Z20, ↓Z21, Y00, Z2h, ↓Z2i, ↓Z2j, ↓Z2k, ↓Z2m, ↓Z2o, ↓Z2p, ↓Z2r, ↓Z2x, Z2y, Z2z, Z30, Z31, Z32, Z33, ev_t, ev_c, ev_g, ev_f, hv_t, hv_f, hv_n, Z34, Z35, Z36, Y01, Y02, Y03, Y04, Y05, Z3a, Y06, Y07, nth?, Y08, Y09, Y0a, Y0b, Y0c, Y0d, Y0e, putN, Z3i, repL, Y0f, Y0g, Y0h, Y0i, Y0j, Y0k, Y0l, Y0m, Y0n, Y0o, Y0p, Y0q, Y0r, Y0s, Z3r, Z3s, Z3t, depB, Fd, Fall, Dis, Dis1, Z3u, Z3v, appC, appN, mapC, mapN, List.append_eq, Z3w, Array.toArray_toList, Z3x, Z3y, List.getElem?_cons_zero, List.getElem?_cons_succ, Nat.reduceAdd, Nat.reduceSub, Nat.reduceMul, Nat.reduceEqDiff, Nat.zero_add, Nat.add_zero, Nat.mul_one, Nat.zero_mul, if_true, if_false, eq_self, true_and, and_true, reduceCtorEq, false_and, Addr.add_lit, ne_eq, not_false_eq_true, Array.empty_append, Array.append_empty, ↓Z3z, ↓Z40, ↓Z41, ↓Z42, ↓Z43, ↓Z44, ↓Z45, List.getElem?_toArray, Z46, Int.toNat_natCast, Nat.sub_zero, Int.toNat_sub, Sx.Z47, ite_self, ty_3, ty_22, ty_26, ty_54, ty_102]
  have hb3 := n1.hb
  have hb4 := n2.hb
  have hb5 := n3.hb
  have hb6 := n5.hb
  have s1 := n1.size
  have s2 := n2.size
  have s3 := n3.size
  have s4 := u4.size
  have s5 := n5.size
  have s6 := u6.size
  obtain ⟨i, hi⟩ : ∃ i : Itr, i = ⟨b4, b5, b3, b6, pc⟩ := ⟨_, rfl⟩
  have hpl := (Array.getElem?_eq_some_iff.1 hp).1
  have hzl := (Array.getElem?_eq_some_iff.1 hz).1
  have hw6 : Below w.heap.size w w6 := ((((n1.ext.trans (n2.ext.mono (by omega))).trans (n3.ext.mono (by omega))).trans (u4.below (by omega))).trans (n5.ext.mono (by omega))).trans (u6.below (by omega))
  have hB6 : ItB i kn 0 l w6 := by
    subst hi
    refine ⟨?_, ?_, ?_, bheap hw6 hp⟩
    · exact (u6.rest b5 (by omega)).trans (bheap n5.ext u4.at_)
    · exact (u6.rest b3 (by omega)).trans (bheap n5.ext ((u4.rest b3 (by omega)).trans (bheap n3.ext (bheap n2.ext n1.at_))))
    · exact u6.at_
  have hr6 : ItR i w6 (.slice none 0 0) [] := by
    subst hi
    exact ⟨(u6.rest b4 (by omega)).trans (bheap n5.ext ((u4.rest b4 (by omega)).trans (bheap n3.ext n2.at_))), OwnU.nil _ _⟩
  have hlow : ∀ b, i.in (.slice none 0 0) b → b = pc ∨ w.heap.size ≤ b := by
    subst hi
    rintro b (h | h | h | h | h | h)
    · have h : b = b4 := h; exact .inr (by omega)
    · have h : b = b5 := h; exact .inr (by omega)
    · have h : b = b3 := h; exact .inr (by omega)
    · have h : b = b6 := h; exact .inr (by omega)
    · exact .inl h
    · cases h
  refine loop_ok [false, false, false, false, false, false, false, true, false, false, false, false, false, false, false, true, true, true, true, true, true, true, true, true, true, true, true, true, true] (fun u wr => ∃ n : Nat, u 7 = .int .i64 n ∧ 1 ≤ n ∧ n ≤ m.toNat + 1 ∧ ∃ G' v st, ItB i kn st l wr ∧ ItR i wr v [] ∧ (∀ b, i.in v b → ¬ G' b) ∧ (∀ b, roomOf v = some b → w.heap.size ≤ b) ∧ Kp G w wr ∧ (∀ b, G' b → G b ∨ w.heap.size ≤ b) ∧ J (wordsTo kn (n - 1)) G' wr)
    (fun u wr => m.toNat + 1 - (intOf (u 7)).toNat) ⟨rfl, 1, rfl, Nat.le_refl _, by omega, G, _, 0, hB6, hr6, ?_, (fun b h => by cases h), Kp.below hw6, fun b h => .inl h, (hJ _).keep hj (Kp.below hw6)⟩ ?_
  · intro b hb hg
    rcases hlow b hb with h | h
    · exact hrd b (.inl h) hg
    · have := (hJ _).lt hj b hg; omega
  rintro u wr ⟨n, h7, hn1, hnm, G1, v1, st1, hB1, hr1, hd1, hv1, hk1, hG1, hj1⟩
  simp only [Z00, Z01, Z02, Z03, Z04, Z05, Z06, Z07, Z08, Z09, ↓Z0a, ↓Z0b, ↓Z0c, ↓Z0d, ↓Z0e, ↓Z0f, ↓Z0g, ↓Z0h, ↓Z0i, ↓Z0j, ↓Z0k, ↓Z0l, ↓Z0m, ↓Z0n, ↓Z0o, ↓Z0p, resL, res1, resK, Z0q, Z0r, Z0s, Z0t, Z0u, Z0v, Z0w, Z0x, Z0y, Z0z, Z10, Z11, Z12, Z13, Z14, ↓Z15, ↓Z16, Z17, Z18, Z19, Z1a, Z1b, Z1c, ↓Z1d, ↓Z1e, Z1f, ↓Z1g, ↓Z1h, ↓Z1i, ↓Z1j, ↓Z1k, ↓Z1n, ↓Z1o, ↓Z1q, ↓Z1r, ↓Z1s, ↓Z1z, ↓Z20, ↓Z21, Y00, Z2h, ↓Z2i, ↓Z2j, ↓Z2k, ↓Z2m, ↓Z2o, ↓Z2p, ↓Z2r, ↓Z2x, Z2y, Z2z, Z30, Z31, Z32, Z33, ev_t, ev_c, ev_g, ev_f, hv_t, hv_f, hv_n, Z34, Z35, Z36, Y01, Y02, Y03, Y04, Y05, Z3a, Y06, Y07, nth?, Y08, Y09, Y0a, Y0b, Y0c, Y0d, Y0e, putN, Z3i, repL, Y0f, Y0g, Y0h, Y0i, Y0j, Y0k, Y0l, Y0m, Y0n, Y0o, Y0p, Y0q, Y0r, Y0s, Z3r, Z3s, Z3t, depB, Fd, Fall, Dis, Dis1, Z3u, Z3v, appC, appN, mapC, mapN, List.append_eq, Z3w, Array.toArray_toList, Z3x, Z3y, List.getElem?_cons_zero, List.getElem?_cons_succ, Nat.reduceAdd, Nat.reduceSub, Nat.reduceMul, Nat.reduceEqDiff, Nat.zero_add, Nat.add_zero, Nat.mul_one, Nat.zero_mul, if_true, if_false, eq_self, true_and, and_true, reduceCtorEq, false_and, Addr.add_lit, ne_eq, not_false_eq_true, Array.empty_append, Array.append_empty, ↓Z3z, ↓Z40, ↓Z41, ↓Z42, ↓Z43, ↓Z44, ↓Z45, List.getElem?_toArray, Z46, Int.toNat_natCast, Nat.sub_zero, Int.toNat_sub, Sx.Z47, ite_self, ty_3, ty_22, ty_26, ty_54, ty_102, h7]
  have hz1 := hk1.at_ hz (hrd zc (.inr rfl))
  simp only [ldInt_blk hz1, Z00, Z01, Z02, Z03, Z04, Z05, Z06, Z07, Z08, Z09, ↓Z0a, ↓Z0b, ↓Z0c, ↓Z0d, ↓Z0e, ↓Z0f, ↓Z0g, ↓Z0h, ↓Z0i, ↓Z0j, ↓Z0k, ↓Z0l, ↓Z0m, ↓Z0n, ↓Z0o, ↓Z0p, resL, res1, resK, Z0q, Z0r, Z0s, Z0t, Z0u, Z0v, Z0w, Z0x, Z0y, Z0z, Z10, Z11, Z12, Z13, Z14, ↓Z15, ↓Z16, Z17, Z18, Z19, Z1a, Z1b, Z1c, ↓Z1d, ↓Z1e, Z1f, ↓Z1g, ↓Z1h, ↓Z1i, ↓Z1j, ↓Z1k, ↓Z1n, ↓Z1o, ↓Z1q, ↓Z1r, ↓Z1s, ↓Z1z, ↓Z20, ↓Z21, Y00, Z2h, ↓Z2i, ↓Z2j, ↓Z2k, ↓Z2m, ↓Z2o, ↓Z2p, ↓Z2r, ↓Z2x, Z2y, Z2z, Z30, Z31, Z32, Z33, ev_t, ev_c, ev_g, ev_f, hv_t, hv_f, hv_n, Z34, Z35, Z36, Y01, Y02, Y03, Y04, Y05, Z3a, Y06, Y07, nth?, Y08, Y09, Y0a, Y0b, Y0c, Y0d, Y0e, putN, Z3i, repL, Y0f, Y0g, Y0h, Y0i, Y0j, Y0k, Y0l, Y0m, Y0n, Y0o, Y0p, Y0q, Y0r, Y0s, Z3r, Z3s, Z3t, depB, Fd, Fall, Dis, Dis1, Z3u, Z3v, appC, appN, mapC, mapN, List.append_eq, Z3w, Array.toArray_toList, Z3x, Z3y, List.getElem?_cons_zero, List.getElem?_cons_succ, Nat.reduceAdd, Nat.reduceSub, Nat.reduceMul, Nat.reduceEqDiff, Nat.zero_add, Nat.add_zero, Nat.mul_one, Nat.zero_mul, if_true, if_false, eq_self, true_and, and_true, reduceCtorEq, false_and, Addr.add_lit, ne_eq, not_false_eq_true, Array.empty_append, Array.append_empty, ↓Z3z, ↓Z40, ↓Z41, ↓Z42, ↓Z43, ↓Z44, ↓Z45, List.getElem?_toArray, Z46, Int.toNat_natCast, Nat.sub_zero, Int.toNat_sub, Sx.Z47, ite_self, ty_3, ty_22, ty_26, ty_54, ty_102, h7]
  have hs1 := hk1.size
  refine BrD (fun hle => ?_) (fun hgt => ?_)
  · have hlt : n - 1 < m.toNat := by omega
    have hnb : n ≤ 1000000 := by
      rcases hbig with h | ⟨N, hN, h⟩
      · omega
      · have h1 := hbd N hN _ _ _ hj1
        have h2 : ¬ 1000000 ≤ n - 1 := fun h' => by have := wordsTo_le kn h'; omega
        omega
    obtain ⟨tl, htl⟩ := wordsTo_split kn m.toNat (n - 1) hlt
    rw [Nat.sub_add_cancel hn1] at htl
    refine loop_ok [false, false, false, false, false, false, false, false, false, false, false, false, false, false, false, false, false, false, false, false, false, true, true, true, true, true, true, true, true] (fun u wr => ∃ s : Nat, u 21 = .int .i64 s ∧ s ≤ n ∧ ∃ G' v st, ItB i kn st l wr ∧ ItR i wr v [] ∧ (∀ b, i.in v b → ¬ G' b) ∧ (∀ b, roomOf v = some b → w.heap.size ≤ b) ∧ Kp G w wr ∧ (∀ b, G' b → G b ∨ w.heap.size ≤ b) ∧ J (wordsTo kn (n - 1) ++ (List.range s).flatMap fun st => emit kn st n []) G' wr)
      (fun u wr => n - (intOf (u 21)).toNat) ⟨rfl, 0, rfl, Nat.zero_le _, G1, v1, st1, hB1, hr1, hd1, hv1, hk1, hG1, by simpa using hj1⟩ ?_
    rintro u2 wr ⟨s, h21, hsn, G2, v2, st2, hB2, hr2, hd2, hv2, hk2, hG2, hj2⟩
    simp only [Z00, Z01, Z02, Z03, Z04, Z05, Z06, Z07, Z08, Z09, ↓Z0a, ↓Z0b, ↓Z0c, ↓Z0d, ↓Z0e, ↓Z0f, ↓Z0g, ↓Z0h, ↓Z0i, ↓Z0j, ↓Z0k, ↓Z0l, ↓Z0m, ↓Z0n, ↓Z0o, ↓Z0p, resL, res1, resK, Z0q, Z0r, Z0s, Z0t, Z0u, Z0v, Z0w, Z0x, Z0y, Z0z, Z10, Z11, Z12, Z13, Z14, ↓Z15, ↓Z16, Z17, Z18, Z19, Z1a, Z1b, Z1c, ↓Z1d, ↓Z1e, Z1f, ↓Z1g, ↓Z1h, ↓Z1i, ↓Z1j, ↓Z1k, ↓Z1n, ↓Z1o, ↓Z1q, ↓Z1r, ↓Z1s, ↓Z1z, ↓Z20, ↓Z21, Y00, Z2h, ↓Z2i, ↓Z2j, ↓Z2k, ↓Z2m, ↓Z2o, ↓Z2p, ↓Z2r, ↓Z2x, Z2y, Z2z, Z30, Z31, Z32, Z33, ev_t, ev_c, ev_g, ev_f, hv_t, hv_f, hv_n, Z34, Z35, Z36, Y01, Y02, Y03, Y04, Y05, Z3a, Y06, Y07, nth?, Y08, Y09, Y0a, Y0b, Y0c, Y0d, Y0e, putN, Z3i, repL, Y0f, Y0g, Y0h, Y0i, Y0j, Y0k, Y0l, Y0m, Y0n, Y0o, Y0p, Y0q, Y0r, Y0s, Z3r, Z3s, Z3t, depB, Fd, Fall, Dis, Dis1, Z3u, Z3v, appC, appN, mapC, mapN, List.append_eq, Z3w, Array.toArray_toList, Z3x, Z3y, List.getElem?_cons_zero, List.getElem?_cons_succ, Nat.reduceAdd, Nat.reduceSub, Nat.reduceMul, Nat.reduceEqDiff, Nat.zero_add, Nat.add_zero, Nat.mul_one, Nat.zero_mul, if_true, if_false, eq_self, true_and, and_true, reduceCtorEq, false_and, Addr.add_lit, ne_eq, not_false_eq_true, Array.empty_append, Array.append_empty, ↓Z3z, ↓Z40, ↓Z41, ↓Z42, ↓Z43, ↓Z44, ↓Z45, List.getElem?_toArray, Z46, Int.toNat_natCast, Nat.sub_zero, Int.toNat_sub, Sx.Z47, ite_self, ty_3, ty_22, ty_26, ty_54, ty_102, h7, h21]
    have hs2 := hk2.size
    refine BrD (fun hlt2 => ?_) (fun hge2 => ?_)
    · have hlt2 : s < n := by omega
      have e5 : i.sc = b5 := by rw [hi]
      have e4 : i.rc = b4 := by rw [hi]
      have e3 : i.yc = b3 := by rw [hi]
      have e6 : i.mc = b6 := by rw [hi]
      have ep : i.pc = pc := by rw [hi]
      have hr2b := hr2.1
      have ho2 := hr2.2
      refine ⟨rfl, StA.of (e5 ▸ hB2.sc) (by simp) (by simp [Value.oneCell']) ?_⟩
      intro w7 u7
      have hB7 : ItB i kn s l w7 := ⟨by rw [e5]; exact u7.at_, by rw [e3, u7.rest b3 (by omega), ← e3]; exact hB2.yc, by rw [e6, u7.rest b6 (by omega), ← e6]; exact hB2.mc, by rw [ep, u7.rest pc (by omega), ← ep]; exact hB2.pc⟩
      have hr7 : ItR i w7 v2 [] := ⟨by rw [e4, u7.rest b4 (by omega), ← e4]; exact hr2b, OwnC.keep ho2 fun g hg => u7.rest g (by
        rintro rfl
        obtain ⟨cs, hcs⟩ := ho2.blk hg
        have h5 := hB2.sc
        rw [e5, hcs] at h5
        simp at h5)⟩
      have hk7 : Kp G w w7 := hk2.trans (Kp.upd u7 (T := fun b => b = b5) rfl) (fun b hb h => by omega)
      have hj7 := (hJ _).keep hj2 (Kp.upd u7 (T := fun b => ¬ G2 b) (fun h => hd2 b5 (.inr (.inl e5.symm)) h))
      have hmc := hB7.mc
      rw [e6] at hmc
      simp only [ldAny_blk hmc, Itr.caps, e3, e4, e5, e6, ep, List.append_toArray, List.cons_append, List.nil_append, Z00, Z01, Z02, Z03, Z04, Z05, Z06, Z07, Z08, Z09, ↓Z0a, ↓Z0b, ↓Z0c, ↓Z0d, ↓Z0e, ↓Z0f, ↓Z0g, ↓Z0h, ↓Z0i, ↓Z0j, ↓Z0k, ↓Z0l, ↓Z0m, ↓Z0n, ↓Z0o, ↓Z0p, resL, res1, resK, Z0q, Z0r, Z0s, Z0t, Z0u, Z0v, Z0w, Z0x, Z0y, Z0z, Z10, Z11, Z12, Z13, Z14, ↓Z15, ↓Z16, Z17, Z18, Z19, Z1a, Z1b, Z1c, ↓Z1d, ↓Z1e, Z1f, ↓Z1g, ↓Z1h, ↓Z1i, ↓Z1j, ↓Z1k, ↓Z1n, ↓Z1o, ↓Z1q, ↓Z1r, ↓Z1s, ↓Z1z, ↓Z20, ↓Z21, Y00, Z2h, ↓Z2i, ↓Z2j, ↓Z2k, ↓Z2m, ↓Z2o, ↓Z2p, ↓Z2r, ↓Z2x, Z2y, Z2z, Z30, Z31, Z32, Z33, ev_t, ev_c, ev_g, ev_f, hv_t, hv_f, hv_n, Z34, Z35, Z36, Y01, Y02, Y03, Y04, Y05, Z3a, Y06, Y07, nth?, Y08, Y09, Y0a, Y0b, Y0c, Y0d, Y0e, putN, Z3i, repL, Y0f, Y0g, Y0h, Y0i, Y0j, Y0k, Y0l, Y0m, Y0n, Y0o, Y0p, Y0q, Y0r, Y0s, Z3r, Z3s, Z3t, depB, Fd, Fall, Dis, Dis1, Z3u, Z3v, appC, appN, mapC, mapN, List.append_eq, Z3w, Array.toArray_toList, Z3x, Z3y, List.getElem?_cons_zero, List.getElem?_cons_succ, Nat.reduceAdd, Nat.reduceSub, Nat.reduceMul, Nat.reduceEqDiff, Nat.zero_add, Nat.add_zero, Nat.mul_one, Nat.zero_mul, if_true, if_false, eq_self, true_and, and_true, reduceCtorEq, false_and, Addr.add_lit, ne_eq, not_false_eq_true, Array.empty_append, Array.append_empty, ↓Z3z, ↓Z40, ↓Z41, ↓Z42, ↓Z43, ↓Z44, ↓Z45, List.getElem?_toArray, Z46, Int.toNat_natCast, Nat.sub_zero, Int.toNat_sub, Sx.Z47, ite_self, ty_3, ty_22, ty_26, ty_54, ty_102, h7, h21]
      obtain ⟨tl2, htl2⟩ := wordsN_split kn n s hlt2
      have hcall := more_any kn s l hkn (wordsTo kn m.toNat) J Jx hJ hJx hR i n w7 [] v2 _ (tl2 ++ tl) G2 hB7 hr7 hd2 hj7 (by rw [← htl, ← htl2]; simp) (by simp; omega) (by simp; omega)
      rw [e3, e4, e5, e6, ep] at hcall
      refine hcall.mono ?_
      rintro z w8 ⟨G3, v3, hB8, hr8, hd8, hk8, hG8, hv8, hor⟩
      have hs7 := hk7.size
      have hk8' : Kp G w w8 := hk7.trans hk8 fun b hb h => by
        rcases h with h | h | h
        · exact (hG2 b h).resolve_right (by omega)
        · omega
        · have := hv2 b h; omega
      have hG8' : ∀ b, G3 b → G b ∨ w.heap.size ≤ b := fun b h => by
        rcases hG8 b h with h | h
        · exact hG2 b h
        · exact .inr (by omega)
      have hv8' : ∀ b, roomOf v3 = some b → w.heap.size ≤ b := fun b h => by
        rcases hv8 b h with h | h
        · exact hv2 b h
        · omega
      rcases hor with ⟨rfl, hj8⟩ | ⟨rfl, q, hq, hj8⟩
      · simp only [Z00, Z01, Z02, Z03, Z04, Z05, Z06, Z07, Z08, Z09, ↓Z0a, ↓Z0b, ↓Z0c, ↓Z0d, ↓Z0e, ↓Z0f, ↓Z0g, ↓Z0h, ↓Z0i, ↓Z0j, ↓Z0k, ↓Z0l, ↓Z0m, ↓Z0n, ↓Z0o, ↓Z0p, resL, res1, resK, Z0q, Z0r, Z0s, Z0t, Z0u, Z0v, Z0w, Z0x, Z0y, Z0z, Z10, Z11, Z12, Z13, Z14, ↓Z15, ↓Z16, Z17, Z18, Z19, Z1a, Z1b, Z1c, ↓Z1d, ↓Z1e, Z1f, ↓Z1g, ↓Z1h, ↓Z1i, ↓Z1j, ↓Z1k, ↓Z1n, ↓Z1o, ↓Z1q, ↓Z1r, ↓Z1s, ↓Z1z, ↓Z20, ↓Z21, Y00, Z2h, ↓Z2i, ↓Z2j, ↓Z2k, ↓Z2m, ↓Z2o, ↓Z2p, ↓Z2r, ↓Z2x, Z2y, Z2z, Z30, Z31, Z32, Z33, ev_t, ev_c, ev_g, ev_f, hv_t, hv_f, hv_n, Z34, Z35, Z36, Y01, Y02, Y03, Y04, Y05, Z3a, Y06, Y07, nth?, Y08, Y09, Y0a, Y0b, Y0c, Y0d, Y0e, putN, Z3i, repL, Y0f, Y0g, Y0h, Y0i, Y0j, Y0k, Y0l, Y0m, Y0n, Y0o, Y0p, Y0q, Y0r, Y0s, Z3r, Z3s, Z3t, depB, Fd, Fall, Dis, Dis1, Z3u, Z3v, appC, appN, mapC, mapN, List.append_eq, Z3w, Array.toArray_toList, Z3x, Z3y, List.getElem?_cons_zero, List.getElem?_cons_succ, Nat.reduceAdd, Nat.reduceSub, Nat.reduceMul, Nat.reduceEqDiff, Nat.zero_add, Nat.add_zero, Nat.mul_one, Nat.zero_mul, if_true, if_false, eq_self, true_and, and_true, reduceCtorEq, false_and, Addr.add_lit, ne_eq, not_false_eq_true, Array.empty_append, Array.append_empty, ↓Z3z, ↓Z40, ↓Z41, ↓Z42, ↓Z43, ↓Z44, ↓Z45, List.getElem?_toArray, Z46, Int.toNat_natCast, Nat.sub_zero, Int.toNat_sub, Sx.Z47, ite_self, ty_3, ty_22, ty_26, ty_54, ty_102, h7, h21]
        refine ⟨fun h => absurd h (by simp), fun _ => ⟨⟨s + 1, by rw [wi (by omega) (by omega)]; rfl, by omega, G3, v3, s, hB8, hr8, hd8, hv8', hk8', hG8', ?_⟩, ?_⟩⟩
        · rw [List.range_succ, List.flatMap_append, ← List.append_assoc]
          simpa using hj8
        · rw [wi (by omega) (by omega)]; simp only [intOf]; omega
      · simp only [Z00, Z01, Z02, Z03, Z04, Z05, Z06, Z07, Z08, Z09, ↓Z0a, ↓Z0b, ↓Z0c, ↓Z0d, ↓Z0e, ↓Z0f, ↓Z0g, ↓Z0h, ↓Z0i, ↓Z0j, ↓Z0k, ↓Z0l, ↓Z0m, ↓Z0n, ↓Z0o, ↓Z0p, resL, res1, resK, Z0q, Z0r, Z0s, Z0t, Z0u, Z0v, Z0w, Z0x, Z0y, Z0z, Z10, Z11, Z12, Z13, Z14, ↓Z15, ↓Z16, Z17, Z18, Z19, Z1a, Z1b, Z1c, ↓Z1d, ↓Z1e, Z1f, ↓Z1g, ↓Z1h, ↓Z1i, ↓Z1j, ↓Z1k, ↓Z1n, ↓Z1o, ↓Z1q, ↓Z1r, ↓Z1s, ↓Z1z, ↓Z20, ↓Z21, Y00, Z2h, ↓Z2i, ↓Z2j, ↓Z2k, ↓Z2m, ↓Z2o, ↓Z2p, ↓Z2r, ↓Z2x, Z2y, Z2z, Z30, Z31, Z32, Z33, ev_t, ev_c, ev_g, ev_f, hv_t, hv_f, hv_n, Z34, Z35, Z36, Y01, Y02, Y03, Y04, Y05, Z3a, Y06, Y07, nth?, Y08, Y09, Y0a, Y0b, Y0c, Y0d, Y0e, putN, Z3i, repL, Y0f, Y0g, Y0h, Y0i, Y0j, Y0k, Y0l, Y0m, Y0n, Y0o, Y0p, Y0q, Y0r, Y0s, Z3r, Z3s, Z3t, depB, Fd, Fall, Dis, Dis1, Z3u, Z3v, appC, appN, mapC, mapN, List.append_eq, Z3w, Array.toArray_toList, Z3x, Z3y, List.getElem?_cons_zero, List.getElem?_cons_succ, Nat.reduceAdd, Nat.reduceSub, Nat.reduceMul, Nat.reduceEqDiff, Nat.zero_add, Nat.add_zero, Nat.mul_one, Nat.zero_mul, if_true, if_false, eq_self, true_and, and_true, reduceCtorEq, false_and, Addr.add_lit, ne_eq, not_false_eq_true, Array.empty_append, Array.append_empty, ↓Z3z, ↓Z40, ↓Z41, ↓Z42, ↓Z43, ↓Z44, ↓Z45, List.getElem?_toArray, Z46, Int.toNat_natCast, Nat.sub_zero, Int.toNat_sub, Sx.Z47, ite_self, ty_3, ty_22, ty_26, ty_54, ty_102, h7, h21]
        refine ⟨fun _ => ?_, fun h => absurd h (by simp)⟩
        exact ⟨G3, hk8', hG8', .inr ⟨q, hq, hj8⟩⟩
    · obtain rfl : s = n := by omega
      refine ⟨⟨s + 1, by rw [wi (by omega) (by omega)]; rfl, by omega, by omega, G2, v2, st2, hB2, hr2, hd2, hv2, hk2, hG2, ?_⟩, ?_⟩
      · have : wordsTo kn (s + 1 - 1) = wordsTo kn (s - 1) ++ wordsN kn s := by
          have := wordsTo_succ kn (s - 1)
          rwa [Nat.sub_add_cancel hn1] at this
        rw [this]; exact hj2
      · rw [wi (by omega) (by omega)]; simp only [intOf]; omega
  · have : n - 1 = m.toNat := by omega
    exact ⟨G1, hk1, hG1, .inl (this ▸ hj1)⟩

theorem wordsOf_mem {k m : Int} {x : Wrd} (h : x ∈ wordsOf k m) : 0 ≤ k ∧ k ≤ 8 ∧ x.1.length + x.2.length ≤ m.toNat ∧ 0 < x.2.length ∧ (∀ c ∈ x.1, 0 ≤ c ∧ c < 2 ^ k.toNat) ∧ (∀ c ∈ x.2, 0 ≤ c ∧ c < 2 ^ k.toNat) ∧ isN x = true := by
  rw [wordsOf] at h
  split at h
  · rename_i hk
    exact ⟨hk.1, hk.2, wordsTo_mem h⟩
  · cases h
theorem pow_le_256 {k : Int} (h0 : 0 ≤ k) (h8 : k ≤ 8) : (2 : Int) ^ k.toNat ≤ 256 := by
  have : k.toNat ≤ 8 := by omega
  have h := Nat.pow_le_pow_right (n := 2) (by decide) this
  have : ((2 ^ k.toNat : Nat) : Int) ≤ 256 := by omega
  simpa using this
theorem Good_all1 : Sx.Good C.P 71 := ⟨Tryd.f71, by kernel_rfl, by kernel_rfl, by kernel_rfl⟩

/-- what All hands back: an iterator over these words, as long as its two cells lie as they lay -/
def IsAll (k m : Int) (base : Nat) (v : Value) (w : World) : Prop := ∃ pc zc, v = .func (.func 71) #[] #[ptr pc, ptr zc] ∧ base ≤ pc ∧ base ≤ zc ∧ w.heap[pc]? = some (.cells #[.int .i64 k] 3 (0, 0)) ∧ w.heap[zc]? = some (.cells #[.int .i64 m] 3 (0, 0))
theorem all_any (k m : Int) (w : World) : CallG C.P 41 #[.int .i64 k, .int .i64 m] w (fun v w' => IsAll k m w.heap.size v w' ∧ Below w.heap.size w w') := by
  refine fn_ok (C := C) (args := [_, _]) 4 [.tmp 4] Tryd.func41 rfl rfl rfl rfl ?_
  simp only [Tryd.f41, Z00, Z01, Z02, Z03, Z04, Z05, Z06, Z07, Z08, Z09, ↓Z0a, ↓Z0b, ↓Z0c, ↓Z0d, ↓Z0e, ↓Z0f, ↓Z0g, ↓Z0h, ↓Z0i, ↓Z0j, ↓Z0k, ↓Z0l, ↓Z0m, ↓Z0n, ↓Z0o, ↓Z0p, resL, res1, resK, Z0q, Z0r, Z0s, Z0t, Z0u, Z0v, Z0w, Z0x, Z0y, Z0z, Z10, Z11, Z12, Z13, Z14, ↓Z15, ↓Z16, Z17, Z18, Z19, Z1a, Z1b, Z1c, ↓Z1d, ↓Z1e, Z1f, ↓Z1h, ↓Z1k, ↓Z1s, Y00, Z2h, ↓Z2j, ↓Z2r, Z2y, Z2z, Z30, Z31, Z32, Z33, ev_t, ev_c, ev_g, ev_f, hv_t, hv_f, hv_n, Z34, Z35, Z36, Y01, Y02, Y03, Y04, Y05, Z3a, Y06, Y07, nth?, Y08, Y09, Y0a, Y0b, Y0c, Y0d, Y0e, putN, Z3i, repL, Y0f, Y0g, Y0h, Y0i, Y0j, Y0k, Y0l, Y0m, Y0n, Y0o, Y0p, Y0q, Y0r, Y0s, Z3r, Z3s, Z3t, depB, Fd, Fall, Dis, Dis1, Z3u, Z3v, appC, appN, mapC, mapN, List.append_eq, Z3w, Array.toArray_toList, Z3x, Z3y, List.getElem?_cons_zero, List.getElem?_cons_succ, Nat.reduceAdd, Nat.reduceSub, Nat.reduceMul, Nat.reduceEqDiff, Nat.zero_add, Nat.add_zero, Nat.mul_one, Nat.zero_mul, if_true, if_false, eq_self, true_and, and_true, reduceCtorEq, false_and, Addr.add_lit, ne_eq, not_false_eq_true, Array.empty_append, Array.append_empty, ↓Z3z, ↓Z40, ↓Z41, ↓Z42, ↓Z43, ↓Z44, ↓Z45, List.getElem?_toArray, Z46, Int.toNat_natCast, Nat.sub_zero, Int.toNat_sub, Sx.Z47, ite_self, ty_3]
  intro b1 w1 n1 b2 w2 n2
  have h1 := n1.hb
  have h2 := n2.hb
  have h3 := n1.size
  exact ⟨⟨b1, b2, rfl, by omega, by omega, bheap n2.ext n1.at_, n2.at_⟩, n1.ext.trans (n2.ext.mono (by omega))⟩
end Go.Proofs.YtdpfafgecchafaaDoor

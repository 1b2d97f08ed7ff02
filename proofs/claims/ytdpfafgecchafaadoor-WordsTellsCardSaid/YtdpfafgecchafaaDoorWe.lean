/- Words: Suffix, Join, Prefix, Same. -/
import Derived.Test.YtdpfafgecchafaaDoorWd
set_option linter.unusedVariables false
set_option maxRecDepth 20000
set_option linter.unusedSimpArgs false
namespace Go.Proofs.YtdpfafgecchafaaDoor
open Go Go.RowKit Sx

def sufK (s l : List Int) (n : Int) : Nat := (n.toNat - s.length) % l.length
def sufS (s l : List Int) (n : Int) : List Int := if max n 0 < s.length then s.drop n.toNat else []
def sufL (s l : List Int) (n : Int) : List Int := if max n 0 < s.length then l else l.drop (sufK s l n) ++ l.take (sufK s l n)

theorem ret_ownW {w W : World} {b2 base : Nat} {cs : Array Value} {x y : Value} {S L : List Int} (hblk : W.heap[b2]? = some (.cells cs 24 (0, 0))) (hcs : cs.size = 2) (hx1 : x.oneCell' = true) (hy1 : y.oneCell' = true)
    (h : OwnW W base (.agg #[x, y]) S L) (hb : b2 < base) (hw : w.heap.size ≤ b2) (hB : Below w.heap.size w W) :
    StA W ⟨b2, 0, none⟩ [x, y] fun w' => LdAgg w' ⟨b2, 0, none⟩ 2 fun vs => OwnW w' w.heap.size (.agg vs.toArray) S L ∧ Below w.heap.size w w' := by
  refine StA.of hblk (by simp [hcs]) (by simp [hx1, hy1]) ?_
  intro w5 u5
  have e : (cs.toList.take 0 ++ [x, y] ++ cs.toList.drop (0 + [x, y].length)).toArray = #[x, y] := by
    rw [List.take_zero, List.nil_append, List.drop_eq_nil_of_le (by simp [hcs]), List.append_nil]
  rw [e] at u5
  rw [ldAgg_blk (n := 2) u5.at_ rfl]
  exact ⟨(h.upd u5 hb).lower (by omega), hB.trans (u5.below hw)⟩
theorem OwnW.ones {w : World} {base : Nat} {x y : Value} {S L : List Int} (h : OwnW w base (.agg #[x, y]) S L) : x.oneCell' = true ∧ y.oneCell' = true := by
  obtain ⟨a, b, e, h1, h2, _⟩ := h
  cases e
  obtain ⟨_, _, rfl⟩ := h1.out
  obtain ⟨_, _, rfl⟩ := h2.out
  exact ⟨rfl, rfl⟩
theorem nForm_nil (s l : List Int) (h : l.length = 0) : nStem s l = [] ∧ nLoop s l = [] := by simp [nStem, nLoop, h]

theorem rd2 {w w' : World} {b : Nat} {x y : Value} {e : TypeId} (n : New w b (.cells #[x, y] e) w') : RdC w' 1 (.slice (some ⟨b, 0, none⟩) 2 2) 2 [x, y] := by
  refine ⟨_, 2, rfl, by omega, by decide, by decide, rfl, fun _ => ⟨b, 0, rfl, (Array.getElem?_eq_some_iff.1 n.at_).1, fun j x hx => ?_⟩⟩
  rw [cell_of_blk n.at_, Nat.zero_add, List.getElem?_toArray]; exact hx
theorem concat2 {w : World} {v x y : Value} {l m : List Int} (h : RdC w 1 v 2 [x, y]) (hx : RdI .u16 w x l) (hy : RdI .u16 w y m) (hn : l.length + m.length ≤ 70368744177664) :
    CallG C.P 48 #[v] w (fun v w' => OwnU w' w.heap.size v (l ++ m) ∧ Below w.heap.size w w') := by
  refine (concat_any w v [x, y] [l, m] h rfl ?_ (by simpa using hn)).mono ?_
  · intro j v' l' hj hj'
    match j, hj, hj' with
    | 0, hj, hj' => cases hj; cases hj'; exact hx
    | 1, hj, hj' => cases hj; cases hj'; exact hy
  · rintro v V ⟨g1, g2⟩
    simp only [List.flatten_cons, List.flatten_nil, List.append_nil] at g1
    exact ⟨g1, g2⟩
theorem OwnW.out {w : World} {base : Nat} {v : Value} {s l : List Int} (h : OwnW w base v s l) : ∃ p c q d, v = .agg #[.slice p s.length c, .slice q l.length d] := by
  obtain ⟨a, b, rfl, h1, h2, _⟩ := h
  obtain ⟨p, c, rfl⟩ := h1.out
  obtain ⟨q, d, rfl⟩ := h2.out
  exact ⟨p, c, q, d, rfl⟩

theorem suffix_any (w : World) (s l : List Int) (v : Value) (n : Int) (hw : RdW w v s l) (hs : s.length ≤ 70368744177664) (hl : l.length ≤ 70368744177664) (hn : n ≤ 9223372036854775807) :
    CallG C.P 13 #[v, .int .i64 n] w (fun v w' => OwnW w' w.heap.size v (nStem (sufS s l n) (sufL s l n)) (nLoop (sufS s l n) (sufL s l n)) ∧ Below w.heap.size w w') := by
  obtain ⟨a, b, rfl, ha, hb⟩ := hw
  obtain ⟨p, c, rfl, hx1, hx2, hx3, hp⟩ := ha.out
  obtain ⟨q, d, rfl, hy1, hy2, hy3, hq⟩ := hb.out
  clear hp hq
  refine fn_ok (C := C) (args := [_, _]) 45 [.cell 4 24] Tryd.func13 rfl rfl rfl rfl ?_
  simp only [Tryd.f13, Z00, Z01, Z02, Z03, Z04, Z05, Z06, Z07, Z08, Z09, ↓Z0a, ↓Z0b, ↓Z0c, ↓Z0d, ↓Z0e, ↓Z0f, ↓Z0g, ↓Z0h, ↓Z0i, ↓Z0j, ↓Z0k, ↓Z0l, ↓Z0m, ↓Z0n, ↓Z0o, ↓Z0p, resL, res1, resK, Z0q, Z0r, Z0s, Z0t, Z0u, Z0v, Z0w, Z0x, Z0y, Z0z, Z10, Z11, Z12, Z13, Z14, ↓Z15, ↓Z16, Z17, Z18, Z19, Z1a, Z1b, Z1c, ↓Z1d, ↓Z1e, Z1f, ↓Z1g, ↓Z1h, ↓Z1j, ↓Z1k, ↓Z1l, ↓Z1m, ↓Z1n, ↓Z1o, ↓Z1q, ↓Z1u, ↓Z1v, ↓Z1z, ↓Z20, ↓Z21, Y00, Z2h, ↓Z2i, ↓Z2j, ↓Z2l, ↓Z2m, ↓Z2o, ↓Z2t, ↓Z2u, ↓Z2x, Z2y, Z2z, Z30, Z31, Z32, Z33, ev_t, ev_c, ev_g, ev_f, hv_t, hv_f, hv_n, Z34, Z35, Z36, Y01, Y02, Y03, Y04, Y05, Z3a, Y06, Y07, nth?, Y08, Y09, Y0a, Y0b, Y0c, Y0d, Y0e, putN, Z3i, repL, Y0f, Y0g, Y0h, Y0i, Y0j, Y0k, Y0l, Y0m, Y0n, Y0o, Y0p, Y0q, Y0r, Y0s, Z3r, Z3s, Z3t, depB, Fd, Fall, Dis, Dis1, Z3u, Z3v, appC, appN, mapC, mapN, List.append_eq, Z3w, Array.toArray_toList, Z3x, Z3y, List.getElem?_cons_zero, List.getElem?_cons_succ, Nat.reduceAdd, Nat.reduceSub, Nat.reduceMul, Nat.reduceEqDiff, Nat.zero_add, Nat.add_zero, Nat.mul_one, Nat.zero_mul, if_true, if_false, eq_self, true_and, and_true, reduceCtorEq, false_and, Addr.add_lit, ne_eq, not_false_eq_true, Array.empty_append, Array.append_empty, ↓Z3z, ↓Z40, ↓Z41, ↓Z42, ↓Z43, ↓Z44, ↓Z45, List.getElem?_toArray, Z46, Int.toNat_natCast, Nat.sub_zero, Int.toNat_sub, Sx.Z47, ite_self, ty_3, ty_22, ty_23, ty_24, ty_34, ty_54]
  intro b1 w1 n1 b2 w2 n2
  have hB := n1.ext.trans (n2.ext.mono n1.ext.size)
  have hsz := hB.size
  have hb2 : b2 < w2.heap.size := (Array.getElem?_eq_some_iff.1 n2.at_).1
  have hb2' : w.heap.size ≤ b2 := by have := n2.hb; have := n1.size; omega
  simp only [ldSl_blk (bheap n2.ext n1.at_), Z00, Z01, Z02, Z03, Z04, Z05, Z06, Z07, Z08, Z09, ↓Z0a, ↓Z0b, ↓Z0c, ↓Z0d, ↓Z0e, ↓Z0f, ↓Z0g, ↓Z0h, ↓Z0i, ↓Z0j, ↓Z0k, ↓Z0l, ↓Z0m, ↓Z0n, ↓Z0o, ↓Z0p, resL, res1, resK, Z0q, Z0r, Z0s, Z0t, Z0u, Z0v, Z0w, Z0x, Z0y, Z0z, Z10, Z11, Z12, Z13, Z14, ↓Z15, ↓Z16, Z17, Z18, Z19, Z1a, Z1b, Z1c, ↓Z1d, ↓Z1e, Z1f, ↓Z1g, ↓Z1h, ↓Z1j, ↓Z1k, ↓Z1l, ↓Z1m, ↓Z1n, ↓Z1o, ↓Z1q, ↓Z1u, ↓Z1v, ↓Z1z, ↓Z20, ↓Z21, Y00, Z2h, ↓Z2i, ↓Z2j, ↓Z2l, ↓Z2m, ↓Z2o, ↓Z2t, ↓Z2u, ↓Z2x, Z2y, Z2z, Z30, Z31, Z32, Z33, ev_t, ev_c, ev_g, ev_f, hv_t, hv_f, hv_n, Z34, Z35, Z36, Y01, Y02, Y03, Y04, Y05, Z3a, Y06, Y07, nth?, Y08, Y09, Y0a, Y0b, Y0c, Y0d, Y0e, putN, Z3i, repL, Y0f, Y0g, Y0h, Y0i, Y0j, Y0k, Y0l, Y0m, Y0n, Y0o, Y0p, Y0q, Y0r, Y0s, Z3r, Z3s, Z3t, depB, Fd, Fall, Dis, Dis1, Z3u, Z3v, appC, appN, mapC, mapN, List.append_eq, Z3w, Array.toArray_toList, Z3x, Z3y, List.getElem?_cons_zero, List.getElem?_cons_succ, Nat.reduceAdd, Nat.reduceSub, Nat.reduceMul, Nat.reduceEqDiff, Nat.zero_add, Nat.add_zero, Nat.mul_one, Nat.zero_mul, if_true, if_false, eq_self, true_and, and_true, reduceCtorEq, false_and, Addr.add_lit, ne_eq, not_false_eq_true, Array.empty_append, Array.append_empty, ↓Z3z, ↓Z40, ↓Z41, ↓Z42, ↓Z43, ↓Z44, ↓Z45, List.getElem?_toArray, Z46, Int.toNat_natCast, Nat.sub_zero, Int.toNat_sub, Sx.Z47, ite_self, ty_3, ty_22, ty_23, ty_24, ty_34, ty_54]
  have hm : (if 0 > n then 0 else n) = max n 0 := by split <;> omega
  rw [hm]
  refine BrE (fun h => ?_) (fun h => ?_)
  · have h0 : (sufL s l n).length = 0 := by
      have : l = [] := List.eq_nil_of_length_eq_zero (by omega)
      subst this; unfold sufL; split <;> simp
    obtain ⟨e1, e2⟩ := nForm_nil (sufS s l n) _ h0
    rw [e1, e2]
    exact ⟨rfl, rfl, ret_ownW (base := w2.heap.size) n2.at_ rfl rfl rfl (OwnW.nil _ _) hb2 hb2' hB⟩
  have h0 : 0 < l.length := by omega
  refine BrD (fun hlt => ?_) (fun hlt => ?_)
  · have hk : n.toNat < s.length := by omega
    have e1 : sufS s l n = s.drop n.toNat := by rw [sufS, if_pos hlt]
    have e2 : sufL s l n = l := by rw [sufL, if_pos hlt]
    rw [e1, e2]
    have e3 : max n 0 = (n.toNat : Int) := by omega
    rw [e3]
    refine draw_sp 8 [(7, (fun v W => OwnW W w2.heap.size v (nStem (s.drop n.toNat) l) (nLoop (s.drop n.toNat) l)), noB)] (by kernel_rfl) (by kernel_rfl) (by decide) 47 rfl (by kernel_rfl) ⟨fun _ _ _ h hb => h.below hb, trivial⟩ ?_
    simp only [ldSl_blk (bheap n2.ext n1.at_), Z00, Z01, Z02, Z03, Z04, Z05, Z06, Z07, Z08, Z09, ↓Z0a, ↓Z0b, ↓Z0c, ↓Z0d, ↓Z0e, ↓Z0f, ↓Z0g, ↓Z0h, ↓Z0i, ↓Z0j, ↓Z0k, ↓Z0l, ↓Z0m, ↓Z0n, ↓Z0o, ↓Z0p, resL, res1, resK, Z0q, Z0r, Z0s, Z0t, Z0u, Z0v, Z0w, Z0x, Z0y, Z0z, Z10, Z11, Z12, Z13, Z14, ↓Z15, ↓Z16, Z17, Z18, Z19, Z1a, Z1b, Z1c, ↓Z1d, ↓Z1e, Z1f, ↓Z1g, ↓Z1h, ↓Z1j, ↓Z1k, ↓Z1l, ↓Z1m, ↓Z1n, ↓Z1o, ↓Z1q, ↓Z1u, ↓Z1v, ↓Z1z, ↓Z20, ↓Z21, Y00, Z2h, ↓Z2i, ↓Z2j, ↓Z2l, ↓Z2m, ↓Z2o, ↓Z2t, ↓Z2u, ↓Z2x, Z2y, Z2z, Z30, Z31, Z32, Z33, ev_t, ev_c, ev_g, ev_f, hv_t, hv_f, hv_n, Z34, Z35, Z36, Y01, Y02, Y03, Y04, Y05, Z3a, Y06, Y07, nth?, Y08, Y09, Y0a, Y0b, Y0c, Y0d, Y0e, putN, Z3i, repL, Y0f, Y0g, Y0h, Y0i, Y0j, Y0k, Y0l, Y0m, Y0n, Y0o, Y0p, Y0q, Y0r, Y0s, Z3r, Z3s, Z3t, depB, Fd, Fall, Dis, Dis1, Z3u, Z3v, appC, appN, mapC, mapN, List.append_eq, Z3w, Array.toArray_toList, Z3x, Z3y, List.getElem?_cons_zero, List.getElem?_cons_succ, Nat.reduceAdd, Nat.reduceSub, Nat.reduceMul, Nat.reduceEqDiff, Nat.zero_add, Nat.add_zero, Nat.mul_one, Nat.zero_mul, if_true, if_false, eq_self, true_and, and_true, reduceCtorEq, false_and, Addr.add_lit, ne_eq, not_false_eq_true, Array.empty_append, Array.append_empty, ↓Z3z, ↓Z40, ↓Z41, ↓Z42, ↓Z43, ↓Z44, ↓Z45, List.getElem?_toArray, Z46, Int.toNat_natCast, Nat.sub_zero, Int.toNat_sub, Sx.Z47, ite_self, ty_3, ty_22, ty_23, ty_24, ty_34, ty_54]
    refine ⟨.inl trivial, ⟨by omega, by omega⟩, rfl, ⟨rfl, by simp⟩, ⟨rfl, by simp⟩, fun W hW _ => ?_, ?_⟩
    · refine (normal_any W (s.drop n.toNat) l _ ⟨_, _, rfl, ((ha.below hB).below hW).from_ n.toNat (by omega), (hb.below hB).below hW⟩ (by simp; omega) hl).mono ?_
      rintro v V ⟨g1, g2⟩
      exact ⟨g2, g1.lower hW.size, FrOk.no _ _ _⟩
    rintro v ⟨_, _, x, y, rfl, -⟩
    rintro W hW h7 -
    simp only [Z00, Z01, Z02, Z03, Z04, Z05, Z06, Z07, Z08, Z09, ↓Z0a, ↓Z0b, ↓Z0c, ↓Z0d, ↓Z0e, ↓Z0f, ↓Z0g, ↓Z0h, ↓Z0i, ↓Z0j, ↓Z0k, ↓Z0l, ↓Z0m, ↓Z0n, ↓Z0o, ↓Z0p, resL, res1, resK, Z0q, Z0r, Z0s, Z0t, Z0u, Z0v, Z0w, Z0x, Z0y, Z0z, Z10, Z11, Z12, Z13, Z14, ↓Z15, ↓Z16, Z17, Z18, Z19, Z1a, Z1b, Z1c, ↓Z1d, ↓Z1e, Z1f, ↓Z1g, ↓Z1h, ↓Z1j, ↓Z1k, ↓Z1l, ↓Z1m, ↓Z1n, ↓Z1o, ↓Z1q, ↓Z1u, ↓Z1v, ↓Z1z, ↓Z20, ↓Z21, Y00, Z2h, ↓Z2i, ↓Z2j, ↓Z2l, ↓Z2m, ↓Z2o, ↓Z2t, ↓Z2u, ↓Z2x, Z2y, Z2z, Z30, Z31, Z32, Z33, ev_t, ev_c, ev_g, ev_f, hv_t, hv_f, hv_n, Z34, Z35, Z36, Y01, Y02, Y03, Y04, Y05, Z3a, Y06, Y07, nth?, Y08, Y09, Y0a, Y0b, Y0c, Y0d, Y0e, putN, Z3i, repL, Y0f, Y0g, Y0h, Y0i, Y0j, Y0k, Y0l, Y0m, Y0n, Y0o, Y0p, Y0q, Y0r, Y0s, Z3r, Z3s, Z3t, depB, Fd, Fall, Dis, Dis1, Z3u, Z3v, appC, appN, mapC, mapN, List.append_eq, Z3w, Array.toArray_toList, Z3x, Z3y, List.getElem?_cons_zero, List.getElem?_cons_succ, Nat.reduceAdd, Nat.reduceSub, Nat.reduceMul, Nat.reduceEqDiff, Nat.zero_add, Nat.add_zero, Nat.mul_one, Nat.zero_mul, if_true, if_false, eq_self, true_and, and_true, reduceCtorEq, false_and, Addr.add_lit, ne_eq, not_false_eq_true, Array.empty_append, Array.append_empty, ↓Z3z, ↓Z40, ↓Z41, ↓Z42, ↓Z43, ↓Z44, ↓Z45, List.getElem?_toArray, Z46, Int.toNat_natCast, Nat.sub_zero, Int.toNat_sub, Sx.Z47, ite_self, ty_3, ty_22, ty_23, ty_24, ty_34, ty_54] at h7 ⊢
    exact ⟨rfl, ret_ownW (bheap hW n2.at_) rfl h7.ones.1 h7.ones.2 h7 hb2 hb2' (hB.trans (hW.mono hsz))⟩
  · refine ⟨by omega, ?_⟩
    have ek : (IntKind.i64.wrap (max n 0 - (s.length : Int))).tmod l.length = (sufK s l n : Nat) := by
      rw [wi (by omega) (by omega)]
      obtain ⟨m, hm⟩ := Int.eq_ofNat_of_zero_le (show 0 ≤ max n 0 - (s.length : Int) by omega)
      rw [hm, ← Int.ofNat_tmod, sufK, show n.toNat - s.length = m by omega]
    have hkl : sufK s l n < l.length := Nat.mod_lt _ h0
    have e1 : sufS s l n = [] := by rw [sufS, if_neg hlt]
    have e2 : sufL s l n = l.drop (sufK s l n) ++ l.take (sufK s l n) := by rw [sufL, if_neg hlt]
    rw [e1, e2, ek]
    have hlen : (l.drop (sufK s l n) ++ l.take (sufK s l n)).length = l.length := by simp; omega
    generalize sufK s l n = k at *
    refine draw_sp 12 [(8, (fun v W => RdC W 1 v 2 [Value.slice (if d = k then q else q.map (·.add k)) (l.length - k) (d - k), Value.slice q k d]), noB), (9, (fun v W => OwnU W w2.heap.size v (l.drop k ++ l.take k)), noB), (11, (fun v W => OwnW W w2.heap.size v (nStem [] (l.drop k ++ l.take k)) (nLoop [] (l.drop k ++ l.take k))), noB)] (by kernel_rfl) (by kernel_rfl) (by decide) 47 rfl (by kernel_rfl) ⟨fun _ _ _ h hb => h.below hb, fun _ _ _ h hb => h.below hb, fun _ _ _ h hb => h.below hb, trivial⟩ ?_
    simp only [ldSl_blk (bheap n2.ext n1.at_), Z00, Z01, Z02, Z03, Z04, Z05, Z06, Z07, Z08, Z09, ↓Z0a, ↓Z0b, ↓Z0c, ↓Z0d, ↓Z0e, ↓Z0f, ↓Z0g, ↓Z0h, ↓Z0i, ↓Z0j, ↓Z0k, ↓Z0l, ↓Z0m, ↓Z0n, ↓Z0o, ↓Z0p, resL, res1, resK, Z0q, Z0r, Z0s, Z0t, Z0u, Z0v, Z0w, Z0x, Z0y, Z0z, Z10, Z11, Z12, Z13, Z14, ↓Z15, ↓Z16, Z17, Z18, Z19, Z1a, Z1b, Z1c, ↓Z1d, ↓Z1e, Z1f, ↓Z1g, ↓Z1h, ↓Z1j, ↓Z1k, ↓Z1l, ↓Z1m, ↓Z1n, ↓Z1o, ↓Z1q, ↓Z1u, ↓Z1v, ↓Z1z, ↓Z20, ↓Z21, Y00, Z2h, ↓Z2i, ↓Z2j, ↓Z2l, ↓Z2m, ↓Z2o, ↓Z2t, ↓Z2u, ↓Z2x, Z2y, Z2z, Z30, Z31, Z32, Z33, ev_t, ev_c, ev_g, ev_f, hv_t, hv_f, hv_n, Z34, Z35, Z36, Y01, Y02, Y03, Y04, Y05, Z3a, Y06, Y07, nth?, Y08, Y09, Y0a, Y0b, Y0c, Y0d, Y0e, putN, Z3i, repL, Y0f, Y0g, Y0h, Y0i, Y0j, Y0k, Y0l, Y0m, Y0n, Y0o, Y0p, Y0q, Y0r, Y0s, Z3r, Z3s, Z3t, depB, Fd, Fall, Dis, Dis1, Z3u, Z3v, appC, appN, mapC, mapN, List.append_eq, Z3w, Array.toArray_toList, Z3x, Z3y, List.getElem?_cons_zero, List.getElem?_cons_succ, Nat.reduceAdd, Nat.reduceSub, Nat.reduceMul, Nat.reduceEqDiff, Nat.zero_add, Nat.add_zero, Nat.mul_one, Nat.zero_mul, if_true, if_false, eq_self, true_and, and_true, reduceCtorEq, false_and, Addr.add_lit, ne_eq, not_false_eq_true, Array.empty_append, Array.append_empty, ↓Z3z, ↓Z40, ↓Z41, ↓Z42, ↓Z43, ↓Z44, ↓Z45, List.getElem?_toArray, Z46, Int.toNat_natCast, Nat.sub_zero, Int.toNat_sub, Sx.Z47, ite_self, ty_3, ty_22, ty_23, ty_24, ty_34, ty_54]
    refine ⟨.inl trivial, ⟨by omega, by omega⟩, .inl trivial, ⟨by omega, by omega⟩, fun W hW _ => ?_, ?_⟩
    · refine ⟨⟨by omega, rfl⟩, ⟨rfl, by simp⟩, ⟨rfl, by simp⟩, ?_⟩
      intro b w' n'
      exact ⟨n'.ext, rd2 n', FrOk.no _ _ _⟩
    rintro v8 ⟨_, _, o8⟩
    refine ⟨fun W hW hF => ?_, ?_⟩
    · refine (concat2 hF.1 (((hb.below hB).below hW).from_ k (by omega)) (((hb.below hB).below hW).upto k (by omega)) (by simp; omega)).mono ?_
      rintro v V ⟨g1, g2⟩
      exact ⟨g2, g1.lower hW.size, FrOk.no _ _ _⟩
    rintro v9 ⟨_, _, o9⟩
    obtain ⟨p9, c9, rfl⟩ := o9.out
    simp only [Z00, Z01, Z02, Z03, Z04, Z05, Z06, Z07, Z08, Z09, ↓Z0a, ↓Z0b, ↓Z0c, ↓Z0d, ↓Z0e, ↓Z0f, ↓Z0g, ↓Z0h, ↓Z0i, ↓Z0j, ↓Z0k, ↓Z0l, ↓Z0m, ↓Z0n, ↓Z0o, ↓Z0p, resL, res1, resK, Z0q, Z0r, Z0s, Z0t, Z0u, Z0v, Z0w, Z0x, Z0y, Z0z, Z10, Z11, Z12, Z13, Z14, ↓Z15, ↓Z16, Z17, Z18, Z19, Z1a, Z1b, Z1c, ↓Z1d, ↓Z1e, Z1f, ↓Z1g, ↓Z1h, ↓Z1j, ↓Z1k, ↓Z1l, ↓Z1m, ↓Z1n, ↓Z1o, ↓Z1q, ↓Z1u, ↓Z1v, ↓Z1z, ↓Z20, ↓Z21, Y00, Z2h, ↓Z2i, ↓Z2j, ↓Z2l, ↓Z2m, ↓Z2o, ↓Z2t, ↓Z2u, ↓Z2x, Z2y, Z2z, Z30, Z31, Z32, Z33, ev_t, ev_c, ev_g, ev_f, hv_t, hv_f, hv_n, Z34, Z35, Z36, Y01, Y02, Y03, Y04, Y05, Z3a, Y06, Y07, nth?, Y08, Y09, Y0a, Y0b, Y0c, Y0d, Y0e, putN, Z3i, repL, Y0f, Y0g, Y0h, Y0i, Y0j, Y0k, Y0l, Y0m, Y0n, Y0o, Y0p, Y0q, Y0r, Y0s, Z3r, Z3s, Z3t, depB, Fd, Fall, Dis, Dis1, Z3u, Z3v, appC, appN, mapC, mapN, List.append_eq, Z3w, Array.toArray_toList, Z3x, Z3y, List.getElem?_cons_zero, List.getElem?_cons_succ, Nat.reduceAdd, Nat.reduceSub, Nat.reduceMul, Nat.reduceEqDiff, Nat.zero_add, Nat.add_zero, Nat.mul_one, Nat.zero_mul, if_true, if_false, eq_self, true_and, and_true, reduceCtorEq, false_and, Addr.add_lit, ne_eq, not_false_eq_true, Array.empty_append, Array.append_empty, ↓Z3z, ↓Z40, ↓Z41, ↓Z42, ↓Z43, ↓Z44, ↓Z45, List.getElem?_toArray, Z46, Int.toNat_natCast, Nat.sub_zero, Int.toNat_sub, Sx.Z47, ite_self, ty_3, ty_22, ty_23, ty_24, ty_34, ty_54]
    refine ⟨rfl, ⟨rfl, by simp⟩, fun W hW hF => ?_, ?_⟩
    · have h9 : OwnU W w2.heap.size _ (l.drop k ++ l.take k) := hF.1
      refine (normal_any W [] (l.drop k ++ l.take k) _ ⟨_, _, rfl, RdI.nil _ _, h9.rd⟩ (by simp) (by omega)).mono ?_
      rintro v V ⟨g1, g2⟩
      exact ⟨g2, g1.lower hW.size, FrOk.no _ _ _⟩
    rintro v ⟨_, _, x, y, rfl, -⟩
    rintro W hW h7 -
    simp only [Z00, Z01, Z02, Z03, Z04, Z05, Z06, Z07, Z08, Z09, ↓Z0a, ↓Z0b, ↓Z0c, ↓Z0d, ↓Z0e, ↓Z0f, ↓Z0g, ↓Z0h, ↓Z0i, ↓Z0j, ↓Z0k, ↓Z0l, ↓Z0m, ↓Z0n, ↓Z0o, ↓Z0p, resL, res1, resK, Z0q, Z0r, Z0s, Z0t, Z0u, Z0v, Z0w, Z0x, Z0y, Z0z, Z10, Z11, Z12, Z13, Z14, ↓Z15, ↓Z16, Z17, Z18, Z19, Z1a, Z1b, Z1c, ↓Z1d, ↓Z1e, Z1f, ↓Z1g, ↓Z1h, ↓Z1j, ↓Z1k, ↓Z1l, ↓Z1m, ↓Z1n, ↓Z1o, ↓Z1q, ↓Z1u, ↓Z1v, ↓Z1z, ↓Z20, ↓Z21, Y00, Z2h, ↓Z2i, ↓Z2j, ↓Z2l, ↓Z2m, ↓Z2o, ↓Z2t, ↓Z2u, ↓Z2x, Z2y, Z2z, Z30, Z31, Z32, Z33, ev_t, ev_c, ev_g, ev_f, hv_t, hv_f, hv_n, Z34, Z35, Z36, Y01, Y02, Y03, Y04, Y05, Z3a, Y06, Y07, nth?, Y08, Y09, Y0a, Y0b, Y0c, Y0d, Y0e, putN, Z3i, repL, Y0f, Y0g, Y0h, Y0i, Y0j, Y0k, Y0l, Y0m, Y0n, Y0o, Y0p, Y0q, Y0r, Y0s, Z3r, Z3s, Z3t, depB, Fd, Fall, Dis, Dis1, Z3u, Z3v, appC, appN, mapC, mapN, List.append_eq, Z3w, Array.toArray_toList, Z3x, Z3y, List.getElem?_cons_zero, List.getElem?_cons_succ, Nat.reduceAdd, Nat.reduceSub, Nat.reduceMul, Nat.reduceEqDiff, Nat.zero_add, Nat.add_zero, Nat.mul_one, Nat.zero_mul, if_true, if_false, eq_self, true_and, and_true, reduceCtorEq, false_and, Addr.add_lit, ne_eq, not_false_eq_true, Array.empty_append, Array.append_empty, ↓Z3z, ↓Z40, ↓Z41, ↓Z42, ↓Z43, ↓Z44, ↓Z45, List.getElem?_toArray, Z46, Int.toNat_natCast, Nat.sub_zero, Int.toNat_sub, Sx.Z47, ite_self, ty_3, ty_22, ty_23, ty_24, ty_34, ty_54] at h7 ⊢
    have h7 := h7.1
    exact ⟨rfl, ret_ownW (bheap hW n2.at_) rfl h7.ones.1 h7.ones.2 h7 hb2 hb2' (hB.trans (hW.mono hsz))⟩

theorem join_any (w : World) (r s l : List Int) (u v : Value) (hu : RdI .u16 w u r) (hw : RdW w v s l) (hs : r.length + s.length ≤ 70368744177664) (hl : l.length ≤ 70368744177664) :
    CallG C.P 14 #[u, v] w (fun v w' => OwnW w' w.heap.size v (nStem (r ++ s) l) (nLoop (r ++ s) l) ∧ Below w.heap.size w w') := by
  obtain ⟨a, b, rfl, ha, hb⟩ := hw
  obtain ⟨p, c, rfl, hx1, hx2, hx3, hp⟩ := ha.out
  obtain ⟨q, d, rfl, hy1, hy2, hy3, hq⟩ := hb.out
  obtain ⟨z, e, rfl, hz1, hz2, hz3, hz⟩ := hu.out
  clear hp hq hz
  refine fn_ok (C := C) (args := [_, _]) 17 [.cell 4 24] Tryd.func14 rfl rfl rfl rfl ?_
  simp only [Tryd.f14, Z00, Z01, Z02, Z03, Z04, Z05, Z06, Z07, Z08, Z09, ↓Z0a, ↓Z0b, ↓Z0c, ↓Z0d, ↓Z0e, ↓Z0f, ↓Z0g, ↓Z0h, ↓Z0i, ↓Z0j, ↓Z0k, ↓Z0l, ↓Z0m, ↓Z0n, ↓Z0o, ↓Z0p, resL, res1, resK, Z0q, Z0r, Z0s, Z0t, Z0u, Z0v, Z0w, Z0x, Z0y, Z0z, Z10, Z11, Z12, Z13, Z14, ↓Z15, ↓Z16, Z17, Z18, Z19, Z1a, Z1b, Z1c, ↓Z1d, ↓Z1e, Z1f, ↓Z1g, ↓Z1j, ↓Z1k, ↓Z1l, ↓Z1m, ↓Z1n, ↓Z1o, ↓Z1q, ↓Z1v, ↓Z1z, ↓Z20, ↓Z21, Y00, Z2h, ↓Z2i, ↓Z2l, ↓Z2m, ↓Z2o, ↓Z2u, ↓Z2x, Z2y, Z2z, Z30, Z31, Z32, Z33, ev_t, ev_c, ev_g, ev_f, hv_t, hv_f, hv_n, Z34, Z35, Z36, Y01, Y02, Y03, Y04, Y05, Z3a, Y06, Y07, nth?, Y08, Y09, Y0a, Y0b, Y0c, Y0d, Y0e, putN, Z3i, repL, Y0f, Y0g, Y0h, Y0i, Y0j, Y0k, Y0l, Y0m, Y0n, Y0o, Y0p, Y0q, Y0r, Y0s, Z3r, Z3s, Z3t, depB, Fd, Fall, Dis, Dis1, Z3u, Z3v, appC, appN, mapC, mapN, List.append_eq, Z3w, Array.toArray_toList, Z3x, Z3y, List.getElem?_cons_zero, List.getElem?_cons_succ, Nat.reduceAdd, Nat.reduceSub, Nat.reduceMul, Nat.reduceEqDiff, Nat.zero_add, Nat.add_zero, Nat.mul_one, Nat.zero_mul, if_true, if_false, eq_self, true_and, and_true, reduceCtorEq, false_and, Addr.add_lit, ne_eq, not_false_eq_true, Array.empty_append, Array.append_empty, ↓Z3z, ↓Z40, ↓Z41, ↓Z42, ↓Z43, ↓Z44, ↓Z45, List.getElem?_toArray, Z46, Int.toNat_natCast, Nat.sub_zero, Int.toNat_sub, Sx.Z47, ite_self, ty_3, ty_22, ty_23, ty_24, ty_34, ty_54]
  intro b1 w1 n1 b2 w2 n2
  have hB := n1.ext.trans (n2.ext.mono n1.ext.size)
  have hsz := hB.size
  have hb2 : b2 < w2.heap.size := (Array.getElem?_eq_some_iff.1 n2.at_).1
  have hb2' : w.heap.size ≤ b2 := by have := n2.hb; have := n1.size; omega
  simp only [ldSl_blk (bheap n2.ext n1.at_), Z00, Z01, Z02, Z03, Z04, Z05, Z06, Z07, Z08, Z09, ↓Z0a, ↓Z0b, ↓Z0c, ↓Z0d, ↓Z0e, ↓Z0f, ↓Z0g, ↓Z0h, ↓Z0i, ↓Z0j, ↓Z0k, ↓Z0l, ↓Z0m, ↓Z0n, ↓Z0o, ↓Z0p, resL, res1, resK, Z0q, Z0r, Z0s, Z0t, Z0u, Z0v, Z0w, Z0x, Z0y, Z0z, Z10, Z11, Z12, Z13, Z14, ↓Z15, ↓Z16, Z17, Z18, Z19, Z1a, Z1b, Z1c, ↓Z1d, ↓Z1e, Z1f, ↓Z1g, ↓Z1j, ↓Z1k, ↓Z1l, ↓Z1m, ↓Z1n, ↓Z1o, ↓Z1q, ↓Z1v, ↓Z1z, ↓Z20, ↓Z21, Y00, Z2h, ↓Z2i, ↓Z2l, ↓Z2m, ↓Z2o, ↓Z2u, ↓Z2x, Z2y, Z2z, Z30, Z31, Z32, Z33, ev_t, ev_c, ev_g, ev_f, hv_t, hv_f, hv_n, Z34, Z35, Z36, Y01, Y02, Y03, Y04, Y05, Z3a, Y06, Y07, nth?, Y08, Y09, Y0a, Y0b, Y0c, Y0d, Y0e, putN, Z3i, repL, Y0f, Y0g, Y0h, Y0i, Y0j, Y0k, Y0l, Y0m, Y0n, Y0o, Y0p, Y0q, Y0r, Y0s, Z3r, Z3s, Z3t, depB, Fd, Fall, Dis, Dis1, Z3u, Z3v, appC, appN, mapC, mapN, List.append_eq, Z3w, Array.toArray_toList, Z3x, Z3y, List.getElem?_cons_zero, List.getElem?_cons_succ, Nat.reduceAdd, Nat.reduceSub, Nat.reduceMul, Nat.reduceEqDiff, Nat.zero_add, Nat.add_zero, Nat.mul_one, Nat.zero_mul, if_true, if_false, eq_self, true_and, and_true, reduceCtorEq, false_and, Addr.add_lit, ne_eq, not_false_eq_true, Array.empty_append, Array.append_empty, ↓Z3z, ↓Z40, ↓Z41, ↓Z42, ↓Z43, ↓Z44, ↓Z45, List.getElem?_toArray, Z46, Int.toNat_natCast, Nat.sub_zero, Int.toNat_sub, Sx.Z47, ite_self, ty_3, ty_22, ty_23, ty_24, ty_34, ty_54]
  refine BrE (fun h => ?_) (fun h => ?_)
  · obtain ⟨e1, e2⟩ := nForm_nil (r ++ s) l (by omega)
    rw [e1, e2]
    exact ⟨rfl, rfl, ret_ownW (base := w2.heap.size) n2.at_ rfl rfl rfl (OwnW.nil _ _) hb2 hb2' hB⟩
  refine draw_sp 9 [(3, (fun v W => RdC W 1 v 2 [Value.slice z r.length e, Value.slice p s.length c]), noB), (4, (fun v W => OwnU W w2.heap.size v (r ++ s)), noB), (8, (fun v W => OwnW W w2.heap.size v (nStem (r ++ s) l) (nLoop (r ++ s) l)), noB)] (by kernel_rfl) (by kernel_rfl) (by decide) 19 rfl (by kernel_rfl) ⟨fun _ _ _ h hb => h.below hb, fun _ _ _ h hb => h.below hb, fun _ _ _ h hb => h.below hb, trivial⟩ ?_
  simp only [ldSl_blk (bheap n2.ext n1.at_), Z00, Z01, Z02, Z03, Z04, Z05, Z06, Z07, Z08, Z09, ↓Z0a, ↓Z0b, ↓Z0c, ↓Z0d, ↓Z0e, ↓Z0f, ↓Z0g, ↓Z0h, ↓Z0i, ↓Z0j, ↓Z0k, ↓Z0l, ↓Z0m, ↓Z0n, ↓Z0o, ↓Z0p, resL, res1, resK, Z0q, Z0r, Z0s, Z0t, Z0u, Z0v, Z0w, Z0x, Z0y, Z0z, Z10, Z11, Z12, Z13, Z14, ↓Z15, ↓Z16, Z17, Z18, Z19, Z1a, Z1b, Z1c, ↓Z1d, ↓Z1e, Z1f, ↓Z1g, ↓Z1j, ↓Z1k, ↓Z1l, ↓Z1m, ↓Z1n, ↓Z1o, ↓Z1q, ↓Z1v, ↓Z1z, ↓Z20, ↓Z21, Y00, Z2h, ↓Z2i, ↓Z2l, ↓Z2m, ↓Z2o, ↓Z2u, ↓Z2x, Z2y, Z2z, Z30, Z31, Z32, Z33, ev_t, ev_c, ev_g, ev_f, hv_t, hv_f, hv_n, Z34, Z35, Z36, Y01, Y02, Y03, Y04, Y05, Z3a, Y06, Y07, nth?, Y08, Y09, Y0a, Y0b, Y0c, Y0d, Y0e, putN, Z3i, repL, Y0f, Y0g, Y0h, Y0i, Y0j, Y0k, Y0l, Y0m, Y0n, Y0o, Y0p, Y0q, Y0r, Y0s, Z3r, Z3s, Z3t, depB, Fd, Fall, Dis, Dis1, Z3u, Z3v, appC, appN, mapC, mapN, List.append_eq, Z3w, Array.toArray_toList, Z3x, Z3y, List.getElem?_cons_zero, List.getElem?_cons_succ, Nat.reduceAdd, Nat.reduceSub, Nat.reduceMul, Nat.reduceEqDiff, Nat.zero_add, Nat.add_zero, Nat.mul_one, Nat.zero_mul, if_true, if_false, eq_self, true_and, and_true, reduceCtorEq, false_and, Addr.add_lit, ne_eq, not_false_eq_true, Array.empty_append, Array.append_empty, ↓Z3z, ↓Z40, ↓Z41, ↓Z42, ↓Z43, ↓Z44, ↓Z45, List.getElem?_toArray, Z46, Int.toNat_natCast, Nat.sub_zero, Int.toNat_sub, Sx.Z47, ite_self, ty_3, ty_22, ty_23, ty_24, ty_34, ty_54]
  refine ⟨fun W hW _ => ?_, ?_⟩
  · refine ⟨⟨by omega, rfl⟩, ⟨rfl, by simp⟩, ⟨rfl, by simp⟩, ?_⟩
    intro b w' n'
    exact ⟨n'.ext, rd2 n', FrOk.no _ _ _⟩
  rintro v3 ⟨_, _, o3⟩
  refine ⟨fun W hW hF => ?_, ?_⟩
  · refine (concat2 hF.1 ((hu.below hB).below hW) ((ha.below hB).below hW) hs).mono ?_
    rintro v V ⟨g1, g2⟩
    exact ⟨g2, g1.lower hW.size, FrOk.no _ _ _⟩
  rintro v4 ⟨_, _, o4⟩
  obtain ⟨p4, c4, rfl⟩ := o4.out
  simp only [ldSl_blk (bheap n2.ext n1.at_), Z00, Z01, Z02, Z03, Z04, Z05, Z06, Z07, Z08, Z09, ↓Z0a, ↓Z0b, ↓Z0c, ↓Z0d, ↓Z0e, ↓Z0f, ↓Z0g, ↓Z0h, ↓Z0i, ↓Z0j, ↓Z0k, ↓Z0l, ↓Z0m, ↓Z0n, ↓Z0o, ↓Z0p, resL, res1, resK, Z0q, Z0r, Z0s, Z0t, Z0u, Z0v, Z0w, Z0x, Z0y, Z0z, Z10, Z11, Z12, Z13, Z14, ↓Z15, ↓Z16, Z17, Z18, Z19, Z1a, Z1b, Z1c, ↓Z1d, ↓Z1e, Z1f, ↓Z1g, ↓Z1j, ↓Z1k, ↓Z1l, ↓Z1m, ↓Z1n, ↓Z1o, ↓Z1q, ↓Z1v, ↓Z1z, ↓Z20, ↓Z21, Y00, Z2h, ↓Z2i, ↓Z2l, ↓Z2m, ↓Z2o, ↓Z2u, ↓Z2x, Z2y, Z2z, Z30, Z31, Z32, Z33, ev_t, ev_c, ev_g, ev_f, hv_t, hv_f, hv_n, Z34, Z35, Z36, Y01, Y02, Y03, Y04, Y05, Z3a, Y06, Y07, nth?, Y08, Y09, Y0a, Y0b, Y0c, Y0d, Y0e, putN, Z3i, repL, Y0f, Y0g, Y0h, Y0i, Y0j, Y0k, Y0l, Y0m, Y0n, Y0o, Y0p, Y0q, Y0r, Y0s, Z3r, Z3s, Z3t, depB, Fd, Fall, Dis, Dis1, Z3u, Z3v, appC, appN, mapC, mapN, List.append_eq, Z3w, Array.toArray_toList, Z3x, Z3y, List.getElem?_cons_zero, List.getElem?_cons_succ, Nat.reduceAdd, Nat.reduceSub, Nat.reduceMul, Nat.reduceEqDiff, Nat.zero_add, Nat.add_zero, Nat.mul_one, Nat.zero_mul, if_true, if_false, eq_self, true_and, and_true, reduceCtorEq, false_and, Addr.add_lit, ne_eq, not_false_eq_true, Array.empty_append, Array.append_empty, ↓Z3z, ↓Z40, ↓Z41, ↓Z42, ↓Z43, ↓Z44, ↓Z45, List.getElem?_toArray, Z46, Int.toNat_natCast, Nat.sub_zero, Int.toNat_sub, Sx.Z47, ite_self, ty_3, ty_22, ty_23, ty_24, ty_34, ty_54]
  refine ⟨rfl, ⟨rfl, by simp⟩, ⟨rfl, by simp⟩, fun W hW hF => ?_, ?_⟩
  · have h4 : OwnU W w2.heap.size _ (r ++ s) := hF.1
    refine (normal_any W (r ++ s) l _ ⟨_, _, rfl, h4.rd, (hb.below hB).below hW⟩ (by simp; omega) hl).mono ?_
    rintro v V ⟨g1, g2⟩
    exact ⟨g2, g1.lower hW.size, FrOk.no _ _ _⟩
  rintro v ⟨_, _, x, y, rfl, -⟩
  rintro W hW h7 -
  simp only [Z00, Z01, Z02, Z03, Z04, Z05, Z06, Z07, Z08, Z09, ↓Z0a, ↓Z0b, ↓Z0c, ↓Z0d, ↓Z0e, ↓Z0f, ↓Z0g, ↓Z0h, ↓Z0i, ↓Z0j, ↓Z0k, ↓Z0l, ↓Z0m, ↓Z0n, ↓Z0o, ↓Z0p, resL, res1, resK, Z0q, Z0r, Z0s, Z0t, Z0u, Z0v, Z0w, Z0x, Z0y, Z0z, Z10, Z11, Z12, Z13, Z14, ↓Z15, ↓Z16, Z17, Z18, Z19, Z1a, Z1b, Z1c, ↓Z1d, ↓Z1e, Z1f, ↓Z1g, ↓Z1j, ↓Z1k, ↓Z1l, ↓Z1m, ↓Z1n, ↓Z1o, ↓Z1q, ↓Z1v, ↓Z1z, ↓Z20, ↓Z21, Y00, Z2h, ↓Z2i, ↓Z2l, ↓Z2m, ↓Z2o, ↓Z2u, ↓Z2x, Z2y, Z2z, Z30, Z31, Z32, Z33, ev_t, ev_c, ev_g, ev_f, hv_t, hv_f, hv_n, Z34, Z35, Z36, Y01, Y02, Y03, Y04, Y05, Z3a, Y06, Y07, nth?, Y08, Y09, Y0a, Y0b, Y0c, Y0d, Y0e, putN, Z3i, repL, Y0f, Y0g, Y0h, Y0i, Y0j, Y0k, Y0l, Y0m, Y0n, Y0o, Y0p, Y0q, Y0r, Y0s, Z3r, Z3s, Z3t, depB, Fd, Fall, Dis, Dis1, Z3u, Z3v, appC, appN, mapC, mapN, List.append_eq, Z3w, Array.toArray_toList, Z3x, Z3y, List.getElem?_cons_zero, List.getElem?_cons_succ, Nat.reduceAdd, Nat.reduceSub, Nat.reduceMul, Nat.reduceEqDiff, Nat.zero_add, Nat.add_zero, Nat.mul_one, Nat.zero_mul, if_true, if_false, eq_self, true_and, and_true, reduceCtorEq, false_and, Addr.add_lit, ne_eq, not_false_eq_true, Array.empty_append, Array.append_empty, ↓Z3z, ↓Z40, ↓Z41, ↓Z42, ↓Z43, ↓Z44, ↓Z45, List.getElem?_toArray, Z46, Int.toNat_natCast, Nat.sub_zero, Int.toNat_sub, Sx.Z47, ite_self, ty_3, ty_22, ty_23, ty_24, ty_34, ty_54] at h7 ⊢
  have h7 := h7.1
  exact ⟨rfl, ret_ownW (bheap hW n2.at_) rfl h7.ones.1 h7.ones.2 h7 hb2 hb2' (hB.trans (hW.mono hsz))⟩

/-- the first n letters, from one on -/
def preFrom (s l : List Int) (n : Nat) : List Int := (List.range n).map fun (i : Nat) => atOf s l (i : Int)
def preN (l : List Int) (n : Int) : Nat := if l.length = 0 then 0 else (min (max n 0) 65536).toNat
theorem preFrom_len (s l : List Int) (n : Nat) : (preFrom s l n).length = n := by simp [preFrom]
theorem preFrom_succ (s l : List Int) (n : Nat) : preFrom s l (n + 1) = preFrom s l n ++ [atOf s l n] := by simp [preFrom, List.range_succ]

/-- one letter in a list of its own -/
theorem rd1 {k : IntKind} {w w' : World} {b : Nat} {x : Int} {e : TypeId} (n : New w b (.cells #[.int k x] e) w') : RdI k w' (.slice (some ⟨b, 0, none⟩) 1 1) [x] :=
  rd_of_cells n.at_ rfl (by decide) (by decide) (by decide) fun j hj => by
    match j, hj with
    | 0, _ => rfl

theorem prefix_any (w : World) (s l : List Int) (v : Value) (n : Int) (hw : RdW w v s l) :
    CallG C.P 15 #[v, .int .i64 n] w (fun v w' => OwnU w' w.heap.size v (preFrom s l (preN l n)) ∧ Below w.heap.size w w') := by
  have hw0 := hw
  obtain ⟨a, b, rfl, ha, hb⟩ := hw
  obtain ⟨p, c, rfl, hx1, hx2, hx3, hp⟩ := ha.out
  obtain ⟨q, d, rfl, hy1, hy2, hy3, hq⟩ := hb.out
  clear hp hq
  refine fn_ok (C := C) (args := [_, _]) 23 [.tmp 4] Tryd.func15 rfl rfl rfl rfl ?_
  simp only [Tryd.f15, Z00, Z01, Z02, Z03, Z04, Z05, Z06, Z07, Z08, Z09, ↓Z0a, ↓Z0b, ↓Z0c, ↓Z0d, ↓Z0e, ↓Z0f, ↓Z0g, ↓Z0h, ↓Z0i, ↓Z0j, ↓Z0k, ↓Z0l, ↓Z0m, ↓Z0n, ↓Z0o, ↓Z0p, resL, res1, resK, Z0q, Z0r, Z0s, Z0t, Z0u, Z0v, Z0w, Z0x, Z0y, Z0z, Z10, Z11, Z12, Z13, Z14, ↓Z15, ↓Z16, Z17, Z18, Z19, Z1a, Z1b, Z1c, ↓Z1d, ↓Z1e, Z1f, ↓Z1g, ↓Z1h, ↓Z1k, ↓Z1m, ↓Z1n, ↓Z1q, ↓Z1v, ↓Z1z, ↓Z20, ↓Z21, Y00, Z2h, ↓Z2i, ↓Z2j, ↓Z2m, ↓Z2o, ↓Z2u, ↓Z2x, Z2y, Z2z, Z30, Z31, Z32, Z33, ev_t, ev_c, ev_g, ev_f, hv_t, hv_f, hv_n, Z34, Z35, Z36, Y01, Y02, Y03, Y04, Y05, Z3a, Y06, Y07, nth?, Y08, Y09, Y0a, Y0b, Y0c, Y0d, Y0e, putN, Z3i, repL, Y0f, Y0g, Y0h, Y0i, Y0j, Y0k, Y0l, Y0m, Y0n, Y0o, Y0p, Y0q, Y0r, Y0s, Z3r, Z3s, Z3t, depB, Fd, Fall, Dis, Dis1, Z3u, Z3v, appC, appN, mapC, mapN, List.append_eq, Z3w, Array.toArray_toList, Z3x, Z3y, List.getElem?_cons_zero, List.getElem?_cons_succ, Nat.reduceAdd, Nat.reduceSub, Nat.reduceMul, Nat.reduceEqDiff, Nat.zero_add, Nat.add_zero, Nat.mul_one, Nat.zero_mul, if_true, if_false, eq_self, true_and, and_true, reduceCtorEq, false_and, Addr.add_lit, ne_eq, not_false_eq_true, Array.empty_append, Array.append_empty, ↓Z3z, ↓Z40, ↓Z41, ↓Z42, ↓Z43, ↓Z44, ↓Z45, List.getElem?_toArray, Z46, Int.toNat_natCast, Nat.sub_zero, Int.toNat_sub, Sx.Z47, ite_self, ty_3, ty_22, ty_23, ty_24, ty_54]
  intro b1 w1 n1
  have hsz := n1.ext.size
  simp only [ldSl_blk n1.at_, Z00, Z01, Z02, Z03, Z04, Z05, Z06, Z07, Z08, Z09, ↓Z0a, ↓Z0b, ↓Z0c, ↓Z0d, ↓Z0e, ↓Z0f, ↓Z0g, ↓Z0h, ↓Z0i, ↓Z0j, ↓Z0k, ↓Z0l, ↓Z0m, ↓Z0n, ↓Z0o, ↓Z0p, resL, res1, resK, Z0q, Z0r, Z0s, Z0t, Z0u, Z0v, Z0w, Z0x, Z0y, Z0z, Z10, Z11, Z12, Z13, Z14, ↓Z15, ↓Z16, Z17, Z18, Z19, Z1a, Z1b, Z1c, ↓Z1d, ↓Z1e, Z1f, ↓Z1g, ↓Z1h, ↓Z1k, ↓Z1m, ↓Z1n, ↓Z1q, ↓Z1v, ↓Z1z, ↓Z20, ↓Z21, Y00, Z2h, ↓Z2i, ↓Z2j, ↓Z2m, ↓Z2o, ↓Z2u, ↓Z2x, Z2y, Z2z, Z30, Z31, Z32, Z33, ev_t, ev_c, ev_g, ev_f, hv_t, hv_f, hv_n, Z34, Z35, Z36, Y01, Y02, Y03, Y04, Y05, Z3a, Y06, Y07, nth?, Y08, Y09, Y0a, Y0b, Y0c, Y0d, Y0e, putN, Z3i, repL, Y0f, Y0g, Y0h, Y0i, Y0j, Y0k, Y0l, Y0m, Y0n, Y0o, Y0p, Y0q, Y0r, Y0s, Z3r, Z3s, Z3t, depB, Fd, Fall, Dis, Dis1, Z3u, Z3v, appC, appN, mapC, mapN, List.append_eq, Z3w, Array.toArray_toList, Z3x, Z3y, List.getElem?_cons_zero, List.getElem?_cons_succ, Nat.reduceAdd, Nat.reduceSub, Nat.reduceMul, Nat.reduceEqDiff, Nat.zero_add, Nat.add_zero, Nat.mul_one, Nat.zero_mul, if_true, if_false, eq_self, true_and, and_true, reduceCtorEq, false_and, Addr.add_lit, ne_eq, not_false_eq_true, Array.empty_append, Array.append_empty, ↓Z3z, ↓Z40, ↓Z41, ↓Z42, ↓Z43, ↓Z44, ↓Z45, List.getElem?_toArray, Z46, Int.toNat_natCast, Nat.sub_zero, Int.toNat_sub, Sx.Z47, ite_self, ty_3, ty_22, ty_23, ty_24, ty_54]
  refine BrE (fun h => ?_) (fun h => ?_)
  · have h0 : l.length = 0 := by omega
    rw [preN, if_pos h0]
    exact ⟨OwnU.nil w1 _, n1.ext⟩
  have hm : (if 65536 < (if 0 > n then 0 else n) then 65536 else (if 0 > n then 0 else n)) = (preN l n : Int) := by
    have e0 : preN l n = (min (max n 0) 65536).toNat := by unfold preN; rw [if_neg (by omega)]
    have e : (if 0 > n then 0 else n) = max n 0 := by split <;> omega
    rw [e, e0]; split <;> omega
  rw [hm]
  have hN : preN l n ≤ 65536 := by unfold preN; split <;> omega
  generalize preN l n = N at *
  refine loop_ok [false, false, false, false, false, true, true, false, false, false, false, false, false, false, true, true, true, true, true, true, true, true, true, true, false] (fun u wr => ∃ k : Nat, u 14 = .int .i64 k ∧ k ≤ N ∧ OwnU wr w1.heap.size (u 5) (preFrom s l k) ∧ Below w1.heap.size w1 wr)
    (fun u wr => N - (intOf (u 14)).toNat) ⟨rfl, 0, rfl, Nat.zero_le _, OwnU.nil w1 _, Below.refl _ _⟩ ?_
  rintro u wr ⟨k, h14, hk, h5, hB⟩
  simp only [Z00, Z01, Z02, Z03, Z04, Z05, Z06, Z07, Z08, Z09, ↓Z0a, ↓Z0b, ↓Z0c, ↓Z0d, ↓Z0e, ↓Z0f, ↓Z0g, ↓Z0h, ↓Z0i, ↓Z0j, ↓Z0k, ↓Z0l, ↓Z0m, ↓Z0n, ↓Z0o, ↓Z0p, resL, res1, resK, Z0q, Z0r, Z0s, Z0t, Z0u, Z0v, Z0w, Z0x, Z0y, Z0z, Z10, Z11, Z12, Z13, Z14, ↓Z15, ↓Z16, Z17, Z18, Z19, Z1a, Z1b, Z1c, ↓Z1d, ↓Z1e, Z1f, ↓Z1g, ↓Z1h, ↓Z1k, ↓Z1m, ↓Z1n, ↓Z1q, ↓Z1v, ↓Z1z, ↓Z20, ↓Z21, Y00, Z2h, ↓Z2i, ↓Z2j, ↓Z2m, ↓Z2o, ↓Z2u, ↓Z2x, Z2y, Z2z, Z30, Z31, Z32, Z33, ev_t, ev_c, ev_g, ev_f, hv_t, hv_f, hv_n, Z34, Z35, Z36, Y01, Y02, Y03, Y04, Y05, Z3a, Y06, Y07, nth?, Y08, Y09, Y0a, Y0b, Y0c, Y0d, Y0e, putN, Z3i, repL, Y0f, Y0g, Y0h, Y0i, Y0j, Y0k, Y0l, Y0m, Y0n, Y0o, Y0p, Y0q, Y0r, Y0s, Z3r, Z3s, Z3t, depB, Fd, Fall, Dis, Dis1, Z3u, Z3v, appC, appN, mapC, mapN, List.append_eq, Z3w, Array.toArray_toList, Z3x, Z3y, List.getElem?_cons_zero, List.getElem?_cons_succ, Nat.reduceAdd, Nat.reduceSub, Nat.reduceMul, Nat.reduceEqDiff, Nat.zero_add, Nat.add_zero, Nat.mul_one, Nat.zero_mul, if_true, if_false, eq_self, true_and, and_true, reduceCtorEq, false_and, Addr.add_lit, ne_eq, not_false_eq_true, Array.empty_append, Array.append_empty, ↓Z3z, ↓Z40, ↓Z41, ↓Z42, ↓Z43, ↓Z44, ↓Z45, List.getElem?_toArray, Z46, Int.toNat_natCast, Nat.sub_zero, Int.toNat_sub, Sx.Z47, ite_self, ty_3, ty_22, ty_23, ty_24, ty_54, h14]
  refine BrD (fun hlt => ?_) (fun hlt => ?_)
  · simp only [ldAgg_blk (n := 2) (bheap hB n1.at_) rfl, Z00, Z01, Z02, Z03, Z04, Z05, Z06, Z07, Z08, Z09, ↓Z0a, ↓Z0b, ↓Z0c, ↓Z0d, ↓Z0e, ↓Z0f, ↓Z0g, ↓Z0h, ↓Z0i, ↓Z0j, ↓Z0k, ↓Z0l, ↓Z0m, ↓Z0n, ↓Z0o, ↓Z0p, resL, res1, resK, Z0q, Z0r, Z0s, Z0t, Z0u, Z0v, Z0w, Z0x, Z0y, Z0z, Z10, Z11, Z12, Z13, Z14, ↓Z15, ↓Z16, Z17, Z18, Z19, Z1a, Z1b, Z1c, ↓Z1d, ↓Z1e, Z1f, ↓Z1g, ↓Z1h, ↓Z1k, ↓Z1m, ↓Z1n, ↓Z1q, ↓Z1v, ↓Z1z, ↓Z20, ↓Z21, Y00, Z2h, ↓Z2i, ↓Z2j, ↓Z2m, ↓Z2o, ↓Z2u, ↓Z2x, Z2y, Z2z, Z30, Z31, Z32, Z33, ev_t, ev_c, ev_g, ev_f, hv_t, hv_f, hv_n, Z34, Z35, Z36, Y01, Y02, Y03, Y04, Y05, Z3a, Y06, Y07, nth?, Y08, Y09, Y0a, Y0b, Y0c, Y0d, Y0e, putN, Z3i, repL, Y0f, Y0g, Y0h, Y0i, Y0j, Y0k, Y0l, Y0m, Y0n, Y0o, Y0p, Y0q, Y0r, Y0s, Z3r, Z3s, Z3t, depB, Fd, Fall, Dis, Dis1, Z3u, Z3v, appC, appN, mapC, mapN, List.append_eq, Z3w, Array.toArray_toList, Z3x, Z3y, List.getElem?_cons_zero, List.getElem?_cons_succ, Nat.reduceAdd, Nat.reduceSub, Nat.reduceMul, Nat.reduceEqDiff, Nat.zero_add, Nat.add_zero, Nat.mul_one, Nat.zero_mul, if_true, if_false, eq_self, true_and, and_true, reduceCtorEq, false_and, Addr.add_lit, ne_eq, not_false_eq_true, Array.empty_append, Array.append_empty, ↓Z3z, ↓Z40, ↓Z41, ↓Z42, ↓Z43, ↓Z44, ↓Z45, List.getElem?_toArray, Z46, Int.toNat_natCast, Nat.sub_zero, Int.toNat_sub, Sx.Z47, ite_self, ty_3, ty_22, ty_23, ty_24, ty_54]
    have hBw := n1.ext.trans (hB.mono hsz)
    refine (at_any wr s l _ (hw0.below hBw) k (by omega)).mono ?_
    rintro v w2 ⟨rfl, h2⟩
    simp only [Z00, Z01, Z02, Z03, Z04, Z05, Z06, Z07, Z08, Z09, ↓Z0a, ↓Z0b, ↓Z0c, ↓Z0d, ↓Z0e, ↓Z0f, ↓Z0g, ↓Z0h, ↓Z0i, ↓Z0j, ↓Z0k, ↓Z0l, ↓Z0m, ↓Z0n, ↓Z0o, ↓Z0p, resL, res1, resK, Z0q, Z0r, Z0s, Z0t, Z0u, Z0v, Z0w, Z0x, Z0y, Z0z, Z10, Z11, Z12, Z13, Z14, ↓Z15, ↓Z16, Z17, Z18, Z19, Z1a, Z1b, Z1c, ↓Z1d, ↓Z1e, Z1f, ↓Z1g, ↓Z1h, ↓Z1k, ↓Z1m, ↓Z1n, ↓Z1q, ↓Z1v, ↓Z1z, ↓Z20, ↓Z21, Y00, Z2h, ↓Z2i, ↓Z2j, ↓Z2m, ↓Z2o, ↓Z2u, ↓Z2x, Z2y, Z2z, Z30, Z31, Z32, Z33, ev_t, ev_c, ev_g, ev_f, hv_t, hv_f, hv_n, Z34, Z35, Z36, Y01, Y02, Y03, Y04, Y05, Z3a, Y06, Y07, nth?, Y08, Y09, Y0a, Y0b, Y0c, Y0d, Y0e, putN, Z3i, repL, Y0f, Y0g, Y0h, Y0i, Y0j, Y0k, Y0l, Y0m, Y0n, Y0o, Y0p, Y0q, Y0r, Y0s, Z3r, Z3s, Z3t, depB, Fd, Fall, Dis, Dis1, Z3u, Z3v, appC, appN, mapC, mapN, List.append_eq, Z3w, Array.toArray_toList, Z3x, Z3y, List.getElem?_cons_zero, List.getElem?_cons_succ, Nat.reduceAdd, Nat.reduceSub, Nat.reduceMul, Nat.reduceEqDiff, Nat.zero_add, Nat.add_zero, Nat.mul_one, Nat.zero_mul, if_true, if_false, eq_self, true_and, and_true, reduceCtorEq, false_and, Addr.add_lit, ne_eq, not_false_eq_true, Array.empty_append, Array.append_empty, ↓Z3z, ↓Z40, ↓Z41, ↓Z42, ↓Z43, ↓Z44, ↓Z45, List.getElem?_toArray, Z46, Int.toNat_natCast, Nat.sub_zero, Int.toNat_sub, Sx.Z47, ite_self, ty_3, ty_22, ty_23, ty_24, ty_54]
    refine ⟨⟨by omega, rfl⟩, ⟨rfl, by simp⟩, ?_⟩
    intro b3 w3 n3
    refine appU ((h5.below h2).below n3.ext) (rd1 n3) (by rw [preFrom_len]; simp; omega) (by have := hB.size; have := h2.size; have := n3.ext.size; omega) ?_
    intro v' w4 g1 _ _ g4
    simp only [Z00, Z01, Z02, Z03, Z04, Z05, Z06, Z07, Z08, Z09, ↓Z0a, ↓Z0b, ↓Z0c, ↓Z0d, ↓Z0e, ↓Z0f, ↓Z0g, ↓Z0h, ↓Z0i, ↓Z0j, ↓Z0k, ↓Z0l, ↓Z0m, ↓Z0n, ↓Z0o, ↓Z0p, resL, res1, resK, Z0q, Z0r, Z0s, Z0t, Z0u, Z0v, Z0w, Z0x, Z0y, Z0z, Z10, Z11, Z12, Z13, Z14, ↓Z15, ↓Z16, Z17, Z18, Z19, Z1a, Z1b, Z1c, ↓Z1d, ↓Z1e, Z1f, ↓Z1g, ↓Z1h, ↓Z1k, ↓Z1m, ↓Z1n, ↓Z1q, ↓Z1v, ↓Z1z, ↓Z20, ↓Z21, Y00, Z2h, ↓Z2i, ↓Z2j, ↓Z2m, ↓Z2o, ↓Z2u, ↓Z2x, Z2y, Z2z, Z30, Z31, Z32, Z33, ev_t, ev_c, ev_g, ev_f, hv_t, hv_f, hv_n, Z34, Z35, Z36, Y01, Y02, Y03, Y04, Y05, Z3a, Y06, Y07, nth?, Y08, Y09, Y0a, Y0b, Y0c, Y0d, Y0e, putN, Z3i, repL, Y0f, Y0g, Y0h, Y0i, Y0j, Y0k, Y0l, Y0m, Y0n, Y0o, Y0p, Y0q, Y0r, Y0s, Z3r, Z3s, Z3t, depB, Fd, Fall, Dis, Dis1, Z3u, Z3v, appC, appN, mapC, mapN, List.append_eq, Z3w, Array.toArray_toList, Z3x, Z3y, List.getElem?_cons_zero, List.getElem?_cons_succ, Nat.reduceAdd, Nat.reduceSub, Nat.reduceMul, Nat.reduceEqDiff, Nat.zero_add, Nat.add_zero, Nat.mul_one, Nat.zero_mul, if_true, if_false, eq_self, true_and, and_true, reduceCtorEq, false_and, Addr.add_lit, ne_eq, not_false_eq_true, Array.empty_append, Array.append_empty, ↓Z3z, ↓Z40, ↓Z41, ↓Z42, ↓Z43, ↓Z44, ↓Z45, List.getElem?_toArray, Z46, Int.toNat_natCast, Nat.sub_zero, Int.toNat_sub, Sx.Z47, ite_self, ty_3, ty_22, ty_23, ty_24, ty_54]
    rw [wi (n := (k : Int) + 1) (by omega) (by omega)]
    refine ⟨⟨k + 1, by simp, by omega, ?_, ?_⟩, by simp [intOf, h14]; omega⟩
    · rw [preFrom_succ]; exact g1
    · exact ((hB.trans (h2.mono hB.size)).trans (n3.ext.mono (by have := hB.size; have := h2.size; omega))).trans g4
  · obtain rfl : k = N := by omega
    exact ⟨h5.lower hsz, n1.ext.trans (hB.mono hsz)⟩

/-- the blocks of a word's two lists -/
def roomW : Value → Nat → Prop := fun v b => ∃ x y, v = .agg #[x, y] ∧ (roomOf x = some b ∨ roomOf y = some b)
theorem OwnW.fr {w w' : World} {v : Value} {s l : List Int} (h : OwnW w' w.heap.size v s l) : FrOk roomW v w w' := by
  rintro b ⟨x, y, rfl, hb⟩
  obtain ⟨x', y', e, h1, h2, _⟩ := h
  cases e
  rcases hb with hb | hb
  · exact OwnC.room h1 b hb
  · exact OwnC.room h2 b hb
theorem OwnW.apart {w w' : World} {base b : Nat} {o : Obj} {v : Value} {s l : List Int} (h : OwnW w base v s l) (u : Upd w b o w') (hb : ¬ roomW v b) : OwnW w' base v s l := by
  obtain ⟨x, y, rfl, h1, h2, h3⟩ := h
  refine ⟨x, y, rfl, OwnC.keep h1 fun g hg => u.rest g ?_, OwnC.keep h2 fun g hg => u.rest g ?_, h3⟩
  · rintro rfl; exact hb ⟨x, y, rfl, .inl hg⟩
  · rintro rfl; exact hb ⟨x, y, rfl, .inr hg⟩
/-- a pointer to a block of one's own -/
def roomP : Value → Nat → Prop := fun v b => v = .pointer (some ⟨b, 0, none⟩)
def PtrTo (o : Obj) (base : Nat) (v : Value) (W : World) : Prop := ∃ b, v = .pointer (some ⟨b, 0, none⟩) ∧ base ≤ b ∧ W.heap[b]? = some o
theorem PtrTo.below {o : Obj} {base : Nat} {v : Value} {W W' : World} (h : PtrTo o base v W) (hb : Below W.heap.size W W') : PtrTo o base v W' := by
  obtain ⟨b, rfl, h1, h2⟩ := h
  exact ⟨b, rfl, h1, bheap hb h2⟩
theorem PtrTo.new {w w' : World} {b base : Nat} {o : Obj} (n : New w b o w') (hb : base ≤ w.heap.size) : PtrTo o base (.pointer (some ⟨b, 0, none⟩)) w' ∧ FrOk roomP (.pointer (some ⟨b, 0, none⟩)) w w' := by
  refine ⟨⟨b, rfl, by have := n.hb; omega, n.at_⟩, ?_⟩
  intro g hg
  cases hg
  exact ⟨Nat.le_of_eq n.hb.symm, (Array.getElem?_eq_some_iff.1 n.at_).1⟩

theorem same_any (w : World) (s l s' l' : List Int) (u v : Value) (hu : RdW w u s l) (hv : RdW w v s' l') (hs : s.length ≤ 70368744177664) (hl : l.length ≤ 70368744177664) (hs' : s'.length ≤ 70368744177664) (hl' : l'.length ≤ 70368744177664) :
    CallG C.P 45 #[u, v] w (Ans w (.bool (decide (l ≠ [] ∧ l' ≠ [] ∧ nStem s l = nStem s' l' ∧ nLoop s l = nLoop s' l')))) := by
  have hu0 := hu
  have hv0 := hv
  obtain ⟨a, b, rfl, ha, hb⟩ := hu
  obtain ⟨p, c, rfl, hx1, hx2, hx3, hp⟩ := ha.out
  obtain ⟨q, d, rfl, hy1, hy2, hy3, hq⟩ := hb.out
  obtain ⟨a', b', rfl, ha', hb'⟩ := hv
  obtain ⟨p', c', rfl, hx1', hx2', hx3', hp'⟩ := ha'.out
  obtain ⟨q', d', rfl, hy1', hy2', hy3', hq'⟩ := hb'.out
  clear hp hq hp' hq'
  refine fn_ok (C := C) (args := [_, _]) 31 [.tmp 4] Tryd.func45 rfl rfl rfl rfl ?_
  simp only [Tryd.f45, Z00, Z01, Z02, Z03, Z04, Z05, Z06, Z07, Z08, Z09, ↓Z0a, ↓Z0b, ↓Z0c, ↓Z0d, ↓Z0e, ↓Z0f, ↓Z0g, ↓Z0h, ↓Z0i, ↓Z0j, ↓Z0k, ↓Z0l, ↓Z0m, ↓Z0n, ↓Z0o, ↓Z0p, resL, res1, resK, Z0q, Z0r, Z0s, Z0t, Z0u, Z0v, Z0w, Z0x, Z0y, Z0z, Z10, Z11, Z12, Z13, Z14, ↓Z15, ↓Z16, Z17, Z18, Z19, Z1a, Z1b, Z1c, ↓Z1d, ↓Z1e, Z1f, ↓Z1g, ↓Z1h, ↓Z1i, ↓Z1j, ↓Z1k, ↓Z1n, ↓Z1o, ↓Z1q, ↓Z1v, ↓Z1z, ↓Z20, ↓Z21, Y00, Z2h, ↓Z2i, ↓Z2j, ↓Z2k, ↓Z2m, ↓Z2o, ↓Z2u, ↓Z2x, Z2y, Z2z, Z30, Z31, Z32, Z33, ev_t, ev_c, ev_g, ev_f, hv_t, hv_f, hv_n, Z34, Z35, Z36, Y01, Y02, Y03, Y04, Y05, Z3a, Y06, Y07, nth?, Y08, Y09, Y0a, Y0b, Y0c, Y0d, Y0e, putN, Z3i, repL, Y0f, Y0g, Y0h, Y0i, Y0j, Y0k, Y0l, Y0m, Y0n, Y0o, Y0p, Y0q, Y0r, Y0s, Z3r, Z3s, Z3t, depB, Fd, Fall, Dis, Dis1, Z3u, Z3v, appC, appN, mapC, mapN, List.append_eq, Z3w, Array.toArray_toList, Z3x, Z3y, List.getElem?_cons_zero, List.getElem?_cons_succ, Nat.reduceAdd, Nat.reduceSub, Nat.reduceMul, Nat.reduceEqDiff, Nat.zero_add, Nat.add_zero, Nat.mul_one, Nat.zero_mul, if_true, if_false, eq_self, true_and, and_true, reduceCtorEq, false_and, Addr.add_lit, ne_eq, not_false_eq_true, Array.empty_append, Array.append_empty, ↓Z3z, ↓Z40, ↓Z41, ↓Z42, ↓Z43, ↓Z44, ↓Z45, List.getElem?_toArray, Z46, Int.toNat_natCast, Nat.sub_zero, Int.toNat_sub, Sx.Z47, ite_self, ty_3, ty_22, ty_23, ty_24, ty_54]
  intro b1 w1 n1 b2 w2 n2
  have hB := n1.ext.trans (n2.ext.mono n1.ext.size)
  have hsz := hB.size
  simp only [ldSl_blk (bheap n2.ext n1.at_), ldSl_blk n2.at_, Z00, Z01, Z02, Z03, Z04, Z05, Z06, Z07, Z08, Z09, ↓Z0a, ↓Z0b, ↓Z0c, ↓Z0d, ↓Z0e, ↓Z0f, ↓Z0g, ↓Z0h, ↓Z0i, ↓Z0j, ↓Z0k, ↓Z0l, ↓Z0m, ↓Z0n, ↓Z0o, ↓Z0p, resL, res1, resK, Z0q, Z0r, Z0s, Z0t, Z0u, Z0v, Z0w, Z0x, Z0y, Z0z, Z10, Z11, Z12, Z13, Z14, ↓Z15, ↓Z16, Z17, Z18, Z19, Z1a, Z1b, Z1c, ↓Z1d, ↓Z1e, Z1f, ↓Z1g, ↓Z1h, ↓Z1i, ↓Z1j, ↓Z1k, ↓Z1n, ↓Z1o, ↓Z1q, ↓Z1v, ↓Z1z, ↓Z20, ↓Z21, Y00, Z2h, ↓Z2i, ↓Z2j, ↓Z2k, ↓Z2m, ↓Z2o, ↓Z2u, ↓Z2x, Z2y, Z2z, Z30, Z31, Z32, Z33, ev_t, ev_c, ev_g, ev_f, hv_t, hv_f, hv_n, Z34, Z35, Z36, Y01, Y02, Y03, Y04, Y05, Z3a, Y06, Y07, nth?, Y08, Y09, Y0a, Y0b, Y0c, Y0d, Y0e, putN, Z3i, repL, Y0f, Y0g, Y0h, Y0i, Y0j, Y0k, Y0l, Y0m, Y0n, Y0o, Y0p, Y0q, Y0r, Y0s, Z3r, Z3s, Z3t, depB, Fd, Fall, Dis, Dis1, Z3u, Z3v, appC, appN, mapC, mapN, List.append_eq, Z3w, Array.toArray_toList, Z3x, Z3y, List.getElem?_cons_zero, List.getElem?_cons_succ, Nat.reduceAdd, Nat.reduceSub, Nat.reduceMul, Nat.reduceEqDiff, Nat.zero_add, Nat.add_zero, Nat.mul_one, Nat.zero_mul, if_true, if_false, eq_self, true_and, and_true, reduceCtorEq, false_and, Addr.add_lit, ne_eq, not_false_eq_true, Array.empty_append, Array.append_empty, ↓Z3z, ↓Z40, ↓Z41, ↓Z42, ↓Z43, ↓Z44, ↓Z45, List.getElem?_toArray, Z46, Int.toNat_natCast, Nat.sub_zero, Int.toNat_sub, Sx.Z47, ite_self, ty_3, ty_22, ty_23, ty_24, ty_54]
  refine BrE (fun h => ?_) (fun h => BrE (fun h' => ?_) (fun h' => ?_))
  · have : l = [] := List.eq_nil_of_length_eq_zero (by omega)
    exact Ans.mk (by simp [this]) hB
  · have : l' = [] := List.eq_nil_of_length_eq_zero (by omega)
    exact Ans.mk (by simp [this]) hB
  have hn : l ≠ [] := by rintro rfl; simp at h
  have hn' : l' ≠ [] := by rintro rfl; simp at h'
  refine draw_sp 6 [(1, (fun v W => OwnW W w2.heap.size v (nStem s l) (nLoop s l)), roomW), (3, (fun v W => OwnW W w2.heap.size v (nStem s' l') (nLoop s' l')), roomW),
    (4, PtrTo (.cells #[.slice none 0 0, .slice none 0 0] 24 (0, 0)) w2.heap.size, roomP), (5, PtrTo (.cells #[.slice none 0 0, .slice none 0 0] 24 (0, 0)) w2.heap.size, roomP)]
    (by kernel_rfl) (by kernel_rfl) (by decide) 33 rfl (by kernel_rfl) ⟨fun _ _ _ h hb => h.below hb, fun _ _ _ h hb => h.below hb, fun _ _ _ h hb => h.below hb, fun _ _ _ h hb => h.below hb, trivial⟩ ?_
  simp only [ldAgg_blk (n := 2) (bheap n2.ext n1.at_) rfl, ldAgg_blk (n := 2) n2.at_ rfl, Z00, Z01, Z02, Z03, Z04, Z05, Z06, Z07, Z08, Z09, ↓Z0a, ↓Z0b, ↓Z0c, ↓Z0d, ↓Z0e, ↓Z0f, ↓Z0g, ↓Z0h, ↓Z0i, ↓Z0j, ↓Z0k, ↓Z0l, ↓Z0m, ↓Z0n, ↓Z0o, ↓Z0p, resL, res1, resK, Z0q, Z0r, Z0s, Z0t, Z0u, Z0v, Z0w, Z0x, Z0y, Z0z, Z10, Z11, Z12, Z13, Z14, ↓Z15, ↓Z16, Z17, Z18, Z19, Z1a, Z1b, Z1c, ↓Z1d, ↓Z1e, Z1f, ↓Z1g, ↓Z1h, ↓Z1i, ↓Z1j, ↓Z1k, ↓Z1n, ↓Z1o, ↓Z1q, ↓Z1v, ↓Z1z, ↓Z20, ↓Z21, Y00, Z2h, ↓Z2i, ↓Z2j, ↓Z2k, ↓Z2m, ↓Z2o, ↓Z2u, ↓Z2x, Z2y, Z2z, Z30, Z31, Z32, Z33, ev_t, ev_c, ev_g, ev_f, hv_t, hv_f, hv_n, Z34, Z35, Z36, Y01, Y02, Y03, Y04, Y05, Z3a, Y06, Y07, nth?, Y08, Y09, Y0a, Y0b, Y0c, Y0d, Y0e, putN, Z3i, repL, Y0f, Y0g, Y0h, Y0i, Y0j, Y0k, Y0l, Y0m, Y0n, Y0o, Y0p, Y0q, Y0r, Y0s, Z3r, Z3s, Z3t, depB, Fd, Fall, Dis, Dis1, Z3u, Z3v, appC, appN, mapC, mapN, List.append_eq, Z3w, Array.toArray_toList, Z3x, Z3y, List.getElem?_cons_zero, List.getElem?_cons_succ, Nat.reduceAdd, Nat.reduceSub, Nat.reduceMul, Nat.reduceEqDiff, Nat.zero_add, Nat.add_zero, Nat.mul_one, Nat.zero_mul, if_true, if_false, eq_self, true_and, and_true, reduceCtorEq, false_and, Addr.add_lit, ne_eq, not_false_eq_true, Array.empty_append, Array.append_empty, ↓Z3z, ↓Z40, ↓Z41, ↓Z42, ↓Z43, ↓Z44, ↓Z45, List.getElem?_toArray, Z46, Int.toNat_natCast, Nat.sub_zero, Int.toNat_sub, Sx.Z47, ite_self, ty_3, ty_22, ty_23, ty_24, ty_54]
  refine ⟨fun W hW _ => ?_, ?_⟩
  · refine (normal_any W s l _ ((hu0.below hB).below hW) hs hl).mono ?_
    rintro v V ⟨g1, g2⟩
    exact ⟨g2, g1.lower hW.size, g1.fr⟩
  rintro v1 ⟨_, _, o1⟩
  obtain ⟨x1, z1, y1, t1, rfl⟩ := o1.out
  clear o1
  simp only [ldAgg_blk (n := 2) n2.at_ rfl, Z00, Z01, Z02, Z03, Z04, Z05, Z06, Z07, Z08, Z09, ↓Z0a, ↓Z0b, ↓Z0c, ↓Z0d, ↓Z0e, ↓Z0f, ↓Z0g, ↓Z0h, ↓Z0i, ↓Z0j, ↓Z0k, ↓Z0l, ↓Z0m, ↓Z0n, ↓Z0o, ↓Z0p, resL, res1, resK, Z0q, Z0r, Z0s, Z0t, Z0u, Z0v, Z0w, Z0x, Z0y, Z0z, Z10, Z11, Z12, Z13, Z14, ↓Z15, ↓Z16, Z17, Z18, Z19, Z1a, Z1b, Z1c, ↓Z1d, ↓Z1e, Z1f, ↓Z1g, ↓Z1h, ↓Z1i, ↓Z1j, ↓Z1k, ↓Z1n, ↓Z1o, ↓Z1q, ↓Z1v, ↓Z1z, ↓Z20, ↓Z21, Y00, Z2h, ↓Z2i, ↓Z2j, ↓Z2k, ↓Z2m, ↓Z2o, ↓Z2u, ↓Z2x, Z2y, Z2z, Z30, Z31, Z32, Z33, ev_t, ev_c, ev_g, ev_f, hv_t, hv_f, hv_n, Z34, Z35, Z36, Y01, Y02, Y03, Y04, Y05, Z3a, Y06, Y07, nth?, Y08, Y09, Y0a, Y0b, Y0c, Y0d, Y0e, putN, Z3i, repL, Y0f, Y0g, Y0h, Y0i, Y0j, Y0k, Y0l, Y0m, Y0n, Y0o, Y0p, Y0q, Y0r, Y0s, Z3r, Z3s, Z3t, depB, Fd, Fall, Dis, Dis1, Z3u, Z3v, appC, appN, mapC, mapN, List.append_eq, Z3w, Array.toArray_toList, Z3x, Z3y, List.getElem?_cons_zero, List.getElem?_cons_succ, Nat.reduceAdd, Nat.reduceSub, Nat.reduceMul, Nat.reduceEqDiff, Nat.zero_add, Nat.add_zero, Nat.mul_one, Nat.zero_mul, if_true, if_false, eq_self, true_and, and_true, reduceCtorEq, false_and, Addr.add_lit, ne_eq, not_false_eq_true, Array.empty_append, Array.append_empty, ↓Z3z, ↓Z40, ↓Z41, ↓Z42, ↓Z43, ↓Z44, ↓Z45, List.getElem?_toArray, Z46, Int.toNat_natCast, Nat.sub_zero, Int.toNat_sub, Sx.Z47, ite_self, ty_3, ty_22, ty_23, ty_24, ty_54]
  refine ⟨fun W hW _ => ?_, ?_⟩
  · refine (normal_any W s' l' _ ((hv0.below hB).below hW) hs' hl').mono ?_
    rintro v V ⟨g1, g2⟩
    exact ⟨g2, g1.lower hW.size, g1.fr⟩
  rintro v2 ⟨_, _, o2⟩
  obtain ⟨x2, z2, y2, t2, rfl⟩ := o2.out
  clear o2
  refine ⟨fun W hW _ => ?_, ?_⟩
  · intro b w' n'
    exact ⟨n'.ext, PtrTo.new n' hW.size⟩
  rintro v3 ⟨_, _, b3, rfl, -⟩
  refine ⟨fun W hW _ => ?_, ?_⟩
  · intro b w' n'
    exact ⟨n'.ext, PtrTo.new n' hW.size⟩
  rintro v4 ⟨_, _, b4, rfl, -⟩
  rintro W hW h7 hD
  obtain ⟨⟨b4', e4, hb4, h4⟩, ⟨b3', e3, hb3, h3⟩, f2, f1⟩ := h7
  obtain ⟨⟨d43, d42, d41⟩, ⟨d32, d31⟩, d21⟩ := hD
  cases e4; cases e3
  have h34 : b3 ≠ b4 := fun e => d43 b4 rfl (by rw [e]; rfl)
  simp only [Z00, Z01, Z02, Z03, Z04, Z05, Z06, Z07, Z08, Z09, ↓Z0a, ↓Z0b, ↓Z0c, ↓Z0d, ↓Z0e, ↓Z0f, ↓Z0g, ↓Z0h, ↓Z0i, ↓Z0j, ↓Z0k, ↓Z0l, ↓Z0m, ↓Z0n, ↓Z0o, ↓Z0p, resL, res1, resK, Z0q, Z0r, Z0s, Z0t, Z0u, Z0v, Z0w, Z0x, Z0y, Z0z, Z10, Z11, Z12, Z13, Z14, ↓Z15, ↓Z16, Z17, Z18, Z19, Z1a, Z1b, Z1c, ↓Z1d, ↓Z1e, Z1f, ↓Z1g, ↓Z1h, ↓Z1i, ↓Z1j, ↓Z1k, ↓Z1n, ↓Z1o, ↓Z1q, ↓Z1v, ↓Z1z, ↓Z20, ↓Z21, Y00, Z2h, ↓Z2i, ↓Z2j, ↓Z2k, ↓Z2m, ↓Z2o, ↓Z2u, ↓Z2x, Z2y, Z2z, Z30, Z31, Z32, Z33, ev_t, ev_c, ev_g, ev_f, hv_t, hv_f, hv_n, Z34, Z35, Z36, Y01, Y02, Y03, Y04, Y05, Z3a, Y06, Y07, nth?, Y08, Y09, Y0a, Y0b, Y0c, Y0d, Y0e, putN, Z3i, repL, Y0f, Y0g, Y0h, Y0i, Y0j, Y0k, Y0l, Y0m, Y0n, Y0o, Y0p, Y0q, Y0r, Y0s, Z3r, Z3s, Z3t, depB, Fd, Fall, Dis, Dis1, Z3u, Z3v, appC, appN, mapC, mapN, List.append_eq, Z3w, Array.toArray_toList, Z3x, Z3y, List.getElem?_cons_zero, List.getElem?_cons_succ, Nat.reduceAdd, Nat.reduceSub, Nat.reduceMul, Nat.reduceEqDiff, Nat.zero_add, Nat.add_zero, Nat.mul_one, Nat.zero_mul, if_true, if_false, eq_self, true_and, and_true, reduceCtorEq, false_and, Addr.add_lit, ne_eq, not_false_eq_true, Array.empty_append, Array.append_empty, ↓Z3z, ↓Z40, ↓Z41, ↓Z42, ↓Z43, ↓Z44, ↓Z45, List.getElem?_toArray, Z46, Int.toNat_natCast, Nat.sub_zero, Int.toNat_sub, Sx.Z47, ite_self, ty_3, ty_22, ty_23, ty_24, ty_54]
  refine ⟨rfl, StA.of h3 (by simp) (by simp [Value.oneCell']) ?_⟩
  intro w3 u3
  have f1 := f1.apart u3 (fun h => d31 b3 rfl h)
  have f2 := f2.apart u3 (fun h => d32 b3 rfl h)
  refine ⟨rfl, StA.of (by rw [u3.rest b4 (Ne.symm h34)]; exact h4) (by simp) (by simp [Value.oneCell']) ?_⟩
  intro w4 u4
  have f1 := f1.apart u4 (fun h => d41 b4 rfl h)
  have f2 := f2.apart u4 (fun h => d42 b4 rfl h)
  have h3 : w4.heap[b3]? = _ := (u4.rest b3 h34).trans u3.at_
  have h4 := u4.at_
  have hB4 : Below w2.heap.size w2 w4 := (hW.trans (u3.below hb3)).trans (u4.below hb4)
  simp only [ldSl_blk h3, ldSl_blk h4, Z00, Z01, Z02, Z03, Z04, Z05, Z06, Z07, Z08, Z09, ↓Z0a, ↓Z0b, ↓Z0c, ↓Z0d, ↓Z0e, ↓Z0f, ↓Z0g, ↓Z0h, ↓Z0i, ↓Z0j, ↓Z0k, ↓Z0l, ↓Z0m, ↓Z0n, ↓Z0o, ↓Z0p, resL, res1, resK, Z0q, Z0r, Z0s, Z0t, Z0u, Z0v, Z0w, Z0x, Z0y, Z0z, Z10, Z11, Z12, Z13, Z14, ↓Z15, ↓Z16, Z17, Z18, Z19, Z1a, Z1b, Z1c, ↓Z1d, ↓Z1e, Z1f, ↓Z1g, ↓Z1h, ↓Z1i, ↓Z1j, ↓Z1k, ↓Z1n, ↓Z1o, ↓Z1q, ↓Z1v, ↓Z1z, ↓Z20, ↓Z21, Y00, Z2h, ↓Z2i, ↓Z2j, ↓Z2k, ↓Z2m, ↓Z2o, ↓Z2u, ↓Z2x, Z2y, Z2z, Z30, Z31, Z32, Z33, ev_t, ev_c, ev_g, ev_f, hv_t, hv_f, hv_n, Z34, Z35, Z36, Y01, Y02, Y03, Y04, Y05, Z3a, Y06, Y07, nth?, Y08, Y09, Y0a, Y0b, Y0c, Y0d, Y0e, putN, Z3i, repL, Y0f, Y0g, Y0h, Y0i, Y0j, Y0k, Y0l, Y0m, Y0n, Y0o, Y0p, Y0q, Y0r, Y0s, Z3r, Z3s, Z3t, depB, Fd, Fall, Dis, Dis1, Z3u, Z3v, appC, appN, mapC, mapN, List.append_eq, Z3w, Array.toArray_toList, Z3x, Z3y, List.getElem?_cons_zero, List.getElem?_cons_succ, Nat.reduceAdd, Nat.reduceSub, Nat.reduceMul, Nat.reduceEqDiff, Nat.zero_add, Nat.add_zero, Nat.mul_one, Nat.zero_mul, if_true, if_false, eq_self, true_and, and_true, reduceCtorEq, false_and, Addr.add_lit, ne_eq, not_false_eq_true, Array.empty_append, Array.append_empty, ↓Z3z, ↓Z40, ↓Z41, ↓Z42, ↓Z43, ↓Z44, ↓Z45, List.getElem?_toArray, Z46, Int.toNat_natCast, Nat.sub_zero, Int.toNat_sub, Sx.Z47, ite_self, ty_3, ty_22, ty_23, ty_24, ty_54]
  obtain ⟨_, _, ea, ra1, ra2, _⟩ := f1
  cases ea
  obtain ⟨_, _, ea, rb1, rb2, _⟩ := f2
  cases ea
  refine (equal_any w4 _ _ _ _ ra1.rd rb1.rd).mono ?_
  rintro v w5 ⟨rfl, h5⟩
  have hB5 := hB4.trans (h5.mono hB4.size)
  simp only [ldSl_blk (bheap h5 h3), ldSl_blk (bheap h5 h4), Z00, Z01, Z02, Z03, Z04, Z05, Z06, Z07, Z08, Z09, ↓Z0a, ↓Z0b, ↓Z0c, ↓Z0d, ↓Z0e, ↓Z0f, ↓Z0g, ↓Z0h, ↓Z0i, ↓Z0j, ↓Z0k, ↓Z0l, ↓Z0m, ↓Z0n, ↓Z0o, ↓Z0p, resL, res1, resK, Z0q, Z0r, Z0s, Z0t, Z0u, Z0v, Z0w, Z0x, Z0y, Z0z, Z10, Z11, Z12, Z13, Z14, ↓Z15, ↓Z16, Z17, Z18, Z19, Z1a, Z1b, Z1c, ↓Z1d, ↓Z1e, Z1f, ↓Z1g, ↓Z1h, ↓Z1i, ↓Z1j, ↓Z1k, ↓Z1n, ↓Z1o, ↓Z1q, ↓Z1v, ↓Z1z, ↓Z20, ↓Z21, Y00, Z2h, ↓Z2i, ↓Z2j, ↓Z2k, ↓Z2m, ↓Z2o, ↓Z2u, ↓Z2x, Z2y, Z2z, Z30, Z31, Z32, Z33, ev_t, ev_c, ev_g, ev_f, hv_t, hv_f, hv_n, Z34, Z35, Z36, Y01, Y02, Y03, Y04, Y05, Z3a, Y06, Y07, nth?, Y08, Y09, Y0a, Y0b, Y0c, Y0d, Y0e, putN, Z3i, repL, Y0f, Y0g, Y0h, Y0i, Y0j, Y0k, Y0l, Y0m, Y0n, Y0o, Y0p, Y0q, Y0r, Y0s, Z3r, Z3s, Z3t, depB, Fd, Fall, Dis, Dis1, Z3u, Z3v, appC, appN, mapC, mapN, List.append_eq, Z3w, Array.toArray_toList, Z3x, Z3y, List.getElem?_cons_zero, List.getElem?_cons_succ, Nat.reduceAdd, Nat.reduceSub, Nat.reduceMul, Nat.reduceEqDiff, Nat.zero_add, Nat.add_zero, Nat.mul_one, Nat.zero_mul, if_true, if_false, eq_self, true_and, and_true, reduceCtorEq, false_and, Addr.add_lit, ne_eq, not_false_eq_true, Array.empty_append, Array.append_empty, ↓Z3z, ↓Z40, ↓Z41, ↓Z42, ↓Z43, ↓Z44, ↓Z45, List.getElem?_toArray, Z46, Int.toNat_natCast, Nat.sub_zero, Int.toNat_sub, Sx.Z47, ite_self, ty_3, ty_22, ty_23, ty_24, ty_54]
  refine BrD (fun he => ?_) (fun he => ?_)
  · refine (equal_any w5 _ _ _ _ (ra2.rd.below h5) (rb2.rd.below h5)).mono ?_
    rintro v w6 ⟨rfl, h6⟩
    simp only [Z00, Z01, Z02, Z03, Z04, Z05, Z06, Z07, Z08, Z09, ↓Z0a, ↓Z0b, ↓Z0c, ↓Z0d, ↓Z0e, ↓Z0f, ↓Z0g, ↓Z0h, ↓Z0i, ↓Z0j, ↓Z0k, ↓Z0l, ↓Z0m, ↓Z0n, ↓Z0o, ↓Z0p, resL, res1, resK, Z0q, Z0r, Z0s, Z0t, Z0u, Z0v, Z0w, Z0x, Z0y, Z0z, Z10, Z11, Z12, Z13, Z14, ↓Z15, ↓Z16, Z17, Z18, Z19, Z1a, Z1b, Z1c, ↓Z1d, ↓Z1e, Z1f, ↓Z1g, ↓Z1h, ↓Z1i, ↓Z1j, ↓Z1k, ↓Z1n, ↓Z1o, ↓Z1q, ↓Z1v, ↓Z1z, ↓Z20, ↓Z21, Y00, Z2h, ↓Z2i, ↓Z2j, ↓Z2k, ↓Z2m, ↓Z2o, ↓Z2u, ↓Z2x, Z2y, Z2z, Z30, Z31, Z32, Z33, ev_t, ev_c, ev_g, ev_f, hv_t, hv_f, hv_n, Z34, Z35, Z36, Y01, Y02, Y03, Y04, Y05, Z3a, Y06, Y07, nth?, Y08, Y09, Y0a, Y0b, Y0c, Y0d, Y0e, putN, Z3i, repL, Y0f, Y0g, Y0h, Y0i, Y0j, Y0k, Y0l, Y0m, Y0n, Y0o, Y0p, Y0q, Y0r, Y0s, Z3r, Z3s, Z3t, depB, Fd, Fall, Dis, Dis1, Z3u, Z3v, appC, appN, mapC, mapN, List.append_eq, Z3w, Array.toArray_toList, Z3x, Z3y, List.getElem?_cons_zero, List.getElem?_cons_succ, Nat.reduceAdd, Nat.reduceSub, Nat.reduceMul, Nat.reduceEqDiff, Nat.zero_add, Nat.add_zero, Nat.mul_one, Nat.zero_mul, if_true, if_false, eq_self, true_and, and_true, reduceCtorEq, false_and, Addr.add_lit, ne_eq, not_false_eq_true, Array.empty_append, Array.append_empty, ↓Z3z, ↓Z40, ↓Z41, ↓Z42, ↓Z43, ↓Z44, ↓Z45, List.getElem?_toArray, Z46, Int.toNat_natCast, Nat.sub_zero, Int.toNat_sub, Sx.Z47, ite_self, ty_3, ty_22, ty_23, ty_24, ty_54]
    exact Ans.mk (by simp [hn, hn', he]) ((hB.trans (hB5.mono hsz)).trans (h6.mono (Nat.le_trans hsz hB5.size)))
  · exact Ans.mk (by simp [he]) (hB.trans (hB5.mono hsz))
end Go.Proofs.YtdpfafgecchafaaDoor

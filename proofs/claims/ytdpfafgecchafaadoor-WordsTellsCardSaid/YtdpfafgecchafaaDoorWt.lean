/- The owner's book: Letters, Word, Own. -/
import Derived.Test.YtdpfafgecchafaaDoorWs
import Derived.Test.YtdpfafgecchafaaDoorWr
import Derived.Test.YtdpfafgecchafaaDoorWm
set_option linter.unusedVariables false
set_option maxRecDepth 20000
set_option linter.unusedSimpArgs false
namespace Go.Proofs.YtdpfafgecchafaaDoor
open Go Go.RowKit Sx

/-- a book that holds these lists -/
structure Bk (w : World) (base b : Nat) (ls : List (Value × List Int)) : Prop where
  lo : base ≤ b
  ex : ∃ vL, w.heap[b]? = some (.cells #[.slice none 0 0, .slice none 0 0, .slice none 0 0, .slice none 0 0, vL, .slice none 0 0, .slice none 0 0, .slice none 0 0, .slice none 0 0, .slice none 0 0, .slice none 0 0, .slice none 0 0, .slice none 0 0] 44 (0, 0)) ∧
    OwnC w base 22 1 vL ls.length (ls.map (·.1))
  own : ∀ x ∈ ls, OwnU w base x.1 x.2
  apart : ls.Pairwise fun x y => ∀ g, roomOf x.1 = some g → roomOf y.1 ≠ some g

/-- the blocks of a book's own kinds -/
def BkT (w : World) (k : Nat) : Prop := ∃ cs, w.heap[k]? = some (.cells cs 22 (0, 0)) ∨ w.heap[k]? = some (.cells cs 44 (0, 0))
theorem kpTy {w w' : World} (h : Kp (BkT w) w w') {k : Nat} {cs : Array Value} {e : TypeId} (hk : w.heap[k]? = some (.cells cs e (0, 0))) (h1 : e ≠ 22) (h2 : e ≠ 44) : w'.heap[k]? = some (.cells cs e (0, 0)) := by
  refine h.at_ hk ?_
  rintro ⟨cs', h | h⟩ <;> rw [hk] at h <;> simp at h
  · exact h1 h.2
  · exact h2 h.2
theorem OwnC.kp {w w' : World} {base sz n : Nat} {e : TypeId} {v : Value} {ys : List Value} (h : OwnC w base e sz v n ys) (hk : Kp (BkT w) w w') (h1 : e ≠ 22) (h2 : e ≠ 44) : OwnC w' base e sz v n ys := by
  obtain ⟨g1, g2, g3⟩ := h
  refine ⟨g1, g2, ?_⟩
  rcases g3 with h | ⟨g, cap, cur, r1, r2, r3, r4⟩
  · exact .inl h
  · exact .inr ⟨g, cap, cur, r1, r2, kpTy hk r3 h1 h2, r4⟩
theorem kpTyUpd {w w' : World} {g : Nat} {o : Obj} {cs : Array Value} (u : Upd w g o w') (hg : w.heap[g]? = some (.cells cs 22 (0, 0)) ∨ w.heap[g]? = some (.cells cs 44 (0, 0))) : Kp (BkT w) w w' := Kp.upd u ⟨cs, hg⟩

theorem letters_any (w : World) (base b : Nat) (ls : List (Value × List Int)) (v : Value) (l : List Int) (h : Bk w base b ls) (hv : OwnU w base v l) (hd : ∀ x ∈ ls, ∀ g, roomOf x.1 = some g → roomOf v ≠ some g) (hf : ls.length ≤ 1000000) (hbase : base ≤ w.heap.size) :
    CallG C.P 33 #[.pointer (some ⟨b, 0, none⟩), v] w (fun _ w' => Bk w' base b (ls ++ [(v, l)]) ∧ Below base w w' ∧ Kp (BkT w) w w') := by
  obtain ⟨vL, hb, hL⟩ := h.ex
  obtain ⟨p, c, rfl⟩ := hv.out
  obtain ⟨q, d, hvL, hq1, hq2, hq3, _⟩ := hL.rd
  subst hvL
  refine fn_ok (C := C) (args := [_, _]) 12 [] Tryd.func33 rfl rfl rfl rfl ?_
  simp only [Tryd.f33, Z00, Z01, Z02, Z03, Z04, Z05, Z06, Z07, Z08, Z09, ↓Z0a, ↓Z0b, ↓Z0c, ↓Z0d, ↓Z0e, ↓Z0f, ↓Z0g, ↓Z0h, ↓Z0i, ↓Z0j, ↓Z0k, ↓Z0l, ↓Z0m, ↓Z0n, ↓Z0o, ↓Z0p, resL, res1, resK, Z0q, Z0r, Z0s, Z0t, Z0u, Z0v, Z0w, Z0x, Z0y, Z0z, Z10, Z11, Z12, Z13, Z14, ↓Z15, ↓Z16, Z17, Z18, Z19, Z1a, Z1b, Z1c, ↓Z1d, ↓Z1e, Z1f, ↓Z1g, ↓Z1m, ↓Z1n, ↓Z1o, ↓Z1p, ↓Z1v, ↓Z1z, ↓Z20, ↓Z21, Y00, Z2h, ↓Z2i, ↓Z2m, ↓Z2n, ↓Z2u, ↓Z2x, Z2y, Z2z, Z30, Z31, Z32, Z33, ev_t, ev_c, ev_g, ev_f, hv_t, hv_f, hv_n, Z34, Z35, Z36, Y01, Y02, Y03, Y04, Y05, Z3a, Y06, Y07, nth?, Y08, Y09, Y0a, Y0b, Y0c, Y0d, Y0e, putN, Z3i, repL, Y0f, Y0g, Y0h, Y0i, Y0j, Y0k, Y0l, Y0m, Y0n, Y0o, Y0p, Y0q, Y0r, Y0s, Z3r, Z3s, Z3t, depB, Fd, Fall, Dis, Dis1, Z3u, Z3v, appC, appN, mapC, mapN, List.append_eq, Z3w, Array.toArray_toList, Z3x, Z3y, List.getElem?_cons_zero, List.getElem?_cons_succ, Nat.reduceAdd, Nat.reduceSub, Nat.reduceMul, Nat.reduceEqDiff, Nat.zero_add, Nat.add_zero, Nat.mul_one, Nat.zero_mul, if_true, if_false, eq_self, true_and, and_true, reduceCtorEq, false_and, Addr.add_lit, ne_eq, not_false_eq_true, Array.empty_append, Array.append_empty, ↓Z3z, ↓Z40, ↓Z41, ↓Z42, ↓Z43, ↓Z44, ↓Z45, List.getElem?_toArray, Z46, Int.toNat_natCast, Nat.sub_zero, Int.toNat_sub, Sx.Z47, ite_self, ty_22, ty_34, ty_43, ty_44, ty_54]
  simp only [ldSl_blk hb, Z00, Z01, Z02, Z03, Z04, Z05, Z06, Z07, Z08, Z09, ↓Z0a, ↓Z0b, ↓Z0c, ↓Z0d, ↓Z0e, ↓Z0f, ↓Z0g, ↓Z0h, ↓Z0i, ↓Z0j, ↓Z0k, ↓Z0l, ↓Z0m, ↓Z0n, ↓Z0o, ↓Z0p, resL, res1, resK, Z0q, Z0r, Z0s, Z0t, Z0u, Z0v, Z0w, Z0x, Z0y, Z0z, Z10, Z11, Z12, Z13, Z14, ↓Z15, ↓Z16, Z17, Z18, Z19, Z1a, Z1b, Z1c, ↓Z1d, ↓Z1e, Z1f, ↓Z1g, ↓Z1m, ↓Z1n, ↓Z1o, ↓Z1p, ↓Z1v, ↓Z1z, ↓Z20, ↓Z21, Y00, Z2h, ↓Z2i, ↓Z2m, ↓Z2n, ↓Z2u, ↓Z2x, Z2y, Z2z, Z30, Z31, Z32, Z33, ev_t, ev_c, ev_g, ev_f, hv_t, hv_f, hv_n, Z34, Z35, Z36, Y01, Y02, Y03, Y04, Y05, Z3a, Y06, Y07, nth?, Y08, Y09, Y0a, Y0b, Y0c, Y0d, Y0e, putN, Z3i, repL, Y0f, Y0g, Y0h, Y0i, Y0j, Y0k, Y0l, Y0m, Y0n, Y0o, Y0p, Y0q, Y0r, Y0s, Z3r, Z3s, Z3t, depB, Fd, Fall, Dis, Dis1, Z3u, Z3v, appC, appN, mapC, mapN, List.append_eq, Z3w, Array.toArray_toList, Z3x, Z3y, List.getElem?_cons_zero, List.getElem?_cons_succ, Nat.reduceAdd, Nat.reduceSub, Nat.reduceMul, Nat.reduceEqDiff, Nat.zero_add, Nat.add_zero, Nat.mul_one, Nat.zero_mul, if_true, if_false, eq_self, true_and, and_true, reduceCtorEq, false_and, Addr.add_lit, ne_eq, not_false_eq_true, Array.empty_append, Array.append_empty, ↓Z3z, ↓Z40, ↓Z41, ↓Z42, ↓Z43, ↓Z44, ↓Z45, List.getElem?_toArray, Z46, Int.toNat_natCast, Nat.sub_zero, Int.toNat_sub, Sx.Z47, ite_self, ty_22, ty_34, ty_43, ty_44, ty_54]
  refine ⟨⟨by omega, rfl⟩, ⟨rfl, by simp⟩, ?_⟩
  intro b1 wa na
  have hsa := na.ext.size
  have hba := bheap na.ext hb
  have key : ∀ v' wb, (∃ q' d', v' = .slice q' (ls.length + 1) d') → OwnC wb base 22 1 v' (ls.length + 1) (ls.map (·.1) ++ [.slice p l.length c]) → Below base w wb → Kp (BkT w) w wb → wb.heap[b]? = wa.heap[b]? → (∀ x ∈ ls, OwnU wb base x.1 x.2) → OwnU wb base (.slice p l.length c) l → roomOf v' ≠ some b →
      ∀ wc, Upd wb b (.cells #[.slice none 0 0, .slice none 0 0, .slice none 0 0, .slice none 0 0, v', .slice none 0 0, .slice none 0 0, .slice none 0 0, .slice none 0 0, .slice none 0 0, .slice none 0 0, .slice none 0 0, .slice none 0 0] 44 (0, 0)) wc →
      Bk wc base b (ls ++ [(.slice p l.length c, l)]) ∧ Below base w wc ∧ Kp (BkT w) w wc := by
    intro v' wb hv' ho hBb hKb hbb hls hvb hrb wc uc
    have hbw : wb.heap[b]? = some (.cells _ 44 (0, 0)) := hbb.trans hba
    refine ⟨⟨h.lo, ⟨v', uc.at_, ?_⟩, ?_, ?_⟩, hBb.trans (uc.below h.lo), hKb.trans (Kp.upd uc (T := fun k => k = b) rfl) ?_⟩
    · have := OwnC.keep ho (w' := wc) fun g hg => uc.rest g (by rintro rfl; exact hrb hg)
      simpa using this
    · intro x hx
      rcases List.mem_append.1 hx with hx | hx
      · exact (hls x hx).upd_ty hbw (by decide) uc
      · rw [List.mem_singleton] at hx; subst hx; exact OwnC.upd_ty hvb hbw (by decide) uc
    · refine List.pairwise_append.2 ⟨h.apart, List.pairwise_singleton _ _, ?_⟩
      intro x hx y hy
      rw [List.mem_singleton] at hy; subst hy
      exact hd x hx
    · rintro k hk rfl
      exact ⟨_, .inr hb⟩
  have hrb : ∀ {W : World} {v' : Value} {n : Nat} {ys : List Value}, OwnC W base 22 1 v' n ys → W.heap[b]? = wa.heap[b]? → roomOf v' ≠ some b := by
    intro W v' n ys ho hW hr
    rcases ho.2.2 with ⟨p, rfl, _⟩ | ⟨g, cap, cur, rfl, _, hh, _⟩
    · cases p <;> simp [roomOf] at hr
    · simp only [roomOf] at hr
      split at hr
      · cases hr
      · cases hr
        rw [hW, hba] at hh
        simp at hh
  refine app2C E22 (hL.below na.ext) (rdV1 na) (fun y hy => by simp only [List.mem_singleton] at hy; subst hy; rfl) (by simp only [most]; omega) (by omega) (by decide) ?_ ?_
  · intro v' g cur cur' wb hg hbg hhg hs' ht' u' hown' hr'
    have hgb : g ≠ b := by rintro rfl; rw [hba] at hhg; simp at hhg
    have hgw : g < w.heap.size := (OwnC.room hL g hg).2
    have hbb : wb.heap[b]? = wa.heap[b]? := u'.rest b (Ne.symm hgb)
    obtain ⟨q', d', rfl, _⟩ := hown'.rd
    simp only [Z00, Z01, Z02, Z03, Z04, Z05, Z06, Z07, Z08, Z09, ↓Z0a, ↓Z0b, ↓Z0c, ↓Z0d, ↓Z0e, ↓Z0f, ↓Z0g, ↓Z0h, ↓Z0i, ↓Z0j, ↓Z0k, ↓Z0l, ↓Z0m, ↓Z0n, ↓Z0o, ↓Z0p, resL, res1, resK, Z0q, Z0r, Z0s, Z0t, Z0u, Z0v, Z0w, Z0x, Z0y, Z0z, Z10, Z11, Z12, Z13, Z14, ↓Z15, ↓Z16, Z17, Z18, Z19, Z1a, Z1b, Z1c, ↓Z1d, ↓Z1e, Z1f, ↓Z1g, ↓Z1m, ↓Z1n, ↓Z1o, ↓Z1p, ↓Z1v, ↓Z1z, ↓Z20, ↓Z21, Y00, Z2h, ↓Z2i, ↓Z2m, ↓Z2n, ↓Z2u, ↓Z2x, Z2y, Z2z, Z30, Z31, Z32, Z33, ev_t, ev_c, ev_g, ev_f, hv_t, hv_f, hv_n, Z34, Z35, Z36, Y01, Y02, Y03, Y04, Y05, Z3a, Y06, Y07, nth?, Y08, Y09, Y0a, Y0b, Y0c, Y0d, Y0e, putN, Z3i, repL, Y0f, Y0g, Y0h, Y0i, Y0j, Y0k, Y0l, Y0m, Y0n, Y0o, Y0p, Y0q, Y0r, Y0s, Z3r, Z3s, Z3t, depB, Fd, Fall, Dis, Dis1, Z3u, Z3v, appC, appN, mapC, mapN, List.append_eq, Z3w, Array.toArray_toList, Z3x, Z3y, List.getElem?_cons_zero, List.getElem?_cons_succ, Nat.reduceAdd, Nat.reduceSub, Nat.reduceMul, Nat.reduceEqDiff, Nat.zero_add, Nat.add_zero, Nat.mul_one, Nat.zero_mul, if_true, if_false, eq_self, true_and, and_true, reduceCtorEq, false_and, Addr.add_lit, ne_eq, not_false_eq_true, Array.empty_append, Array.append_empty, ↓Z3z, ↓Z40, ↓Z41, ↓Z42, ↓Z43, ↓Z44, ↓Z45, List.getElem?_toArray, Z46, Int.toNat_natCast, Nat.sub_zero, Int.toNat_sub, Sx.Z47, ite_self, ty_22, ty_34, ty_43, ty_44, ty_54]
    refine ⟨rfl, StA.of (hbb.trans hba) (by simp) (by simp [Value.oneCell']) ?_⟩
    intro wc uc
    refine key _ wb ⟨_, _, rfl⟩ hown' ((na.ext.mono hbase).trans (u'.below hbg)) ((Kp.new na).trans (Kp.upd u' (T := fun k => k = g) rfl) ?_) hbb (fun x hx => (OwnU.below (h.own x hx) na.ext).upd_ty hhg (by decide) u') ((OwnU.below hv na.ext).upd_ty hhg (by decide) u') (hrb hown' hbb) wc uc
    rintro k hk rfl
    refine ⟨cur, .inl ?_⟩
    rw [← na.ext.block k hgw]; exact hhg
  · intro v' wb hown' hb'
    have hbb : wb.heap[b]? = wa.heap[b]? := hb'.block b (by have := (Array.getElem?_eq_some_iff.1 hba).1; omega)
    have hall := na.ext.trans (hb'.mono hsa)
    obtain ⟨q', d', rfl, _⟩ := hown'.rd
    simp only [Z00, Z01, Z02, Z03, Z04, Z05, Z06, Z07, Z08, Z09, ↓Z0a, ↓Z0b, ↓Z0c, ↓Z0d, ↓Z0e, ↓Z0f, ↓Z0g, ↓Z0h, ↓Z0i, ↓Z0j, ↓Z0k, ↓Z0l, ↓Z0m, ↓Z0n, ↓Z0o, ↓Z0p, resL, res1, resK, Z0q, Z0r, Z0s, Z0t, Z0u, Z0v, Z0w, Z0x, Z0y, Z0z, Z10, Z11, Z12, Z13, Z14, ↓Z15, ↓Z16, Z17, Z18, Z19, Z1a, Z1b, Z1c, ↓Z1d, ↓Z1e, Z1f, ↓Z1g, ↓Z1m, ↓Z1n, ↓Z1o, ↓Z1p, ↓Z1v, ↓Z1z, ↓Z20, ↓Z21, Y00, Z2h, ↓Z2i, ↓Z2m, ↓Z2n, ↓Z2u, ↓Z2x, Z2y, Z2z, Z30, Z31, Z32, Z33, ev_t, ev_c, ev_g, ev_f, hv_t, hv_f, hv_n, Z34, Z35, Z36, Y01, Y02, Y03, Y04, Y05, Z3a, Y06, Y07, nth?, Y08, Y09, Y0a, Y0b, Y0c, Y0d, Y0e, putN, Z3i, repL, Y0f, Y0g, Y0h, Y0i, Y0j, Y0k, Y0l, Y0m, Y0n, Y0o, Y0p, Y0q, Y0r, Y0s, Z3r, Z3s, Z3t, depB, Fd, Fall, Dis, Dis1, Z3u, Z3v, appC, appN, mapC, mapN, List.append_eq, Z3w, Array.toArray_toList, Z3x, Z3y, List.getElem?_cons_zero, List.getElem?_cons_succ, Nat.reduceAdd, Nat.reduceSub, Nat.reduceMul, Nat.reduceEqDiff, Nat.zero_add, Nat.add_zero, Nat.mul_one, Nat.zero_mul, if_true, if_false, eq_self, true_and, and_true, reduceCtorEq, false_and, Addr.add_lit, ne_eq, not_false_eq_true, Array.empty_append, Array.append_empty, ↓Z3z, ↓Z40, ↓Z41, ↓Z42, ↓Z43, ↓Z44, ↓Z45, List.getElem?_toArray, Z46, Int.toNat_natCast, Nat.sub_zero, Int.toNat_sub, Sx.Z47, ite_self, ty_22, ty_34, ty_43, ty_44, ty_54]
    refine ⟨rfl, StA.of (hbb.trans hba) (by simp) (by simp [Value.oneCell']) ?_⟩
    intro wc uc
    exact key _ wb ⟨_, _, rfl⟩ (hown'.mono (by omega)) (hall.mono hbase) (Kp.below hall) hbb (fun x hx => OwnU.below (h.own x hx) hall) (OwnU.below hv hall) (hrb (hown'.mono (Nat.le_trans hbase hsa)) hbb) wc uc

theorem word_any (w : World) (base b : Nat) (ls : List (Value × List Int)) (v : Value) (s l : List Int) (h : Bk w base b ls) (hv : OwnW w base v s l) (hd : ∀ x ∈ ls, ∀ g, roomOf x.1 = some g → ¬ roomW v g) (hf : ls.length < 1000000) (hbase : base ≤ w.heap.size) :
    CallG C.P 32 #[.pointer (some ⟨b, 0, none⟩), v] w (fun _ w' => ∃ x y, v = .agg #[x, y] ∧ Bk w' base b (ls ++ [(x, s)] ++ [(y, l)]) ∧ Below base w w' ∧ Kp (BkT w) w w') := by
  obtain ⟨x, y, rfl, hx, hy, hxy⟩ := hv
  obtain ⟨p, c, rfl⟩ := hx.out
  obtain ⟨q, d, rfl⟩ := hy.out
  refine fn_ok (C := C) (args := [_, _]) 10 [] Tryd.func32 rfl rfl rfl rfl ?_
  simp only [Tryd.f32, Z00, Z01, Z02, Z03, Z04, Z05, Z06, Z07, Z08, Z09, ↓Z0a, ↓Z0b, ↓Z0c, ↓Z0d, ↓Z0e, ↓Z0f, ↓Z0g, ↓Z0h, ↓Z0i, ↓Z0j, ↓Z0k, ↓Z0l, ↓Z0m, ↓Z0n, ↓Z0o, ↓Z0p, resL, res1, resK, Z0q, Z0r, Z0s, Z0t, Z0u, Z0v, Z0w, Z0x, Z0y, Z0z, Z10, Z11, Z12, Z13, Z14, ↓Z15, ↓Z16, Z17, Z18, Z19, Z1a, Z1b, Z1c, ↓Z1d, ↓Z1e, Z1f, ↓Z1g, ↓Z1k, ↓Z1n, ↓Z1v, ↓Z1z, ↓Z20, ↓Z21, Y00, Z2h, ↓Z2i, ↓Z2m, ↓Z2u, ↓Z2x, Z2y, Z2z, Z30, Z31, Z32, Z33, ev_t, ev_c, ev_g, ev_f, hv_t, hv_f, hv_n, Z34, Z35, Z36, Y01, Y02, Y03, Y04, Y05, Z3a, Y06, Y07, nth?, Y08, Y09, Y0a, Y0b, Y0c, Y0d, Y0e, putN, Z3i, repL, Y0f, Y0g, Y0h, Y0i, Y0j, Y0k, Y0l, Y0m, Y0n, Y0o, Y0p, Y0q, Y0r, Y0s, Z3r, Z3s, Z3t, depB, Fd, Fall, Dis, Dis1, Z3u, Z3v, appC, appN, mapC, mapN, List.append_eq, Z3w, Array.toArray_toList, Z3x, Z3y, List.getElem?_cons_zero, List.getElem?_cons_succ, Nat.reduceAdd, Nat.reduceSub, Nat.reduceMul, Nat.reduceEqDiff, Nat.zero_add, Nat.add_zero, Nat.mul_one, Nat.zero_mul, if_true, if_false, eq_self, true_and, and_true, reduceCtorEq, false_and, Addr.add_lit, ne_eq, not_false_eq_true, Array.empty_append, Array.append_empty, ↓Z3z, ↓Z40, ↓Z41, ↓Z42, ↓Z43, ↓Z44, ↓Z45, List.getElem?_toArray, Z46, Int.toNat_natCast, Nat.sub_zero, Int.toNat_sub, Sx.Z47, ite_self, ty_22, ty_23, ty_24, ty_29, ty_43, ty_44, ty_54]
  intro b1 wa na
  have hsa := na.ext.size
  simp only [ldSl_blk na.at_, Z00, Z01, Z02, Z03, Z04, Z05, Z06, Z07, Z08, Z09, ↓Z0a, ↓Z0b, ↓Z0c, ↓Z0d, ↓Z0e, ↓Z0f, ↓Z0g, ↓Z0h, ↓Z0i, ↓Z0j, ↓Z0k, ↓Z0l, ↓Z0m, ↓Z0n, ↓Z0o, ↓Z0p, resL, res1, resK, Z0q, Z0r, Z0s, Z0t, Z0u, Z0v, Z0w, Z0x, Z0y, Z0z, Z10, Z11, Z12, Z13, Z14, ↓Z15, ↓Z16, Z17, Z18, Z19, Z1a, Z1b, Z1c, ↓Z1d, ↓Z1e, Z1f, ↓Z1g, ↓Z1k, ↓Z1n, ↓Z1v, ↓Z1z, ↓Z20, ↓Z21, Y00, Z2h, ↓Z2i, ↓Z2m, ↓Z2u, ↓Z2x, Z2y, Z2z, Z30, Z31, Z32, Z33, ev_t, ev_c, ev_g, ev_f, hv_t, hv_f, hv_n, Z34, Z35, Z36, Y01, Y02, Y03, Y04, Y05, Z3a, Y06, Y07, nth?, Y08, Y09, Y0a, Y0b, Y0c, Y0d, Y0e, putN, Z3i, repL, Y0f, Y0g, Y0h, Y0i, Y0j, Y0k, Y0l, Y0m, Y0n, Y0o, Y0p, Y0q, Y0r, Y0s, Z3r, Z3s, Z3t, depB, Fd, Fall, Dis, Dis1, Z3u, Z3v, appC, appN, mapC, mapN, List.append_eq, Z3w, Array.toArray_toList, Z3x, Z3y, List.getElem?_cons_zero, List.getElem?_cons_succ, Nat.reduceAdd, Nat.reduceSub, Nat.reduceMul, Nat.reduceEqDiff, Nat.zero_add, Nat.add_zero, Nat.mul_one, Nat.zero_mul, if_true, if_false, eq_self, true_and, and_true, reduceCtorEq, false_and, Addr.add_lit, ne_eq, not_false_eq_true, Array.empty_append, Array.append_empty, ↓Z3z, ↓Z40, ↓Z41, ↓Z42, ↓Z43, ↓Z44, ↓Z45, List.getElem?_toArray, Z46, Int.toNat_natCast, Nat.sub_zero, Int.toNat_sub, Sx.Z47, ite_self, ty_22, ty_23, ty_24, ty_29, ty_43, ty_44, ty_54]
  have hBa : Bk wa base b ls := by
    obtain ⟨vL, hb, hL⟩ := h.ex
    exact ⟨h.lo, ⟨vL, bheap na.ext hb, hL.below na.ext⟩, fun x hx => OwnU.below (h.own x hx) na.ext, h.apart⟩
  refine (letters_any wa base b ls _ s hBa (hx.below na.ext) (fun x hx g hg hg' => hd x hx g hg ⟨_, _, rfl, .inl hg'⟩) (by omega) (by omega)).mono ?_
  rintro v1 w1 ⟨hB1, hb1, hk1⟩
  have hbx := kpTy hk1 na.at_ (by decide) (by decide)
  simp only [ldSl_blk hbx, Z00, Z01, Z02, Z03, Z04, Z05, Z06, Z07, Z08, Z09, ↓Z0a, ↓Z0b, ↓Z0c, ↓Z0d, ↓Z0e, ↓Z0f, ↓Z0g, ↓Z0h, ↓Z0i, ↓Z0j, ↓Z0k, ↓Z0l, ↓Z0m, ↓Z0n, ↓Z0o, ↓Z0p, resL, res1, resK, Z0q, Z0r, Z0s, Z0t, Z0u, Z0v, Z0w, Z0x, Z0y, Z0z, Z10, Z11, Z12, Z13, Z14, ↓Z15, ↓Z16, Z17, Z18, Z19, Z1a, Z1b, Z1c, ↓Z1d, ↓Z1e, Z1f, ↓Z1g, ↓Z1k, ↓Z1n, ↓Z1v, ↓Z1z, ↓Z20, ↓Z21, Y00, Z2h, ↓Z2i, ↓Z2m, ↓Z2u, ↓Z2x, Z2y, Z2z, Z30, Z31, Z32, Z33, ev_t, ev_c, ev_g, ev_f, hv_t, hv_f, hv_n, Z34, Z35, Z36, Y01, Y02, Y03, Y04, Y05, Z3a, Y06, Y07, nth?, Y08, Y09, Y0a, Y0b, Y0c, Y0d, Y0e, putN, Z3i, repL, Y0f, Y0g, Y0h, Y0i, Y0j, Y0k, Y0l, Y0m, Y0n, Y0o, Y0p, Y0q, Y0r, Y0s, Z3r, Z3s, Z3t, depB, Fd, Fall, Dis, Dis1, Z3u, Z3v, appC, appN, mapC, mapN, List.append_eq, Z3w, Array.toArray_toList, Z3x, Z3y, List.getElem?_cons_zero, List.getElem?_cons_succ, Nat.reduceAdd, Nat.reduceSub, Nat.reduceMul, Nat.reduceEqDiff, Nat.zero_add, Nat.add_zero, Nat.mul_one, Nat.zero_mul, if_true, if_false, eq_self, true_and, and_true, reduceCtorEq, false_and, Addr.add_lit, ne_eq, not_false_eq_true, Array.empty_append, Array.append_empty, ↓Z3z, ↓Z40, ↓Z41, ↓Z42, ↓Z43, ↓Z44, ↓Z45, List.getElem?_toArray, Z46, Int.toNat_natCast, Nat.sub_zero, Int.toNat_sub, Sx.Z47, ite_self, ty_22, ty_23, ty_24, ty_29, ty_43, ty_44, ty_54]
  refine (letters_any w1 base b _ _ l hB1 (OwnC.kp (hy.below na.ext) hk1 (by decide) (by decide)) ?_ (by simp; omega) (Nat.le_trans hbase (Nat.le_trans hsa hb1.size))).mono ?_
  · intro x hx g hg hg'
    rcases List.mem_append.1 hx with hx | hx
    · exact hd x hx g hg ⟨_, _, rfl, .inr hg'⟩
    · rw [List.mem_singleton] at hx; subst hx
      exact hxy g hg hg'
  rintro v2 w2 ⟨hB2, hb2, hk2⟩
  refine ⟨_, _, rfl, hB2, (na.ext.mono hbase).trans (hb1.trans hb2), ((Kp.new na).trans hk1 ?_).trans hk2 ?_⟩
  · rintro k hk ⟨cs, h⟩
    rw [na.ext.block k hk] at h; exact ⟨cs, h⟩
  · rintro k hk ⟨cs, h⟩
    have hka : k < wa.heap.size := by omega
    by_cases hT : BkT wa k
    · obtain ⟨cs', h'⟩ := hT
      rw [na.ext.block k hk] at h'; exact ⟨cs', h'⟩
    · rw [hk1.block k hka hT, na.ext.block k hk] at h
      exact ⟨cs, h⟩

theorem own_any (w : World) (base b : Nat) (ls : List (Value × List Int)) (h : Bk w base b ls) (hbase : base ≤ w.heap.size) (hf : ls.length ≤ 1000000) (hn : ∀ x ∈ ls, x.2.length ≤ 70000000000000) :
    CallG C.P 38 #[.pointer (some ⟨b, 0, none⟩)] w (fun v w' => v = .bool true ∧ Below base w w') := by
  obtain ⟨vL, hb, hL⟩ := h.ex
  obtain ⟨q, d, hvL, hq1, hq2, hq3, _⟩ := hL.rd
  subst hvL
  have lets : ∀ W, Below w.heap.size w W → CallG C.P 61 #[.slice q ls.length d] W (fun v w' => v = .bool true ∧ Bel base W w') := by
    intro W hW
    have hml : (ls.map (·.1)).length = ls.length := by simp
    have hg : ∀ j, j < ls.length → ∃ x ∈ ls, ls[j]? = some x ∧ (ls.map (·.1)).getD j (.slice none 0 0) = x.1 := by
      intro j hj
      exact ⟨ls[j], List.getElem_mem hj, by simp [hj], by simp [List.getD, hj]⟩
    refine ownLetters_any W base _ (ls.map (·.1)) (fun j => ((ls[j]?).map (·.2)).getD []) (by rw [hml]; exact hL.below hW) (Nat.le_trans hbase hW.size) ?_ ?_ (by omega) ?_
    · intro j hj
      rw [hml] at hj
      obtain ⟨x, hx, hj1, hj2⟩ := hg j hj
      rw [hj2, hj1]
      exact OwnU.below (h.own x hx) hW
    · intro j k hj hk hjk g h1 h2
      rw [hml] at hj hk
      obtain ⟨x, hx, hj1, hj2⟩ := hg j hj
      obtain ⟨y, hy, hk1, hk2⟩ := hg k hk
      rw [hj2] at h1
      rw [hk2] at h2
      have hj' : ls[j] = x := by simpa [hj] using hj1
      have hk' : ls[k] = y := by simpa [hk] using hk1
      rcases Nat.lt_or_gt_of_ne hjk with hlt | hlt
      · have := List.pairwise_iff_getElem.1 h.apart j k hj hk hlt g
        rw [hj', hk'] at this
        exact this h1 h2
      · have := List.pairwise_iff_getElem.1 h.apart k j hk hj hlt g
        rw [hj', hk'] at this
        exact this h2 h1
    · intro j hj
      rw [hml] at hj
      obtain ⟨x, hx, hj1, hj2⟩ := hg j hj
      rw [hj1]
      exact hn x hx
  refine fn_ok (C := C) (args := [_]) 91 [.tmp 2] Tryd.func38 rfl rfl rfl rfl ?_
  simp only [Tryd.f38, Z00, Z01, Z02, Z03, Z04, Z05, Z06, Z07, Z08, Z09, ↓Z0a, ↓Z0b, ↓Z0c, ↓Z0d, ↓Z0e, ↓Z0f, ↓Z0g, ↓Z0h, ↓Z0i, ↓Z0j, ↓Z0k, ↓Z0l, ↓Z0m, ↓Z0n, ↓Z0o, ↓Z0p, resL, res1, resK, Z0q, Z0r, Z0s, Z0t, Z0u, Z0v, Z0w, Z0x, Z0y, Z0z, Z10, Z11, Z12, Z13, Z14, ↓Z15, ↓Z16, Z17, Z18, Z19, Z1a, Z1b, Z1c, ↓Z1d, ↓Z1e, Z1f, ↓Z1g, ↓Z1h, ↓Z1i, ↓Z1n, ↓Z1p, ↓Z1v, ↓Z1z, ↓Z20, ↓Z21, Y00, Z2h, ↓Z2i, ↓Z2j, ↓Z2k, ↓Z2m, ↓Z2n, ↓Z2u, ↓Z2x, Z2y, Z2z, Z30, Z31, Z32, Z33, ev_t, ev_c, ev_g, ev_f, hv_t, hv_f, hv_n, Z34, Z35, Z36, Y01, Y02, Y03, Y04, Y05, Z3a, Y06, Y07, nth?, Y08, Y09, Y0a, Y0b, Y0c, Y0d, Y0e, putN, Z3i, repL, Y0f, Y0g, Y0h, Y0i, Y0j, Y0k, Y0l, Y0m, Y0n, Y0o, Y0p, Y0q, Y0r, Y0s, Z3r, Z3s, Z3t, depB, Fd, Fall, Dis, Dis1, Z3u, Z3v, appC, appN, mapC, mapN, List.append_eq, Z3w, Array.toArray_toList, Z3x, Z3y, List.getElem?_cons_zero, List.getElem?_cons_succ, Nat.reduceAdd, Nat.reduceSub, Nat.reduceMul, Nat.reduceEqDiff, Nat.zero_add, Nat.add_zero, Nat.mul_one, Nat.zero_mul, if_true, if_false, eq_self, true_and, and_true, reduceCtorEq, false_and, Addr.add_lit, ne_eq, not_false_eq_true, Array.empty_append, Array.append_empty, ↓Z3z, ↓Z40, ↓Z41, ↓Z42, ↓Z43, ↓Z44, ↓Z45, List.getElem?_toArray, Z46, Int.toNat_natCast, Nat.sub_zero, Int.toNat_sub, Sx.Z47, ite_self, ty_3, ty_4, ty_5, ty_9, ty_22, ty_23, ty_24, ty_30, ty_31, ty_32, ty_33, ty_34, ty_35, ty_36, ty_37, ty_38, ty_39, ty_40, ty_41, ty_42, ty_43, ty_44, ty_54, ty_61, ty_78, ty_111, ty_113, ty_114, ty_115, ty_116, ty_117, ty_118, ty_120, ty_121, ty_122, ty_123, ty_124, ty_125, ty_126, ty_127, ty_128, ty_129, ty_131, ty_133, ty_134]
  simp only [List.append_eq, List.cons_append, List.nil_append]
  simp only [ldSl_blk hb, Z00, Z01, Z02, Z03, Z04, Z05, Z06, Z07, Z08, Z09, ↓Z0a, ↓Z0b, ↓Z0c, ↓Z0d, ↓Z0e, ↓Z0f, ↓Z0g, ↓Z0h, ↓Z0i, ↓Z0j, ↓Z0k, ↓Z0l, ↓Z0m, ↓Z0n, ↓Z0o, ↓Z0p, resL, res1, resK, Z0q, Z0r, Z0s, Z0t, Z0u, Z0v, Z0w, Z0x, Z0y, Z0z, Z10, Z11, Z12, Z13, Z14, ↓Z15, ↓Z16, Z17, Z18, Z19, Z1a, Z1b, Z1c, ↓Z1d, ↓Z1e, Z1f, ↓Z1g, ↓Z1h, ↓Z1i, ↓Z1n, ↓Z1p, ↓Z1v, ↓Z1z, ↓Z20, ↓Z21, Y00, Z2h, ↓Z2i, ↓Z2j, ↓Z2k, ↓Z2m, ↓Z2n, ↓Z2u, ↓Z2x, Z2y, Z2z, Z30, Z31, Z32, Z33, ev_t, ev_c, ev_g, ev_f, hv_t, hv_f, hv_n, Z34, Z35, Z36, Y01, Y02, Y03, Y04, Y05, Z3a, Y06, Y07, nth?, Y08, Y09, Y0a, Y0b, Y0c, Y0d, Y0e, putN, Z3i, repL, Y0f, Y0g, Y0h, Y0i, Y0j, Y0k, Y0l, Y0m, Y0n, Y0o, Y0p, Y0q, Y0r, Y0s, Z3r, Z3s, Z3t, depB, Fd, Fall, Dis, Dis1, Z3u, Z3v, appC, appN, mapC, mapN, List.append_eq, Z3w, Array.toArray_toList, Z3x, Z3y, List.getElem?_cons_zero, List.getElem?_cons_succ, Nat.reduceAdd, Nat.reduceSub, Nat.reduceMul, Nat.reduceEqDiff, Nat.zero_add, Nat.add_zero, Nat.mul_one, Nat.zero_mul, if_true, if_false, eq_self, true_and, and_true, reduceCtorEq, false_and, Addr.add_lit, ne_eq, not_false_eq_true, Array.empty_append, Array.append_empty, ↓Z3z, ↓Z40, ↓Z41, ↓Z42, ↓Z43, ↓Z44, ↓Z45, List.getElem?_toArray, Z46, Int.toNat_natCast, Nat.sub_zero, Int.toNat_sub, Sx.Z47, ite_self, ty_3, ty_4, ty_5, ty_9, ty_22, ty_23, ty_24, ty_30, ty_31, ty_32, ty_33, ty_34, ty_35, ty_36, ty_37, ty_38, ty_39, ty_40, ty_41, ty_42, ty_43, ty_44, ty_54, ty_61, ty_78, ty_111, ty_113, ty_114, ty_115, ty_116, ty_117, ty_118, ty_120, ty_121, ty_122, ty_123, ty_124, ty_125, ty_126, ty_127, ty_128, ty_129, ty_131, ty_133, ty_134]
  have hb0 := hb
  refine (ownBytes_nil w).mono ?_
  rintro v w1 ⟨rfl, g1⟩
  replace hb := bheap g1 hb
  have hAll := g1
  simp only [ldSl_blk hb, Z00, Z01, Z02, Z03, Z04, Z05, Z06, Z07, Z08, Z09, ↓Z0a, ↓Z0b, ↓Z0c, ↓Z0d, ↓Z0e, ↓Z0f, ↓Z0g, ↓Z0h, ↓Z0i, ↓Z0j, ↓Z0k, ↓Z0l, ↓Z0m, ↓Z0n, ↓Z0o, ↓Z0p, resL, res1, resK, Z0q, Z0r, Z0s, Z0t, Z0u, Z0v, Z0w, Z0x, Z0y, Z0z, Z10, Z11, Z12, Z13, Z14, ↓Z15, ↓Z16, Z17, Z18, Z19, Z1a, Z1b, Z1c, ↓Z1d, ↓Z1e, Z1f, ↓Z1g, ↓Z1h, ↓Z1i, ↓Z1n, ↓Z1p, ↓Z1v, ↓Z1z, ↓Z20, ↓Z21, Y00, Z2h, ↓Z2i, ↓Z2j, ↓Z2k, ↓Z2m, ↓Z2n, ↓Z2u, ↓Z2x, Z2y, Z2z, Z30, Z31, Z32, Z33, ev_t, ev_c, ev_g, ev_f, hv_t, hv_f, hv_n, Z34, Z35, Z36, Y01, Y02, Y03, Y04, Y05, Z3a, Y06, Y07, nth?, Y08, Y09, Y0a, Y0b, Y0c, Y0d, Y0e, putN, Z3i, repL, Y0f, Y0g, Y0h, Y0i, Y0j, Y0k, Y0l, Y0m, Y0n, Y0o, Y0p, Y0q, Y0r, Y0s, Z3r, Z3s, Z3t, depB, Fd, Fall, Dis, Dis1, Z3u, Z3v, appC, appN, mapC, mapN, List.append_eq, Z3w, Array.toArray_toList, Z3x, Z3y, List.getElem?_cons_zero, List.getElem?_cons_succ, Nat.reduceAdd, Nat.reduceSub, Nat.reduceMul, Nat.reduceEqDiff, Nat.zero_add, Nat.add_zero, Nat.mul_one, Nat.zero_mul, if_true, if_false, eq_self, true_and, and_true, reduceCtorEq, false_and, Addr.add_lit, ne_eq, not_false_eq_true, Array.empty_append, Array.append_empty, ↓Z3z, ↓Z40, ↓Z41, ↓Z42, ↓Z43, ↓Z44, ↓Z45, List.getElem?_toArray, Z46, Int.toNat_natCast, Nat.sub_zero, Int.toNat_sub, Sx.Z47, ite_self, ty_3, ty_4, ty_5, ty_9, ty_22, ty_23, ty_24, ty_30, ty_31, ty_32, ty_33, ty_34, ty_35, ty_36, ty_37, ty_38, ty_39, ty_40, ty_41, ty_42, ty_43, ty_44, ty_54, ty_61, ty_78, ty_111, ty_113, ty_114, ty_115, ty_116, ty_117, ty_118, ty_120, ty_121, ty_122, ty_123, ty_124, ty_125, ty_126, ty_127, ty_128, ty_129, ty_131, ty_133, ty_134]
  refine (ownTexts_nil w1).mono ?_
  rintro v w2 ⟨rfl, g2⟩
  replace hb := bheap g2 hb
  replace hAll := hAll.trans (g2.mono hAll.size)
  simp only [ldSl_blk hb, Z00, Z01, Z02, Z03, Z04, Z05, Z06, Z07, Z08, Z09, ↓Z0a, ↓Z0b, ↓Z0c, ↓Z0d, ↓Z0e, ↓Z0f, ↓Z0g, ↓Z0h, ↓Z0i, ↓Z0j, ↓Z0k, ↓Z0l, ↓Z0m, ↓Z0n, ↓Z0o, ↓Z0p, resL, res1, resK, Z0q, Z0r, Z0s, Z0t, Z0u, Z0v, Z0w, Z0x, Z0y, Z0z, Z10, Z11, Z12, Z13, Z14, ↓Z15, ↓Z16, Z17, Z18, Z19, Z1a, Z1b, Z1c, ↓Z1d, ↓Z1e, Z1f, ↓Z1g, ↓Z1h, ↓Z1i, ↓Z1n, ↓Z1p, ↓Z1v, ↓Z1z, ↓Z20, ↓Z21, Y00, Z2h, ↓Z2i, ↓Z2j, ↓Z2k, ↓Z2m, ↓Z2n, ↓Z2u, ↓Z2x, Z2y, Z2z, Z30, Z31, Z32, Z33, ev_t, ev_c, ev_g, ev_f, hv_t, hv_f, hv_n, Z34, Z35, Z36, Y01, Y02, Y03, Y04, Y05, Z3a, Y06, Y07, nth?, Y08, Y09, Y0a, Y0b, Y0c, Y0d, Y0e, putN, Z3i, repL, Y0f, Y0g, Y0h, Y0i, Y0j, Y0k, Y0l, Y0m, Y0n, Y0o, Y0p, Y0q, Y0r, Y0s, Z3r, Z3s, Z3t, depB, Fd, Fall, Dis, Dis1, Z3u, Z3v, appC, appN, mapC, mapN, List.append_eq, Z3w, Array.toArray_toList, Z3x, Z3y, List.getElem?_cons_zero, List.getElem?_cons_succ, Nat.reduceAdd, Nat.reduceSub, Nat.reduceMul, Nat.reduceEqDiff, Nat.zero_add, Nat.add_zero, Nat.mul_one, Nat.zero_mul, if_true, if_false, eq_self, true_and, and_true, reduceCtorEq, false_and, Addr.add_lit, ne_eq, not_false_eq_true, Array.empty_append, Array.append_empty, ↓Z3z, ↓Z40, ↓Z41, ↓Z42, ↓Z43, ↓Z44, ↓Z45, List.getElem?_toArray, Z46, Int.toNat_natCast, Nat.sub_zero, Int.toNat_sub, Sx.Z47, ite_self, ty_3, ty_4, ty_5, ty_9, ty_22, ty_23, ty_24, ty_30, ty_31, ty_32, ty_33, ty_34, ty_35, ty_36, ty_37, ty_38, ty_39, ty_40, ty_41, ty_42, ty_43, ty_44, ty_54, ty_61, ty_78, ty_111, ty_113, ty_114, ty_115, ty_116, ty_117, ty_118, ty_120, ty_121, ty_122, ty_123, ty_124, ty_125, ty_126, ty_127, ty_128, ty_129, ty_131, ty_133, ty_134]
  refine (ownInts_nil w2).mono ?_
  rintro v w3 ⟨rfl, g3⟩
  replace hb := bheap g3 hb
  replace hAll := hAll.trans (g3.mono hAll.size)
  simp only [ldSl_blk hb, Z00, Z01, Z02, Z03, Z04, Z05, Z06, Z07, Z08, Z09, ↓Z0a, ↓Z0b, ↓Z0c, ↓Z0d, ↓Z0e, ↓Z0f, ↓Z0g, ↓Z0h, ↓Z0i, ↓Z0j, ↓Z0k, ↓Z0l, ↓Z0m, ↓Z0n, ↓Z0o, ↓Z0p, resL, res1, resK, Z0q, Z0r, Z0s, Z0t, Z0u, Z0v, Z0w, Z0x, Z0y, Z0z, Z10, Z11, Z12, Z13, Z14, ↓Z15, ↓Z16, Z17, Z18, Z19, Z1a, Z1b, Z1c, ↓Z1d, ↓Z1e, Z1f, ↓Z1g, ↓Z1h, ↓Z1i, ↓Z1n, ↓Z1p, ↓Z1v, ↓Z1z, ↓Z20, ↓Z21, Y00, Z2h, ↓Z2i, ↓Z2j, ↓Z2k, ↓Z2m, ↓Z2n, ↓Z2u, ↓Z2x, Z2y, Z2z, Z30, Z31, Z32, Z33, ev_t, ev_c, ev_g, ev_f, hv_t, hv_f, hv_n, Z34, Z35, Z36, Y01, Y02, Y03, Y04, Y05, Z3a, Y06, Y07, nth?, Y08, Y09, Y0a, Y0b, Y0c, Y0d, Y0e, putN, Z3i, repL, Y0f, Y0g, Y0h, Y0i, Y0j, Y0k, Y0l, Y0m, Y0n, Y0o, Y0p, Y0q, Y0r, Y0s, Z3r, Z3s, Z3t, depB, Fd, Fall, Dis, Dis1, Z3u, Z3v, appC, appN, mapC, mapN, List.append_eq, Z3w, Array.toArray_toList, Z3x, Z3y, List.getElem?_cons_zero, List.getElem?_cons_succ, Nat.reduceAdd, Nat.reduceSub, Nat.reduceMul, Nat.reduceEqDiff, Nat.zero_add, Nat.add_zero, Nat.mul_one, Nat.zero_mul, if_true, if_false, eq_self, true_and, and_true, reduceCtorEq, false_and, Addr.add_lit, ne_eq, not_false_eq_true, Array.empty_append, Array.append_empty, ↓Z3z, ↓Z40, ↓Z41, ↓Z42, ↓Z43, ↓Z44, ↓Z45, List.getElem?_toArray, Z46, Int.toNat_natCast, Nat.sub_zero, Int.toNat_sub, Sx.Z47, ite_self, ty_3, ty_4, ty_5, ty_9, ty_22, ty_23, ty_24, ty_30, ty_31, ty_32, ty_33, ty_34, ty_35, ty_36, ty_37, ty_38, ty_39, ty_40, ty_41, ty_42, ty_43, ty_44, ty_54, ty_61, ty_78, ty_111, ty_113, ty_114, ty_115, ty_116, ty_117, ty_118, ty_120, ty_121, ty_122, ty_123, ty_124, ty_125, ty_126, ty_127, ty_128, ty_129, ty_131, ty_133, ty_134]
  refine (ownBools_nil w3).mono ?_
  rintro v w4 ⟨rfl, g4⟩
  replace hb := bheap g4 hb
  replace hAll := hAll.trans (g4.mono hAll.size)
  simp only [ldSl_blk hb, Z00, Z01, Z02, Z03, Z04, Z05, Z06, Z07, Z08, Z09, ↓Z0a, ↓Z0b, ↓Z0c, ↓Z0d, ↓Z0e, ↓Z0f, ↓Z0g, ↓Z0h, ↓Z0i, ↓Z0j, ↓Z0k, ↓Z0l, ↓Z0m, ↓Z0n, ↓Z0o, ↓Z0p, resL, res1, resK, Z0q, Z0r, Z0s, Z0t, Z0u, Z0v, Z0w, Z0x, Z0y, Z0z, Z10, Z11, Z12, Z13, Z14, ↓Z15, ↓Z16, Z17, Z18, Z19, Z1a, Z1b, Z1c, ↓Z1d, ↓Z1e, Z1f, ↓Z1g, ↓Z1h, ↓Z1i, ↓Z1n, ↓Z1p, ↓Z1v, ↓Z1z, ↓Z20, ↓Z21, Y00, Z2h, ↓Z2i, ↓Z2j, ↓Z2k, ↓Z2m, ↓Z2n, ↓Z2u, ↓Z2x, Z2y, Z2z, Z30, Z31, Z32, Z33, ev_t, ev_c, ev_g, ev_f, hv_t, hv_f, hv_n, Z34, Z35, Z36, Y01, Y02, Y03, Y04, Y05, Z3a, Y06, Y07, nth?, Y08, Y09, Y0a, Y0b, Y0c, Y0d, Y0e, putN, Z3i, repL, Y0f, Y0g, Y0h, Y0i, Y0j, Y0k, Y0l, Y0m, Y0n, Y0o, Y0p, Y0q, Y0r, Y0s, Z3r, Z3s, Z3t, depB, Fd, Fall, Dis, Dis1, Z3u, Z3v, appC, appN, mapC, mapN, List.append_eq, Z3w, Array.toArray_toList, Z3x, Z3y, List.getElem?_cons_zero, List.getElem?_cons_succ, Nat.reduceAdd, Nat.reduceSub, Nat.reduceMul, Nat.reduceEqDiff, Nat.zero_add, Nat.add_zero, Nat.mul_one, Nat.zero_mul, if_true, if_false, eq_self, true_and, and_true, reduceCtorEq, false_and, Addr.add_lit, ne_eq, not_false_eq_true, Array.empty_append, Array.append_empty, ↓Z3z, ↓Z40, ↓Z41, ↓Z42, ↓Z43, ↓Z44, ↓Z45, List.getElem?_toArray, Z46, Int.toNat_natCast, Nat.sub_zero, Int.toNat_sub, Sx.Z47, ite_self, ty_3, ty_4, ty_5, ty_9, ty_22, ty_23, ty_24, ty_30, ty_31, ty_32, ty_33, ty_34, ty_35, ty_36, ty_37, ty_38, ty_39, ty_40, ty_41, ty_42, ty_43, ty_44, ty_54, ty_61, ty_78, ty_111, ty_113, ty_114, ty_115, ty_116, ty_117, ty_118, ty_120, ty_121, ty_122, ty_123, ty_124, ty_125, ty_126, ty_127, ty_128, ty_129, ty_131, ty_133, ty_134]
  refine (lets w4 hAll).mono ?_
  rintro v w5 ⟨rfl, g5⟩
  replace hb := g5.2 _ _ hb
  have hBase : Below base w w5 := (hAll.mono hbase).trans g5.1
  simp only [ldSl_blk hb, Z00, Z01, Z02, Z03, Z04, Z05, Z06, Z07, Z08, Z09, ↓Z0a, ↓Z0b, ↓Z0c, ↓Z0d, ↓Z0e, ↓Z0f, ↓Z0g, ↓Z0h, ↓Z0i, ↓Z0j, ↓Z0k, ↓Z0l, ↓Z0m, ↓Z0n, ↓Z0o, ↓Z0p, resL, res1, resK, Z0q, Z0r, Z0s, Z0t, Z0u, Z0v, Z0w, Z0x, Z0y, Z0z, Z10, Z11, Z12, Z13, Z14, ↓Z15, ↓Z16, Z17, Z18, Z19, Z1a, Z1b, Z1c, ↓Z1d, ↓Z1e, Z1f, ↓Z1g, ↓Z1h, ↓Z1i, ↓Z1n, ↓Z1p, ↓Z1v, ↓Z1z, ↓Z20, ↓Z21, Y00, Z2h, ↓Z2i, ↓Z2j, ↓Z2k, ↓Z2m, ↓Z2n, ↓Z2u, ↓Z2x, Z2y, Z2z, Z30, Z31, Z32, Z33, ev_t, ev_c, ev_g, ev_f, hv_t, hv_f, hv_n, Z34, Z35, Z36, Y01, Y02, Y03, Y04, Y05, Z3a, Y06, Y07, nth?, Y08, Y09, Y0a, Y0b, Y0c, Y0d, Y0e, putN, Z3i, repL, Y0f, Y0g, Y0h, Y0i, Y0j, Y0k, Y0l, Y0m, Y0n, Y0o, Y0p, Y0q, Y0r, Y0s, Z3r, Z3s, Z3t, depB, Fd, Fall, Dis, Dis1, Z3u, Z3v, appC, appN, mapC, mapN, List.append_eq, Z3w, Array.toArray_toList, Z3x, Z3y, List.getElem?_cons_zero, List.getElem?_cons_succ, Nat.reduceAdd, Nat.reduceSub, Nat.reduceMul, Nat.reduceEqDiff, Nat.zero_add, Nat.add_zero, Nat.mul_one, Nat.zero_mul, if_true, if_false, eq_self, true_and, and_true, reduceCtorEq, false_and, Addr.add_lit, ne_eq, not_false_eq_true, Array.empty_append, Array.append_empty, ↓Z3z, ↓Z40, ↓Z41, ↓Z42, ↓Z43, ↓Z44, ↓Z45, List.getElem?_toArray, Z46, Int.toNat_natCast, Nat.sub_zero, Int.toNat_sub, Sx.Z47, ite_self, ty_3, ty_4, ty_5, ty_9, ty_22, ty_23, ty_24, ty_30, ty_31, ty_32, ty_33, ty_34, ty_35, ty_36, ty_37, ty_38, ty_39, ty_40, ty_41, ty_42, ty_43, ty_44, ty_54, ty_61, ty_78, ty_111, ty_113, ty_114, ty_115, ty_116, ty_117, ty_118, ty_120, ty_121, ty_122, ty_123, ty_124, ty_125, ty_126, ty_127, ty_128, ty_129, ty_131, ty_133, ty_134]
  refine (ownEdges_nil w5).mono ?_
  rintro v w6 ⟨rfl, g6⟩
  replace hb := bheap g6 hb
  replace hBase := hBase.trans (g6.mono (Nat.le_trans hbase hBase.size))
  simp only [ldSl_blk hb, Z00, Z01, Z02, Z03, Z04, Z05, Z06, Z07, Z08, Z09, ↓Z0a, ↓Z0b, ↓Z0c, ↓Z0d, ↓Z0e, ↓Z0f, ↓Z0g, ↓Z0h, ↓Z0i, ↓Z0j, ↓Z0k, ↓Z0l, ↓Z0m, ↓Z0n, ↓Z0o, ↓Z0p, resL, res1, resK, Z0q, Z0r, Z0s, Z0t, Z0u, Z0v, Z0w, Z0x, Z0y, Z0z, Z10, Z11, Z12, Z13, Z14, ↓Z15, ↓Z16, Z17, Z18, Z19, Z1a, Z1b, Z1c, ↓Z1d, ↓Z1e, Z1f, ↓Z1g, ↓Z1h, ↓Z1i, ↓Z1n, ↓Z1p, ↓Z1v, ↓Z1z, ↓Z20, ↓Z21, Y00, Z2h, ↓Z2i, ↓Z2j, ↓Z2k, ↓Z2m, ↓Z2n, ↓Z2u, ↓Z2x, Z2y, Z2z, Z30, Z31, Z32, Z33, ev_t, ev_c, ev_g, ev_f, hv_t, hv_f, hv_n, Z34, Z35, Z36, Y01, Y02, Y03, Y04, Y05, Z3a, Y06, Y07, nth?, Y08, Y09, Y0a, Y0b, Y0c, Y0d, Y0e, putN, Z3i, repL, Y0f, Y0g, Y0h, Y0i, Y0j, Y0k, Y0l, Y0m, Y0n, Y0o, Y0p, Y0q, Y0r, Y0s, Z3r, Z3s, Z3t, depB, Fd, Fall, Dis, Dis1, Z3u, Z3v, appC, appN, mapC, mapN, List.append_eq, Z3w, Array.toArray_toList, Z3x, Z3y, List.getElem?_cons_zero, List.getElem?_cons_succ, Nat.reduceAdd, Nat.reduceSub, Nat.reduceMul, Nat.reduceEqDiff, Nat.zero_add, Nat.add_zero, Nat.mul_one, Nat.zero_mul, if_true, if_false, eq_self, true_and, and_true, reduceCtorEq, false_and, Addr.add_lit, ne_eq, not_false_eq_true, Array.empty_append, Array.append_empty, ↓Z3z, ↓Z40, ↓Z41, ↓Z42, ↓Z43, ↓Z44, ↓Z45, List.getElem?_toArray, Z46, Int.toNat_natCast, Nat.sub_zero, Int.toNat_sub, Sx.Z47, ite_self, ty_3, ty_4, ty_5, ty_9, ty_22, ty_23, ty_24, ty_30, ty_31, ty_32, ty_33, ty_34, ty_35, ty_36, ty_37, ty_38, ty_39, ty_40, ty_41, ty_42, ty_43, ty_44, ty_54, ty_61, ty_78, ty_111, ty_113, ty_114, ty_115, ty_116, ty_117, ty_118, ty_120, ty_121, ty_122, ty_123, ty_124, ty_125, ty_126, ty_127, ty_128, ty_129, ty_131, ty_133, ty_134]
  refine (ownTokens_nil w6).mono ?_
  rintro v w7 ⟨rfl, g7⟩
  replace hb := bheap g7 hb
  replace hBase := hBase.trans (g7.mono (Nat.le_trans hbase hBase.size))
  simp only [ldSl_blk hb, Z00, Z01, Z02, Z03, Z04, Z05, Z06, Z07, Z08, Z09, ↓Z0a, ↓Z0b, ↓Z0c, ↓Z0d, ↓Z0e, ↓Z0f, ↓Z0g, ↓Z0h, ↓Z0i, ↓Z0j, ↓Z0k, ↓Z0l, ↓Z0m, ↓Z0n, ↓Z0o, ↓Z0p, resL, res1, resK, Z0q, Z0r, Z0s, Z0t, Z0u, Z0v, Z0w, Z0x, Z0y, Z0z, Z10, Z11, Z12, Z13, Z14, ↓Z15, ↓Z16, Z17, Z18, Z19, Z1a, Z1b, Z1c, ↓Z1d, ↓Z1e, Z1f, ↓Z1g, ↓Z1h, ↓Z1i, ↓Z1n, ↓Z1p, ↓Z1v, ↓Z1z, ↓Z20, ↓Z21, Y00, Z2h, ↓Z2i, ↓Z2j, ↓Z2k, ↓Z2m, ↓Z2n, ↓Z2u, ↓Z2x, Z2y, Z2z, Z30, Z31, Z32, Z33, ev_t, ev_c, ev_g, ev_f, hv_t, hv_f, hv_n, Z34, Z35, Z36, Y01, Y02, Y03, Y04, Y05, Z3a, Y06, Y07, nth?, Y08, Y09, Y0a, Y0b, Y0c, Y0d, Y0e, putN, Z3i, repL, Y0f, Y0g, Y0h, Y0i, Y0j, Y0k, Y0l, Y0m, Y0n, Y0o, Y0p, Y0q, Y0r, Y0s, Z3r, Z3s, Z3t, depB, Fd, Fall, Dis, Dis1, Z3u, Z3v, appC, appN, mapC, mapN, List.append_eq, Z3w, Array.toArray_toList, Z3x, Z3y, List.getElem?_cons_zero, List.getElem?_cons_succ, Nat.reduceAdd, Nat.reduceSub, Nat.reduceMul, Nat.reduceEqDiff, Nat.zero_add, Nat.add_zero, Nat.mul_one, Nat.zero_mul, if_true, if_false, eq_self, true_and, and_true, reduceCtorEq, false_and, Addr.add_lit, ne_eq, not_false_eq_true, Array.empty_append, Array.append_empty, ↓Z3z, ↓Z40, ↓Z41, ↓Z42, ↓Z43, ↓Z44, ↓Z45, List.getElem?_toArray, Z46, Int.toNat_natCast, Nat.sub_zero, Int.toNat_sub, Sx.Z47, ite_self, ty_3, ty_4, ty_5, ty_9, ty_22, ty_23, ty_24, ty_30, ty_31, ty_32, ty_33, ty_34, ty_35, ty_36, ty_37, ty_38, ty_39, ty_40, ty_41, ty_42, ty_43, ty_44, ty_54, ty_61, ty_78, ty_111, ty_113, ty_114, ty_115, ty_116, ty_117, ty_118, ty_120, ty_121, ty_122, ty_123, ty_124, ty_125, ty_126, ty_127, ty_128, ty_129, ty_131, ty_133, ty_134]
  refine (ownVerdicts_nil w7).mono ?_
  rintro v w8 ⟨rfl, g8⟩
  replace hb := bheap g8 hb
  replace hBase := hBase.trans (g8.mono (Nat.le_trans hbase hBase.size))
  simp only [ldSl_blk hb, Z00, Z01, Z02, Z03, Z04, Z05, Z06, Z07, Z08, Z09, ↓Z0a, ↓Z0b, ↓Z0c, ↓Z0d, ↓Z0e, ↓Z0f, ↓Z0g, ↓Z0h, ↓Z0i, ↓Z0j, ↓Z0k, ↓Z0l, ↓Z0m, ↓Z0n, ↓Z0o, ↓Z0p, resL, res1, resK, Z0q, Z0r, Z0s, Z0t, Z0u, Z0v, Z0w, Z0x, Z0y, Z0z, Z10, Z11, Z12, Z13, Z14, ↓Z15, ↓Z16, Z17, Z18, Z19, Z1a, Z1b, Z1c, ↓Z1d, ↓Z1e, Z1f, ↓Z1g, ↓Z1h, ↓Z1i, ↓Z1n, ↓Z1p, ↓Z1v, ↓Z1z, ↓Z20, ↓Z21, Y00, Z2h, ↓Z2i, ↓Z2j, ↓Z2k, ↓Z2m, ↓Z2n, ↓Z2u, ↓Z2x, Z2y, Z2z, Z30, Z31, Z32, Z33, ev_t, ev_c, ev_g, ev_f, hv_t, hv_f, hv_n, Z34, Z35, Z36, Y01, Y02, Y03, Y04, Y05, Z3a, Y06, Y07, nth?, Y08, Y09, Y0a, Y0b, Y0c, Y0d, Y0e, putN, Z3i, repL, Y0f, Y0g, Y0h, Y0i, Y0j, Y0k, Y0l, Y0m, Y0n, Y0o, Y0p, Y0q, Y0r, Y0s, Z3r, Z3s, Z3t, depB, Fd, Fall, Dis, Dis1, Z3u, Z3v, appC, appN, mapC, mapN, List.append_eq, Z3w, Array.toArray_toList, Z3x, Z3y, List.getElem?_cons_zero, List.getElem?_cons_succ, Nat.reduceAdd, Nat.reduceSub, Nat.reduceMul, Nat.reduceEqDiff, Nat.zero_add, Nat.add_zero, Nat.mul_one, Nat.zero_mul, if_true, if_false, eq_self, true_and, and_true, reduceCtorEq, false_and, Addr.add_lit, ne_eq, not_false_eq_true, Array.empty_append, Array.append_empty, ↓Z3z, ↓Z40, ↓Z41, ↓Z42, ↓Z43, ↓Z44, ↓Z45, List.getElem?_toArray, Z46, Int.toNat_natCast, Nat.sub_zero, Int.toNat_sub, Sx.Z47, ite_self, ty_3, ty_4, ty_5, ty_9, ty_22, ty_23, ty_24, ty_30, ty_31, ty_32, ty_33, ty_34, ty_35, ty_36, ty_37, ty_38, ty_39, ty_40, ty_41, ty_42, ty_43, ty_44, ty_54, ty_61, ty_78, ty_111, ty_113, ty_114, ty_115, ty_116, ty_117, ty_118, ty_120, ty_121, ty_122, ty_123, ty_124, ty_125, ty_126, ty_127, ty_128, ty_129, ty_131, ty_133, ty_134]
  refine (ownAlarms_nil w8).mono ?_
  rintro v w9 ⟨rfl, g9⟩
  replace hb := bheap g9 hb
  replace hBase := hBase.trans (g9.mono (Nat.le_trans hbase hBase.size))
  simp only [ldSl_blk hb, Z00, Z01, Z02, Z03, Z04, Z05, Z06, Z07, Z08, Z09, ↓Z0a, ↓Z0b, ↓Z0c, ↓Z0d, ↓Z0e, ↓Z0f, ↓Z0g, ↓Z0h, ↓Z0i, ↓Z0j, ↓Z0k, ↓Z0l, ↓Z0m, ↓Z0n, ↓Z0o, ↓Z0p, resL, res1, resK, Z0q, Z0r, Z0s, Z0t, Z0u, Z0v, Z0w, Z0x, Z0y, Z0z, Z10, Z11, Z12, Z13, Z14, ↓Z15, ↓Z16, Z17, Z18, Z19, Z1a, Z1b, Z1c, ↓Z1d, ↓Z1e, Z1f, ↓Z1g, ↓Z1h, ↓Z1i, ↓Z1n, ↓Z1p, ↓Z1v, ↓Z1z, ↓Z20, ↓Z21, Y00, Z2h, ↓Z2i, ↓Z2j, ↓Z2k, ↓Z2m, ↓Z2n, ↓Z2u, ↓Z2x, Z2y, Z2z, Z30, Z31, Z32, Z33, ev_t, ev_c, ev_g, ev_f, hv_t, hv_f, hv_n, Z34, Z35, Z36, Y01, Y02, Y03, Y04, Y05, Z3a, Y06, Y07, nth?, Y08, Y09, Y0a, Y0b, Y0c, Y0d, Y0e, putN, Z3i, repL, Y0f, Y0g, Y0h, Y0i, Y0j, Y0k, Y0l, Y0m, Y0n, Y0o, Y0p, Y0q, Y0r, Y0s, Z3r, Z3s, Z3t, depB, Fd, Fall, Dis, Dis1, Z3u, Z3v, appC, appN, mapC, mapN, List.append_eq, Z3w, Array.toArray_toList, Z3x, Z3y, List.getElem?_cons_zero, List.getElem?_cons_succ, Nat.reduceAdd, Nat.reduceSub, Nat.reduceMul, Nat.reduceEqDiff, Nat.zero_add, Nat.add_zero, Nat.mul_one, Nat.zero_mul, if_true, if_false, eq_self, true_and, and_true, reduceCtorEq, false_and, Addr.add_lit, ne_eq, not_false_eq_true, Array.empty_append, Array.append_empty, ↓Z3z, ↓Z40, ↓Z41, ↓Z42, ↓Z43, ↓Z44, ↓Z45, List.getElem?_toArray, Z46, Int.toNat_natCast, Nat.sub_zero, Int.toNat_sub, Sx.Z47, ite_self, ty_3, ty_4, ty_5, ty_9, ty_22, ty_23, ty_24, ty_30, ty_31, ty_32, ty_33, ty_34, ty_35, ty_36, ty_37, ty_38, ty_39, ty_40, ty_41, ty_42, ty_43, ty_44, ty_54, ty_61, ty_78, ty_111, ty_113, ty_114, ty_115, ty_116, ty_117, ty_118, ty_120, ty_121, ty_122, ty_123, ty_124, ty_125, ty_126, ty_127, ty_128, ty_129, ty_131, ty_133, ty_134]
  refine (ownSlices_nil w9).mono ?_
  rintro v w10 ⟨rfl, g10⟩
  replace hb := bheap g10 hb
  replace hBase := hBase.trans (g10.mono (Nat.le_trans hbase hBase.size))
  simp only [ldSl_blk hb, Z00, Z01, Z02, Z03, Z04, Z05, Z06, Z07, Z08, Z09, ↓Z0a, ↓Z0b, ↓Z0c, ↓Z0d, ↓Z0e, ↓Z0f, ↓Z0g, ↓Z0h, ↓Z0i, ↓Z0j, ↓Z0k, ↓Z0l, ↓Z0m, ↓Z0n, ↓Z0o, ↓Z0p, resL, res1, resK, Z0q, Z0r, Z0s, Z0t, Z0u, Z0v, Z0w, Z0x, Z0y, Z0z, Z10, Z11, Z12, Z13, Z14, ↓Z15, ↓Z16, Z17, Z18, Z19, Z1a, Z1b, Z1c, ↓Z1d, ↓Z1e, Z1f, ↓Z1g, ↓Z1h, ↓Z1i, ↓Z1n, ↓Z1p, ↓Z1v, ↓Z1z, ↓Z20, ↓Z21, Y00, Z2h, ↓Z2i, ↓Z2j, ↓Z2k, ↓Z2m, ↓Z2n, ↓Z2u, ↓Z2x, Z2y, Z2z, Z30, Z31, Z32, Z33, ev_t, ev_c, ev_g, ev_f, hv_t, hv_f, hv_n, Z34, Z35, Z36, Y01, Y02, Y03, Y04, Y05, Z3a, Y06, Y07, nth?, Y08, Y09, Y0a, Y0b, Y0c, Y0d, Y0e, putN, Z3i, repL, Y0f, Y0g, Y0h, Y0i, Y0j, Y0k, Y0l, Y0m, Y0n, Y0o, Y0p, Y0q, Y0r, Y0s, Z3r, Z3s, Z3t, depB, Fd, Fall, Dis, Dis1, Z3u, Z3v, appC, appN, mapC, mapN, List.append_eq, Z3w, Array.toArray_toList, Z3x, Z3y, List.getElem?_cons_zero, List.getElem?_cons_succ, Nat.reduceAdd, Nat.reduceSub, Nat.reduceMul, Nat.reduceEqDiff, Nat.zero_add, Nat.add_zero, Nat.mul_one, Nat.zero_mul, if_true, if_false, eq_self, true_and, and_true, reduceCtorEq, false_and, Addr.add_lit, ne_eq, not_false_eq_true, Array.empty_append, Array.append_empty, ↓Z3z, ↓Z40, ↓Z41, ↓Z42, ↓Z43, ↓Z44, ↓Z45, List.getElem?_toArray, Z46, Int.toNat_natCast, Nat.sub_zero, Int.toNat_sub, Sx.Z47, ite_self, ty_3, ty_4, ty_5, ty_9, ty_22, ty_23, ty_24, ty_30, ty_31, ty_32, ty_33, ty_34, ty_35, ty_36, ty_37, ty_38, ty_39, ty_40, ty_41, ty_42, ty_43, ty_44, ty_54, ty_61, ty_78, ty_111, ty_113, ty_114, ty_115, ty_116, ty_117, ty_118, ty_120, ty_121, ty_122, ty_123, ty_124, ty_125, ty_126, ty_127, ty_128, ty_129, ty_131, ty_133, ty_134]
  refine (ownRows_nil w10).mono ?_
  rintro v w11 ⟨rfl, g11⟩
  replace hb := bheap g11 hb
  replace hBase := hBase.trans (g11.mono (Nat.le_trans hbase hBase.size))
  simp only [ldSl_blk hb, Z00, Z01, Z02, Z03, Z04, Z05, Z06, Z07, Z08, Z09, ↓Z0a, ↓Z0b, ↓Z0c, ↓Z0d, ↓Z0e, ↓Z0f, ↓Z0g, ↓Z0h, ↓Z0i, ↓Z0j, ↓Z0k, ↓Z0l, ↓Z0m, ↓Z0n, ↓Z0o, ↓Z0p, resL, res1, resK, Z0q, Z0r, Z0s, Z0t, Z0u, Z0v, Z0w, Z0x, Z0y, Z0z, Z10, Z11, Z12, Z13, Z14, ↓Z15, ↓Z16, Z17, Z18, Z19, Z1a, Z1b, Z1c, ↓Z1d, ↓Z1e, Z1f, ↓Z1g, ↓Z1h, ↓Z1i, ↓Z1n, ↓Z1p, ↓Z1v, ↓Z1z, ↓Z20, ↓Z21, Y00, Z2h, ↓Z2i, ↓Z2j, ↓Z2k, ↓Z2m, ↓Z2n, ↓Z2u, ↓Z2x, Z2y, Z2z, Z30, Z31, Z32, Z33, ev_t, ev_c, ev_g, ev_f, hv_t, hv_f, hv_n, Z34, Z35, Z36, Y01, Y02, Y03, Y04, Y05, Z3a, Y06, Y07, nth?, Y08, Y09, Y0a, Y0b, Y0c, Y0d, Y0e, putN, Z3i, repL, Y0f, Y0g, Y0h, Y0i, Y0j, Y0k, Y0l, Y0m, Y0n, Y0o, Y0p, Y0q, Y0r, Y0s, Z3r, Z3s, Z3t, depB, Fd, Fall, Dis, Dis1, Z3u, Z3v, appC, appN, mapC, mapN, List.append_eq, Z3w, Array.toArray_toList, Z3x, Z3y, List.getElem?_cons_zero, List.getElem?_cons_succ, Nat.reduceAdd, Nat.reduceSub, Nat.reduceMul, Nat.reduceEqDiff, Nat.zero_add, Nat.add_zero, Nat.mul_one, Nat.zero_mul, if_true, if_false, eq_self, true_and, and_true, reduceCtorEq, false_and, Addr.add_lit, ne_eq, not_false_eq_true, Array.empty_append, Array.append_empty, ↓Z3z, ↓Z40, ↓Z41, ↓Z42, ↓Z43, ↓Z44, ↓Z45, List.getElem?_toArray, Z46, Int.toNat_natCast, Nat.sub_zero, Int.toNat_sub, Sx.Z47, ite_self, ty_3, ty_4, ty_5, ty_9, ty_22, ty_23, ty_24, ty_30, ty_31, ty_32, ty_33, ty_34, ty_35, ty_36, ty_37, ty_38, ty_39, ty_40, ty_41, ty_42, ty_43, ty_44, ty_54, ty_61, ty_78, ty_111, ty_113, ty_114, ty_115, ty_116, ty_117, ty_118, ty_120, ty_121, ty_122, ty_123, ty_124, ty_125, ty_126, ty_127, ty_128, ty_129, ty_131, ty_133, ty_134]
  refine (ownWords_nil w11).mono ?_
  rintro v w12 ⟨rfl, g12⟩
  replace hb := bheap g12 hb
  replace hBase := hBase.trans (g12.mono (Nat.le_trans hbase hBase.size))
  simp only [ldSl_blk hb, Z00, Z01, Z02, Z03, Z04, Z05, Z06, Z07, Z08, Z09, ↓Z0a, ↓Z0b, ↓Z0c, ↓Z0d, ↓Z0e, ↓Z0f, ↓Z0g, ↓Z0h, ↓Z0i, ↓Z0j, ↓Z0k, ↓Z0l, ↓Z0m, ↓Z0n, ↓Z0o, ↓Z0p, resL, res1, resK, Z0q, Z0r, Z0s, Z0t, Z0u, Z0v, Z0w, Z0x, Z0y, Z0z, Z10, Z11, Z12, Z13, Z14, ↓Z15, ↓Z16, Z17, Z18, Z19, Z1a, Z1b, Z1c, ↓Z1d, ↓Z1e, Z1f, ↓Z1g, ↓Z1h, ↓Z1i, ↓Z1n, ↓Z1p, ↓Z1v, ↓Z1z, ↓Z20, ↓Z21, Y00, Z2h, ↓Z2i, ↓Z2j, ↓Z2k, ↓Z2m, ↓Z2n, ↓Z2u, ↓Z2x, Z2y, Z2z, Z30, Z31, Z32, Z33, ev_t, ev_c, ev_g, ev_f, hv_t, hv_f, hv_n, Z34, Z35, Z36, Y01, Y02, Y03, Y04, Y05, Z3a, Y06, Y07, nth?, Y08, Y09, Y0a, Y0b, Y0c, Y0d, Y0e, putN, Z3i, repL, Y0f, Y0g, Y0h, Y0i, Y0j, Y0k, Y0l, Y0m, Y0n, Y0o, Y0p, Y0q, Y0r, Y0s, Z3r, Z3s, Z3t, depB, Fd, Fall, Dis, Dis1, Z3u, Z3v, appC, appN, mapC, mapN, List.append_eq, Z3w, Array.toArray_toList, Z3x, Z3y, List.getElem?_cons_zero, List.getElem?_cons_succ, Nat.reduceAdd, Nat.reduceSub, Nat.reduceMul, Nat.reduceEqDiff, Nat.zero_add, Nat.add_zero, Nat.mul_one, Nat.zero_mul, if_true, if_false, eq_self, true_and, and_true, reduceCtorEq, false_and, Addr.add_lit, ne_eq, not_false_eq_true, Array.empty_append, Array.append_empty, ↓Z3z, ↓Z40, ↓Z41, ↓Z42, ↓Z43, ↓Z44, ↓Z45, List.getElem?_toArray, Z46, Int.toNat_natCast, Nat.sub_zero, Int.toNat_sub, Sx.Z47, ite_self, ty_3, ty_4, ty_5, ty_9, ty_22, ty_23, ty_24, ty_30, ty_31, ty_32, ty_33, ty_34, ty_35, ty_36, ty_37, ty_38, ty_39, ty_40, ty_41, ty_42, ty_43, ty_44, ty_54, ty_61, ty_78, ty_111, ty_113, ty_114, ty_115, ty_116, ty_117, ty_118, ty_120, ty_121, ty_122, ty_123, ty_124, ty_125, ty_126, ty_127, ty_128, ty_129, ty_131, ty_133, ty_134]
  refine (ownFormulas_nil w12).mono ?_
  rintro v w13 ⟨rfl, g13⟩
  replace hb := bheap g13 hb
  replace hBase := hBase.trans (g13.mono (Nat.le_trans hbase hBase.size))
  simp only [Z00, Z01, Z02, Z03, Z04, Z05, Z06, Z07, Z08, Z09, ↓Z0a, ↓Z0b, ↓Z0c, ↓Z0d, ↓Z0e, ↓Z0f, ↓Z0g, ↓Z0h, ↓Z0i, ↓Z0j, ↓Z0k, ↓Z0l, ↓Z0m, ↓Z0n, ↓Z0o, ↓Z0p, resL, res1, resK, Z0q, Z0r, Z0s, Z0t, Z0u, Z0v, Z0w, Z0x, Z0y, Z0z, Z10, Z11, Z12, Z13, Z14, ↓Z15, ↓Z16, Z17, Z18, Z19, Z1a, Z1b, Z1c, ↓Z1d, ↓Z1e, Z1f, ↓Z1g, ↓Z1h, ↓Z1i, ↓Z1n, ↓Z1p, ↓Z1v, ↓Z1z, ↓Z20, ↓Z21, Y00, Z2h, ↓Z2i, ↓Z2j, ↓Z2k, ↓Z2m, ↓Z2n, ↓Z2u, ↓Z2x, Z2y, Z2z, Z30, Z31, Z32, Z33, ev_t, ev_c, ev_g, ev_f, hv_t, hv_f, hv_n, Z34, Z35, Z36, Y01, Y02, Y03, Y04, Y05, Z3a, Y06, Y07, nth?, Y08, Y09, Y0a, Y0b, Y0c, Y0d, Y0e, putN, Z3i, repL, Y0f, Y0g, Y0h, Y0i, Y0j, Y0k, Y0l, Y0m, Y0n, Y0o, Y0p, Y0q, Y0r, Y0s, Z3r, Z3s, Z3t, depB, Fd, Fall, Dis, Dis1, Z3u, Z3v, appC, appN, mapC, mapN, List.append_eq, Z3w, Array.toArray_toList, Z3x, Z3y, List.getElem?_cons_zero, List.getElem?_cons_succ, Nat.reduceAdd, Nat.reduceSub, Nat.reduceMul, Nat.reduceEqDiff, Nat.zero_add, Nat.add_zero, Nat.mul_one, Nat.zero_mul, if_true, if_false, eq_self, true_and, and_true, reduceCtorEq, false_and, Addr.add_lit, ne_eq, not_false_eq_true, Array.empty_append, Array.append_empty, ↓Z3z, ↓Z40, ↓Z41, ↓Z42, ↓Z43, ↓Z44, ↓Z45, List.getElem?_toArray, Z46, Int.toNat_natCast, Nat.sub_zero, Int.toNat_sub, Sx.Z47, ite_self, ty_3, ty_4, ty_5, ty_9, ty_22, ty_23, ty_24, ty_30, ty_31, ty_32, ty_33, ty_34, ty_35, ty_36, ty_37, ty_38, ty_39, ty_40, ty_41, ty_42, ty_43, ty_44, ty_54, ty_61, ty_78, ty_111, ty_113, ty_114, ty_115, ty_116, ty_117, ty_118, ty_120, ty_121, ty_122, ty_123, ty_124, ty_125, ty_126, ty_127, ty_128, ty_129, ty_131, ty_133, ty_134]
  exact hBase
end Go.Proofs.YtdpfafgecchafaaDoor

/- Words: all words, one after another: the inner function. -/
import Derived.Test.YtdpfafgecchafaaDoorSxR
import Derived.Test.YtdpfafgecchafaaDoorWe
set_option linter.unusedVariables false
set_option maxRecDepth 20000
set_option linter.unusedSimpArgs false
namespace Go.Proofs.YtdpfafgecchafaaDoor
open Go Go.RowKit Sx

abbrev Wrd := List Int × List Int
/-- a word is in its normal form -/
def isN (x : Wrd) : Bool := decide (x.1 = nStem x.1 x.2) && decide (x.2 = nLoop x.1 x.2)
/-- the words whose letters begin with r and have n more, the stem the first st -/
def emit (k st : Nat) : Nat → List Int → List Wrd
  | 0, r => if isN (r.take st, r.drop st) then [(r.take st, r.drop st)] else []
  | n + 1, r => (List.range (2 ^ k)).flatMap fun (c : Nat) => emit k st n (r ++ [(c : Int)])
def wordsN (k n : Nat) : List Wrd := (List.range n).flatMap fun st => emit k st n []
def wordsTo (k m : Nat) : List Wrd := (List.range m).flatMap fun n => wordsN k (n + 1)

/-- a word that is handed out -/
def encW : Enc Wrd where
  is x v w := OwnW w 0 v x.1 x.2
  rm := roomW
  lt := by
    rintro ⟨s, l⟩ v w ⟨a, b, rfl, h1, h2, _⟩ g ⟨x, y, he, h⟩
    simp only [Value.agg.injEq, Array.mk.injEq, List.cons.injEq, and_true] at he
    obtain ⟨rfl, rfl⟩ := he
    rcases h with h | h
    · exact (OwnC.room h1 g h).2
    · exact (OwnC.room h2 g h).2
  keep := by
    rintro ⟨s, l⟩ v w w' ⟨a, b, rfl, h1, h2, h3⟩ hk
    exact ⟨a, b, rfl, OwnC.keep h1 fun g hg => hk.block g (OwnC.room h1 g hg).2 (fun h => h ⟨_, _, rfl, .inl hg⟩), OwnC.keep h2 fun g hg => hk.block g (OwnC.room h2 g hg).2 (fun h => h ⟨_, _, rfl, .inr hg⟩), h3⟩

/-- the iterator's blocks -/
structure Itr where
  rc : Nat
  sc : Nat
  yc : Nat
  mc : Nat
  pc : Nat
def Itr.caps (i : Itr) : List Value := [.pointer (some ⟨i.rc, 0, none⟩), .pointer (some ⟨i.sc, 0, none⟩), .pointer (some ⟨i.yc, 0, none⟩), .pointer (some ⟨i.pc, 0, none⟩), .pointer (some ⟨i.mc, 0, none⟩)]
/-- what lies in the iterator's blocks, the row v apart -/
structure ItB (i : Itr) (k st l : Nat) (W : World) : Prop where
  sc : W.heap[i.sc]? = some (.cells #[.int .i64 st] 3 (0, 0))
  yc : W.heap[i.yc]? = some (.cells #[.func (.yield l) #[] #[]] 26 (0, 0))
  mc : W.heap[i.mc]? = some (.cells #[.func (.func 72) #[] i.caps.toArray] 102 (0, 0))
  pc : W.heap[i.pc]? = some (.cells #[.int .i64 k] 3 (0, 0))
def ItR (i : Itr) (W : World) (v : Value) (r : List Int) : Prop := W.heap[i.rc]? = some (.cells #[v] 22 (0, 0)) ∧ OwnU W 0 v r
/-- the blocks that it leans on -/
def Itr.in (i : Itr) (v : Value) (b : Nat) : Prop := b = i.rc ∨ b = i.sc ∨ b = i.yc ∨ b = i.mc ∨ b = i.pc ∨ roomOf v = some b

theorem OwnW.cast {w : World} {base : Nat} {v : Value} {s l s' l' : List Int} (h : OwnW w base v s l) (h1 : s = s') (h2 : l = l') : OwnW w base v s' l' := by subst h1 h2; exact h
theorem OwnW.lo {w : World} {base b : Nat} {v : Value} {s l : List Int} (h : OwnW w base v s l) (hb : roomW v b) : base ≤ b ∧ b < w.heap.size := by
  obtain ⟨x, y, rfl, h1, h2, _⟩ := h
  obtain ⟨x', y', e, h⟩ := hb
  cases e
  rcases h with h | h
  · exact OwnC.room h1 b h
  · exact OwnC.room h2 b h
theorem Itr.lt {i : Itr} {k st l : Nat} {W : World} {v : Value} {r : List Int} (hB : ItB i k st l W) (hr : ItR i W v r) {b : Nat} (h : i.in v b) : b < W.heap.size := by
  rcases h with rfl | rfl | rfl | rfl | rfl | h
  · exact (Array.getElem?_eq_some_iff.1 hr.1).1
  · exact (Array.getElem?_eq_some_iff.1 hB.sc).1
  · exact (Array.getElem?_eq_some_iff.1 hB.yc).1
  · exact (Array.getElem?_eq_some_iff.1 hB.mc).1
  · exact (Array.getElem?_eq_some_iff.1 hB.pc).1
  · exact (OwnC.room hr.2 b h).2
theorem ItB.keep {i : Itr} {k st l : Nat} {W W' : World} {v : Value} (hB : ItB i k st l W) (h : ∀ b, i.in v b → b < W.heap.size → b ≠ i.rc → roomOf v ≠ some b → W'.heap[b]? = W.heap[b]?) (hn : ∀ b, roomOf v = some b → ∃ cs, W.heap[b]? = some (.cells cs 54 (0, 0))) {u : Value} (hr : W.heap[i.rc]? = some (.cells #[u] 22 (0, 0))) : ItB i k st l W' := by
  have key : ∀ b x t, t ≠ 54 → t ≠ 22 → W.heap[b]? = some (.cells #[x] t (0, 0)) → i.in v b → W'.heap[b]? = some (.cells #[x] t (0, 0)) := by
    intro b x t ht ht2 hb hi
    rw [h b hi (Array.getElem?_eq_some_iff.1 hb).1 (by rintro rfl; rw [hb] at hr; simp at hr; exact ht2 hr.2) (fun e => by obtain ⟨cs, hc⟩ := hn b e; rw [hb] at hc; simp at hc; exact ht hc.2)]
    exact hb
  exact ⟨key _ _ _ (by decide) (by decide) hB.sc (.inr (.inl rfl)), key _ _ _ (by decide) (by decide) hB.yc (.inr (.inr (.inl rfl))), key _ _ _ (by decide) (by decide) hB.mc (.inr (.inr (.inr (.inl rfl)))), key _ _ _ (by decide) (by decide) hB.pc (.inr (.inr (.inr (.inr (.inl rfl)))))⟩
theorem OwnU.blk {w : World} {base g : Nat} {v : Value} {l : List Int} (h : OwnU w base v l) (hg : roomOf v = some g) : ∃ cs, w.heap[g]? = some (.cells cs 54 (0, 0)) := by
  rcases h.2.2 with ⟨p, rfl, _⟩ | ⟨b, cap, cur, rfl, hb, hh, _⟩
  · cases p <;> simp [roomOf] at hg
  · simp [roomOf] at hg
    obtain ⟨_, rfl⟩ := hg
    exact ⟨_, hh⟩

def ptr (b : Nat) : Value := .pointer (some ⟨b, 0, none⟩)
def MoreQ (k st l : Nat) (i : Itr) (xs : List Wrd) (J Jx : List Wrd → (Nat → Prop) → World → Prop) (n : Nat) (W : World) (r : List Int) (v : Value) (pre : List Wrd) (G : Nat → Prop) (u : Value) (W' : World) : Prop :=
  ∃ G' v', ItB i k st l W' ∧ ItR i W' v' r ∧ (∀ b, i.in v' b → ¬ G' b) ∧ Kp (fun b => G b ∨ b = i.rc ∨ roomOf v = some b) W W' ∧ (∀ b, G' b → G b ∨ W.heap.size ≤ b) ∧ (∀ b, roomOf v' = some b → roomOf v = some b ∨ W.heap.size ≤ b) ∧
    ((u = .bool true ∧ J (pre ++ emit k st n r) G' W') ∨ (u = .bool false ∧ ∃ q, q <+: xs ∧ Jx q G' W'))

theorem more_zero (k st l : Nat) (xs : List Wrd) (J Jx : List Wrd → (Nat → Prop) → World → Prop) (hJ : ∀ pre, Terr (J pre)) (hJx : ∀ pre, Terr (Jx pre)) (hR : Rnd C.P l encW xs J Jx) (i : Itr) (W : World) (r : List Int) (v : Value) (pre rest : List Wrd) (G : Nat → Prop)
    (hB : ItB i k st l W) (hr : ItR i W v r) (hd : ∀ b, i.in v b → ¬ G b) (hj : J pre G W) (hx : pre ++ emit k st 0 r ++ rest = xs) (hl : r.length ≤ 1000000000) (hst : st ≤ r.length) :
    CallG C.P 72 #[.int .i64 (0 : Nat), ptr i.rc, ptr i.sc, ptr i.yc, ptr i.pc, ptr i.mc] W (MoreQ k st l i xs J Jx 0 W r v pre G) := by
  obtain ⟨hv, ho⟩ := hr
  refine fn_ok (C := C) (args := [_, _, _, _, _, _]) 58 [.tmp 7] Tryd.func72 rfl rfl rfl rfl ?_
  simp only [Tryd.f72, Z00, Z01, Z02, Z03, Z04, Z05, Z06, Z07, Z08, Z09, ↓Z0a, ↓Z0b, ↓Z0c, ↓Z0d, ↓Z0e, ↓Z0f, ↓Z0g, ↓Z0h, ↓Z0i, ↓Z0j, ↓Z0k, ↓Z0l, ↓Z0m, ↓Z0n, ↓Z0o, ↓Z0p, resL, res1, resK, Z0q, Z0r, Z0s, Z0t, Z0u, Z0v, Z0w, Z0x, Z0y, Z0z, Z10, Z11, Z12, Z13, Z14, ↓Z15, ↓Z16, Z17, Z18, Z19, Z1a, Z1b, Z1c, ↓Z1d, ↓Z1e, Z1f, ↓Z1g, ↓Z1h, ↓Z1i, ↓Z1j, ↓Z1l, ↓Z1m, ↓Z1n, ↓Z1o, ↓Z1q, ↓Z1r, ↓Z1u, ↓Z1v, ↓Z1y, ↓Z1z, ↓Z20, ↓Z21, Y00, Z2h, ↓Z2i, ↓Z2j, ↓Z2k, ↓Z2l, ↓Z2m, ↓Z2o, ↓Z2p, ↓Z2q, ↓Z2t, ↓Z2u, ↓Z2x, Z2y, Z2z, Z30, Z31, Z32, Z33, ev_t, ev_c, ev_g, ev_f, hv_t, hv_f, hv_n, Z34, Z35, Z36, Y01, Y02, Y03, Y04, Y05, Z3a, Y06, Y07, nth?, Y08, Y09, Y0a, Y0b, Y0c, Y0d, Y0e, putN, Z3i, repL, Y0f, Y0g, Y0h, Y0i, Y0j, Y0k, Y0l, Y0m, Y0n, Y0o, Y0p, Y0q, Y0r, Y0s, Z3r, Z3s, Z3t, depB, Fd, Fall, Dis, Dis1, Z3u, Z3v, appC, appN, mapC, mapN, List.append_eq, Z3w, Array.toArray_toList, Z3x, Z3y, List.getElem?_cons_zero, List.getElem?_cons_succ, Nat.reduceAdd, Nat.reduceSub, Nat.reduceMul, Nat.reduceEqDiff, Nat.zero_add, Nat.add_zero, Nat.mul_one, Nat.zero_mul, if_true, if_false, eq_self, true_and, and_true, reduceCtorEq, false_and, Addr.add_lit, ne_eq, not_false_eq_true, Array.empty_append, Array.append_empty, ↓Z3z, ↓Z40, ↓Z41, ↓Z42, ↓Z43, ↓Z44, ↓Z45, List.getElem?_toArray, Z46, Int.toNat_natCast, Nat.sub_zero, Int.toNat_sub, Sx.Z47, ite_self, ty_3, ty_22, ty_23, ty_24, ty_26, ty_54, ty_102, ptr]
  obtain ⟨p, c, rfl, hc1, hc2, hc3, hp⟩ := ho.rd.out
  clear hp
  refine BrE (fun _ => ?_) (fun h => absurd h (by simp))
  refine draw_sp 8 [(7, PtrTo (.cells #[.slice none 0 0, .slice none 0 0] 24 (0, 0)) W.heap.size, roomP)] (by kernel_rfl) (by kernel_rfl) (by decide) 64 rfl (by kernel_rfl) ⟨fun _ _ _ h hb => h.below hb, trivial⟩ ?_
  simp only [ldSl_blk hv, ldInt_blk hB.sc, Z00, Z01, Z02, Z03, Z04, Z05, Z06, Z07, Z08, Z09, ↓Z0a, ↓Z0b, ↓Z0c, ↓Z0d, ↓Z0e, ↓Z0f, ↓Z0g, ↓Z0h, ↓Z0i, ↓Z0j, ↓Z0k, ↓Z0l, ↓Z0m, ↓Z0n, ↓Z0o, ↓Z0p, resL, res1, resK, Z0q, Z0r, Z0s, Z0t, Z0u, Z0v, Z0w, Z0x, Z0y, Z0z, Z10, Z11, Z12, Z13, Z14, ↓Z15, ↓Z16, Z17, Z18, Z19, Z1a, Z1b, Z1c, ↓Z1d, ↓Z1e, Z1f, ↓Z1g, ↓Z1h, ↓Z1i, ↓Z1j, ↓Z1l, ↓Z1m, ↓Z1n, ↓Z1o, ↓Z1q, ↓Z1r, ↓Z1u, ↓Z1v, ↓Z1y, ↓Z1z, ↓Z20, ↓Z21, Y00, Z2h, ↓Z2i, ↓Z2j, ↓Z2k, ↓Z2l, ↓Z2m, ↓Z2o, ↓Z2p, ↓Z2q, ↓Z2t, ↓Z2u, ↓Z2x, Z2y, Z2z, Z30, Z31, Z32, Z33, ev_t, ev_c, ev_g, ev_f, hv_t, hv_f, hv_n, Z34, Z35, Z36, Y01, Y02, Y03, Y04, Y05, Z3a, Y06, Y07, nth?, Y08, Y09, Y0a, Y0b, Y0c, Y0d, Y0e, putN, Z3i, repL, Y0f, Y0g, Y0h, Y0i, Y0j, Y0k, Y0l, Y0m, Y0n, Y0o, Y0p, Y0q, Y0r, Y0s, Z3r, Z3s, Z3t, depB, Fd, Fall, Dis, Dis1, Z3u, Z3v, appC, appN, mapC, mapN, List.append_eq, Z3w, Array.toArray_toList, Z3x, Z3y, List.getElem?_cons_zero, List.getElem?_cons_succ, Nat.reduceAdd, Nat.reduceSub, Nat.reduceMul, Nat.reduceEqDiff, Nat.zero_add, Nat.add_zero, Nat.mul_one, Nat.zero_mul, if_true, if_false, eq_self, true_and, and_true, reduceCtorEq, false_and, Addr.add_lit, ne_eq, not_false_eq_true, Array.empty_append, Array.append_empty, ↓Z3z, ↓Z40, ↓Z41, ↓Z42, ↓Z43, ↓Z44, ↓Z45, List.getElem?_toArray, Z46, Int.toNat_natCast, Nat.sub_zero, Int.toNat_sub, Sx.Z47, ite_self, ty_3, ty_22, ty_23, ty_24, ty_26, ty_54, ty_102]
  refine ⟨.inl trivial, ⟨by omega, by omega⟩, .inl trivial, ⟨by omega, by omega⟩, rfl, ⟨rfl, by simp⟩, ⟨rfl, by simp⟩, fun W1 h1 _ => ?_, ?_⟩
  · intro b w' n'
    exact ⟨n'.ext, PtrTo.new n' h1.size⟩
  rintro v8 ⟨_, _, b8, rfl, -⟩
  rintro W1 h1 ⟨b8', e8, hb8, h8⟩ -
  cases e8
  simp only [Z00, Z01, Z02, Z03, Z04, Z05, Z06, Z07, Z08, Z09, ↓Z0a, ↓Z0b, ↓Z0c, ↓Z0d, ↓Z0e, ↓Z0f, ↓Z0g, ↓Z0h, ↓Z0i, ↓Z0j, ↓Z0k, ↓Z0l, ↓Z0m, ↓Z0n, ↓Z0o, ↓Z0p, resL, res1, resK, Z0q, Z0r, Z0s, Z0t, Z0u, Z0v, Z0w, Z0x, Z0y, Z0z, Z10, Z11, Z12, Z13, Z14, ↓Z15, ↓Z16, Z17, Z18, Z19, Z1a, Z1b, Z1c, ↓Z1d, ↓Z1e, Z1f, ↓Z1g, ↓Z1h, ↓Z1i, ↓Z1j, ↓Z1l, ↓Z1m, ↓Z1n, ↓Z1o, ↓Z1q, ↓Z1r, ↓Z1u, ↓Z1v, ↓Z1y, ↓Z1z, ↓Z20, ↓Z21, Y00, Z2h, ↓Z2i, ↓Z2j, ↓Z2k, ↓Z2l, ↓Z2m, ↓Z2o, ↓Z2p, ↓Z2q, ↓Z2t, ↓Z2u, ↓Z2x, Z2y, Z2z, Z30, Z31, Z32, Z33, ev_t, ev_c, ev_g, ev_f, hv_t, hv_f, hv_n, Z34, Z35, Z36, Y01, Y02, Y03, Y04, Y05, Z3a, Y06, Y07, nth?, Y08, Y09, Y0a, Y0b, Y0c, Y0d, Y0e, putN, Z3i, repL, Y0f, Y0g, Y0h, Y0i, Y0j, Y0k, Y0l, Y0m, Y0n, Y0o, Y0p, Y0q, Y0r, Y0s, Z3r, Z3s, Z3t, depB, Fd, Fall, Dis, Dis1, Z3u, Z3v, appC, appN, mapC, mapN, List.append_eq, Z3w, Array.toArray_toList, Z3x, Z3y, List.getElem?_cons_zero, List.getElem?_cons_succ, Nat.reduceAdd, Nat.reduceSub, Nat.reduceMul, Nat.reduceEqDiff, Nat.zero_add, Nat.add_zero, Nat.mul_one, Nat.zero_mul, if_true, if_false, eq_self, true_and, and_true, reduceCtorEq, false_and, Addr.add_lit, ne_eq, not_false_eq_true, Array.empty_append, Array.append_empty, ↓Z3z, ↓Z40, ↓Z41, ↓Z42, ↓Z43, ↓Z44, ↓Z45, List.getElem?_toArray, Z46, Int.toNat_natCast, Nat.sub_zero, Int.toNat_sub, Sx.Z47, ite_self, ty_3, ty_22, ty_23, ty_24, ty_26, ty_54, ty_102]
  refine ⟨rfl, StA.of h8 (by simp) (by simp [Value.oneCell']) ?_⟩
  intro w2 u2
  have hB2 : Below W.heap.size W w2 := h1.trans (u2.below hb8)
  simp only [ldAgg_blk (n := 2) u2.at_ rfl, Z00, Z01, Z02, Z03, Z04, Z05, Z06, Z07, Z08, Z09, ↓Z0a, ↓Z0b, ↓Z0c, ↓Z0d, ↓Z0e, ↓Z0f, ↓Z0g, ↓Z0h, ↓Z0i, ↓Z0j, ↓Z0k, ↓Z0l, ↓Z0m, ↓Z0n, ↓Z0o, ↓Z0p, resL, res1, resK, Z0q, Z0r, Z0s, Z0t, Z0u, Z0v, Z0w, Z0x, Z0y, Z0z, Z10, Z11, Z12, Z13, Z14, ↓Z15, ↓Z16, Z17, Z18, Z19, Z1a, Z1b, Z1c, ↓Z1d, ↓Z1e, Z1f, ↓Z1g, ↓Z1h, ↓Z1i, ↓Z1j, ↓Z1l, ↓Z1m, ↓Z1n, ↓Z1o, ↓Z1q, ↓Z1r, ↓Z1u, ↓Z1v, ↓Z1y, ↓Z1z, ↓Z20, ↓Z21, Y00, Z2h, ↓Z2i, ↓Z2j, ↓Z2k, ↓Z2l, ↓Z2m, ↓Z2o, ↓Z2p, ↓Z2q, ↓Z2t, ↓Z2u, ↓Z2x, Z2y, Z2z, Z30, Z31, Z32, Z33, ev_t, ev_c, ev_g, ev_f, hv_t, hv_f, hv_n, Z34, Z35, Z36, Y01, Y02, Y03, Y04, Y05, Z3a, Y06, Y07, nth?, Y08, Y09, Y0a, Y0b, Y0c, Y0d, Y0e, putN, Z3i, repL, Y0f, Y0g, Y0h, Y0i, Y0j, Y0k, Y0l, Y0m, Y0n, Y0o, Y0p, Y0q, Y0r, Y0s, Z3r, Z3s, Z3t, depB, Fd, Fall, Dis, Dis1, Z3u, Z3v, appC, appN, mapC, mapN, List.append_eq, Z3w, Array.toArray_toList, Z3x, Z3y, List.getElem?_cons_zero, List.getElem?_cons_succ, Nat.reduceAdd, Nat.reduceSub, Nat.reduceMul, Nat.reduceEqDiff, Nat.zero_add, Nat.add_zero, Nat.mul_one, Nat.zero_mul, if_true, if_false, eq_self, true_and, and_true, reduceCtorEq, false_and, Addr.add_lit, ne_eq, not_false_eq_true, Array.empty_append, Array.append_empty, ↓Z3z, ↓Z40, ↓Z41, ↓Z42, ↓Z43, ↓Z44, ↓Z45, List.getElem?_toArray, Z46, Int.toNat_natCast, Nat.sub_zero, Int.toNat_sub, Sx.Z47, ite_self, ty_3, ty_22, ty_23, ty_24, ty_26, ty_54, ty_102]
  have rs : RdI .u16 w2 (.slice p st c) (r.take st) := (ho.rd.below hB2).upto st (by omega)
  have rl := (ho.rd.below hB2).from_ st (by omega)
  refine (normal_any w2 _ _ _ ⟨_, _, rfl, rs, rl⟩ (by simp; omega) (by simp; omega)).mono ?_
  rintro v w3 ⟨o3, h3⟩
  obtain ⟨x1, z1, y1, t1, rfl⟩ := o3.out
  simp only [Z00, Z01, Z02, Z03, Z04, Z05, Z06, Z07, Z08, Z09, ↓Z0a, ↓Z0b, ↓Z0c, ↓Z0d, ↓Z0e, ↓Z0f, ↓Z0g, ↓Z0h, ↓Z0i, ↓Z0j, ↓Z0k, ↓Z0l, ↓Z0m, ↓Z0n, ↓Z0o, ↓Z0p, resL, res1, resK, Z0q, Z0r, Z0s, Z0t, Z0u, Z0v, Z0w, Z0x, Z0y, Z0z, Z10, Z11, Z12, Z13, Z14, ↓Z15, ↓Z16, Z17, Z18, Z19, Z1a, Z1b, Z1c, ↓Z1d, ↓Z1e, Z1f, ↓Z1g, ↓Z1h, ↓Z1i, ↓Z1j, ↓Z1l, ↓Z1m, ↓Z1n, ↓Z1o, ↓Z1q, ↓Z1r, ↓Z1u, ↓Z1v, ↓Z1y, ↓Z1z, ↓Z20, ↓Z21, Y00, Z2h, ↓Z2i, ↓Z2j, ↓Z2k, ↓Z2l, ↓Z2m, ↓Z2o, ↓Z2p, ↓Z2q, ↓Z2t, ↓Z2u, ↓Z2x, Z2y, Z2z, Z30, Z31, Z32, Z33, ev_t, ev_c, ev_g, ev_f, hv_t, hv_f, hv_n, Z34, Z35, Z36, Y01, Y02, Y03, Y04, Y05, Z3a, Y06, Y07, nth?, Y08, Y09, Y0a, Y0b, Y0c, Y0d, Y0e, putN, Z3i, repL, Y0f, Y0g, Y0h, Y0i, Y0j, Y0k, Y0l, Y0m, Y0n, Y0o, Y0p, Y0q, Y0r, Y0s, Z3r, Z3s, Z3t, depB, Fd, Fall, Dis, Dis1, Z3u, Z3v, appC, appN, mapC, mapN, List.append_eq, Z3w, Array.toArray_toList, Z3x, Z3y, List.getElem?_cons_zero, List.getElem?_cons_succ, Nat.reduceAdd, Nat.reduceSub, Nat.reduceMul, Nat.reduceEqDiff, Nat.zero_add, Nat.add_zero, Nat.mul_one, Nat.zero_mul, if_true, if_false, eq_self, true_and, and_true, reduceCtorEq, false_and, Addr.add_lit, ne_eq, not_false_eq_true, Array.empty_append, Array.append_empty, ↓Z3z, ↓Z40, ↓Z41, ↓Z42, ↓Z43, ↓Z44, ↓Z45, List.getElem?_toArray, Z46, Int.toNat_natCast, Nat.sub_zero, Int.toNat_sub, Sx.Z47, ite_self, ty_3, ty_22, ty_23, ty_24, ty_26, ty_54, ty_102]
  intro b9 w4 n4
  simp only [Z00, Z01, Z02, Z03, Z04, Z05, Z06, Z07, Z08, Z09, ↓Z0a, ↓Z0b, ↓Z0c, ↓Z0d, ↓Z0e, ↓Z0f, ↓Z0g, ↓Z0h, ↓Z0i, ↓Z0j, ↓Z0k, ↓Z0l, ↓Z0m, ↓Z0n, ↓Z0o, ↓Z0p, resL, res1, resK, Z0q, Z0r, Z0s, Z0t, Z0u, Z0v, Z0w, Z0x, Z0y, Z0z, Z10, Z11, Z12, Z13, Z14, ↓Z15, ↓Z16, Z17, Z18, Z19, Z1a, Z1b, Z1c, ↓Z1d, ↓Z1e, Z1f, ↓Z1g, ↓Z1h, ↓Z1i, ↓Z1j, ↓Z1l, ↓Z1m, ↓Z1n, ↓Z1o, ↓Z1q, ↓Z1r, ↓Z1u, ↓Z1v, ↓Z1y, ↓Z1z, ↓Z20, ↓Z21, Y00, Z2h, ↓Z2i, ↓Z2j, ↓Z2k, ↓Z2l, ↓Z2m, ↓Z2o, ↓Z2p, ↓Z2q, ↓Z2t, ↓Z2u, ↓Z2x, Z2y, Z2z, Z30, Z31, Z32, Z33, ev_t, ev_c, ev_g, ev_f, hv_t, hv_f, hv_n, Z34, Z35, Z36, Y01, Y02, Y03, Y04, Y05, Z3a, Y06, Y07, nth?, Y08, Y09, Y0a, Y0b, Y0c, Y0d, Y0e, putN, Z3i, repL, Y0f, Y0g, Y0h, Y0i, Y0j, Y0k, Y0l, Y0m, Y0n, Y0o, Y0p, Y0q, Y0r, Y0s, Z3r, Z3s, Z3t, depB, Fd, Fall, Dis, Dis1, Z3u, Z3v, appC, appN, mapC, mapN, List.append_eq, Z3w, Array.toArray_toList, Z3x, Z3y, List.getElem?_cons_zero, List.getElem?_cons_succ, Nat.reduceAdd, Nat.reduceSub, Nat.reduceMul, Nat.reduceEqDiff, Nat.zero_add, Nat.add_zero, Nat.mul_one, Nat.zero_mul, if_true, if_false, eq_self, true_and, and_true, reduceCtorEq, false_and, Addr.add_lit, ne_eq, not_false_eq_true, Array.empty_append, Array.append_empty, ↓Z3z, ↓Z40, ↓Z41, ↓Z42, ↓Z43, ↓Z44, ↓Z45, List.getElem?_toArray, Z46, Int.toNat_natCast, Nat.sub_zero, Int.toNat_sub, Sx.Z47, ite_self, ty_3, ty_22, ty_23, ty_24, ty_26, ty_54, ty_102]
  refine ⟨rfl, StA.of n4.at_ (by simp) (by simp [Value.oneCell']) ?_⟩
  intro w5 u5
  have hb9 := n4.hb
  have hb82 : b8 < w2.heap.size := (Array.getElem?_eq_some_iff.1 u2.at_).1
  have h35 : Below w3.heap.size w3 w5 := n4.ext.trans (u5.below (by omega))
  have h25 : Below w2.heap.size w2 w5 := h3.trans (h35.mono h3.size)
  have h8' := bheap h25 u2.at_
  simp only [ldSl_blk h8', ldSl_blk u5.at_, Z00, Z01, Z02, Z03, Z04, Z05, Z06, Z07, Z08, Z09, ↓Z0a, ↓Z0b, ↓Z0c, ↓Z0d, ↓Z0e, ↓Z0f, ↓Z0g, ↓Z0h, ↓Z0i, ↓Z0j, ↓Z0k, ↓Z0l, ↓Z0m, ↓Z0n, ↓Z0o, ↓Z0p, resL, res1, resK, Z0q, Z0r, Z0s, Z0t, Z0u, Z0v, Z0w, Z0x, Z0y, Z0z, Z10, Z11, Z12, Z13, Z14, ↓Z15, ↓Z16, Z17, Z18, Z19, Z1a, Z1b, Z1c, ↓Z1d, ↓Z1e, Z1f, ↓Z1g, ↓Z1h, ↓Z1i, ↓Z1j, ↓Z1l, ↓Z1m, ↓Z1n, ↓Z1o, ↓Z1q, ↓Z1r, ↓Z1u, ↓Z1v, ↓Z1y, ↓Z1z, ↓Z20, ↓Z21, Y00, Z2h, ↓Z2i, ↓Z2j, ↓Z2k, ↓Z2l, ↓Z2m, ↓Z2o, ↓Z2p, ↓Z2q, ↓Z2t, ↓Z2u, ↓Z2x, Z2y, Z2z, Z30, Z31, Z32, Z33, ev_t, ev_c, ev_g, ev_f, hv_t, hv_f, hv_n, Z34, Z35, Z36, Y01, Y02, Y03, Y04, Y05, Z3a, Y06, Y07, nth?, Y08, Y09, Y0a, Y0b, Y0c, Y0d, Y0e, putN, Z3i, repL, Y0f, Y0g, Y0h, Y0i, Y0j, Y0k, Y0l, Y0m, Y0n, Y0o, Y0p, Y0q, Y0r, Y0s, Z3r, Z3s, Z3t, depB, Fd, Fall, Dis, Dis1, Z3u, Z3v, appC, appN, mapC, mapN, List.append_eq, Z3w, Array.toArray_toList, Z3x, Z3y, List.getElem?_cons_zero, List.getElem?_cons_succ, Nat.reduceAdd, Nat.reduceSub, Nat.reduceMul, Nat.reduceEqDiff, Nat.zero_add, Nat.add_zero, Nat.mul_one, Nat.zero_mul, if_true, if_false, eq_self, true_and, and_true, reduceCtorEq, false_and, Addr.add_lit, ne_eq, not_false_eq_true, Array.empty_append, Array.append_empty, ↓Z3z, ↓Z40, ↓Z41, ↓Z42, ↓Z43, ↓Z44, ↓Z45, List.getElem?_toArray, Z46, Int.toNat_natCast, Nat.sub_zero, Int.toNat_sub, Sx.Z47, ite_self, ty_3, ty_22, ty_23, ty_24, ty_26, ty_54, ty_102]
  have o5 := o3.below h35
  obtain ⟨_, _, e5, os, ol, od⟩ := id o5
  cases e5
  refine (equal_any w5 _ _ _ _ (rs.below h25) os.rd).mono ?_
  rintro v w6 ⟨rfl, h6⟩
  simp only [ldSl_blk (bheap h6 h8'), ldSl_blk (bheap h6 u5.at_), Z00, Z01, Z02, Z03, Z04, Z05, Z06, Z07, Z08, Z09, ↓Z0a, ↓Z0b, ↓Z0c, ↓Z0d, ↓Z0e, ↓Z0f, ↓Z0g, ↓Z0h, ↓Z0i, ↓Z0j, ↓Z0k, ↓Z0l, ↓Z0m, ↓Z0n, ↓Z0o, ↓Z0p, resL, res1, resK, Z0q, Z0r, Z0s, Z0t, Z0u, Z0v, Z0w, Z0x, Z0y, Z0z, Z10, Z11, Z12, Z13, Z14, ↓Z15, ↓Z16, Z17, Z18, Z19, Z1a, Z1b, Z1c, ↓Z1d, ↓Z1e, Z1f, ↓Z1g, ↓Z1h, ↓Z1i, ↓Z1j, ↓Z1l, ↓Z1m, ↓Z1n, ↓Z1o, ↓Z1q, ↓Z1r, ↓Z1u, ↓Z1v, ↓Z1y, ↓Z1z, ↓Z20, ↓Z21, Y00, Z2h, ↓Z2i, ↓Z2j, ↓Z2k, ↓Z2l, ↓Z2m, ↓Z2o, ↓Z2p, ↓Z2q, ↓Z2t, ↓Z2u, ↓Z2x, Z2y, Z2z, Z30, Z31, Z32, Z33, ev_t, ev_c, ev_g, ev_f, hv_t, hv_f, hv_n, Z34, Z35, Z36, Y01, Y02, Y03, Y04, Y05, Z3a, Y06, Y07, nth?, Y08, Y09, Y0a, Y0b, Y0c, Y0d, Y0e, putN, Z3i, repL, Y0f, Y0g, Y0h, Y0i, Y0j, Y0k, Y0l, Y0m, Y0n, Y0o, Y0p, Y0q, Y0r, Y0s, Z3r, Z3s, Z3t, depB, Fd, Fall, Dis, Dis1, Z3u, Z3v, appC, appN, mapC, mapN, List.append_eq, Z3w, Array.toArray_toList, Z3x, Z3y, List.getElem?_cons_zero, List.getElem?_cons_succ, Nat.reduceAdd, Nat.reduceSub, Nat.reduceMul, Nat.reduceEqDiff, Nat.zero_add, Nat.add_zero, Nat.mul_one, Nat.zero_mul, if_true, if_false, eq_self, true_and, and_true, reduceCtorEq, false_and, Addr.add_lit, ne_eq, not_false_eq_true, Array.empty_append, Array.append_empty, ↓Z3z, ↓Z40, ↓Z41, ↓Z42, ↓Z43, ↓Z44, ↓Z45, List.getElem?_toArray, Z46, Int.toNat_natCast, Nat.sub_zero, Int.toNat_sub, Sx.Z47, ite_self, ty_3, ty_22, ty_23, ty_24, ty_26, ty_54, ty_102]
  have o6 := o5.below h6
  have hB6 : Below W.heap.size W w6 := hB2.trans ((h25.trans (h6.mono h25.size)).mono hB2.size)
  have fin : ∀ w', Below W.heap.size W w' → isN (r.take st, r.drop st) = false → MoreQ k st l i xs J Jx 0 W r (.slice p r.length c) pre G (.bool true) w' := by
    intro w' hw' he
    refine ⟨G, .slice p r.length c, ⟨bheap hw' hB.sc, bheap hw' hB.yc, bheap hw' hB.mc, bheap hw' hB.pc⟩, ⟨bheap hw' hv, ho.below hw'⟩, hd, Kp.below hw', fun b h => .inl h, fun b h => .inl h, .inl ⟨rfl, ?_⟩⟩
    simp only [emit, he, Bool.false_eq_true, if_false, List.append_nil]
    exact (hJ pre).keep hj (Kp.below hw')
  refine ⟨fun he => fin w6 hB6 (by simp only [Bool.not_eq_true', decide_eq_false_iff_not] at he; simp [isN, he]), fun he1 => ?_⟩
  simp only [Z00, Z01, Z02, Z03, Z04, Z05, Z06, Z07, Z08, Z09, ↓Z0a, ↓Z0b, ↓Z0c, ↓Z0d, ↓Z0e, ↓Z0f, ↓Z0g, ↓Z0h, ↓Z0i, ↓Z0j, ↓Z0k, ↓Z0l, ↓Z0m, ↓Z0n, ↓Z0o, ↓Z0p, resL, res1, resK, Z0q, Z0r, Z0s, Z0t, Z0u, Z0v, Z0w, Z0x, Z0y, Z0z, Z10, Z11, Z12, Z13, Z14, ↓Z15, ↓Z16, Z17, Z18, Z19, Z1a, Z1b, Z1c, ↓Z1d, ↓Z1e, Z1f, ↓Z1g, ↓Z1h, ↓Z1i, ↓Z1j, ↓Z1l, ↓Z1m, ↓Z1n, ↓Z1o, ↓Z1q, ↓Z1r, ↓Z1u, ↓Z1v, ↓Z1y, ↓Z1z, ↓Z20, ↓Z21, Y00, Z2h, ↓Z2i, ↓Z2j, ↓Z2k, ↓Z2l, ↓Z2m, ↓Z2o, ↓Z2p, ↓Z2q, ↓Z2t, ↓Z2u, ↓Z2x, Z2y, Z2z, Z30, Z31, Z32, Z33, ev_t, ev_c, ev_g, ev_f, hv_t, hv_f, hv_n, Z34, Z35, Z36, Y01, Y02, Y03, Y04, Y05, Z3a, Y06, Y07, nth?, Y08, Y09, Y0a, Y0b, Y0c, Y0d, Y0e, putN, Z3i, repL, Y0f, Y0g, Y0h, Y0i, Y0j, Y0k, Y0l, Y0m, Y0n, Y0o, Y0p, Y0q, Y0r, Y0s, Z3r, Z3s, Z3t, depB, Fd, Fall, Dis, Dis1, Z3u, Z3v, appC, appN, mapC, mapN, List.append_eq, Z3w, Array.toArray_toList, Z3x, Z3y, List.getElem?_cons_zero, List.getElem?_cons_succ, Nat.reduceAdd, Nat.reduceSub, Nat.reduceMul, Nat.reduceEqDiff, Nat.zero_add, Nat.add_zero, Nat.mul_one, Nat.zero_mul, if_true, if_false, eq_self, true_and, and_true, reduceCtorEq, false_and, Addr.add_lit, ne_eq, not_false_eq_true, Array.empty_append, Array.append_empty, ↓Z3z, ↓Z40, ↓Z41, ↓Z42, ↓Z43, ↓Z44, ↓Z45, List.getElem?_toArray, Z46, Int.toNat_natCast, Nat.sub_zero, Int.toNat_sub, Sx.Z47, ite_self, ty_3, ty_22, ty_23, ty_24, ty_26, ty_54, ty_102]
  refine (equal_any w6 _ _ _ _ ((rl.below h25).below h6) (ol.below h6).rd).mono ?_
  rintro v w7 ⟨rfl, h7⟩
  have o7 := o6.below h7
  have hB7 : Below W.heap.size W w7 := hB6.trans (h7.mono hB6.size)
  simp only [Z00, Z01, Z02, Z03, Z04, Z05, Z06, Z07, Z08, Z09, ↓Z0a, ↓Z0b, ↓Z0c, ↓Z0d, ↓Z0e, ↓Z0f, ↓Z0g, ↓Z0h, ↓Z0i, ↓Z0j, ↓Z0k, ↓Z0l, ↓Z0m, ↓Z0n, ↓Z0o, ↓Z0p, resL, res1, resK, Z0q, Z0r, Z0s, Z0t, Z0u, Z0v, Z0w, Z0x, Z0y, Z0z, Z10, Z11, Z12, Z13, Z14, ↓Z15, ↓Z16, Z17, Z18, Z19, Z1a, Z1b, Z1c, ↓Z1d, ↓Z1e, Z1f, ↓Z1g, ↓Z1h, ↓Z1i, ↓Z1j, ↓Z1l, ↓Z1m, ↓Z1n, ↓Z1o, ↓Z1q, ↓Z1r, ↓Z1u, ↓Z1v, ↓Z1y, ↓Z1z, ↓Z20, ↓Z21, Y00, Z2h, ↓Z2i, ↓Z2j, ↓Z2k, ↓Z2l, ↓Z2m, ↓Z2o, ↓Z2p, ↓Z2q, ↓Z2t, ↓Z2u, ↓Z2x, Z2y, Z2z, Z30, Z31, Z32, Z33, ev_t, ev_c, ev_g, ev_f, hv_t, hv_f, hv_n, Z34, Z35, Z36, Y01, Y02, Y03, Y04, Y05, Z3a, Y06, Y07, nth?, Y08, Y09, Y0a, Y0b, Y0c, Y0d, Y0e, putN, Z3i, repL, Y0f, Y0g, Y0h, Y0i, Y0j, Y0k, Y0l, Y0m, Y0n, Y0o, Y0p, Y0q, Y0r, Y0s, Z3r, Z3s, Z3t, depB, Fd, Fall, Dis, Dis1, Z3u, Z3v, appC, appN, mapC, mapN, List.append_eq, Z3w, Array.toArray_toList, Z3x, Z3y, List.getElem?_cons_zero, List.getElem?_cons_succ, Nat.reduceAdd, Nat.reduceSub, Nat.reduceMul, Nat.reduceEqDiff, Nat.zero_add, Nat.add_zero, Nat.mul_one, Nat.zero_mul, if_true, if_false, eq_self, true_and, and_true, reduceCtorEq, false_and, Addr.add_lit, ne_eq, not_false_eq_true, Array.empty_append, Array.append_empty, ↓Z3z, ↓Z40, ↓Z41, ↓Z42, ↓Z43, ↓Z44, ↓Z45, List.getElem?_toArray, Z46, Int.toNat_natCast, Nat.sub_zero, Int.toNat_sub, Sx.Z47, ite_self, ty_3, ty_22, ty_23, ty_24, ty_26, ty_54, ty_102]
  refine ⟨fun he => fin w7 hB7 (by simp only [Bool.not_eq_true', decide_eq_false_iff_not] at he; simp [isN, he]), fun he2 => ?_⟩
  simp only [ldAny_blk (bheap hB7 hB.yc), ldAgg_blk (n := 2) (bheap h7 (bheap h6 u5.at_)) rfl, Z00, Z01, Z02, Z03, Z04, Z05, Z06, Z07, Z08, Z09, ↓Z0a, ↓Z0b, ↓Z0c, ↓Z0d, ↓Z0e, ↓Z0f, ↓Z0g, ↓Z0h, ↓Z0i, ↓Z0j, ↓Z0k, ↓Z0l, ↓Z0m, ↓Z0n, ↓Z0o, ↓Z0p, resL, res1, resK, Z0q, Z0r, Z0s, Z0t, Z0u, Z0v, Z0w, Z0x, Z0y, Z0z, Z10, Z11, Z12, Z13, Z14, ↓Z15, ↓Z16, Z17, Z18, Z19, Z1a, Z1b, Z1c, ↓Z1d, ↓Z1e, Z1f, ↓Z1g, ↓Z1h, ↓Z1i, ↓Z1j, ↓Z1l, ↓Z1m, ↓Z1n, ↓Z1o, ↓Z1q, ↓Z1r, ↓Z1u, ↓Z1v, ↓Z1y, ↓Z1z, ↓Z20, ↓Z21, Y00, Z2h, ↓Z2i, ↓Z2j, ↓Z2k, ↓Z2l, ↓Z2m, ↓Z2o, ↓Z2p, ↓Z2q, ↓Z2t, ↓Z2u, ↓Z2x, Z2y, Z2z, Z30, Z31, Z32, Z33, ev_t, ev_c, ev_g, ev_f, hv_t, hv_f, hv_n, Z34, Z35, Z36, Y01, Y02, Y03, Y04, Y05, Z3a, Y06, Y07, nth?, Y08, Y09, Y0a, Y0b, Y0c, Y0d, Y0e, putN, Z3i, repL, Y0f, Y0g, Y0h, Y0i, Y0j, Y0k, Y0l, Y0m, Y0n, Y0o, Y0p, Y0q, Y0r, Y0s, Z3r, Z3s, Z3t, depB, Fd, Fall, Dis, Dis1, Z3u, Z3v, appC, appN, mapC, mapN, List.append_eq, Z3w, Array.toArray_toList, Z3x, Z3y, List.getElem?_cons_zero, List.getElem?_cons_succ, Nat.reduceAdd, Nat.reduceSub, Nat.reduceMul, Nat.reduceEqDiff, Nat.zero_add, Nat.add_zero, Nat.mul_one, Nat.zero_mul, if_true, if_false, eq_self, true_and, and_true, reduceCtorEq, false_and, Addr.add_lit, ne_eq, not_false_eq_true, Array.empty_append, Array.append_empty, ↓Z3z, ↓Z40, ↓Z41, ↓Z42, ↓Z43, ↓Z44, ↓Z45, List.getElem?_toArray, Z46, Int.toNat_natCast, Nat.sub_zero, Int.toNat_sub, Sx.Z47, ite_self, ty_3, ty_22, ty_23, ty_24, ty_26, ty_54, ty_102]
  have hN : isN (r.take st, r.drop st) = true := by simp only [Bool.not_eq_false', decide_eq_true_eq] at he1 he2; simp [isN, ← he1, ← he2]
  have hem : emit k st 0 r = [(r.take st, r.drop st)] := by simp [emit, hN]
  simp only [Bool.not_eq_false', decide_eq_true_eq] at he1 he2
  have o7' := o7.cast he1.symm he2.symm
  have hfar : ∀ b, i.in (.slice p r.length c) b → ¬ roomW (.agg #[.slice x1 (nStem (r.take st) (r.drop st)).length z1, .slice y1 (nLoop (r.take st) (r.drop st)).length t1]) b := fun b hb h => by
    have h1 := (o7.lo h).1
    have h2 := Itr.lt hB ⟨hv, ho⟩ hb
    have h3 := hB2.size
    omega
  refine YieldA.mono (hR pre (r.take st, r.drop st) G _ w7 ⟨rest, by rw [← hx, hem]⟩ ((hJ pre).keep hj (Kp.below hB7)) (o7'.lower (Nat.zero_le _)) fun b hb hg => ?_) ?_
  · have h1 := (o7.lo hb).1
    have h2 := (hJ pre).lt hj b hg
    have h3 := hB2.size
    omega
  rintro u w8 ⟨G', hk8, hs8, hor⟩
  have hin : ∀ b, i.in (.slice p r.length c) b → w8.heap[b]? = W.heap[b]? := fun b hb => by
    have hlt := Itr.lt hB ⟨hv, ho⟩ hb
    rw [hk8.block b (Nat.lt_of_lt_of_le hlt hB7.size) (fun h => h.elim (hd b hb) (hfar b hb)), hB7.block b hlt]
  have hG' : ∀ b, G' b → G b ∨ W.heap.size ≤ b := fun b hb => by
    rcases hs8 b hb with h | h | h
    · exact .inl h
    · exact .inr (Nat.le_trans hB2.size (o7.lo h).1)
    · exact .inr (Nat.le_trans hB7.size h)
  have res : ∀ z, (z = Value.bool true ∧ J (pre ++ [(r.take st, r.drop st)]) G' w8 ∨ z = Value.bool false ∧ Jx (pre ++ [(r.take st, r.drop st)]) G' w8) → MoreQ k st l i xs J Jx 0 W r (.slice p r.length c) pre G z w8 := by
    intro z hz
    refine ⟨G', .slice p r.length c, ?_, ⟨?_, ?_⟩, fun b hb hg => ?_, ?_, hG', fun b h => .inl h, ?_⟩
    · exact ItB.keep hB (fun b hb _ _ _ => hin b hb) (fun b hb => ho.blk hb) hv
    · rw [hin _ (.inl rfl)]; exact hv
    · exact OwnC.keep ho fun g hg => hin g (.inr (.inr (.inr (.inr (.inr hg)))))
    · rcases hG' b hg with h | h
      · exact hd b hb h
      · have := Itr.lt hB ⟨hv, ho⟩ hb; omega
    · refine (Kp.below hB7).trans hk8 fun b hb h => ?_
      rcases h with h | h
      · exact .inl h
      · have h1 := (o7.lo h).1; have h2 := hB2.size; omega
    · rw [hem]
      exact hz.imp id fun h => ⟨h.1, _, ⟨rest, by rw [← hx, hem]⟩, h.2⟩
  rcases hor with ⟨rfl, hj'⟩ | ⟨rfl, hj'⟩
  · simp only [Z00, Z01, Z02, Z03, Z04, Z05, Z06, Z07, Z08, Z09, ↓Z0a, ↓Z0b, ↓Z0c, ↓Z0d, ↓Z0e, ↓Z0f, ↓Z0g, ↓Z0h, ↓Z0i, ↓Z0j, ↓Z0k, ↓Z0l, ↓Z0m, ↓Z0n, ↓Z0o, ↓Z0p, resL, res1, resK, Z0q, Z0r, Z0s, Z0t, Z0u, Z0v, Z0w, Z0x, Z0y, Z0z, Z10, Z11, Z12, Z13, Z14, ↓Z15, ↓Z16, Z17, Z18, Z19, Z1a, Z1b, Z1c, ↓Z1d, ↓Z1e, Z1f, ↓Z1g, ↓Z1h, ↓Z1i, ↓Z1j, ↓Z1l, ↓Z1m, ↓Z1n, ↓Z1o, ↓Z1q, ↓Z1r, ↓Z1u, ↓Z1v, ↓Z1y, ↓Z1z, ↓Z20, ↓Z21, Y00, Z2h, ↓Z2i, ↓Z2j, ↓Z2k, ↓Z2l, ↓Z2m, ↓Z2o, ↓Z2p, ↓Z2q, ↓Z2t, ↓Z2u, ↓Z2x, Z2y, Z2z, Z30, Z31, Z32, Z33, ev_t, ev_c, ev_g, ev_f, hv_t, hv_f, hv_n, Z34, Z35, Z36, Y01, Y02, Y03, Y04, Y05, Z3a, Y06, Y07, nth?, Y08, Y09, Y0a, Y0b, Y0c, Y0d, Y0e, putN, Z3i, repL, Y0f, Y0g, Y0h, Y0i, Y0j, Y0k, Y0l, Y0m, Y0n, Y0o, Y0p, Y0q, Y0r, Y0s, Z3r, Z3s, Z3t, depB, Fd, Fall, Dis, Dis1, Z3u, Z3v, appC, appN, mapC, mapN, List.append_eq, Z3w, Array.toArray_toList, Z3x, Z3y, List.getElem?_cons_zero, List.getElem?_cons_succ, Nat.reduceAdd, Nat.reduceSub, Nat.reduceMul, Nat.reduceEqDiff, Nat.zero_add, Nat.add_zero, Nat.mul_one, Nat.zero_mul, if_true, if_false, eq_self, true_and, and_true, reduceCtorEq, false_and, Addr.add_lit, ne_eq, not_false_eq_true, Array.empty_append, Array.append_empty, ↓Z3z, ↓Z40, ↓Z41, ↓Z42, ↓Z43, ↓Z44, ↓Z45, List.getElem?_toArray, Z46, Int.toNat_natCast, Nat.sub_zero, Int.toNat_sub, Sx.Z47, ite_self, ty_3, ty_22, ty_23, ty_24, ty_26, ty_54, ty_102]
    exact res _ (.inl ⟨rfl, hj'⟩)
  · simp only [Z00, Z01, Z02, Z03, Z04, Z05, Z06, Z07, Z08, Z09, ↓Z0a, ↓Z0b, ↓Z0c, ↓Z0d, ↓Z0e, ↓Z0f, ↓Z0g, ↓Z0h, ↓Z0i, ↓Z0j, ↓Z0k, ↓Z0l, ↓Z0m, ↓Z0n, ↓Z0o, ↓Z0p, resL, res1, resK, Z0q, Z0r, Z0s, Z0t, Z0u, Z0v, Z0w, Z0x, Z0y, Z0z, Z10, Z11, Z12, Z13, Z14, ↓Z15, ↓Z16, Z17, Z18, Z19, Z1a, Z1b, Z1c, ↓Z1d, ↓Z1e, Z1f, ↓Z1g, ↓Z1h, ↓Z1i, ↓Z1j, ↓Z1l, ↓Z1m, ↓Z1n, ↓Z1o, ↓Z1q, ↓Z1r, ↓Z1u, ↓Z1v, ↓Z1y, ↓Z1z, ↓Z20, ↓Z21, Y00, Z2h, ↓Z2i, ↓Z2j, ↓Z2k, ↓Z2l, ↓Z2m, ↓Z2o, ↓Z2p, ↓Z2q, ↓Z2t, ↓Z2u, ↓Z2x, Z2y, Z2z, Z30, Z31, Z32, Z33, ev_t, ev_c, ev_g, ev_f, hv_t, hv_f, hv_n, Z34, Z35, Z36, Y01, Y02, Y03, Y04, Y05, Z3a, Y06, Y07, nth?, Y08, Y09, Y0a, Y0b, Y0c, Y0d, Y0e, putN, Z3i, repL, Y0f, Y0g, Y0h, Y0i, Y0j, Y0k, Y0l, Y0m, Y0n, Y0o, Y0p, Y0q, Y0r, Y0s, Z3r, Z3s, Z3t, depB, Fd, Fall, Dis, Dis1, Z3u, Z3v, appC, appN, mapC, mapN, List.append_eq, Z3w, Array.toArray_toList, Z3x, Z3y, List.getElem?_cons_zero, List.getElem?_cons_succ, Nat.reduceAdd, Nat.reduceSub, Nat.reduceMul, Nat.reduceEqDiff, Nat.zero_add, Nat.add_zero, Nat.mul_one, Nat.zero_mul, if_true, if_false, eq_self, true_and, and_true, reduceCtorEq, false_and, Addr.add_lit, ne_eq, not_false_eq_true, Array.empty_append, Array.append_empty, ↓Z3z, ↓Z40, ↓Z41, ↓Z42, ↓Z43, ↓Z44, ↓Z45, List.getElem?_toArray, Z46, Int.toNat_natCast, Nat.sub_zero, Int.toNat_sub, Sx.Z47, ite_self, ty_3, ty_22, ty_23, ty_24, ty_26, ty_54, ty_102]
    exact res _ (.inr ⟨rfl, hj'⟩)

theorem OwnU.upto {w : World} {base n c : Nat} {p : Option Addr} {l : List Int} (h : OwnU w base (.slice p n c) l) {m : Nat} (hm : m ≤ l.length) : OwnU w base (.slice p m c) (l.take m) := by
  obtain ⟨h1, h2, h3⟩ := h
  have hl : (l.take m).length = m := by rw [List.length_take]; omega
  refine ⟨by simp [nums], by rw [hl]; omega, ?_⟩
  rcases h3 with ⟨q, e, h⟩ | ⟨g, cap, cur, e, hb, hh, hn, hc, hs, ht⟩
  · simp only [Value.slice.injEq] at e
    obtain ⟨rfl, rfl, rfl⟩ := e
    left
    exact ⟨p, by simp; omega, by rw [hl]; omega⟩
  · simp only [Value.slice.injEq] at e
    obtain ⟨rfl, rfl, rfl⟩ := e
    right
    refine ⟨g, c, cur, by rw [hl], hb, hh, by rw [hl]; omega, hc, hs, ?_⟩
    rw [hl, nums, List.map_take]
    have : nums .u16 l = cur.toList.take (l.length * 1) := ht.symm
    rw [nums] at this
    rw [this, List.take_take]
    congr 1
    omega

set_option maxHeartbeats 1000000 in
theorem more_any (k st l : Nat) (hk : k ≤ 8) (xs : List Wrd) (J Jx : List Wrd → (Nat → Prop) → World → Prop) (hJ : ∀ pre, Terr (J pre)) (hJx : ∀ pre, Terr (Jx pre)) (hR : Rnd C.P l encW xs J Jx) (i : Itr) : ∀ (n : Nat) (W : World) (r : List Int) (v : Value) (pre rest : List Wrd) (G : Nat → Prop)
    (hB : ItB i k st l W) (hr : ItR i W v r) (hd : ∀ b, i.in v b → ¬ G b) (hj : J pre G W) (hx : pre ++ emit k st n r ++ rest = xs) (hl : r.length + n ≤ 1000000000) (hst : st ≤ r.length + n),
    CallG C.P 72 #[.int .i64 n, ptr i.rc, ptr i.sc, ptr i.yc, ptr i.pc, ptr i.mc] W (MoreQ k st l i xs J Jx n W r v pre G) := by
  intro n
  induction n with
  | zero => intro W r v pre rest G hB hr hd hj hx hl hst; exact more_zero k st l xs J Jx hJ hJx hR i W r v pre rest G hB hr hd hj hx hl hst
  | succ n ih =>
    intro W r v pre rest G hB hr hd hj hx hl hst
    have hv := hr.1
    refine fn_ok (C := C) (args := [_, _, _, _, _, _]) 58 [.tmp 7] Tryd.func72 rfl rfl rfl rfl ?_
    simp only [Tryd.f72, Z00, Z01, Z02, Z03, Z04, Z05, Z06, Z07, Z08, Z09, ↓Z0a, ↓Z0b, ↓Z0c, ↓Z0d, ↓Z0e, ↓Z0f, ↓Z0g, ↓Z0h, ↓Z0i, ↓Z0j, ↓Z0k, ↓Z0l, ↓Z0m, ↓Z0n, ↓Z0o, ↓Z0p, resL, res1, resK, Z0q, Z0r, Z0s, Z0t, Z0u, Z0v, Z0w, Z0x, Z0y, Z0z, Z10, Z11, Z12, Z13, Z14, ↓Z15, ↓Z16, Z17, Z18, Z19, Z1a, Z1b, Z1c, ↓Z1d, ↓Z1e, Z1f, ↓Z1g, ↓Z1h, ↓Z1i, ↓Z1j, ↓Z1l, ↓Z1m, ↓Z1n, ↓Z1o, ↓Z1q, ↓Z1r, ↓Z1u, ↓Z1v, ↓Z1y, ↓Z1z, ↓Z20, ↓Z21, Y00, Z2h, ↓Z2i, ↓Z2j, ↓Z2k, ↓Z2l, ↓Z2m, ↓Z2o, ↓Z2p, ↓Z2q, ↓Z2t, ↓Z2u, ↓Z2x, Z2y, Z2z, Z30, Z31, Z32, Z33, ev_t, ev_c, ev_g, ev_f, hv_t, hv_f, hv_n, Z34, Z35, Z36, Y01, Y02, Y03, Y04, Y05, Z3a, Y06, Y07, nth?, Y08, Y09, Y0a, Y0b, Y0c, Y0d, Y0e, putN, Z3i, repL, Y0f, Y0g, Y0h, Y0i, Y0j, Y0k, Y0l, Y0m, Y0n, Y0o, Y0p, Y0q, Y0r, Y0s, Z3r, Z3s, Z3t, depB, Fd, Fall, Dis, Dis1, Z3u, Z3v, appC, appN, mapC, mapN, List.append_eq, Z3w, Array.toArray_toList, Z3x, Z3y, List.getElem?_cons_zero, List.getElem?_cons_succ, Nat.reduceAdd, Nat.reduceSub, Nat.reduceMul, Nat.reduceEqDiff, Nat.zero_add, Nat.add_zero, Nat.mul_one, Nat.zero_mul, if_true, if_false, eq_self, true_and, and_true, reduceCtorEq, false_and, Addr.add_lit, ne_eq, not_false_eq_true, Array.empty_append, Array.append_empty, ↓Z3z, ↓Z40, ↓Z41, ↓Z42, ↓Z43, ↓Z44, ↓Z45, List.getElem?_toArray, Z46, Int.toNat_natCast, Nat.sub_zero, Int.toNat_sub, Sx.Z47, ite_self, ty_3, ty_22, ty_23, ty_24, ty_26, ty_54, ty_102, ptr]
    refine BrE (fun h => absurd h (by omega)) (fun _ => ?_)
    simp only [ldInt_blk hB.pc, Z00, Z01, Z02, Z03, Z04, Z05, Z06, Z07, Z08, Z09, ↓Z0a, ↓Z0b, ↓Z0c, ↓Z0d, ↓Z0e, ↓Z0f, ↓Z0g, ↓Z0h, ↓Z0i, ↓Z0j, ↓Z0k, ↓Z0l, ↓Z0m, ↓Z0n, ↓Z0o, ↓Z0p, resL, res1, resK, Z0q, Z0r, Z0s, Z0t, Z0u, Z0v, Z0w, Z0x, Z0y, Z0z, Z10, Z11, Z12, Z13, Z14, ↓Z15, ↓Z16, Z17, Z18, Z19, Z1a, Z1b, Z1c, ↓Z1d, ↓Z1e, Z1f, ↓Z1g, ↓Z1h, ↓Z1i, ↓Z1j, ↓Z1l, ↓Z1m, ↓Z1n, ↓Z1o, ↓Z1q, ↓Z1r, ↓Z1u, ↓Z1v, ↓Z1y, ↓Z1z, ↓Z20, ↓Z21, Y00, Z2h, ↓Z2i, ↓Z2j, ↓Z2k, ↓Z2l, ↓Z2m, ↓Z2o, ↓Z2p, ↓Z2q, ↓Z2t, ↓Z2u, ↓Z2x, Z2y, Z2z, Z30, Z31, Z32, Z33, ev_t, ev_c, ev_g, ev_f, hv_t, hv_f, hv_n, Z34, Z35, Z36, Y01, Y02, Y03, Y04, Y05, Z3a, Y06, Y07, nth?, Y08, Y09, Y0a, Y0b, Y0c, Y0d, Y0e, putN, Z3i, repL, Y0f, Y0g, Y0h, Y0i, Y0j, Y0k, Y0l, Y0m, Y0n, Y0o, Y0p, Y0q, Y0r, Y0s, Z3r, Z3s, Z3t, depB, Fd, Fall, Dis, Dis1, Z3u, Z3v, appC, appN, mapC, mapN, List.append_eq, Z3w, Array.toArray_toList, Z3x, Z3y, List.getElem?_cons_zero, List.getElem?_cons_succ, Nat.reduceAdd, Nat.reduceSub, Nat.reduceMul, Nat.reduceEqDiff, Nat.zero_add, Nat.add_zero, Nat.mul_one, Nat.zero_mul, if_true, if_false, eq_self, true_and, and_true, reduceCtorEq, false_and, Addr.add_lit, ne_eq, not_false_eq_true, Array.empty_append, Array.append_empty, ↓Z3z, ↓Z40, ↓Z41, ↓Z42, ↓Z43, ↓Z44, ↓Z45, List.getElem?_toArray, Z46, Int.toNat_natCast, Nat.sub_zero, Int.toNat_sub, Sx.Z47, ite_self, ty_3, ty_22, ty_23, ty_24, ty_26, ty_54, ty_102]
    refine ⟨by omega, ?_⟩
    have h2k : 2 ^ k ≤ 256 := by
      calc 2 ^ k ≤ 2 ^ 8 := Nat.pow_le_pow_right (by decide) hk
        _ = 256 := rfl
    obtain ⟨m, hm⟩ : ∃ m, m = 2 ^ k := ⟨_, rfl⟩
    have hshl : IntKind.i64.wrap (1 * 2 ^ min k IntKind.i64.bits) = (m : Int) := by
      have : min k IntKind.i64.bits = k := by simp [IntKind.bits]; omega
      rw [this, Int.one_mul]
      rw [show ((2 : Int) ^ k) = (m : Int) by rw [hm]; simp]
      exact wi (by omega) (by omega)
    have h2m : m ≤ 256 := by omega
    rw [hshl]
    refine loop_ok [false, false, false, false, false, false, false, true, false, false, true, true, false, false, false, false, false, false, false, false, false, false, false, false, false, false, false, false, false, false, false, false, false, false, false, false, false, false, false, false, false, false, false, false, true, true, true, true, true, true, true, true, true, true, true, true, true, true, true, true, true, true, true, true] (fun u wr => ∃ c : Nat, u 44 = .int .i64 c ∧ c ≤ m ∧ ∃ G' v', ItB i k st l wr ∧ ItR i wr v' r ∧ (∀ b, i.in v' b → ¬ G' b) ∧ Kp (fun b => G b ∨ b = i.rc ∨ roomOf v = some b) W wr ∧ (∀ b, G' b → G b ∨ W.heap.size ≤ b) ∧
        (∀ b, roomOf v' = some b → roomOf v = some b ∨ W.heap.size ≤ b) ∧ J (pre ++ (List.range c).flatMap fun (c : Nat) => emit k st n (r ++ [(c : Int)])) G' wr)
      (fun u wr => m - (intOf (u 44)).toNat) ⟨rfl, 0, rfl, Nat.zero_le _, G, v, hB, hr, hd, Kp.refl _ _, fun b h => .inl h, fun b h => .inl h, by simpa using hj⟩ ?_
    rintro u w1 ⟨c, h44, hc, G1, v1, hB1, hr1, hd1, hk1, hG1, hv1, hj1⟩
    simp only [Z00, Z01, Z02, Z03, Z04, Z05, Z06, Z07, Z08, Z09, ↓Z0a, ↓Z0b, ↓Z0c, ↓Z0d, ↓Z0e, ↓Z0f, ↓Z0g, ↓Z0h, ↓Z0i, ↓Z0j, ↓Z0k, ↓Z0l, ↓Z0m, ↓Z0n, ↓Z0o, ↓Z0p, resL, res1, resK, Z0q, Z0r, Z0s, Z0t, Z0u, Z0v, Z0w, Z0x, Z0y, Z0z, Z10, Z11, Z12, Z13, Z14, ↓Z15, ↓Z16, Z17, Z18, Z19, Z1a, Z1b, Z1c, ↓Z1d, ↓Z1e, Z1f, ↓Z1g, ↓Z1h, ↓Z1i, ↓Z1j, ↓Z1l, ↓Z1m, ↓Z1n, ↓Z1o, ↓Z1q, ↓Z1r, ↓Z1u, ↓Z1v, ↓Z1y, ↓Z1z, ↓Z20, ↓Z21, Y00, Z2h, ↓Z2i, ↓Z2j, ↓Z2k, ↓Z2l, ↓Z2m, ↓Z2o, ↓Z2p, ↓Z2q, ↓Z2t, ↓Z2u, ↓Z2x, Z2y, Z2z, Z30, Z31, Z32, Z33, ev_t, ev_c, ev_g, ev_f, hv_t, hv_f, hv_n, Z34, Z35, Z36, Y01, Y02, Y03, Y04, Y05, Z3a, Y06, Y07, nth?, Y08, Y09, Y0a, Y0b, Y0c, Y0d, Y0e, putN, Z3i, repL, Y0f, Y0g, Y0h, Y0i, Y0j, Y0k, Y0l, Y0m, Y0n, Y0o, Y0p, Y0q, Y0r, Y0s, Z3r, Z3s, Z3t, depB, Fd, Fall, Dis, Dis1, Z3u, Z3v, appC, appN, mapC, mapN, List.append_eq, Z3w, Array.toArray_toList, Z3x, Z3y, List.getElem?_cons_zero, List.getElem?_cons_succ, Nat.reduceAdd, Nat.reduceSub, Nat.reduceMul, Nat.reduceEqDiff, Nat.zero_add, Nat.add_zero, Nat.mul_one, Nat.zero_mul, if_true, if_false, eq_self, true_and, and_true, reduceCtorEq, false_and, Addr.add_lit, ne_eq, not_false_eq_true, Array.empty_append, Array.append_empty, ↓Z3z, ↓Z40, ↓Z41, ↓Z42, ↓Z43, ↓Z44, ↓Z45, List.getElem?_toArray, Z46, Int.toNat_natCast, Nat.sub_zero, Int.toNat_sub, Sx.Z47, ite_self, ty_3, ty_22, ty_23, ty_24, ty_26, ty_54, ty_102, h44]
    refine BrD (fun hlt => ?_) (fun hge => ?_)
    · have hlt : c < m := by omega
      obtain ⟨hv1b, ho1⟩ := hr1
      obtain ⟨p, cp, rfl⟩ := ho1.out
      have hcap := ho1.rd.out
      obtain ⟨_, _, ecap, hcap1, hcap2, _⟩ := hcap
      cases ecap
      have ewc : IntKind.u16.wrap (c : Int) = c := by
        have : IntKind.u16.wrap (c : Int) = (c : Int) % 65536 := by simp [IntKind.wrap, IntKind.signed, IntKind.bits]
        omega
      simp only [ldSl_blk hv1b, ewc, Z00, Z01, Z02, Z03, Z04, Z05, Z06, Z07, Z08, Z09, ↓Z0a, ↓Z0b, ↓Z0c, ↓Z0d, ↓Z0e, ↓Z0f, ↓Z0g, ↓Z0h, ↓Z0i, ↓Z0j, ↓Z0k, ↓Z0l, ↓Z0m, ↓Z0n, ↓Z0o, ↓Z0p, resL, res1, resK, Z0q, Z0r, Z0s, Z0t, Z0u, Z0v, Z0w, Z0x, Z0y, Z0z, Z10, Z11, Z12, Z13, Z14, ↓Z15, ↓Z16, Z17, Z18, Z19, Z1a, Z1b, Z1c, ↓Z1d, ↓Z1e, Z1f, ↓Z1g, ↓Z1h, ↓Z1i, ↓Z1j, ↓Z1l, ↓Z1m, ↓Z1n, ↓Z1o, ↓Z1q, ↓Z1r, ↓Z1u, ↓Z1v, ↓Z1y, ↓Z1z, ↓Z20, ↓Z21, Y00, Z2h, ↓Z2i, ↓Z2j, ↓Z2k, ↓Z2l, ↓Z2m, ↓Z2o, ↓Z2p, ↓Z2q, ↓Z2t, ↓Z2u, ↓Z2x, Z2y, Z2z, Z30, Z31, Z32, Z33, ev_t, ev_c, ev_g, ev_f, hv_t, hv_f, hv_n, Z34, Z35, Z36, Y01, Y02, Y03, Y04, Y05, Z3a, Y06, Y07, nth?, Y08, Y09, Y0a, Y0b, Y0c, Y0d, Y0e, putN, Z3i, repL, Y0f, Y0g, Y0h, Y0i, Y0j, Y0k, Y0l, Y0m, Y0n, Y0o, Y0p, Y0q, Y0r, Y0s, Z3r, Z3s, Z3t, depB, Fd, Fall, Dis, Dis1, Z3u, Z3v, appC, appN, mapC, mapN, List.append_eq, Z3w, Array.toArray_toList, Z3x, Z3y, List.getElem?_cons_zero, List.getElem?_cons_succ, Nat.reduceAdd, Nat.reduceSub, Nat.reduceMul, Nat.reduceEqDiff, Nat.zero_add, Nat.add_zero, Nat.mul_one, Nat.zero_mul, if_true, if_false, eq_self, true_and, and_true, reduceCtorEq, false_and, Addr.add_lit, ne_eq, not_false_eq_true, Array.empty_append, Array.append_empty, ↓Z3z, ↓Z40, ↓Z41, ↓Z42, ↓Z43, ↓Z44, ↓Z45, List.getElem?_toArray, Z46, Int.toNat_natCast, Nat.sub_zero, Int.toNat_sub, Sx.Z47, ite_self, ty_3, ty_22, ty_23, ty_24, ty_26, ty_54, ty_102, h44]
      refine ⟨⟨by omega, rfl⟩, ⟨rfl, by simp⟩, ?_⟩
      intro b w2 n2
      refine appU (ho1.below n2.ext) (rd1 n2) (by simp; omega) (Nat.zero_le _) ?_
      intro v2 w3 ho3 hg3 hroom3 _
      obtain ⟨p2, c2, rfl⟩ := ho3.out
      obtain ⟨v2, hv2⟩ : ∃ v2, v2 = Value.slice p2 (r ++ [(c : Int)]).length c2 := ⟨_, rfl⟩
      have hlt1 : ∀ b, i.in (.slice p r.length cp) b → b < w1.heap.size := fun b hb => Itr.lt hB1 ⟨hv1b, ho1⟩ hb
      have hrcr : roomOf (.slice p r.length cp) ≠ some i.rc := fun e => by obtain ⟨cs, hcs⟩ := ho1.blk e; rw [hv1b] at hcs; simp at hcs
      have hk13 : Kp (fun b => roomOf (.slice p r.length cp) = some b) w1 w3 := (Kp.new n2).trans (Kp.grown hg3) (fun _ _ h => h)
      have hrc3 := hk13.at_ hv1b hrcr
      simp only [Z00, Z01, Z02, Z03, Z04, Z05, Z06, Z07, Z08, Z09, ↓Z0a, ↓Z0b, ↓Z0c, ↓Z0d, ↓Z0e, ↓Z0f, ↓Z0g, ↓Z0h, ↓Z0i, ↓Z0j, ↓Z0k, ↓Z0l, ↓Z0m, ↓Z0n, ↓Z0o, ↓Z0p, resL, res1, resK, Z0q, Z0r, Z0s, Z0t, Z0u, Z0v, Z0w, Z0x, Z0y, Z0z, Z10, Z11, Z12, Z13, Z14, ↓Z15, ↓Z16, Z17, Z18, Z19, Z1a, Z1b, Z1c, ↓Z1d, ↓Z1e, Z1f, ↓Z1g, ↓Z1h, ↓Z1i, ↓Z1j, ↓Z1l, ↓Z1m, ↓Z1n, ↓Z1o, ↓Z1q, ↓Z1r, ↓Z1u, ↓Z1v, ↓Z1y, ↓Z1z, ↓Z20, ↓Z21, Y00, Z2h, ↓Z2i, ↓Z2j, ↓Z2k, ↓Z2l, ↓Z2m, ↓Z2o, ↓Z2p, ↓Z2q, ↓Z2t, ↓Z2u, ↓Z2x, Z2y, Z2z, Z30, Z31, Z32, Z33, ev_t, ev_c, ev_g, ev_f, hv_t, hv_f, hv_n, Z34, Z35, Z36, Y01, Y02, Y03, Y04, Y05, Z3a, Y06, Y07, nth?, Y08, Y09, Y0a, Y0b, Y0c, Y0d, Y0e, putN, Z3i, repL, Y0f, Y0g, Y0h, Y0i, Y0j, Y0k, Y0l, Y0m, Y0n, Y0o, Y0p, Y0q, Y0r, Y0s, Z3r, Z3s, Z3t, depB, Fd, Fall, Dis, Dis1, Z3u, Z3v, appC, appN, mapC, mapN, List.append_eq, Z3w, Array.toArray_toList, Z3x, Z3y, List.getElem?_cons_zero, List.getElem?_cons_succ, Nat.reduceAdd, Nat.reduceSub, Nat.reduceMul, Nat.reduceEqDiff, Nat.zero_add, Nat.add_zero, Nat.mul_one, Nat.zero_mul, if_true, if_false, eq_self, true_and, and_true, reduceCtorEq, false_and, Addr.add_lit, ne_eq, not_false_eq_true, Array.empty_append, Array.append_empty, ↓Z3z, ↓Z40, ↓Z41, ↓Z42, ↓Z43, ↓Z44, ↓Z45, List.getElem?_toArray, Z46, Int.toNat_natCast, Nat.sub_zero, Int.toNat_sub, Sx.Z47, ite_self, ty_3, ty_22, ty_23, ty_24, ty_26, ty_54, ty_102]
      refine ⟨rfl, StA.of hrc3 (by simp) (by simp [Value.oneCell']) ?_⟩
      intro w4 u4
      rw [← hv2] at ho3 hroom3
      have hk14 : Kp (fun b => b = i.rc ∨ roomOf (.slice p r.length cp) = some b) w1 w4 := (hk13.mono fun _ _ h => .inr h).trans (Kp.upd u4 (T := fun b => b = i.rc ∨ roomOf (.slice p r.length cp) = some b) (.inl rfl)) (fun _ _ h => h)
      have hB4 : ItB i k st l w4 := ItB.keep hB1 (fun b hb hlt h1 h2 => hk14.block b hlt (fun h => h.elim h1 h2)) (fun b hb => ho1.blk hb) hv1b
      have hrc2 : roomOf v2 ≠ some i.rc := by
        rcases hroom3 with h | h
        · rw [h]; exact hrcr
        · rw [h]; intro e; have := hlt1 i.rc (.inl rfl); have := n2.size; simp at e; omega
      have ho4 : OwnU w4 0 v2 (r ++ [(c : Int)]) := OwnC.keep ho3 fun g hg => u4.rest g (by rintro rfl; exact hrc2 hg)
      have hr4 : ItR i w4 v2 (r ++ [(c : Int)]) := ⟨by rw [hv2]; exact u4.at_, ho4⟩
      have hd4 : ∀ b, i.in v2 b → ¬ G1 b := by
        rintro b (h | h | h | h | h | h) hg
        · exact hd1 b (.inl h) hg
        · exact hd1 b (.inr (.inl h)) hg
        · exact hd1 b (.inr (.inr (.inl h))) hg
        · exact hd1 b (.inr (.inr (.inr (.inl h)))) hg
        · exact hd1 b (.inr (.inr (.inr (.inr (.inl h))))) hg
        · rcases hroom3 with h' | h'
          · rw [h'] at h; exact hd1 b (.inr (.inr (.inr (.inr (.inr h))))) hg
          · have h1 := (hJ _).lt hj1 b hg
            have := n2.size
            rw [h'] at h; simp at h; omega
      have hj4 := (hJ _).keep hj1 (hk14.mono (T' := fun b => ¬ G1 b) fun b _ h hg => by
        rcases h with rfl | h
        · exact hd1 _ (.inl rfl) hg
        · exact hd1 _ (.inr (.inr (.inr (.inr (.inr h))))) hg)
      simp only [ldAny_blk hB4.mc, show ((n + 1 : Nat) : Int) - 1 = (n : Int) by omega, wi (n := (n : Int)) (by omega) (by omega), Itr.caps, List.append_toArray, List.cons_append, List.nil_append, Z00, Z01, Z02, Z03, Z04, Z05, Z06, Z07, Z08, Z09, ↓Z0a, ↓Z0b, ↓Z0c, ↓Z0d, ↓Z0e, ↓Z0f, ↓Z0g, ↓Z0h, ↓Z0i, ↓Z0j, ↓Z0k, ↓Z0l, ↓Z0m, ↓Z0n, ↓Z0o, ↓Z0p, resL, res1, resK, Z0q, Z0r, Z0s, Z0t, Z0u, Z0v, Z0w, Z0x, Z0y, Z0z, Z10, Z11, Z12, Z13, Z14, ↓Z15, ↓Z16, Z17, Z18, Z19, Z1a, Z1b, Z1c, ↓Z1d, ↓Z1e, Z1f, ↓Z1g, ↓Z1h, ↓Z1i, ↓Z1j, ↓Z1l, ↓Z1m, ↓Z1n, ↓Z1o, ↓Z1q, ↓Z1r, ↓Z1u, ↓Z1v, ↓Z1y, ↓Z1z, ↓Z20, ↓Z21, Y00, Z2h, ↓Z2i, ↓Z2j, ↓Z2k, ↓Z2l, ↓Z2m, ↓Z2o, ↓Z2p, ↓Z2q, ↓Z2t, ↓Z2u, ↓Z2x, Z2y, Z2z, Z30, Z31, Z32, Z33, ev_t, ev_c, ev_g, ev_f, hv_t, hv_f, hv_n, Z34, Z35, Z36, Y01, Y02, Y03, Y04, Y05, Z3a, Y06, Y07, nth?, Y08, Y09, Y0a, Y0b, Y0c, Y0d, Y0e, putN, Z3i, repL, Y0f, Y0g, Y0h, Y0i, Y0j, Y0k, Y0l, Y0m, Y0n, Y0o, Y0p, Y0q, Y0r, Y0s, Z3r, Z3s, Z3t, depB, Fd, Fall, Dis, Dis1, Z3u, Z3v, appC, appN, mapC, mapN, List.append_eq, Z3w, Array.toArray_toList, Z3x, Z3y, List.getElem?_cons_zero, List.getElem?_cons_succ, Nat.reduceAdd, Nat.reduceSub, Nat.reduceMul, Nat.reduceEqDiff, Nat.zero_add, Nat.add_zero, Nat.mul_one, Nat.zero_mul, if_true, if_false, eq_self, true_and, and_true, reduceCtorEq, false_and, Addr.add_lit, ne_eq, not_false_eq_true, Array.empty_append, Array.append_empty, ↓Z3z, ↓Z40, ↓Z41, ↓Z42, ↓Z43, ↓Z44, ↓Z45, List.getElem?_toArray, Z46, Int.toNat_natCast, Nat.sub_zero, Int.toNat_sub, Sx.Z47, ite_self, ty_3, ty_22, ty_23, ty_24, ty_26, ty_54, ty_102]
      obtain ⟨d, hdm⟩ : ∃ d, m = c + 1 + d := ⟨m - (c + 1), by omega⟩
      have hcall := (ih w4 (r ++ [(c : Int)]) v2 _ (((List.range d).map (c + 1 + ·)).flatMap (fun (c : Nat) => emit k st n (r ++ [(c : Int)])) ++ rest) G1 hB4 hr4 hd4 hj4 (by
        rw [← hx, emit, ← hm, hdm, List.range_add, List.flatMap_append, List.range_succ, List.flatMap_append]
        simp) (by simp; omega) (by simp; omega))
      refine hcall.mono ?_
      rintro u5 w5 ⟨G2, v5, hB5, hr5, hd5, hk5, hG5, hv5, hor⟩
      obtain ⟨hv5b, ho5⟩ := hr5
      obtain ⟨p5, c5, rfl⟩ := ho5.out
      obtain ⟨_, _, ecap, h5cap1, h5cap2, _⟩ := ho5.rd.out
      cases ecap
      have hl1 : (((r ++ [(c : Int)]).length : Nat) : Int) - 1 = (r.length : Nat) := by simp
      have hl0 : r.length ≤ c5 := by simp at h5cap1; omega
      simp only [ldSl_blk hv5b, hl1, wi (n := ((r.length : Nat) : Int)) (by omega) (by omega), Z00, Z01, Z02, Z03, Z04, Z05, Z06, Z07, Z08, Z09, ↓Z0a, ↓Z0b, ↓Z0c, ↓Z0d, ↓Z0e, ↓Z0f, ↓Z0g, ↓Z0h, ↓Z0i, ↓Z0j, ↓Z0k, ↓Z0l, ↓Z0m, ↓Z0n, ↓Z0o, ↓Z0p, resL, res1, resK, Z0q, Z0r, Z0s, Z0t, Z0u, Z0v, Z0w, Z0x, Z0y, Z0z, Z10, Z11, Z12, Z13, Z14, ↓Z15, ↓Z16, Z17, Z18, Z19, Z1a, Z1b, Z1c, ↓Z1d, ↓Z1e, Z1f, ↓Z1g, ↓Z1h, ↓Z1i, ↓Z1j, ↓Z1l, ↓Z1m, ↓Z1n, ↓Z1o, ↓Z1q, ↓Z1r, ↓Z1u, ↓Z1v, ↓Z1y, ↓Z1z, ↓Z20, ↓Z21, Y00, Z2h, ↓Z2i, ↓Z2j, ↓Z2k, ↓Z2l, ↓Z2m, ↓Z2o, ↓Z2p, ↓Z2q, ↓Z2t, ↓Z2u, ↓Z2x, Z2y, Z2z, Z30, Z31, Z32, Z33, ev_t, ev_c, ev_g, ev_f, hv_t, hv_f, hv_n, Z34, Z35, Z36, Y01, Y02, Y03, Y04, Y05, Z3a, Y06, Y07, nth?, Y08, Y09, Y0a, Y0b, Y0c, Y0d, Y0e, putN, Z3i, repL, Y0f, Y0g, Y0h, Y0i, Y0j, Y0k, Y0l, Y0m, Y0n, Y0o, Y0p, Y0q, Y0r, Y0s, Z3r, Z3s, Z3t, depB, Fd, Fall, Dis, Dis1, Z3u, Z3v, appC, appN, mapC, mapN, List.append_eq, Z3w, Array.toArray_toList, Z3x, Z3y, List.getElem?_cons_zero, List.getElem?_cons_succ, Nat.reduceAdd, Nat.reduceSub, Nat.reduceMul, Nat.reduceEqDiff, Nat.zero_add, Nat.add_zero, Nat.mul_one, Nat.zero_mul, if_true, if_false, eq_self, true_and, and_true, reduceCtorEq, false_and, Addr.add_lit, ne_eq, not_false_eq_true, Array.empty_append, Array.append_empty, ↓Z3z, ↓Z40, ↓Z41, ↓Z42, ↓Z43, ↓Z44, ↓Z45, List.getElem?_toArray, Z46, Int.toNat_natCast, Nat.sub_zero, Int.toNat_sub, Sx.Z47, ite_self, ty_3, ty_22, ty_23, ty_24, ty_26, ty_54, ty_102]
      refine ⟨.inl trivial, ⟨by omega, by omega⟩, ⟨rfl, StA.of hv5b (by simp) (by simp [Value.oneCell']) ?_⟩⟩
      intro w6 u6
      have hrc5 : roomOf (.slice p5 (r ++ [(c : Int)]).length c5) ≠ some i.rc := fun e => by obtain ⟨cs, hcs⟩ := ho5.blk e; rw [hv5b] at hcs; simp at hcs
      have ho6 : OwnU w6 0 (.slice p5 r.length c5) r := by
        have := OwnU.upto (m := r.length) (OwnC.keep (w' := w6) ho5 fun g hg => u6.rest g (by rintro rfl; exact hrc5 hg)) (by simp)
        simpa using this
      have hB6 : ItB i k st l w6 := ItB.keep hB5 (fun b hb _ h1 _ => u6.rest b h1) (fun b hb => ho5.blk hb) hv5b
      have hr6 : ItR i w6 (.slice p5 r.length c5) r := ⟨u6.at_, ho6⟩
      have hroom6 : roomOf (.slice p5 r.length c5) = roomOf (.slice p5 (r ++ [(c : Int)]).length c5) := by cases p5 <;> rfl
      have hd6 : ∀ b, i.in (.slice p5 r.length c5) b → ¬ G2 b := fun b hb => hd5 b (by unfold Itr.in at hb ⊢; rw [hroom6] at hb; exact hb)
      have hroom2 : ∀ b, roomOf v2 = some b → roomOf (.slice p r.length cp) = some b ∨ w1.heap.size ≤ b := fun b hb => by
        rcases hroom3 with h | h
        · rw [h] at hb; exact .inl hb
        · have := n2.size; rw [h] at hb; simp at hb; exact .inr (by omega)
      have hk16 : Kp (fun b => G1 b ∨ b = i.rc ∨ roomOf (.slice p r.length cp) = some b) w1 w6 := by
        refine ((hk14.mono fun _ _ h => .inr h).trans hk5 ?_).trans (Kp.upd u6 (T := fun b => b = i.rc) rfl) (fun _ _ h => .inr (.inl h))
        intro b hlt h
        rcases h with h | h | h
        · exact .inl h
        · exact .inr (.inl h)
        · exact .inr (.inr ((hroom2 b h).resolve_right (by omega)))
      have hk6 : Kp (fun b => G b ∨ b = i.rc ∨ roomOf v = some b) W w6 := by
        refine hk1.trans hk16 ?_
        intro b hlt h
        rcases h with h | h | h
        · exact .inl ((hG1 b h).resolve_right (by omega))
        · exact .inr (.inl h)
        · exact .inr (.inr ((hv1 b h).resolve_right (by omega)))
      have hsz1 := hk1.size
      have hsz4 := hk14.size
      have hG6 : ∀ b, G2 b → G b ∨ W.heap.size ≤ b := fun b hb => by
        rcases hG5 b hb with h | h
        · exact hG1 b h
        · exact .inr (by omega)
      have hv6 : ∀ b, roomOf (.slice p5 r.length c5) = some b → roomOf v = some b ∨ W.heap.size ≤ b := fun b hb => by
        rw [hroom6] at hb
        rcases hv5 b hb with h | h
        · rcases hroom2 b h with h | h
          · exact hv1 b h
          · exact .inr (by omega)
        · exact .inr (by omega)
      have hkG : Kp (fun b => ¬ G2 b) w5 w6 := Kp.upd u6 (fun h => hd5 _ (.inl rfl) h)
      rcases hor with ⟨rfl, hj5⟩ | ⟨rfl, q, hq, hj5⟩
      · simp only [Z00, Z01, Z02, Z03, Z04, Z05, Z06, Z07, Z08, Z09, ↓Z0a, ↓Z0b, ↓Z0c, ↓Z0d, ↓Z0e, ↓Z0f, ↓Z0g, ↓Z0h, ↓Z0i, ↓Z0j, ↓Z0k, ↓Z0l, ↓Z0m, ↓Z0n, ↓Z0o, ↓Z0p, resL, res1, resK, Z0q, Z0r, Z0s, Z0t, Z0u, Z0v, Z0w, Z0x, Z0y, Z0z, Z10, Z11, Z12, Z13, Z14, ↓Z15, ↓Z16, Z17, Z18, Z19, Z1a, Z1b, Z1c, ↓Z1d, ↓Z1e, Z1f, ↓Z1g, ↓Z1h, ↓Z1i, ↓Z1j, ↓Z1l, ↓Z1m, ↓Z1n, ↓Z1o, ↓Z1q, ↓Z1r, ↓Z1u, ↓Z1v, ↓Z1y, ↓Z1z, ↓Z20, ↓Z21, Y00, Z2h, ↓Z2i, ↓Z2j, ↓Z2k, ↓Z2l, ↓Z2m, ↓Z2o, ↓Z2p, ↓Z2q, ↓Z2t, ↓Z2u, ↓Z2x, Z2y, Z2z, Z30, Z31, Z32, Z33, ev_t, ev_c, ev_g, ev_f, hv_t, hv_f, hv_n, Z34, Z35, Z36, Y01, Y02, Y03, Y04, Y05, Z3a, Y06, Y07, nth?, Y08, Y09, Y0a, Y0b, Y0c, Y0d, Y0e, putN, Z3i, repL, Y0f, Y0g, Y0h, Y0i, Y0j, Y0k, Y0l, Y0m, Y0n, Y0o, Y0p, Y0q, Y0r, Y0s, Z3r, Z3s, Z3t, depB, Fd, Fall, Dis, Dis1, Z3u, Z3v, appC, appN, mapC, mapN, List.append_eq, Z3w, Array.toArray_toList, Z3x, Z3y, List.getElem?_cons_zero, List.getElem?_cons_succ, Nat.reduceAdd, Nat.reduceSub, Nat.reduceMul, Nat.reduceEqDiff, Nat.zero_add, Nat.add_zero, Nat.mul_one, Nat.zero_mul, if_true, if_false, eq_self, true_and, and_true, reduceCtorEq, false_and, Addr.add_lit, ne_eq, not_false_eq_true, Array.empty_append, Array.append_empty, ↓Z3z, ↓Z40, ↓Z41, ↓Z42, ↓Z43, ↓Z44, ↓Z45, List.getElem?_toArray, Z46, Int.toNat_natCast, Nat.sub_zero, Int.toNat_sub, Sx.Z47, ite_self, ty_3, ty_22, ty_23, ty_24, ty_26, ty_54, ty_102, h44]
        refine ⟨fun h => absurd h (by simp), fun _ => ⟨⟨c + 1, by rw [wi (by omega) (by omega)]; rfl, by omega, G2, _, hB6, hr6, hd6, hk6, hG6, hv6, ?_⟩, ?_⟩⟩
        · have := (hJ _).keep hj5 hkG
          rw [List.range_succ, List.flatMap_append, ← List.append_assoc]
          simpa using this
        · rw [wi (by omega) (by omega)]; simp only [intOf]; omega
      · simp only [Z00, Z01, Z02, Z03, Z04, Z05, Z06, Z07, Z08, Z09, ↓Z0a, ↓Z0b, ↓Z0c, ↓Z0d, ↓Z0e, ↓Z0f, ↓Z0g, ↓Z0h, ↓Z0i, ↓Z0j, ↓Z0k, ↓Z0l, ↓Z0m, ↓Z0n, ↓Z0o, ↓Z0p, resL, res1, resK, Z0q, Z0r, Z0s, Z0t, Z0u, Z0v, Z0w, Z0x, Z0y, Z0z, Z10, Z11, Z12, Z13, Z14, ↓Z15, ↓Z16, Z17, Z18, Z19, Z1a, Z1b, Z1c, ↓Z1d, ↓Z1e, Z1f, ↓Z1g, ↓Z1h, ↓Z1i, ↓Z1j, ↓Z1l, ↓Z1m, ↓Z1n, ↓Z1o, ↓Z1q, ↓Z1r, ↓Z1u, ↓Z1v, ↓Z1y, ↓Z1z, ↓Z20, ↓Z21, Y00, Z2h, ↓Z2i, ↓Z2j, ↓Z2k, ↓Z2l, ↓Z2m, ↓Z2o, ↓Z2p, ↓Z2q, ↓Z2t, ↓Z2u, ↓Z2x, Z2y, Z2z, Z30, Z31, Z32, Z33, ev_t, ev_c, ev_g, ev_f, hv_t, hv_f, hv_n, Z34, Z35, Z36, Y01, Y02, Y03, Y04, Y05, Z3a, Y06, Y07, nth?, Y08, Y09, Y0a, Y0b, Y0c, Y0d, Y0e, putN, Z3i, repL, Y0f, Y0g, Y0h, Y0i, Y0j, Y0k, Y0l, Y0m, Y0n, Y0o, Y0p, Y0q, Y0r, Y0s, Z3r, Z3s, Z3t, depB, Fd, Fall, Dis, Dis1, Z3u, Z3v, appC, appN, mapC, mapN, List.append_eq, Z3w, Array.toArray_toList, Z3x, Z3y, List.getElem?_cons_zero, List.getElem?_cons_succ, Nat.reduceAdd, Nat.reduceSub, Nat.reduceMul, Nat.reduceEqDiff, Nat.zero_add, Nat.add_zero, Nat.mul_one, Nat.zero_mul, if_true, if_false, eq_self, true_and, and_true, reduceCtorEq, false_and, Addr.add_lit, ne_eq, not_false_eq_true, Array.empty_append, Array.append_empty, ↓Z3z, ↓Z40, ↓Z41, ↓Z42, ↓Z43, ↓Z44, ↓Z45, List.getElem?_toArray, Z46, Int.toNat_natCast, Nat.sub_zero, Int.toNat_sub, Sx.Z47, ite_self, ty_3, ty_22, ty_23, ty_24, ty_26, ty_54, ty_102]
        refine ⟨fun _ => ?_, fun h => absurd h (by simp)⟩
        exact ⟨G2, _, hB6, hr6, hd6, hk6, hG6, hv6, .inr ⟨rfl, q, hq, (hJx q).keep hj5 hkG⟩⟩
    · obtain rfl : c = m := by omega
      exact ⟨G1, v1, hB1, hr1, hd1, hk1, hG1, hv1, .inl ⟨rfl, by rw [emit, ← hm]; exact hj1⟩⟩
end Go.Proofs.YtdpfafgecchafaaDoor

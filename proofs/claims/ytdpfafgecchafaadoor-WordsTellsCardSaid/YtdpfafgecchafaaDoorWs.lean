/- The owner's book: lists of letters that nobody else holds. -/
import Derived.Test.YtdpfafgecchafaaDoorWe
import Derived.Test.YtdpfafgecchafaaDoorWb
import Derived.Test.YtdpfafgecchafaaDoorSxR
set_option linter.unusedVariables false
set_option maxRecDepth 20000
set_option linter.unusedSimpArgs false
namespace Go.Proofs.YtdpfafgecchafaaDoor
open Go Go.RowKit Sx

/-- append, told sharply: in the list's own room, or in a new block -/
theorem app2 {P : Program} {w : World} {t ty e : TypeId} {sz bytes : Nat} (E : Elem P t e sz bytes) {base : Nat} {v x : Value} {n m : Nat} {xs news : List Value} {K : KV} (hown : OwnC w base e sz v n xs) (hx : RdC w sz x m news) (h1 : ∀ u ∈ news, u.oneCell' = true)
    (hm : n + m ≤ most) (hbytes : (n + m) * bytes ≤ 140737488355328) (hm0 : 0 < m)
    (hin : ∀ g cap cur w', v = .slice (some ⟨g, 0, none⟩) n cap → base ≤ g → w.heap[g]? = some (.cells cur e (0, 0)) → n + m ≤ cap → cap ≤ maxLen → cur.size = cap * sz → cur.toList.take (n * sz) = xs →
      Upd w g (.cells (cur.toList.take (n * sz) ++ news ++ cur.toList.drop (n * sz + news.length)).toArray e (0, 0)) w' → K (.slice (some ⟨g, 0, none⟩) (n + m) cap) w')
    (hnew : ∀ v' w', OwnC w' w.heap.size e sz v' (n + m) (xs ++ news) → Below w.heap.size w w' → K v' w') : RunA P (Builtin.append_ #[t, t] ty #[v, x]) w K := by
  obtain ⟨q, d, rfl, hd1, hd2, hd3, hlen, hcell⟩ := hx
  obtain ⟨i, z, hi, hz, hs, hb, hzs⟩ := E.info
  have hmm : n + m ≤ maxLen := by simp only [most, maxLen] at *; omega
  have hlen2 : (xs ++ news).length = (n + m) * sz := by rw [List.length_append, hown.1, hlen, Nat.add_mul]
  obtain ⟨b, o, rfl, hlt, hc⟩ := hcell hm0
  have hc' := rdC_add (sz := sz) (n := m) (c := d) hc
  subst hs hb
  have grown : ∀ (old : Nat), old < n + m →
      OwnC (w.drew.alloc (.cells (xs.toArray ++ news.toArray ++ Builtin.zeroCells z.cells (grownCap w (n + m) old e - (n + m))) e)) w.heap.size e i.size
        (.slice (some ⟨w.heap.size, 0, none⟩) (n + m) (grownCap w (n + m) old e)) (n + m) (xs ++ news) ∧
      Below w.heap.size w (w.drew.alloc (.cells (xs.toArray ++ news.toArray ++ Builtin.zeroCells z.cells (grownCap w (n + m) old e - (n + m))) e)) := by
    intro old ho
    have hge := grownCap_ge w (n + m) old e
    have hcm : grownCap w (n + m) old e ≤ maxLen := grownCap_le_maxLen w (n + m) old e hmm
    refine ⟨⟨hlen2, hm, .inr ⟨w.heap.size, _, _, rfl, Nat.le_refl _, heap_alloc_new w.drew _, hge, hcm, ?_, ?_⟩⟩, ⟨rfl, rfl, rfl, by simp, fun k hk => Below.heap_alloc w.drew _ k hk⟩⟩
    · simp only [Array.size_append, List.size_toArray, size_zeroCells, hzs, hown.1, hlen, ← Nat.add_mul]
      congr 1
      omega
    · simp only [Array.toList_append, List.append_assoc]
      rw [← List.append_assoc, ← hlen2]
      exact List.take_left
  have done : ∀ v' w', (Builtin.append_ #[t, t] ty #[v, .slice (some ⟨b, o, none⟩) m d]).run P w = .ok v' w' → OwnC w' w.heap.size e i.size v' (n + m) (xs ++ news) → Below w.heap.size w w' → RunA P (Builtin.append_ #[t, t] ty #[v, .slice (some ⟨b, o, none⟩) m d]) w K := by
    intro v' w' hr h2 h3
    unfold RunA
    rw [hr]
    exact ⟨KeepD.below h3, hnew _ _ h2 h3⟩
  rcases hown.2.2 with ⟨p, rfl, rfl⟩ | ⟨g, cap, cur, rfl, hbg, hg, hnc, hcm, hcs, htake⟩
  · have hx0 : xs = [] := List.eq_nil_of_length_eq_zero (by simpa using hown.1)
    subst hx0
    have hgr := grown 0 (by omega)
    cases p with
    | none =>
      have hr := run_append_nil (P := P) w t ty e i z E.und hi hz ⟨b, o, none⟩ m d news hlen hc' (by omega) (by simp only [most] at hm; omega) (by have hb := hbytes; simp only [Nat.zero_add] at hb; omega)
      simp only [Nat.zero_add, List.nil_append, Array.empty_append] at hgr hr hnew done
      exact done _ _ hr hgr.1 hgr.2
    | some a =>
      have hr := run_append_grow (P := P) w t ty e i z E.und hi hz a 0 0 [] (by simp) (by simp) ⟨b, o, none⟩ m d news hlen hc' (by omega) (by simp only [most] at hm; omega) (growslice_fits (by omega) hbytes)
      exact done _ _ hr hgr.1 hgr.2
  · by_cases hroom : n + m ≤ cap
    · have hfit : n * i.size + news.length ≤ cur.size := by rw [hlen, hcs, ← Nat.add_mul]; exact Nat.mul_le_mul_right _ hroom
      have hr := run_append_room (P := P) w t ty e i E.und hi g n cap cur hg ⟨b, o, none⟩ m d news hlen hc' h1 hroom hfit
      have u : Upd w g (.cells (cur.toList.take (n * i.size) ++ news ++ cur.toList.drop (n * i.size + news.length)).toArray e (0, 0)) (w.setRow g (cur.toList.take (n * i.size) ++ news ++ cur.toList.drop (n * i.size + news.length)).toArray) := ⟨(Array.getElem?_eq_some_iff.1 hg).1, setRow_heap w g cur _ e _ hg, fun k hk => setRow_other w g k _ hk, by simp, rfl, rfl, rfl⟩
      unfold RunA
      rw [hr]
      exact ⟨KeepD.upd hg u, hin g cap cur _ rfl hbg hg hroom hcm hcs htake u⟩
    · have holds : ∀ j u, xs[j]? = some u → w.cell? ((⟨g, 0, none⟩ : Addr).add j) = some u := by
        obtain ⟨p', c', hv', _, _, _, _, hcc⟩ := hown.rd
        cases hv'
        intro j u hu
        have hn0 : 0 < n := by
          rcases Nat.eq_zero_or_pos n with rfl | h
          · have := hown.1; simp at this; subst this; simp at hu
          · exact h
        obtain ⟨b', o', hb', _, hcc⟩ := hcc hn0
        cases hb'
        rw [Addr.add_lit]; exact hcc j u hu
      have hr := run_append_grow (P := P) w t ty e i z E.und hi hz ⟨g, 0, none⟩ n cap xs hown.1 holds ⟨b, o, none⟩ m d news hlen hc' (by omega) (by simp only [most] at hm; omega) (growslice_fits (by omega) hbytes)
      have hgr := grown cap (by omega)
      exact done _ _ hr hgr.1 hgr.2

/-- a list stays what it is while its block keeps the list's part -/
theorem OwnC.upd_pre {w w' : World} {base g sz n : Nat} {e : TypeId} {v : Value} {ys : List Value} {cur cur' : Array Value} (h : OwnC w base e sz v n ys) (hg : w.heap[g]? = some (.cells cur e (0, 0))) (u : Upd w g (.cells cur' e (0, 0)) w') (hs : cur'.size = cur.size)
    (ht : roomOf v = some g → cur'.toList.take (n * sz) = cur.toList.take (n * sz)) : OwnC w' base e sz v n ys := by
  by_cases hr : roomOf v = some g
  · obtain ⟨h1, h2, h3⟩ := h
    refine ⟨h1, h2, ?_⟩
    rcases h3 with ⟨p, rfl, rfl⟩ | ⟨b, cap, cu, rfl, hb, hh, hn, hc, hsz, hta⟩
    · exact .inl ⟨p, rfl, rfl⟩
    · simp only [roomOf] at hr
      split at hr
      · cases hr
      · cases hr
        rw [hg] at hh
        cases hh
        exact .inr ⟨g, cap, cur', rfl, hb, u.at_, hn, hc, by rw [hs]; exact hsz, by rw [ht (by simp only [roomOf]; rw [if_neg (by assumption)])]; exact hta⟩
  · exact h.keep fun k hk => u.rest k (by rintro rfl; exact hr hk)

/-- blocks of another kind turn: a list stays -/
theorem OwnC.upd_ty {w w' : World} {base g sz n : Nat} {e e' : TypeId} {v : Value} {ys : List Value} {cur : Array Value} {o : Obj} (h : OwnC w base e sz v n ys) (hg : w.heap[g]? = some (.cells cur e' (0, 0))) (hne : e' ≠ e) (u : Upd w g o w') : OwnC w' base e sz v n ys := by
  obtain ⟨h1, h2, h3⟩ := h
  refine ⟨h1, h2, ?_⟩
  rcases h3 with h3 | ⟨b, cap, cu, hv, hb, hh, hr⟩
  · exact .inl h3
  · refine .inr ⟨b, cap, cu, hv, hb, ?_, hr⟩
    rw [u.rest b (by rintro rfl; rw [hg] at hh; simp at hh; exact hne hh.2)]
    exact hh

theorem vv_get {vs : List Value} {j : Nat} (h : j < vs.length) : vs[j]? = some (vs.getD j (.slice none 0 0)) := by simp [List.getD, h]

/-- an element of a list of lists -/
theorem atS {w : World} {base : Nat} {vL : Value} {vs : List Value} {e : TypeId} (h : OwnC w base e 1 vL vs.length vs) {i : Nat} (hi : i < vs.length) {p : Option Addr} {n c : Nat} (hv : vs.getD i (.slice none 0 0) = .slice p n c) {K : Nat → Nat → Option Addr → Nat → Nat → Prop} (hk : ∀ b o, K b o p n c) :
    IxA 1 vL (i : Int) fun b o => LdSl w ⟨b, o, none⟩ (K b o) := by
  obtain ⟨q, d, rfl, h1, h2, h3, h4, h5⟩ := h.rd
  obtain ⟨b, o, rfl, hlt, hc⟩ := h5 (by omega)
  refine ⟨b, o, vs.length, d, rfl, by omega, by omega, p, n, c, ?_, hk _ _⟩
  have := hc i _ (vv_get hi)
  rw [hv] at this
  rw [Int.toNat_natCast, Nat.mul_one]; exact this

theorem nums_set (l : List Int) (k : Nat) (x : Int) : nums .u16 (l.set k x) = (nums .u16 l).set k (.int .u16 x) := by simp [nums]

/-- a letter of a list of one's own is written -/
theorem OwnU.put {w : World} {base : Nat} {v : Value} {l : List Int} (h : OwnU w base v l) {k : Nat} (hk : k < l.length) {x : Int} {K : World → Prop}
    (hK : ∀ g cur o w', roomOf v = some g → base ≤ g → w.heap[g]? = some (.cells cur 54 (0, 0)) → Upd w g o w' → OwnU w' base v (l.set k x) → K w') :
    IxA 1 v (k : Int) fun b o => [Value.int .u16 x].length = 1 ∧ StA w ⟨b, o, none⟩ [.int .u16 x] K := by
  obtain ⟨h1, h2, h3⟩ := h
  rcases h3 with ⟨p, rfl, h0⟩ | ⟨g, cap, cur, rfl, hb, hh, hn, hc, hs, ht⟩
  · omega
  · refine ⟨g, 0, l.length, cap, rfl, by omega, by omega, ?_⟩
    rw [Int.toNat_natCast, Nat.mul_one, Nat.zero_add]
    have hcur : k + 1 ≤ cur.size := by omega
    refine ⟨rfl, StA.of hh hcur (by simp [Value.oneCell']) ?_⟩
    intro w' u
    have hroom : roomOf (.slice (some ⟨g, 0, none⟩) l.length cap) = some g := by simp only [roomOf]; rw [if_neg (by omega)]
    refine hK g cur _ w' hroom hb hh u ?_
    refine ⟨by simp [nums], by rw [List.length_set]; exact h2, .inr ⟨g, cap, _, by rw [List.length_set], hb, u.at_, by rw [List.length_set]; exact hn, hc, ?_, ?_⟩⟩
    · simp only [List.size_toArray, List.length_append, List.length_take, List.length_drop, Array.length_toList, List.length_cons, List.length_nil]
      omega
    · rw [List.length_set, nums_set, ← ht]
      have e : (cur.toList.take k ++ [Value.int .u16 x] ++ cur.toList.drop (k + [Value.int .u16 x].length)).toArray.toList = cur.toList.set k (.int .u16 x) := by
        rw [List.set_eq_take_append_cons_drop, if_pos (by simpa using (by omega : k < cur.size))]
        simp
      rw [e, List.take_set]

theorem app2C {P : Program} {w : World} {t ty e : TypeId} {bytes : Nat} (E : Elem P t e 1 bytes) {base : Nat} {v x : Value} {n m : Nat} {xs news : List Value} {K : KV} (hown : OwnC w base e 1 v n xs) (hx : RdC w 1 x m news) (h1 : ∀ u ∈ news, u.oneCell' = true)
    (hm : n + m ≤ most) (hbytes : (n + m) * bytes ≤ 140737488355328) (hm0 : 0 < m)
    (hin : ∀ v' g cur cur' w', roomOf v = some g → base ≤ g → w.heap[g]? = some (.cells cur e (0, 0)) → cur'.size = cur.size → cur'.toList.take n = cur.toList.take n → Upd w g (.cells cur' e (0, 0)) w' → OwnC w' base e 1 v' (n + m) (xs ++ news) → roomOf v' = some g → K v' w')
    (hnew : ∀ v' w', OwnC w' w.heap.size e 1 v' (n + m) (xs ++ news) → Below w.heap.size w w' → K v' w') : RunA P (Builtin.append_ #[t, t] ty #[v, x]) w K := by
  have hlen : news.length = m * 1 := by obtain ⟨_, _, _, _, _, _, h, _⟩ := hx; exact h
  have hxl : xs.length = n * 1 := hown.1
  refine app2 E hown hx h1 hm hbytes hm0 ?_ hnew
  intro g cap cur w' hv hb hh hc hcm hcs ht u
  subst hv
  have hcap : cap ≠ 0 := by omega
  refine hin _ g cur _ w' (by simp [roomOf, hcap]) hb hh ?_ ?_ u ?_ (by simp [roomOf, hcap])
  · simp only [List.size_toArray, List.length_append, List.length_take, List.length_drop, Array.length_toList]
    omega
  · rw [List.append_assoc, List.take_append_of_le_length (by rw [List.length_take, Array.length_toList]; omega), Nat.mul_one, List.take_take, Nat.min_self]
  · refine ⟨by rw [List.length_append]; omega, hm, .inr ⟨g, cap, _, rfl, hb, u.at_, hc, hcm, ?_, ?_⟩⟩
    · simp only [List.size_toArray, List.length_append, List.length_take, List.length_drop, Array.length_toList]
      omega
    · rw [ht]
      exact List.take_left' (by rw [List.length_append]; omega)

theorem E22 : Elem C.P 34 22 1 24 := elem_of (z := .slice none 0 0) (by kernel_rfl) (by kernel_rfl) rfl (by decide)
theorem rdV1 {w w' : World} {b : Nat} {x : Value} {e : TypeId} (n : New w b (.cells #[x] e) w') : RdC w' 1 (.slice (some ⟨b, 0, none⟩) 1 1) 1 [x] :=
  ⟨_, 1, rfl, Nat.le_refl _, by decide, by decide, rfl, fun _ => ⟨b, 0, rfl, (Array.getElem?_eq_some_iff.1 n.at_).1, fun j y hy => by
    cases j with
    | zero => simp at hy; subst hy; rw [cell_of_blk n.at_]; rfl
    | succ j => simp at hy⟩⟩

/-- nothing below base turns, no book turns -/
def Bel (base : Nat) (w w' : World) : Prop := Below base w w' ∧ ∀ (k : Nat) (cs : Array Value), w.heap[k]? = some (Obj.cells cs 44 (0, 0)) → w'.heap[k]? = some (Obj.cells cs 44 (0, 0))
theorem Bel.refl (base : Nat) (w : World) : Bel base w w := ⟨Below.refl _ _, fun _ _ h => h⟩
theorem Bel.upd {base g : Nat} {w wr wr' : World} {cur : Array Value} {e : TypeId} {o : Obj} (h : Bel base w wr) (hb : base ≤ g) (hh : wr.heap[g]? = some (.cells cur e (0, 0))) (hne : e ≠ 44) (u : Upd wr g o wr') : Bel base w wr' :=
  ⟨h.1.trans (u.below hb), fun k cs hk => by
    have := h.2 k cs hk
    rw [u.rest k (by rintro rfl; rw [hh] at this; simp at this; exact hne this.2)]; exact this⟩
theorem Bel.below {base : Nat} {w wr wr' : World} (h : Bel base w wr) (hb : Below wr.heap.size wr wr') (hs : base ≤ wr.heap.size) : Bel base w wr' := ⟨h.1.trans (hb.mono hs), fun k cs hk => bheap hb (h.2 k cs hk)⟩

def pA (i k : Nat) : Int := IntKind.u16.wrap ((i : Int) * 1009 + (k : Int) * 31)
def pB (i k : Nat) : Int := IntKind.u16.wrap ((-1 - (i : Int)) * 1009 + (k : Int) * 31)
def pL (i n : Nat) : List Int := (List.range n).map (pA i)
def pM (i n : Nat) : List Int := (List.range n).map (pB i)
theorem pL_len (i n : Nat) : (pL i n).length = n := by simp [pL]
theorem pM_succ (i n : Nat) : pM i (n + 1) = pM i n ++ [pB i n] := by simp [pM, List.range_succ]
theorem pL_nth {i n k : Nat} (h : k < n) : nth (pL i n) k = pA i k := by simp [nth_eq?, pL, h]
theorem pM_nth {i n k : Nat} (h : k < n) : nth (pM i n) k = pB i k := by simp [nth_eq?, pM, h]

set_option maxHeartbeats 2000000 in
theorem ownLetters_any (w : World) (base : Nat) (vL : Value) (vs : List Value) (c0 : Nat → List Int) (hL : OwnC w base 22 1 vL vs.length vs) (hbase : base ≤ w.heap.size)
    (hv : ∀ j, j < vs.length → OwnU w base (vs.getD j (.slice none 0 0)) (c0 j)) (hd : ∀ j k, j < vs.length → k < vs.length → j ≠ k → ∀ g, roomOf (vs.getD j (.slice none 0 0)) = some g → roomOf (vs.getD k (.slice none 0 0)) ≠ some g)
    (hm : vs.length ≤ 1000000) (hn : ∀ j, j < vs.length → (c0 j).length ≤ 70000000000000) :
    CallG C.P 61 #[vL] w (fun v w' => v = .bool true ∧ Bel base w w') := by
  obtain ⟨pL0, cL0, rfl, hL1, hL2, hL3, hLl, hLc⟩ := hL.rd
  clear hLc
  refine fn_ok (C := C) (args := [_]) 134 [.tmp 2] Tryd.func61 rfl rfl rfl rfl ?_
  simp only [Tryd.f61, Z00, Z01, Z02, Z03, Z04, Z05, Z06, Z07, Z08, Z09, ↓Z0a, ↓Z0b, ↓Z0c, ↓Z0d, ↓Z0e, ↓Z0f, ↓Z0g, ↓Z0h, ↓Z0i, ↓Z0j, ↓Z0k, ↓Z0l, ↓Z0m, ↓Z0n, ↓Z0o, ↓Z0p, resL, res1, resK, Z0q, Z0r, Z0s, Z0t, Z0u, Z0v, Z0w, Z0x, Z0y, Z0z, Z10, Z11, Z12, Z13, Z14, ↓Z15, ↓Z16, Z17, Z18, Z19, Z1a, Z1b, Z1c, ↓Z1d, ↓Z1e, Z1f, ↓Z1g, ↓Z1h, ↓Z1i, ↓Z1m, ↓Z1n, ↓Z1o, ↓Z1q, ↓Z1w, ↓Z1y, ↓Z1z, ↓Z20, ↓Z21, Y00, Z2h, ↓Z2i, ↓Z2j, ↓Z2k, ↓Z2m, ↓Z2o, ↓Z2q, ↓Z2v, ↓Z2x, Z2y, Z2z, Z30, Z31, Z32, Z33, ev_t, ev_c, ev_g, ev_f, hv_t, hv_f, hv_n, Z34, Z35, Z36, Y01, Y02, Y03, Y04, Y05, Z3a, Y06, Y07, nth?, Y08, Y09, Y0a, Y0b, Y0c, Y0d, Y0e, putN, Z3i, repL, Y0f, Y0g, Y0h, Y0i, Y0j, Y0k, Y0l, Y0m, Y0n, Y0o, Y0p, Y0q, Y0r, Y0s, Z3r, Z3s, Z3t, depB, Fd, Fall, Dis, Dis1, Z3u, Z3v, appC, appN, mapC, mapN, List.append_eq, Z3w, Array.toArray_toList, Z3x, Z3y, List.getElem?_cons_zero, List.getElem?_cons_succ, Nat.reduceAdd, Nat.reduceSub, Nat.reduceMul, Nat.reduceEqDiff, Nat.zero_add, Nat.add_zero, Nat.mul_one, Nat.zero_mul, if_true, if_false, eq_self, true_and, and_true, reduceCtorEq, false_and, Addr.add_lit, ne_eq, not_false_eq_true, Array.empty_append, Array.append_empty, ↓Z3z, ↓Z40, ↓Z41, ↓Z42, ↓Z43, ↓Z44, ↓Z45, List.getElem?_toArray, Z46, Int.toNat_natCast, Nat.sub_zero, Int.toNat_sub, Sx.Z47, ite_self, ty_3, ty_22, ty_34, ty_54]
  -- marks
  refine loop_ok [false, false, false, true, true, false, false, false, false, false, false, false, false, true, true, true, true, true, true, true, true, true, true, true, true, true, true, true, true, true, true, true, true, true, true, true, true, true, true, true, false, false, false, false, false, false, false, false, false, false, false, false, false, false, false, false, false, false, false, false, false, false, false, false, false, false, false, false, false, false, false, false, false, false, false, false, false, false, false, false, false, false, false, false, false, false, false, false, false, false, false, false, false, false, false, false, false, false, false, false, false, false, false, false, false, false, false, false, false, false, false, false, false, false, false, false, false, false, false, false, false, false, false, false, false, false, false, false, false, false, false, false, false, false, false] (fun u wr => ∃ i : Nat, u 3 = .int .i64 i ∧ i ≤ vs.length ∧ Bel base w wr ∧ OwnC wr base 22 1 (.slice pL0 vs.length cL0) vs.length vs ∧
      ∃ c : Nat → List Int, (∀ j, j < vs.length → OwnU wr base (vs.getD j (.slice none 0 0)) (c j) ∧ (c j).length = (c0 j).length) ∧ ∀ j, j < i → c j = pL j (c0 j).length)
    (fun u wr => vs.length - (intOf (u 3)).toNat) ⟨rfl, 0, rfl, Nat.zero_le _, Bel.refl _ _, hL, c0, fun j hj => ⟨hv j hj, rfl⟩, fun j h => absurd h (by omega)⟩ ?_
  rintro u wr0 ⟨i, h3, hi, hB, hLw, c, hc1, hc2⟩
  simp only [Z00, Z01, Z02, Z03, Z04, Z05, Z06, Z07, Z08, Z09, ↓Z0a, ↓Z0b, ↓Z0c, ↓Z0d, ↓Z0e, ↓Z0f, ↓Z0g, ↓Z0h, ↓Z0i, ↓Z0j, ↓Z0k, ↓Z0l, ↓Z0m, ↓Z0n, ↓Z0o, ↓Z0p, resL, res1, resK, Z0q, Z0r, Z0s, Z0t, Z0u, Z0v, Z0w, Z0x, Z0y, Z0z, Z10, Z11, Z12, Z13, Z14, ↓Z15, ↓Z16, Z17, Z18, Z19, Z1a, Z1b, Z1c, ↓Z1d, ↓Z1e, Z1f, ↓Z1g, ↓Z1h, ↓Z1i, ↓Z1m, ↓Z1n, ↓Z1o, ↓Z1q, ↓Z1w, ↓Z1y, ↓Z1z, ↓Z20, ↓Z21, Y00, Z2h, ↓Z2i, ↓Z2j, ↓Z2k, ↓Z2m, ↓Z2o, ↓Z2q, ↓Z2v, ↓Z2x, Z2y, Z2z, Z30, Z31, Z32, Z33, ev_t, ev_c, ev_g, ev_f, hv_t, hv_f, hv_n, Z34, Z35, Z36, Y01, Y02, Y03, Y04, Y05, Z3a, Y06, Y07, nth?, Y08, Y09, Y0a, Y0b, Y0c, Y0d, Y0e, putN, Z3i, repL, Y0f, Y0g, Y0h, Y0i, Y0j, Y0k, Y0l, Y0m, Y0n, Y0o, Y0p, Y0q, Y0r, Y0s, Z3r, Z3s, Z3t, depB, Fd, Fall, Dis, Dis1, Z3u, Z3v, appC, appN, mapC, mapN, List.append_eq, Z3w, Array.toArray_toList, Z3x, Z3y, List.getElem?_cons_zero, List.getElem?_cons_succ, Nat.reduceAdd, Nat.reduceSub, Nat.reduceMul, Nat.reduceEqDiff, Nat.zero_add, Nat.add_zero, Nat.mul_one, Nat.zero_mul, if_true, if_false, eq_self, true_and, and_true, reduceCtorEq, false_and, Addr.add_lit, ne_eq, not_false_eq_true, Array.empty_append, Array.append_empty, ↓Z3z, ↓Z40, ↓Z41, ↓Z42, ↓Z43, ↓Z44, ↓Z45, List.getElem?_toArray, Z46, Int.toNat_natCast, Nat.sub_zero, Int.toNat_sub, Sx.Z47, ite_self, ty_3, ty_22, ty_34, ty_54, h3]
  refine BrD (fun hlt => ?_) (fun hge => ?_)
  · have hlt : i < vs.length := by omega
    refine loop_ok [false, false, false, false, true, false, false, false, false, false, false, false, false, false, false, false, false, false, false, true, true, true, true, true, true, true, true, true, true, true, true, true, true, true, true, true, true, true, true, true, false, false, false, false, false, false, false, false, false, false, false, false, false, false, false, false, false, false, false, false, false, false, false, false, false, false, false, false, false, false, false, false, false, false, false, false, false, false, false, false, false, false, false, false, false, false, false, false, false, false, false, false, false, false, false, false, false, false, false, false, false, false, false, false, false, false, false, false, false, false, false, false, false, false, false, false, false, false, false, false, false, false, false, false, false, false, false, false, false, false, false, false, false, false, false] (fun u wr => ∃ k : Nat, u 4 = .int .i64 k ∧ k ≤ (c0 i).length ∧ Bel base w wr ∧ OwnC wr base 22 1 (.slice pL0 vs.length cL0) vs.length vs ∧
        ∃ c : Nat → List Int, (∀ j, j < vs.length → OwnU wr base (vs.getD j (.slice none 0 0)) (c j) ∧ (c j).length = (c0 j).length) ∧ (∀ j, j < i → c j = pL j (c0 j).length) ∧ ∀ k', k' < k → nth (c i) k' = pA i k')
      (fun u wr => (c0 i).length - (intOf (u 4)).toNat) ⟨rfl, 0, rfl, Nat.zero_le _, hB, hLw, c, hc1, hc2, fun k h => absurd h (by omega)⟩ ?_
    rintro u2 wr ⟨k, h4, hk, hB, hLw, c, hc1, hc2, hc3⟩
    simp only [Z00, Z01, Z02, Z03, Z04, Z05, Z06, Z07, Z08, Z09, ↓Z0a, ↓Z0b, ↓Z0c, ↓Z0d, ↓Z0e, ↓Z0f, ↓Z0g, ↓Z0h, ↓Z0i, ↓Z0j, ↓Z0k, ↓Z0l, ↓Z0m, ↓Z0n, ↓Z0o, ↓Z0p, resL, res1, resK, Z0q, Z0r, Z0s, Z0t, Z0u, Z0v, Z0w, Z0x, Z0y, Z0z, Z10, Z11, Z12, Z13, Z14, ↓Z15, ↓Z16, Z17, Z18, Z19, Z1a, Z1b, Z1c, ↓Z1d, ↓Z1e, Z1f, ↓Z1g, ↓Z1h, ↓Z1i, ↓Z1m, ↓Z1n, ↓Z1o, ↓Z1q, ↓Z1w, ↓Z1y, ↓Z1z, ↓Z20, ↓Z21, Y00, Z2h, ↓Z2i, ↓Z2j, ↓Z2k, ↓Z2m, ↓Z2o, ↓Z2q, ↓Z2v, ↓Z2x, Z2y, Z2z, Z30, Z31, Z32, Z33, ev_t, ev_c, ev_g, ev_f, hv_t, hv_f, hv_n, Z34, Z35, Z36, Y01, Y02, Y03, Y04, Y05, Z3a, Y06, Y07, nth?, Y08, Y09, Y0a, Y0b, Y0c, Y0d, Y0e, putN, Z3i, repL, Y0f, Y0g, Y0h, Y0i, Y0j, Y0k, Y0l, Y0m, Y0n, Y0o, Y0p, Y0q, Y0r, Y0s, Z3r, Z3s, Z3t, depB, Fd, Fall, Dis, Dis1, Z3u, Z3v, appC, appN, mapC, mapN, List.append_eq, Z3w, Array.toArray_toList, Z3x, Z3y, List.getElem?_cons_zero, List.getElem?_cons_succ, Nat.reduceAdd, Nat.reduceSub, Nat.reduceMul, Nat.reduceEqDiff, Nat.zero_add, Nat.add_zero, Nat.mul_one, Nat.zero_mul, if_true, if_false, eq_self, true_and, and_true, reduceCtorEq, false_and, Addr.add_lit, ne_eq, not_false_eq_true, Array.empty_append, Array.append_empty, ↓Z3z, ↓Z40, ↓Z41, ↓Z42, ↓Z43, ↓Z44, ↓Z45, List.getElem?_toArray, Z46, Int.toNat_natCast, Nat.sub_zero, Int.toNat_sub, Sx.Z47, ite_self, ty_3, ty_22, ty_34, ty_54, h3, h4]
    obtain ⟨hci, hcl⟩ := hc1 i hlt
    obtain ⟨p, cp, hpv⟩ := hci.out
    rw [hcl] at hpv
    refine atS hLw hlt hpv fun b o => ?_
    refine BrD (fun hk2 => ?_) (fun hk2 => ?_)
    · have hk2 : k < (c0 i).length := by omega
      have hni := hn i hlt
      have epat : IntKind.u16.wrap (IntKind.i64.wrap (IntKind.i64.wrap ((i : Int) * 1009) + IntKind.i64.wrap ((k : Int) * 31))) = pA i k := by
        rw [wi (n := (i : Int) * 1009) (by omega) (by omega), wi (n := (k : Int) * 31) (by omega) (by omega), wi (by omega) (by omega)]; rfl
      refine atS hLw hlt hpv fun b o => ?_
      rw [epat]
      refine OwnU.put (hpv ▸ hci) (by omega) ?_
      intro g cur ob w' hg hbg hhg u' hput
      rw [← hpv] at hg hput
      refine ⟨⟨k + 1, by rw [wi (by omega) (by omega)]; rfl, by omega, hB.upd hbg hhg (by decide) u', hLw.upd_ty hhg (by decide) u', fun j => if j = i then (c i).set k (pA i k) else c j, ?_, ?_, ?_⟩, ?_⟩
      · intro j hj
        by_cases e : j = i
        · subst e
          simp only [if_true]
          exact ⟨hput, by rw [List.length_set]; exact hcl⟩
        · simp only [if_neg e]
          exact ⟨OwnC.keep (hc1 j hj).1 fun g' hg' => u'.rest g' (by rintro rfl; exact hd i j hlt hj (Ne.symm e) _ hg hg'), (hc1 j hj).2⟩
      · intro j hj
        simp only [if_neg (show j ≠ i by omega)]
        exact hc2 j hj
      · intro k' hk'
        simp only [if_true]
        by_cases e : k' = k
        · subst e
          rw [nth_eq?, List.getElem?_set_self (by omega)]; rfl
        · rw [nth_eq?, List.getElem?_set_ne (Ne.symm e), ← nth_eq?]
          exact hc3 k' (by omega)
      · rw [wi (by omega) (by omega)]; simp only [intOf]; omega
    · have hk3 : k = (c0 i).length := by omega
      subst hk3
      refine ⟨⟨i + 1, by rw [wi (by omega) (by omega)]; rfl, by omega, hB, hLw, c, hc1, ?_⟩, ?_⟩
      · intro j hj
        by_cases e : j = i
        · subst e
          refine list_ext (by rw [hcl, pL_len]) fun k' hk' => ?_
          rw [hcl] at hk'
          rw [hc3 k' hk', pL_nth hk']
        · exact hc2 j (by omega)
      · rw [wi (by omega) (by omega)]; simp only [intOf]; omega
  have hi : i = vs.length := by omega
  subst hi
  clear hge
  -- extensions
  have hS := hB.1.size
  refine loop_ok [false, false, false, false, false, true, true, true, true, false, false, false, false, false, false, false, false, false, false, false, false, false, false, false, false, false, false, false, false, false, false, false, false, false, false, false, false, false, false, false, true, true, true, true, true, true, true, true, true, true, true, true, true, true, true, true, true, true, true, true, true, true, true, true, true, true, true, true, false, false, false, false, false, false, false, false, false, false, false, false, false, false, false, false, false, false, false, false, false, false, false, false, false, false, false, false, false, false, false, false, false, false, false, false, false, false, false, false, false, false, false, false, false, false, false, false, false, false, false, false, false, false, false, false, false, false, false, false, false, false, false, false, false, false, false] (fun u wr => ∃ i : Nat, u 6 = .int .i64 i ∧ i ≤ vs.length ∧ Bel base w wr ∧ wr0.heap.size ≤ wr.heap.size ∧ OwnC wr base 22 1 (.slice pL0 vs.length cL0) vs.length vs ∧
      ∃ lv : List Value, lv.length = i ∧ OwnC wr wr0.heap.size 22 1 (u 5) i lv ∧ (∀ j, j < vs.length → OwnU wr base (vs.getD j (.slice none 0 0)) (pL j (c0 j).length)) ∧
        ∀ j, j < i → OwnU wr base (lv.getD j (.slice none 0 0)) (pL j (c0 j).length ++ pM j 16) ∧ ∀ g, roomOf (lv.getD j (.slice none 0 0)) = some g → roomOf (vs.getD j (.slice none 0 0)) = some g ∨ wr0.heap.size ≤ g)
    (fun u wr => vs.length - (intOf (u 6)).toNat) ⟨rfl, 0, rfl, Nat.zero_le _, hB, Nat.le_refl _, hLw, [], rfl, OwnC.nil _ _ _ _, fun j hj => hc2 j hj ▸ (hc1 j hj).1, fun j h => absurd h (by omega)⟩ ?_
  rintro u2 wr1 ⟨i, h6, hi, hB1, hS1, hL1w, lv, hlv, hlong, hvv, hlvj⟩
  simp only [Z00, Z01, Z02, Z03, Z04, Z05, Z06, Z07, Z08, Z09, ↓Z0a, ↓Z0b, ↓Z0c, ↓Z0d, ↓Z0e, ↓Z0f, ↓Z0g, ↓Z0h, ↓Z0i, ↓Z0j, ↓Z0k, ↓Z0l, ↓Z0m, ↓Z0n, ↓Z0o, ↓Z0p, resL, res1, resK, Z0q, Z0r, Z0s, Z0t, Z0u, Z0v, Z0w, Z0x, Z0y, Z0z, Z10, Z11, Z12, Z13, Z14, ↓Z15, ↓Z16, Z17, Z18, Z19, Z1a, Z1b, Z1c, ↓Z1d, ↓Z1e, Z1f, ↓Z1g, ↓Z1h, ↓Z1i, ↓Z1m, ↓Z1n, ↓Z1o, ↓Z1q, ↓Z1w, ↓Z1y, ↓Z1z, ↓Z20, ↓Z21, Y00, Z2h, ↓Z2i, ↓Z2j, ↓Z2k, ↓Z2m, ↓Z2o, ↓Z2q, ↓Z2v, ↓Z2x, Z2y, Z2z, Z30, Z31, Z32, Z33, ev_t, ev_c, ev_g, ev_f, hv_t, hv_f, hv_n, Z34, Z35, Z36, Y01, Y02, Y03, Y04, Y05, Z3a, Y06, Y07, nth?, Y08, Y09, Y0a, Y0b, Y0c, Y0d, Y0e, putN, Z3i, repL, Y0f, Y0g, Y0h, Y0i, Y0j, Y0k, Y0l, Y0m, Y0n, Y0o, Y0p, Y0q, Y0r, Y0s, Z3r, Z3s, Z3t, depB, Fd, Fall, Dis, Dis1, Z3u, Z3v, appC, appN, mapC, mapN, List.append_eq, Z3w, Array.toArray_toList, Z3x, Z3y, List.getElem?_cons_zero, List.getElem?_cons_succ, Nat.reduceAdd, Nat.reduceSub, Nat.reduceMul, Nat.reduceEqDiff, Nat.zero_add, Nat.add_zero, Nat.mul_one, Nat.zero_mul, if_true, if_false, eq_self, true_and, and_true, reduceCtorEq, false_and, Addr.add_lit, ne_eq, not_false_eq_true, Array.empty_append, Array.append_empty, ↓Z3z, ↓Z40, ↓Z41, ↓Z42, ↓Z43, ↓Z44, ↓Z45, List.getElem?_toArray, Z46, Int.toNat_natCast, Nat.sub_zero, Int.toNat_sub, Sx.Z47, ite_self, ty_3, ty_22, ty_34, ty_54, h6]
  refine BrD (fun hlt => ?_) (fun hge => ?_)
  · have hlt : i < vs.length := by omega
    obtain ⟨p, cp, hpv⟩ := (hvv i hlt).out
    rw [pL_len] at hpv
    refine atS hL1w hlt hpv fun b o => ?_
    refine loop_ok [false, false, false, false, false, false, false, true, true, false, false, false, false, false, false, false, false, false, false, false, false, false, false, false, false, false, false, false, false, false, false, false, false, false, false, false, false, false, false, false, false, false, false, false, false, false, false, false, false, false, true, true, true, true, true, true, true, true, true, true, true, true, true, true, false, false, false, false, false, false, false, false, false, false, false, false, false, false, false, false, false, false, false, false, false, false, false, false, false, false, false, false, false, false, false, false, false, false, false, false, false, false, false, false, false, false, false, false, false, false, false, false, false, false, false, false, false, false, false, false, false, false, false, false, false, false, false, false, false, false, false, false, false, false, false] (fun u wr => ∃ k : Nat, u 8 = .int .i64 k ∧ k ≤ 16 ∧ Bel base w wr ∧ wr1.heap.size ≤ wr.heap.size ∧ OwnC wr base 22 1 (.slice pL0 vs.length cL0) vs.length vs ∧ OwnC wr wr0.heap.size 22 1 (u2 5) i lv ∧
        (∀ j, j < vs.length → OwnU wr base (vs.getD j (.slice none 0 0)) (pL j (c0 j).length)) ∧ (∀ j, j < i → OwnU wr base (lv.getD j (.slice none 0 0)) (pL j (c0 j).length ++ pM j 16)) ∧
        OwnU wr base (u 7) (pL i (c0 i).length ++ pM i k) ∧ ∀ g, roomOf (u 7) = some g → roomOf (vs.getD i (.slice none 0 0)) = some g ∨ wr1.heap.size ≤ g)
      (fun u wr => 16 - (intOf (u 8)).toNat) ⟨rfl, 0, rfl, Nat.zero_le _, hB1, Nat.le_refl _, hL1w, hlong, hvv, fun j hj => (hlvj j hj).1, ?_, ?_⟩ ?_
    · show OwnU wr1 base (.slice p (c0 i).length cp) _
      rw [← hpv]
      simpa [pM] using hvv i hlt
    · intro g hg
      exact .inl (by rw [hpv]; exact hg)
    rintro u3 wr ⟨k, h8, hk, hB2, hS2, hL2w, hlong2, hvv2, hlv2, hx, hxr⟩
    obtain ⟨px, cx, hxv⟩ := hx.out
    have hni := hn i hlt
    have hxl : (pL i (c0 i).length ++ pM i k).length = (c0 i).length + k := by simp [pL, pM]
    have hbs := hB2.1.size
    simp only [Z00, Z01, Z02, Z03, Z04, Z05, Z06, Z07, Z08, Z09, ↓Z0a, ↓Z0b, ↓Z0c, ↓Z0d, ↓Z0e, ↓Z0f, ↓Z0g, ↓Z0h, ↓Z0i, ↓Z0j, ↓Z0k, ↓Z0l, ↓Z0m, ↓Z0n, ↓Z0o, ↓Z0p, resL, res1, resK, Z0q, Z0r, Z0s, Z0t, Z0u, Z0v, Z0w, Z0x, Z0y, Z0z, Z10, Z11, Z12, Z13, Z14, ↓Z15, ↓Z16, Z17, Z18, Z19, Z1a, Z1b, Z1c, ↓Z1d, ↓Z1e, Z1f, ↓Z1g, ↓Z1h, ↓Z1i, ↓Z1m, ↓Z1n, ↓Z1o, ↓Z1q, ↓Z1w, ↓Z1y, ↓Z1z, ↓Z20, ↓Z21, Y00, Z2h, ↓Z2i, ↓Z2j, ↓Z2k, ↓Z2m, ↓Z2o, ↓Z2q, ↓Z2v, ↓Z2x, Z2y, Z2z, Z30, Z31, Z32, Z33, ev_t, ev_c, ev_g, ev_f, hv_t, hv_f, hv_n, Z34, Z35, Z36, Y01, Y02, Y03, Y04, Y05, Z3a, Y06, Y07, nth?, Y08, Y09, Y0a, Y0b, Y0c, Y0d, Y0e, putN, Z3i, repL, Y0f, Y0g, Y0h, Y0i, Y0j, Y0k, Y0l, Y0m, Y0n, Y0o, Y0p, Y0q, Y0r, Y0s, Z3r, Z3s, Z3t, depB, Fd, Fall, Dis, Dis1, Z3u, Z3v, appC, appN, mapC, mapN, List.append_eq, Z3w, Array.toArray_toList, Z3x, Z3y, List.getElem?_cons_zero, List.getElem?_cons_succ, Nat.reduceAdd, Nat.reduceSub, Nat.reduceMul, Nat.reduceEqDiff, Nat.zero_add, Nat.add_zero, Nat.mul_one, Nat.zero_mul, if_true, if_false, eq_self, true_and, and_true, reduceCtorEq, false_and, Addr.add_lit, ne_eq, not_false_eq_true, Array.empty_append, Array.append_empty, ↓Z3z, ↓Z40, ↓Z41, ↓Z42, ↓Z43, ↓Z44, ↓Z45, List.getElem?_toArray, Z46, Int.toNat_natCast, Nat.sub_zero, Int.toNat_sub, Sx.Z47, ite_self, ty_3, ty_22, ty_34, ty_54, h6, h8, hxv]
    rw [← hxv]
    refine BrD (fun hk2 => ?_) (fun hk2 => ?_)
    · have epat : IntKind.u16.wrap (IntKind.i64.wrap (IntKind.i64.wrap (IntKind.i64.wrap (-1 - (i : Int)) * 1009) + IntKind.i64.wrap ((k : Int) * 31))) = pB i k := by
        rw [wi (n := -1 - (i : Int)) (by omega) (by omega), wi (n := (-1 - (i : Int)) * 1009) (by omega) (by omega), wi (n := (k : Int) * 31) (by omega) (by omega), wi (by omega) (by omega)]; rfl
      rw [epat]
      refine ⟨⟨by omega, rfl⟩, ⟨rfl, by simp⟩, ?_⟩
      intro b4 wa na
      have hsa := na.ext.size
      refine app2C E16 (hx.below na.ext) (rd1 na) (nums_one _ _) (by rw [hxl]; simp only [most, List.length_cons, List.length_nil]; omega) (by rw [hxl]; simp only [List.length_cons, List.length_nil]; omega) (by simp) ?_ ?_
      · intro v' g cur cur' w' hg hbg hhg hs' ht' u' hown' hr'
        have hx' : OwnU w' base v' (pL i (c0 i).length ++ pM i (k + 1)) := by
          rw [pM_succ, ← List.append_assoc]
          show OwnC _ _ _ _ _ _ _
          rw [List.length_append, nums_append]
          exact hown'
        obtain ⟨px', cx', hxv'⟩ := hx'.out
        simp only [Z00, Z01, Z02, Z03, Z04, Z05, Z06, Z07, Z08, Z09, ↓Z0a, ↓Z0b, ↓Z0c, ↓Z0d, ↓Z0e, ↓Z0f, ↓Z0g, ↓Z0h, ↓Z0i, ↓Z0j, ↓Z0k, ↓Z0l, ↓Z0m, ↓Z0n, ↓Z0o, ↓Z0p, resL, res1, resK, Z0q, Z0r, Z0s, Z0t, Z0u, Z0v, Z0w, Z0x, Z0y, Z0z, Z10, Z11, Z12, Z13, Z14, ↓Z15, ↓Z16, Z17, Z18, Z19, Z1a, Z1b, Z1c, ↓Z1d, ↓Z1e, Z1f, ↓Z1g, ↓Z1h, ↓Z1i, ↓Z1m, ↓Z1n, ↓Z1o, ↓Z1q, ↓Z1w, ↓Z1y, ↓Z1z, ↓Z20, ↓Z21, Y00, Z2h, ↓Z2i, ↓Z2j, ↓Z2k, ↓Z2m, ↓Z2o, ↓Z2q, ↓Z2v, ↓Z2x, Z2y, Z2z, Z30, Z31, Z32, Z33, ev_t, ev_c, ev_g, ev_f, hv_t, hv_f, hv_n, Z34, Z35, Z36, Y01, Y02, Y03, Y04, Y05, Z3a, Y06, Y07, nth?, Y08, Y09, Y0a, Y0b, Y0c, Y0d, Y0e, putN, Z3i, repL, Y0f, Y0g, Y0h, Y0i, Y0j, Y0k, Y0l, Y0m, Y0n, Y0o, Y0p, Y0q, Y0r, Y0s, Z3r, Z3s, Z3t, depB, Fd, Fall, Dis, Dis1, Z3u, Z3v, appC, appN, mapC, mapN, List.append_eq, Z3w, Array.toArray_toList, Z3x, Z3y, List.getElem?_cons_zero, List.getElem?_cons_succ, Nat.reduceAdd, Nat.reduceSub, Nat.reduceMul, Nat.reduceEqDiff, Nat.zero_add, Nat.add_zero, Nat.mul_one, Nat.zero_mul, if_true, if_false, eq_self, true_and, and_true, reduceCtorEq, false_and, Addr.add_lit, ne_eq, not_false_eq_true, Array.empty_append, Array.append_empty, ↓Z3z, ↓Z40, ↓Z41, ↓Z42, ↓Z43, ↓Z44, ↓Z45, List.getElem?_toArray, Z46, Int.toNat_natCast, Nat.sub_zero, Int.toNat_sub, Sx.Z47, ite_self, ty_3, ty_22, ty_34, ty_54, h6, h8]
        refine ⟨⟨k + 1, by rw [wi (by omega) (by omega)]; rfl, by omega, (hB2.below na.ext (by omega)).upd hbg hhg (by decide) u', by rw [u'.size]; omega, (hL2w.below na.ext).upd_ty hhg (by decide) u', (hlong2.below na.ext).upd_ty hhg (by decide) u', ?_, ?_, hx', ?_⟩, ?_⟩
        · intro j hj
          by_cases e : j = i
          · subst e
            refine OwnC.upd_pre (OwnU.below (hvv2 j hj) na.ext) hhg u' hs' fun _ => ?_
            have := congrArg (List.take (c0 j).length) ht'
            rw [List.take_take, List.take_take, hxl, Nat.min_eq_left (by omega)] at this
            rw [pL_len, Nat.mul_one]; exact this
          · refine OwnC.keep (OwnU.below (hvv2 j hj) na.ext) fun g' hg' => u'.rest g' ?_
            rintro rfl
            rcases hxr _ hg with h | h
            · exact hd i j hlt hj (Ne.symm e) _ h hg'
            · have := (OwnC.room (hvv j hj) _ hg').2; omega
        · intro j hj
          refine OwnC.keep (OwnU.below (hlv2 j hj) na.ext) fun g' hg' => u'.rest g' ?_
          rintro rfl
          rcases hxr _ hg with h | h
          · rcases (hlvj j hj).2 _ hg' with h' | h'
            · exact hd i j hlt (by omega) (by omega) _ h h'
            · have := (OwnC.room (hc1 i hlt).1 _ h).2; omega
          · have := (OwnC.room (hlvj j hj).1 _ hg').2; omega
        · intro g' hg'
          rw [hr'] at hg'
          cases hg'
          exact hxr g hg
        · rw [wi (by omega) (by omega)]; simp only [intOf]; omega
      · intro v' w' hown' hb'
        have hx' : OwnU w' wa.heap.size v' (pL i (c0 i).length ++ pM i (k + 1)) := by
          rw [pM_succ, ← List.append_assoc]
          show OwnC _ _ _ _ _ _ _
          rw [List.length_append, nums_append]
          exact hown'
        have hall := na.ext.trans (hb'.mono hsa)
        simp only [Z00, Z01, Z02, Z03, Z04, Z05, Z06, Z07, Z08, Z09, ↓Z0a, ↓Z0b, ↓Z0c, ↓Z0d, ↓Z0e, ↓Z0f, ↓Z0g, ↓Z0h, ↓Z0i, ↓Z0j, ↓Z0k, ↓Z0l, ↓Z0m, ↓Z0n, ↓Z0o, ↓Z0p, resL, res1, resK, Z0q, Z0r, Z0s, Z0t, Z0u, Z0v, Z0w, Z0x, Z0y, Z0z, Z10, Z11, Z12, Z13, Z14, ↓Z15, ↓Z16, Z17, Z18, Z19, Z1a, Z1b, Z1c, ↓Z1d, ↓Z1e, Z1f, ↓Z1g, ↓Z1h, ↓Z1i, ↓Z1m, ↓Z1n, ↓Z1o, ↓Z1q, ↓Z1w, ↓Z1y, ↓Z1z, ↓Z20, ↓Z21, Y00, Z2h, ↓Z2i, ↓Z2j, ↓Z2k, ↓Z2m, ↓Z2o, ↓Z2q, ↓Z2v, ↓Z2x, Z2y, Z2z, Z30, Z31, Z32, Z33, ev_t, ev_c, ev_g, ev_f, hv_t, hv_f, hv_n, Z34, Z35, Z36, Y01, Y02, Y03, Y04, Y05, Z3a, Y06, Y07, nth?, Y08, Y09, Y0a, Y0b, Y0c, Y0d, Y0e, putN, Z3i, repL, Y0f, Y0g, Y0h, Y0i, Y0j, Y0k, Y0l, Y0m, Y0n, Y0o, Y0p, Y0q, Y0r, Y0s, Z3r, Z3s, Z3t, depB, Fd, Fall, Dis, Dis1, Z3u, Z3v, appC, appN, mapC, mapN, List.append_eq, Z3w, Array.toArray_toList, Z3x, Z3y, List.getElem?_cons_zero, List.getElem?_cons_succ, Nat.reduceAdd, Nat.reduceSub, Nat.reduceMul, Nat.reduceEqDiff, Nat.zero_add, Nat.add_zero, Nat.mul_one, Nat.zero_mul, if_true, if_false, eq_self, true_and, and_true, reduceCtorEq, false_and, Addr.add_lit, ne_eq, not_false_eq_true, Array.empty_append, Array.append_empty, ↓Z3z, ↓Z40, ↓Z41, ↓Z42, ↓Z43, ↓Z44, ↓Z45, List.getElem?_toArray, Z46, Int.toNat_natCast, Nat.sub_zero, Int.toNat_sub, Sx.Z47, ite_self, ty_3, ty_22, ty_34, ty_54, h6, h8]
        refine ⟨⟨k + 1, by rw [wi (by omega) (by omega)]; rfl, by omega, hB2.below hall (by omega), by have := hall.size; omega, hL2w.below hall, hlong2.below hall, fun j hj => OwnU.below (hvv2 j hj) hall, fun j hj => OwnU.below (hlv2 j hj) hall, hx'.lower (by omega), ?_⟩, ?_⟩
        · intro g' hg'
          have := (OwnC.room hx' _ hg').1
          exact .inr (by omega)
        · rw [wi (by omega) (by omega)]; simp only [intOf]; omega
    · have hk3 : k = 16 := by omega
      subst hk3
      refine ⟨⟨by omega, rfl⟩, ⟨by rw [hxv]; rfl, by simp⟩, ?_⟩
      intro b5 wa na
      have hsa := na.ext.size
      have hlvn : ∀ {W : World}, (∀ j, j < i → OwnU W base (lv.getD j (.slice none 0 0)) (pL j (c0 j).length ++ pM j 16)) → OwnU W base (u3 7) (pL i (c0 i).length ++ pM i 16) → (∀ g, roomOf (u3 7) = some g → roomOf (vs.getD i (.slice none 0 0)) = some g ∨ wr1.heap.size ≤ g) →
          ∀ j, j < i + 1 → OwnU W base ((lv ++ [u3 7]).getD j (.slice none 0 0)) (pL j (c0 j).length ++ pM j 16) ∧ ∀ g, roomOf ((lv ++ [u3 7]).getD j (.slice none 0 0)) = some g → roomOf (vs.getD j (.slice none 0 0)) = some g ∨ wr0.heap.size ≤ g := by
        intro W h1 h2 h3 j hj
        by_cases e : j = i
        · subst e
          have : (lv ++ [u3 7]).getD j (.slice none 0 0) = u3 7 := by simp [List.getD, ← hlv]
          rw [this]
          exact ⟨h2, fun g hg => (h3 g hg).imp id fun h => by omega⟩
        · have : (lv ++ [u3 7]).getD j (.slice none 0 0) = lv.getD j (.slice none 0 0) := by simp [List.getD, List.getElem?_append_left (show j < lv.length by omega)]
          rw [this]
          exact ⟨h1 j (by omega), (hlvj j (by omega)).2⟩
      refine app2C E22 (hlong2.below na.ext) (rdV1 na) (fun y hy => by simp only [List.mem_singleton] at hy; subst hy; rw [hxv]; rfl) (by simp only [most]; omega) (by omega) (by decide) ?_ ?_
      · intro v' g cur cur' w' hg hbg hhg hs' ht' u' hown' hr'
        simp only [Z00, Z01, Z02, Z03, Z04, Z05, Z06, Z07, Z08, Z09, ↓Z0a, ↓Z0b, ↓Z0c, ↓Z0d, ↓Z0e, ↓Z0f, ↓Z0g, ↓Z0h, ↓Z0i, ↓Z0j, ↓Z0k, ↓Z0l, ↓Z0m, ↓Z0n, ↓Z0o, ↓Z0p, resL, res1, resK, Z0q, Z0r, Z0s, Z0t, Z0u, Z0v, Z0w, Z0x, Z0y, Z0z, Z10, Z11, Z12, Z13, Z14, ↓Z15, ↓Z16, Z17, Z18, Z19, Z1a, Z1b, Z1c, ↓Z1d, ↓Z1e, Z1f, ↓Z1g, ↓Z1h, ↓Z1i, ↓Z1m, ↓Z1n, ↓Z1o, ↓Z1q, ↓Z1w, ↓Z1y, ↓Z1z, ↓Z20, ↓Z21, Y00, Z2h, ↓Z2i, ↓Z2j, ↓Z2k, ↓Z2m, ↓Z2o, ↓Z2q, ↓Z2v, ↓Z2x, Z2y, Z2z, Z30, Z31, Z32, Z33, ev_t, ev_c, ev_g, ev_f, hv_t, hv_f, hv_n, Z34, Z35, Z36, Y01, Y02, Y03, Y04, Y05, Z3a, Y06, Y07, nth?, Y08, Y09, Y0a, Y0b, Y0c, Y0d, Y0e, putN, Z3i, repL, Y0f, Y0g, Y0h, Y0i, Y0j, Y0k, Y0l, Y0m, Y0n, Y0o, Y0p, Y0q, Y0r, Y0s, Z3r, Z3s, Z3t, depB, Fd, Fall, Dis, Dis1, Z3u, Z3v, appC, appN, mapC, mapN, List.append_eq, Z3w, Array.toArray_toList, Z3x, Z3y, List.getElem?_cons_zero, List.getElem?_cons_succ, Nat.reduceAdd, Nat.reduceSub, Nat.reduceMul, Nat.reduceEqDiff, Nat.zero_add, Nat.add_zero, Nat.mul_one, Nat.zero_mul, if_true, if_false, eq_self, true_and, and_true, reduceCtorEq, false_and, Addr.add_lit, ne_eq, not_false_eq_true, Array.empty_append, Array.append_empty, ↓Z3z, ↓Z40, ↓Z41, ↓Z42, ↓Z43, ↓Z44, ↓Z45, List.getElem?_toArray, Z46, Int.toNat_natCast, Nat.sub_zero, Int.toNat_sub, Sx.Z47, ite_self, ty_3, ty_22, ty_34, ty_54, h6]
        refine ⟨⟨i + 1, by rw [wi (by omega) (by omega)]; rfl, by omega, (hB2.below na.ext (by omega)).upd (by omega) hhg (by decide) u', by rw [u'.size]; omega, ?_, lv ++ [u3 7], by simp [hlv], hown', fun j hj => (OwnU.below (hvv2 j hj) na.ext).upd_ty hhg (by decide) u', hlvn (fun j hj => (OwnU.below (hlv2 j hj) na.ext).upd_ty hhg (by decide) u') ((OwnU.below hx na.ext).upd_ty hhg (by decide) u') hxr⟩, ?_⟩
        · refine OwnC.keep (hL2w.below na.ext) fun g' hg' => u'.rest g' ?_
          rintro rfl
          have := (OwnC.room hLw _ hg').2
          omega
        · rw [wi (by omega) (by omega)]; simp only [intOf]; omega
      · intro v' w' hown' hb'
        have hall := na.ext.trans (hb'.mono hsa)
        simp only [Z00, Z01, Z02, Z03, Z04, Z05, Z06, Z07, Z08, Z09, ↓Z0a, ↓Z0b, ↓Z0c, ↓Z0d, ↓Z0e, ↓Z0f, ↓Z0g, ↓Z0h, ↓Z0i, ↓Z0j, ↓Z0k, ↓Z0l, ↓Z0m, ↓Z0n, ↓Z0o, ↓Z0p, resL, res1, resK, Z0q, Z0r, Z0s, Z0t, Z0u, Z0v, Z0w, Z0x, Z0y, Z0z, Z10, Z11, Z12, Z13, Z14, ↓Z15, ↓Z16, Z17, Z18, Z19, Z1a, Z1b, Z1c, ↓Z1d, ↓Z1e, Z1f, ↓Z1g, ↓Z1h, ↓Z1i, ↓Z1m, ↓Z1n, ↓Z1o, ↓Z1q, ↓Z1w, ↓Z1y, ↓Z1z, ↓Z20, ↓Z21, Y00, Z2h, ↓Z2i, ↓Z2j, ↓Z2k, ↓Z2m, ↓Z2o, ↓Z2q, ↓Z2v, ↓Z2x, Z2y, Z2z, Z30, Z31, Z32, Z33, ev_t, ev_c, ev_g, ev_f, hv_t, hv_f, hv_n, Z34, Z35, Z36, Y01, Y02, Y03, Y04, Y05, Z3a, Y06, Y07, nth?, Y08, Y09, Y0a, Y0b, Y0c, Y0d, Y0e, putN, Z3i, repL, Y0f, Y0g, Y0h, Y0i, Y0j, Y0k, Y0l, Y0m, Y0n, Y0o, Y0p, Y0q, Y0r, Y0s, Z3r, Z3s, Z3t, depB, Fd, Fall, Dis, Dis1, Z3u, Z3v, appC, appN, mapC, mapN, List.append_eq, Z3w, Array.toArray_toList, Z3x, Z3y, List.getElem?_cons_zero, List.getElem?_cons_succ, Nat.reduceAdd, Nat.reduceSub, Nat.reduceMul, Nat.reduceEqDiff, Nat.zero_add, Nat.add_zero, Nat.mul_one, Nat.zero_mul, if_true, if_false, eq_self, true_and, and_true, reduceCtorEq, false_and, Addr.add_lit, ne_eq, not_false_eq_true, Array.empty_append, Array.append_empty, ↓Z3z, ↓Z40, ↓Z41, ↓Z42, ↓Z43, ↓Z44, ↓Z45, List.getElem?_toArray, Z46, Int.toNat_natCast, Nat.sub_zero, Int.toNat_sub, Sx.Z47, ite_self, ty_3, ty_22, ty_34, ty_54, h6]
        refine ⟨⟨i + 1, by rw [wi (by omega) (by omega)]; rfl, by omega, hB2.below hall (by omega), by have := hall.size; omega, hL2w.below hall, lv ++ [u3 7], by simp [hlv], hown'.mono (by omega), fun j hj => OwnU.below (hvv2 j hj) hall, hlvn (fun j hj => OwnU.below (hlv2 j hj) hall) (OwnU.below hx hall) hxr⟩, ?_⟩
        rw [wi (by omega) (by omega)]; simp only [intOf]; omega
  have hi : i = vs.length := by omega
  subst hi
  clear hge
  obtain ⟨pl, cl, hlo⟩ : ∃ p c, u2 5 = .slice p vs.length c := by
    obtain ⟨p, c, h, _⟩ := hlong.rd
    exact ⟨p, c, h⟩
  rw [hlo] at hlong
  simp only [Z00, Z01, Z02, Z03, Z04, Z05, Z06, Z07, Z08, Z09, ↓Z0a, ↓Z0b, ↓Z0c, ↓Z0d, ↓Z0e, ↓Z0f, ↓Z0g, ↓Z0h, ↓Z0i, ↓Z0j, ↓Z0k, ↓Z0l, ↓Z0m, ↓Z0n, ↓Z0o, ↓Z0p, resL, res1, resK, Z0q, Z0r, Z0s, Z0t, Z0u, Z0v, Z0w, Z0x, Z0y, Z0z, Z10, Z11, Z12, Z13, Z14, ↓Z15, ↓Z16, Z17, Z18, Z19, Z1a, Z1b, Z1c, ↓Z1d, ↓Z1e, Z1f, ↓Z1g, ↓Z1h, ↓Z1i, ↓Z1m, ↓Z1n, ↓Z1o, ↓Z1q, ↓Z1w, ↓Z1y, ↓Z1z, ↓Z20, ↓Z21, Y00, Z2h, ↓Z2i, ↓Z2j, ↓Z2k, ↓Z2m, ↓Z2o, ↓Z2q, ↓Z2v, ↓Z2x, Z2y, Z2z, Z30, Z31, Z32, Z33, ev_t, ev_c, ev_g, ev_f, hv_t, hv_f, hv_n, Z34, Z35, Z36, Y01, Y02, Y03, Y04, Y05, Z3a, Y06, Y07, nth?, Y08, Y09, Y0a, Y0b, Y0c, Y0d, Y0e, putN, Z3i, repL, Y0f, Y0g, Y0h, Y0i, Y0j, Y0k, Y0l, Y0m, Y0n, Y0o, Y0p, Y0q, Y0r, Y0s, Z3r, Z3s, Z3t, depB, Fd, Fall, Dis, Dis1, Z3u, Z3v, appC, appN, mapC, mapN, List.append_eq, Z3w, Array.toArray_toList, Z3x, Z3y, List.getElem?_cons_zero, List.getElem?_cons_succ, Nat.reduceAdd, Nat.reduceSub, Nat.reduceMul, Nat.reduceEqDiff, Nat.zero_add, Nat.add_zero, Nat.mul_one, Nat.zero_mul, if_true, if_false, eq_self, true_and, and_true, reduceCtorEq, false_and, Addr.add_lit, ne_eq, not_false_eq_true, Array.empty_append, Array.append_empty, ↓Z3z, ↓Z40, ↓Z41, ↓Z42, ↓Z43, ↓Z44, ↓Z45, List.getElem?_toArray, Z46, Int.toNat_natCast, Nat.sub_zero, Int.toNat_sub, Sx.Z47, ite_self, ty_3, ty_22, ty_34, ty_54, hlo]
  have hlong' : OwnC wr1 wr0.heap.size 22 1 (.slice pl vs.length cl) lv.length lv := by rw [hlv]; exact hlong
  refine loop_ok [false, false, true, false, false, false, false, false, false, true, true, true, true, false, false, false, false, false, false, false, false, false, false, false, false, false, false, false, false, false, false, false, false, false, false, false, false, false, false, false, false, false, false, false, false, false, false, false, false, false, false, false, false, false, false, false, false, false, false, false, false, false, false, false, false, false, false, false, true, true, true, true, true, true, true, true, true, true, true, true, true, true, true, true, true, true, true, true, true, true, true, true, true, true, true, true, true, true, true, true, true, true, true, true, true, true, true, true, true, true, true, true, true, true, true, true, true, true, true, true, true, true, true, true, true, true, true, true, true, true, true, true, true, true, true] (fun u wr => ∃ i : Nat, u 9 = .int .i64 i ∧ i ≤ vs.length ∧ wr = wr1) (fun u wr => vs.length - (intOf (u 9)).toNat) ⟨rfl, 0, rfl, Nat.zero_le _, rfl⟩ ?_
  rintro u9 wr ⟨i, h9, hi, hwr⟩
  subst hwr
  simp only [Z00, Z01, Z02, Z03, Z04, Z05, Z06, Z07, Z08, Z09, ↓Z0a, ↓Z0b, ↓Z0c, ↓Z0d, ↓Z0e, ↓Z0f, ↓Z0g, ↓Z0h, ↓Z0i, ↓Z0j, ↓Z0k, ↓Z0l, ↓Z0m, ↓Z0n, ↓Z0o, ↓Z0p, resL, res1, resK, Z0q, Z0r, Z0s, Z0t, Z0u, Z0v, Z0w, Z0x, Z0y, Z0z, Z10, Z11, Z12, Z13, Z14, ↓Z15, ↓Z16, Z17, Z18, Z19, Z1a, Z1b, Z1c, ↓Z1d, ↓Z1e, Z1f, ↓Z1g, ↓Z1h, ↓Z1i, ↓Z1m, ↓Z1n, ↓Z1o, ↓Z1q, ↓Z1w, ↓Z1y, ↓Z1z, ↓Z20, ↓Z21, Y00, Z2h, ↓Z2i, ↓Z2j, ↓Z2k, ↓Z2m, ↓Z2o, ↓Z2q, ↓Z2v, ↓Z2x, Z2y, Z2z, Z30, Z31, Z32, Z33, ev_t, ev_c, ev_g, ev_f, hv_t, hv_f, hv_n, Z34, Z35, Z36, Y01, Y02, Y03, Y04, Y05, Z3a, Y06, Y07, nth?, Y08, Y09, Y0a, Y0b, Y0c, Y0d, Y0e, putN, Z3i, repL, Y0f, Y0g, Y0h, Y0i, Y0j, Y0k, Y0l, Y0m, Y0n, Y0o, Y0p, Y0q, Y0r, Y0s, Z3r, Z3s, Z3t, depB, Fd, Fall, Dis, Dis1, Z3u, Z3v, appC, appN, mapC, mapN, List.append_eq, Z3w, Array.toArray_toList, Z3x, Z3y, List.getElem?_cons_zero, List.getElem?_cons_succ, Nat.reduceAdd, Nat.reduceSub, Nat.reduceMul, Nat.reduceEqDiff, Nat.zero_add, Nat.add_zero, Nat.mul_one, Nat.zero_mul, if_true, if_false, eq_self, true_and, and_true, reduceCtorEq, false_and, Addr.add_lit, ne_eq, not_false_eq_true, Array.empty_append, Array.append_empty, ↓Z3z, ↓Z40, ↓Z41, ↓Z42, ↓Z43, ↓Z44, ↓Z45, List.getElem?_toArray, Z46, Int.toNat_natCast, Nat.sub_zero, Int.toNat_sub, Sx.Z47, ite_self, ty_3, ty_22, ty_34, ty_54, h9]
  refine BrD (fun hlt => ?_) (fun hge => ?_)
  · have hlt : i < vs.length := by omega
    have hni := hn i hlt
    obtain ⟨p, cp, hpv⟩ := (hvv i hlt).out
    rw [pL_len] at hpv
    obtain ⟨px, cx, hxv⟩ := (hlvj i hlt).1.out
    have hxl : (pL i (c0 i).length ++ pM i 16).length = (c0 i).length + 16 := by simp [pL, pM]
    rw [hxl] at hxv
    have r1 : RdI .u16 wr (.slice p (c0 i).length cp) (pL i (c0 i).length) := by rw [← hpv]; exact (hvv i hlt).rd
    have r2 : RdI .u16 wr (.slice px ((c0 i).length + 16) cx) (pL i (c0 i).length ++ pM i 16) := by rw [← hxv]; exact (hlvj i hlt).1.rd
    refine atS hL1w hlt hpv fun b o => ?_
    refine loop_ok [false, false, true, false, false, false, false, false, false, false, false, true, false, false, false, false, false, false, false, false, false, false, false, false, false, false, false, false, false, false, false, false, false, false, false, false, false, false, false, false, false, false, false, false, false, false, false, false, false, false, false, false, false, false, false, false, false, false, false, false, false, false, false, false, false, false, false, false, false, false, false, false, false, false, false, false, false, false, false, true, true, true, true, true, true, true, true, true, true, true, true, true, true, true, true, true, true, true, true, true, true, true, true, true, true, true, true, true, true, true, true, true, true, true, false, false, false, false, false, false, false, false, false, false, false, false, false, false, false, false, false, false, false, false, false] (fun u w => ∃ k : Nat, u 11 = .int .i64 k ∧ k ≤ (c0 i).length ∧ w = wr) (fun u wr => (c0 i).length - (intOf (u 11)).toNat) ⟨rfl, 0, rfl, Nat.zero_le _, rfl⟩ ?_
    rintro u11 w' ⟨k, h11, hk, hwr⟩
    subst hwr
    simp only [Z00, Z01, Z02, Z03, Z04, Z05, Z06, Z07, Z08, Z09, ↓Z0a, ↓Z0b, ↓Z0c, ↓Z0d, ↓Z0e, ↓Z0f, ↓Z0g, ↓Z0h, ↓Z0i, ↓Z0j, ↓Z0k, ↓Z0l, ↓Z0m, ↓Z0n, ↓Z0o, ↓Z0p, resL, res1, resK, Z0q, Z0r, Z0s, Z0t, Z0u, Z0v, Z0w, Z0x, Z0y, Z0z, Z10, Z11, Z12, Z13, Z14, ↓Z15, ↓Z16, Z17, Z18, Z19, Z1a, Z1b, Z1c, ↓Z1d, ↓Z1e, Z1f, ↓Z1g, ↓Z1h, ↓Z1i, ↓Z1m, ↓Z1n, ↓Z1o, ↓Z1q, ↓Z1w, ↓Z1y, ↓Z1z, ↓Z20, ↓Z21, Y00, Z2h, ↓Z2i, ↓Z2j, ↓Z2k, ↓Z2m, ↓Z2o, ↓Z2q, ↓Z2v, ↓Z2x, Z2y, Z2z, Z30, Z31, Z32, Z33, ev_t, ev_c, ev_g, ev_f, hv_t, hv_f, hv_n, Z34, Z35, Z36, Y01, Y02, Y03, Y04, Y05, Z3a, Y06, Y07, nth?, Y08, Y09, Y0a, Y0b, Y0c, Y0d, Y0e, putN, Z3i, repL, Y0f, Y0g, Y0h, Y0i, Y0j, Y0k, Y0l, Y0m, Y0n, Y0o, Y0p, Y0q, Y0r, Y0s, Z3r, Z3s, Z3t, depB, Fd, Fall, Dis, Dis1, Z3u, Z3v, appC, appN, mapC, mapN, List.append_eq, Z3w, Array.toArray_toList, Z3x, Z3y, List.getElem?_cons_zero, List.getElem?_cons_succ, Nat.reduceAdd, Nat.reduceSub, Nat.reduceMul, Nat.reduceEqDiff, Nat.zero_add, Nat.add_zero, Nat.mul_one, Nat.zero_mul, if_true, if_false, eq_self, true_and, and_true, reduceCtorEq, false_and, Addr.add_lit, ne_eq, not_false_eq_true, Array.empty_append, Array.append_empty, ↓Z3z, ↓Z40, ↓Z41, ↓Z42, ↓Z43, ↓Z44, ↓Z45, List.getElem?_toArray, Z46, Int.toNat_natCast, Nat.sub_zero, Int.toNat_sub, Sx.Z47, ite_self, ty_3, ty_22, ty_34, ty_54, h9, h11]
    refine BrD (fun hk2 => ?_) (fun hk2 => ?_)
    · have hk2 : k < (c0 i).length := by omega
      have epat : IntKind.u16.wrap (IntKind.i64.wrap (IntKind.i64.wrap ((i : Int) * 1009) + IntKind.i64.wrap ((k : Int) * 31))) = pA i k := by
        rw [wi (n := (i : Int) * 1009) (by omega) (by omega), wi (n := (k : Int) * 31) (by omega) (by omega), wi (by omega) (by omega)]; rfl
      refine atS hL1w hlt hpv fun b o => ?_
      refine r1.at2 (i := (k : Nat)) (by omega) (by rw [pL_len]; omega) fun _ _ => ?_
      rw [Int.toNat_natCast, pL_nth hk2, epat]
      refine BrN (fun h => absurd rfl h) (fun _ => ?_)
      refine atS hlong' (by omega) hxv fun b o => ?_
      refine r2.at2 (i := (k : Nat)) (by omega) (by rw [hxl]; omega) fun _ _ => ?_
      rw [Int.toNat_natCast, nth_append_left (by rw [pL_len]; exact hk2), pL_nth hk2]
      refine BrN (fun h => absurd rfl h) (fun _ => ?_)
      refine ⟨⟨k + 1, by rw [wi (by omega) (by omega)]; rfl, by omega⟩, ?_⟩
      rw [wi (by omega) (by omega)]; simp only [intOf]; omega
    · refine loop_ok [false, false, true, false, false, false, false, false, false, false, false, false, true, false, false, false, false, false, false, false, false, false, false, false, false, false, false, false, false, false, false, false, false, false, false, false, false, false, false, false, false, false, false, false, false, false, false, false, false, false, false, false, false, false, false, false, false, false, false, false, false, false, false, false, false, false, false, false, false, false, false, false, false, false, false, false, false, false, false, false, false, false, false, false, false, false, false, false, false, false, false, false, false, false, false, false, false, false, false, false, false, false, false, false, false, false, false, false, false, false, false, false, false, false, true, true, true, true, true, true, true, true, true, true, true, true, true, true, true, true, true, true, true, true, true] (fun u w => ∃ k : Nat, u 12 = .int .i64 k ∧ k ≤ 16 ∧ w = w') (fun u wr => 16 - (intOf (u 12)).toNat) ⟨rfl, 0, rfl, Nat.zero_le _, rfl⟩ ?_
      rintro u12 wr ⟨k2, h12, hk3, hwr⟩
      subst hwr
      simp only [Z00, Z01, Z02, Z03, Z04, Z05, Z06, Z07, Z08, Z09, ↓Z0a, ↓Z0b, ↓Z0c, ↓Z0d, ↓Z0e, ↓Z0f, ↓Z0g, ↓Z0h, ↓Z0i, ↓Z0j, ↓Z0k, ↓Z0l, ↓Z0m, ↓Z0n, ↓Z0o, ↓Z0p, resL, res1, resK, Z0q, Z0r, Z0s, Z0t, Z0u, Z0v, Z0w, Z0x, Z0y, Z0z, Z10, Z11, Z12, Z13, Z14, ↓Z15, ↓Z16, Z17, Z18, Z19, Z1a, Z1b, Z1c, ↓Z1d, ↓Z1e, Z1f, ↓Z1g, ↓Z1h, ↓Z1i, ↓Z1m, ↓Z1n, ↓Z1o, ↓Z1q, ↓Z1w, ↓Z1y, ↓Z1z, ↓Z20, ↓Z21, Y00, Z2h, ↓Z2i, ↓Z2j, ↓Z2k, ↓Z2m, ↓Z2o, ↓Z2q, ↓Z2v, ↓Z2x, Z2y, Z2z, Z30, Z31, Z32, Z33, ev_t, ev_c, ev_g, ev_f, hv_t, hv_f, hv_n, Z34, Z35, Z36, Y01, Y02, Y03, Y04, Y05, Z3a, Y06, Y07, nth?, Y08, Y09, Y0a, Y0b, Y0c, Y0d, Y0e, putN, Z3i, repL, Y0f, Y0g, Y0h, Y0i, Y0j, Y0k, Y0l, Y0m, Y0n, Y0o, Y0p, Y0q, Y0r, Y0s, Z3r, Z3s, Z3t, depB, Fd, Fall, Dis, Dis1, Z3u, Z3v, appC, appN, mapC, mapN, List.append_eq, Z3w, Array.toArray_toList, Z3x, Z3y, List.getElem?_cons_zero, List.getElem?_cons_succ, Nat.reduceAdd, Nat.reduceSub, Nat.reduceMul, Nat.reduceEqDiff, Nat.zero_add, Nat.add_zero, Nat.mul_one, Nat.zero_mul, if_true, if_false, eq_self, true_and, and_true, reduceCtorEq, false_and, Addr.add_lit, ne_eq, not_false_eq_true, Array.empty_append, Array.append_empty, ↓Z3z, ↓Z40, ↓Z41, ↓Z42, ↓Z43, ↓Z44, ↓Z45, List.getElem?_toArray, Z46, Int.toNat_natCast, Nat.sub_zero, Int.toNat_sub, Sx.Z47, ite_self, ty_3, ty_22, ty_34, ty_54, h9, h12]
      refine BrD (fun hk4 => ?_) (fun hk4 => ?_)
      · have hk4 : k2 < 16 := by omega
        have epat : IntKind.u16.wrap (IntKind.i64.wrap (IntKind.i64.wrap (IntKind.i64.wrap (-1 - (i : Int)) * 1009) + IntKind.i64.wrap ((k2 : Int) * 31))) = pB i k2 := by
          rw [wi (n := -1 - (i : Int)) (by omega) (by omega), wi (n := (-1 - (i : Int)) * 1009) (by omega) (by omega), wi (n := (k2 : Int) * 31) (by omega) (by omega), wi (by omega) (by omega)]; rfl
        refine atS hlong' (by omega) hxv fun b o => ?_
        rw [wi (n := ((c0 i).length : Int) + (k2 : Int)) (by omega) (by omega), epat]
        refine r2.at2 (i := ((c0 i).length : Int) + (k2 : Int)) (by omega) (by rw [hxl]; omega) fun _ _ => ?_
        rw [show (((c0 i).length : Int) + (k2 : Int)).toNat = (c0 i).length + k2 by omega, nth_append_right (by rw [pL_len]; omega), pL_len, Nat.add_sub_cancel_left, pM_nth hk4]
        refine BrN (fun h => absurd rfl h) (fun _ => ?_)
        refine ⟨⟨k2 + 1, by rw [wi (by omega) (by omega)]; rfl, by omega⟩, ?_⟩
        rw [wi (by omega) (by omega)]; simp only [intOf]; omega
      · refine ⟨⟨i + 1, by rw [wi (by omega) (by omega)]; rfl, by omega⟩, ?_⟩
        rw [wi (by omega) (by omega)]; simp only [intOf]; omega
  · exact hB1
end Go.Proofs.YtdpfafgecchafaaDoor

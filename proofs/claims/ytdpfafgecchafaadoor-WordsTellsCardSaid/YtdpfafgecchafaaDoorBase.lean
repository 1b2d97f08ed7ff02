/- Base: slices that read as lists, slices that a call owns, and append on them. -/
import Derived.WalkKit
import Derived.Deep.QuietTactic
import Derived.BigQuiet
import Derived.Lib.Hide
import Derived.Maps.AppendAt
import Derived.Test.YtdpfafgecchafaaDoorTy
set_option linter.unusedVariables false
set_option linter.unusedSimpArgs false
namespace Go.Proofs.YtdpfafgecchafaaDoor
open Go Go.RowKit Sx

/-! ### numbers as cells -/
def nums (k : IntKind) (l : List Int) : List Value := l.map (Value.int k)
theorem nums_length (k : IntKind) (l : List Int) : (nums k l).length = l.length := by simp [nums]
theorem nums_append (k : IntKind) (l m : List Int) : nums k (l ++ m) = nums k l ++ nums k m := by simp [nums]
/-- the element at a place -/
def nth (l : List Int) (j : Nat) : Int := l.getD j 0
theorem nth_eq (l : List Int) (j : Nat) (h : j < l.length) : nth l j = l[j] := by simp [nth, h]
theorem nth_eq? (l : List Int) (j : Nat) : nth l j = l[j]?.getD 0 := by simp [nth]
theorem nth_append_left {l m : List Int} {j : Nat} (h : j < l.length) : nth (l ++ m) j = nth l j := by simp [nth_eq?, List.getElem?_append_left h]
theorem nth_append_right {l m : List Int} {j : Nat} (h : l.length ≤ j) : nth (l ++ m) j = nth m (j - l.length) := by simp [nth_eq?, List.getElem?_append_right h]
theorem nth_take {l : List Int} {n j : Nat} (h : j < n) : nth (l.take n) j = nth l j := by simp [nth_eq?, List.getElem?_take, h]
theorem nth_drop {l : List Int} {n j : Nat} : nth (l.drop n) j = nth l (n + j) := by simp [nth_eq?, List.getElem?_drop]
theorem list_ext {l m : List Int} (hl : l.length = m.length) (h : ∀ j, j < l.length → nth l j = nth m j) : l = m := by
  refine List.ext_getElem hl fun j h1 h2 => ?_
  have := h j h1
  rwa [nth_eq l j h1, nth_eq m j h2] at this
theorem take_succ_nth {l : List Int} {k : Nat} (h : k < l.length) : l.take (k + 1) = l.take k ++ [nth l k] := by
  rw [List.take_succ_eq_append_getElem h, nth_eq l k h]
theorem nums_get (k : IntKind) (l : List Int) (j : Nat) (h : j < l.length) : (nums k l)[j]? = some (.int k (nth l j)) := by simp [nums, nth, h]

/-- how long a list is that is read -/
def most : Nat := 140737488355328

/-! ### a slice that reads as cells -/
def RdC (w : World) (sz : Nat) (v : Value) (n : Nat) (cs : List Value) : Prop :=
  ∃ p c, v = .slice p n c ∧ n ≤ c ∧ c ≤ maxLen ∧ n ≤ most ∧ cs.length = n * sz ∧
    (0 < n → ∃ b o, p = some ⟨b, o, none⟩ ∧ b < w.heap.size ∧ ∀ j x, cs[j]? = some x → w.cell? ⟨b, o + j, none⟩ = some x)

theorem RdC.below {w w' : World} {sz : Nat} {v : Value} {n : Nat} {cs : List Value} (h : RdC w sz v n cs) (hb : Below w.heap.size w w') : RdC w' sz v n cs := by
  obtain ⟨p, c, rfl, h1, h2, h3, h4, h5⟩ := h
  refine ⟨p, c, rfl, h1, h2, h3, h4, fun hn => ?_⟩
  obtain ⟨b, o, rfl, hlt, hc⟩ := h5 hn
  exact ⟨b, o, rfl, Nat.lt_of_lt_of_le hlt hb.size, fun j x hx => (hb.cell (p := ⟨b, o + j, none⟩) hlt).trans (hc j x hx)⟩

/-- numbers -/
def RdI (k : IntKind) (w : World) (v : Value) (l : List Int) : Prop := RdC w 1 v l.length (nums k l)

theorem RdI.below {k : IntKind} {w w' : World} {v : Value} {l : List Int} (h : RdI k w v l) (hb : Below w.heap.size w w') : RdI k w' v l := RdC.below h hb

/-- what it comes to: the slice, its bounds, its cells -/
theorem RdI.out {k : IntKind} {w : World} {v : Value} {l : List Int} (h : RdI k w v l) :
    ∃ p c, v = .slice p l.length c ∧ l.length ≤ c ∧ c ≤ 9223372036854775807 ∧ l.length ≤ 140737488355328 ∧
      (0 < l.length → ∃ b o, p = some ⟨b, o, none⟩ ∧ b < w.heap.size ∧ ∀ j, j < l.length → w.cell? ⟨b, o + j, none⟩ = some (.int k (nth l j))) := by
  obtain ⟨p, c, rfl, h1, h2, h3, h4, h5⟩ := h
  refine ⟨p, c, rfl, h1, by simpa [maxLen] using h2, by simpa [most] using h3, fun hn => ?_⟩
  obtain ⟨b, o, rfl, hlt, hc⟩ := h5 hn
  exact ⟨b, o, rfl, hlt, fun j hj => hc j _ (nums_get k l j hj)⟩

theorem RdC.nil (w : World) (sz : Nat) : RdC w sz (.slice none 0 0) 0 [] := ⟨none, 0, rfl, Nat.le_refl _, Nat.zero_le _, Nat.zero_le _, by simp, fun h => absurd h (Nat.lt_irrefl _)⟩
theorem RdI.nil (k : IntKind) (w : World) : RdI k w (.slice none 0 0) [] := RdC.nil w 1

/-- a part of it -/
theorem RdC.slice {w : World} {sz : Nat} {p : Option Addr} {n c : Nat} {cs : List Value} (h : RdC w sz (.slice p n c) n cs) (lo hi m : Nat) (h1 : lo ≤ hi) (h2 : hi ≤ n) (h3 : hi ≤ m) (h4 : m ≤ c) :
    RdC w sz (.slice (if m = lo then p else p.map (·.add (lo * sz))) (hi - lo) (m - lo)) (hi - lo) ((cs.drop (lo * sz)).take ((hi - lo) * sz)) := by
  obtain ⟨p', c', hv, hn, hc, hm, hl, hcell⟩ := h
  cases hv
  refine ⟨_, _, rfl, by omega, by simp only [maxLen] at *; omega, by omega, ?_, fun h0 => ?_⟩
  · rw [List.length_take, List.length_drop, hl, ← Nat.sub_mul, Nat.min_eq_left]
    exact Nat.mul_le_mul_right _ (by omega)
  · obtain ⟨b, o, rfl, hlt, hcc⟩ := hcell (by omega)
    refine ⟨b, o + lo * sz, ?_, hlt, fun j x hx => ?_⟩
    · rw [if_neg (by omega)]; simp [Addr.add]
    · rw [List.getElem?_take] at hx
      split at hx
      · rw [List.getElem?_drop] at hx
        rw [Nat.add_assoc]; exact hcc _ _ hx
      · cases hx

/-! ### a slice whose memory, room too, is the call's own -/
/-- the block that a value's room lies in -/
def roomOf : Value → Option Nat
  | .slice (some a) _ c => if c = 0 then none else some a.block
  | _ => none

def OwnC (w : World) (base : Nat) (e : TypeId) (sz : Nat) (v : Value) (n : Nat) (cs : List Value) : Prop :=
  cs.length = n * sz ∧ n ≤ most ∧ ((∃ p, v = .slice p 0 0 ∧ n = 0) ∨
    ∃ g cap cur, v = .slice (some ⟨g, 0, none⟩) n cap ∧ base ≤ g ∧ w.heap[g]? = some (.cells cur e (0, 0)) ∧ n ≤ cap ∧ cap ≤ maxLen ∧ cur.size = cap * sz ∧ cur.toList.take (n * sz) = cs)

def OwnI (k : IntKind) (w : World) (base : Nat) (e : TypeId) (v : Value) (l : List Int) : Prop := OwnC w base e 1 v l.length (nums k l)

section
variable {w : World} {base : Nat} {e : TypeId} {sz : Nat} {v : Value} {n : Nat} {cs : List Value}

theorem OwnC.nil (w : World) (base : Nat) (e : TypeId) (sz : Nat) : OwnC w base e sz (.slice none 0 0) 0 [] := ⟨by simp, Nat.zero_le _, .inl ⟨none, rfl, rfl⟩⟩
theorem OwnC.empty (w : World) (base : Nat) (e : TypeId) (sz : Nat) (p : Option Addr) : OwnC w base e sz (.slice p 0 0) 0 [] := ⟨by simp, Nat.zero_le _, .inl ⟨p, rfl, rfl⟩⟩

theorem OwnC.room (h : OwnC w base e sz v n cs) : ∀ g, roomOf v = some g → base ≤ g ∧ g < w.heap.size := by
  intro g hg
  rcases h.2.2 with ⟨p, rfl, _⟩ | ⟨b, cap, cur, rfl, hb, hh, _⟩
  · cases p <;> simp [roomOf] at hg
  · simp [roomOf] at hg
    obtain ⟨_, rfl⟩ := hg
    exact ⟨hb, (Array.getElem?_eq_some_iff.1 hh).1⟩

theorem OwnC.mono (h : OwnC w base e sz v n cs) {base' : Nat} (hb : base' ≤ base) : OwnC w base' e sz v n cs := by
  refine ⟨h.1, h.2.1, ?_⟩
  rcases h.2.2 with h | ⟨g, cap, cur, r1, r2, r3⟩
  · exact .inl h
  · exact .inr ⟨g, cap, cur, r1, Nat.le_trans hb r2, r3⟩

/-- it stays while its block stays -/
theorem OwnC.keep (h : OwnC w base e sz v n cs) {w' : World} (hk : ∀ g, roomOf v = some g → w'.heap[g]? = w.heap[g]?) : OwnC w' base e sz v n cs := by
  refine ⟨h.1, h.2.1, ?_⟩
  rcases h.2.2 with hl | ⟨g, cap, cur, rfl, r2, r3, r4, r5, r6, r7⟩
  · exact .inl hl
  · by_cases hc : cap = 0
    · subst hc
      obtain rfl : n = 0 := by omega
      exact .inl ⟨_, rfl, rfl⟩
    · exact .inr ⟨g, cap, cur, rfl, r2, by rw [hk g (by simp [roomOf, hc])]; exact r3, r4, r5, r6, r7⟩

theorem OwnC.below (h : OwnC w base e sz v n cs) {w' : World} (hb : Below w.heap.size w w') : OwnC w' base e sz v n cs :=
  h.keep fun g hg => hb.block g (h.room g hg).2

theorem OwnC.grown (h : OwnC w base e sz v n cs) {w' : World} {row : Option Nat} (hg : w.grownBy w' row) (hr : roomOf v = none ∨ roomOf v ≠ row) : OwnC w' base e sz v n cs :=
  h.keep fun g hg' => hg.block g (h.room g hg').2 (by rcases hr with hr | hr <;> rw [hg'] at hr <;> simp_all)

theorem OwnC.rd (h : OwnC w base e sz v n cs) : RdC w sz v n cs := by
  obtain ⟨h1, h0, h2⟩ := h
  rcases h2 with ⟨p, rfl, rfl⟩ | ⟨g, cap, cur, rfl, hb, hh, hn, hm, hs, ht⟩
  · exact ⟨p, 0, rfl, Nat.le_refl _, Nat.zero_le _, h0, h1, fun h => absurd h (Nat.lt_irrefl _)⟩
  · refine ⟨_, cap, rfl, hn, hm, h0, h1, fun _ => ⟨g, 0, rfl, (Array.getElem?_eq_some_iff.1 hh).1, fun j x hx => ?_⟩⟩
    subst ht
    rw [List.getElem?_take] at hx
    split at hx
    · simp only [World.cell?, hh, Nat.zero_add, Option.isSome_none, Bool.false_eq_true, if_false]
      simpa using hx
    · cases hx
end

theorem OwnI.rd {k : IntKind} {w : World} {base : Nat} {e : TypeId} {v : Value} {l : List Int} (h : OwnI k w base e v l) : RdI k w v l := OwnC.rd h
theorem OwnI.nil (k : IntKind) (w : World) (base : Nat) (e : TypeId) : OwnI k w base e (.slice none 0 0) [] := OwnC.nil w base e 1

/-! ### append -/
/-- what is asked of a slice's type: t is a slice type over e, of sz cells and so many bytes -/
structure Elem (P : Program) (t e : TypeId) (sz bytes : Nat) : Prop where
  und : P.underlying t = some (.slice e)
  info : ∃ i z, P.info? e = some i ∧ i.zero = some z ∧ i.size = sz ∧ i.bytes = bytes ∧ z.cells.size = sz
  pos : 0 < sz

theorem elem_of {P : Program} {t e : TypeId} {sz bytes : Nat} {z : Value} (hu : P.underlying t = some (.slice e)) (hi : (P.info? e).map (fun i => (i.zero, i.size, i.bytes)) = some (some z, sz, bytes)) (hz : z.cells.size = sz) (hp : 0 < sz) : Elem P t e sz bytes := by
  refine ⟨hu, ?_, hp⟩
  cases h : P.info? e with
  | none => simp [h] at hi
  | some i =>
    simp only [h, Option.map_some, Option.some.injEq, Prod.mk.injEq] at hi
    exact ⟨i, z, rfl, hi.1, hi.2.1, hi.2.2, hz⟩

theorem rdC_add {w : World} {sz : Nat} {b o n c : Nat} {cs : List Value} (h : ∀ j x, cs[j]? = some x → w.cell? ⟨b, o + j, none⟩ = some x) : ∀ j x, cs[j]? = some x → w.cell? ((⟨b, o, none⟩ : Addr).add j) = some x := by
  intro j x hx
  rw [Addr.add_lit]; exact h j x hx

theorem run_append_zero {P : Program} (w : World) {t ty e : TypeId} {sz bytes : Nat} (E : Elem P t e sz bytes) (p : Option Addr) (n c : Nat) (q : Option Addr) (d : Nat) (hn : n ≤ c) :
    (Builtin.append_ #[t, t] ty #[.slice p n c, .slice q 0 d]).run P w = .ok (.slice p n c) w := by
  obtain ⟨i, z, hi, hz, hs, hb, hzs⟩ := E.info
  cases p <;> cases q <;>
  simp [Builtin.append_, run_underlying E.und, sizeOf, typeInfo, hi, Builtin.lenOf, hn, Builtin.firstCells, loadCells, loadCellsFrom, storeCells]

theorem run_append_C {P : Program} (w : World) {t ty e : TypeId} {sz bytes : Nat} (E : Elem P t e sz bytes) {base : Nat} {v : Value} {n : Nat} {xs : List Value} (hown : OwnC w base e sz v n xs)
    {x : Value} {m : Nat} {news : List Value} (hx : RdC w sz x m news) (h1 : ∀ u ∈ news, u.oneCell' = true) (hm : n + m ≤ most) (hbytes : (n + m) * bytes ≤ 140737488355328) (hbase : base ≤ w.heap.size) :
    ∃ v' w', (Builtin.append_ #[t, t] ty #[v, x]).run P w = .ok v' w' ∧ OwnC w' base e sz v' (n + m) (xs ++ news) ∧ w.grownBy w' (roomOf v) ∧ (roomOf v' = roomOf v ∨ roomOf v' = some w.heap.size) := by
  obtain ⟨q, d, rfl, hd1, hd2, hd3, hlen, hcell⟩ := hx
  obtain ⟨i, z, hi, hz, hs, hb, hzs⟩ := E.info
  have hmm : n + m ≤ maxLen := by simp only [most, maxLen] at *; omega
  have hlen2 : (xs ++ news).length = (n + m) * sz := by rw [List.length_append, hown.1, hlen, Nat.add_mul]
  by_cases hm0 : m = 0
  · subst hm0
    have hnil : news = [] := List.eq_nil_of_length_eq_zero (by simpa using hlen)
    subst hnil
    have hv : ∃ p c, v = .slice p n c ∧ n ≤ c := by
      rcases hown.2.2 with ⟨p, rfl, rfl⟩ | ⟨g, cap, cur, rfl, _, _, h3, _⟩
      · exact ⟨p, 0, rfl, Nat.le_refl _⟩
      · exact ⟨_, cap, rfl, h3⟩
    obtain ⟨p, c, rfl, hc⟩ := hv
    exact ⟨_, w, run_append_zero w E p n c q d hc, by simpa using hown, ⟨rfl, rfl, rfl, Nat.le_refl _, fun _ _ _ => rfl⟩, .inl rfl⟩
  obtain ⟨b, o, rfl, hlt, hc⟩ := hcell (by omega)
  have hc' := rdC_add (sz := sz) (n := m) (c := d) hc
  subst hs hb
  have grown : ∀ (old : Nat), old < n + m → ∀ (row : Option Nat),
      OwnC (w.drew.alloc (.cells (xs.toArray ++ news.toArray ++ Builtin.zeroCells z.cells (grownCap w (n + m) old e - (n + m))) e)) base e i.size
        (.slice (some ⟨w.heap.size, 0, none⟩) (n + m) (grownCap w (n + m) old e)) (n + m) (xs ++ news) ∧
      w.grownBy (w.drew.alloc (.cells (xs.toArray ++ news.toArray ++ Builtin.zeroCells z.cells (grownCap w (n + m) old e - (n + m))) e)) row := by
    intro old ho row
    have hge := grownCap_ge w (n + m) old e
    have hcm : grownCap w (n + m) old e ≤ maxLen := grownCap_le_maxLen w (n + m) old e hmm
    refine ⟨⟨hlen2, hm, .inr ⟨w.heap.size, _, _, rfl, hbase, heap_alloc_new w.drew _, hge, hcm, ?_, ?_⟩⟩, ⟨rfl, rfl, rfl, by simp, fun k hk _ => Below.heap_alloc w.drew _ k hk⟩⟩
    · simp only [Array.size_append, List.size_toArray, size_zeroCells, hzs, hown.1, hlen, ← Nat.add_mul]
      congr 1
      omega
    · simp only [Array.toList_append, List.append_assoc]
      rw [← List.append_assoc, ← hlen2]
      exact List.take_left
  have hroomnew : ∀ old, old < n + m → roomOf (.slice (some ⟨w.heap.size, 0, none⟩) (n + m) (grownCap w (n + m) old e)) = some w.heap.size := by
    intro old ho
    have hge := grownCap_ge w (n + m) old e
    simp only [roomOf]; rw [if_neg (by omega)]
  rcases hown.2.2 with ⟨p, rfl, rfl⟩ | ⟨g, cap, cur, rfl, hbg, hg, hnc, hcm, hcs, htake⟩
  · have hx0 : xs = [] := List.eq_nil_of_length_eq_zero (by simpa using hown.1)
    subst hx0
    have hgr := grown 0 (by omega) (roomOf (.slice p 0 0))
    have hrn := hroomnew 0 (by omega)
    cases p with
    | none =>
      have hr := run_append_nil (P := P) w t ty e i z E.und hi hz ⟨b, o, none⟩ m d news hlen hc' (by omega) (by simp only [most] at hm; omega) (by have hb := hbytes; simp only [Nat.zero_add] at hb; omega)
      simp only [Nat.zero_add, List.nil_append, Array.empty_append] at hgr hrn hr ⊢
      exact ⟨_, _, hr, hgr.1, hgr.2, .inr hrn⟩
    | some a =>
      have hr := run_append_grow (P := P) w t ty e i z E.und hi hz a 0 0 [] (by simp) (by simp) ⟨b, o, none⟩ m d news hlen hc' (by omega) (by simp only [most] at hm; omega) (growslice_fits (by omega) hbytes)
      exact ⟨_, _, hr, hgr.1, hgr.2, .inr hrn⟩
  · by_cases hroom : n + m ≤ cap
    · have hfit : n * i.size + news.length ≤ cur.size := by rw [hlen, hcs, ← Nat.add_mul]; exact Nat.mul_le_mul_right _ hroom
      have hr := run_append_room (P := P) w t ty e i E.und hi g n cap cur hg ⟨b, o, none⟩ m d news hlen hc' h1 hroom hfit
      have hcap : cap ≠ 0 := by omega
      refine ⟨_, _, hr, ⟨hlen2, hm, .inr ⟨g, cap, _, rfl, hbg, setRow_heap w g cur _ e _ hg, hroom, hcm, ?_, ?_⟩⟩, ⟨rfl, rfl, rfl, by simp, fun k _ hk => setRow_other w g k _ (fun e => hk (by simp [roomOf, e, hcap]))⟩, .inl (by simp [roomOf])⟩
      · simp only [List.size_toArray, List.length_append, List.length_take, List.length_drop, Array.length_toList]
        omega
      · rw [htake, ← hlen2]
        exact List.take_left
    · have holds : ∀ j u, xs[j]? = some u → w.cell? ((⟨g, 0, none⟩ : Addr).add j) = some u := by
        obtain ⟨p', c', hv', _, _, _, _, hcc⟩ := hown.rd
        cases hv'
        intro j u hu
        have hn0 : 0 < n := by
          rcases Nat.eq_zero_or_pos n with rfl | h
          · have := hown.1; simp at this; subst this; simp at hu
          · exact h
        obtain ⟨b', o', hb', _, hcc⟩ := hcc hn0
        cases hb'
        rw [Addr.add_lit]; exact hcc j u hu
      have hr := run_append_grow (P := P) w t ty e i z E.und hi hz ⟨g, 0, none⟩ n cap xs hown.1 holds ⟨b, o, none⟩ m d news hlen hc' (by omega) (by simp only [most] at hm; omega) (growslice_fits (by omega) hbytes)
      have hgr := grown cap (by omega) (roomOf (.slice (some ⟨g, 0, none⟩) n cap))
      exact ⟨_, _, hr, hgr.1, hgr.2, .inr (hroomnew cap (by omega))⟩

/-- append at the list of a region's operations -/
theorem wpList_append_C {P : Program} (w : World) {ops : Array Oper} {rest : List Oper} {o : Oper} {a : Act} {Q : Exit → Act → World → Prop} (hgd : o.guard = none) (s x : Operand) (t : TypeId)
    (ho : o.op = .call { callee := .builtin .append, args := #[s, x], argTypes := #[t, t] })
    {e : TypeId} {sz bytes : Nat} (E : Elem P t e sz bytes) (base : Nat) {n : Nat} {xs : List Value} (hown : OwnC w base e sz (a.eval s) n xs)
    {m : Nat} {news : List Value} (hx : RdC w sz (a.eval x) m news) (h1 : ∀ u ∈ news, u.oneCell' = true) (hm : n + m ≤ most) (hbytes : (n + m) * bytes ≤ 140737488355328) (hbase : base ≤ w.heap.size)
    (h : ∀ v' w', OwnC w' base e sz v' (n + m) (xs ++ news) → w.grownBy w' (roomOf (a.eval s)) → (roomOf v' = roomOf (a.eval s) ∨ roomOf v' = some w.heap.size) → wpList P ops Q rest (a.put o.dst v') w') : wpList P ops Q (o :: rest) a w := by
  refine wpList_plain hgd fun _ hK => ?_
  obtain ⟨v', w', hr, h2, h3, h4⟩ := run_append_C (P := P) w (ty := o.type) E hown hx h1 hm hbytes hbase
  unfold Oper.wp execOp
  simp only [ho, resolve, invoke, builtin, Sem.run_bind, Sem.run_pure, Result.andThen_ok, List.map_toArray, List.map_cons, List.map_nil, hr]
  exact hK _ _ (h v' w' h2 h3 h4)

/-- numbers, one more -/
theorem nums_one (k : IntKind) (l : List Int) : ∀ u ∈ nums k l, u.oneCell' = true := by
  intro u hu
  simp only [nums, List.mem_map] at hu
  obtain ⟨x, _, rfl⟩ := hu; rfl

/-! ### boxes: reads of a block that is known whole, and writes -/
section
variable {w : World} {b : Nat} {cs : Array Value} {e : TypeId} {f : Nat × Nat}
def intV (v : Option Value) (k : IntKind) (K : Int → Prop) : Prop := match v with | some (.int k' x) => k' = k ∧ K x | _ => False
def boolV (v : Option Value) (K : Bool → Prop) : Prop := match v with | some (.bool x) => K x | _ => False
def strV (v : Option Value) (K : ByteArray → Prop) : Prop := match v with | some (.string x) => K x | _ => False
def slV (v : Option Value) (K : Option Addr → Nat → Nat → Prop) : Prop := match v with | some (.slice p n c) => K p n c | _ => False
def ptrV (v : Option Value) (K : Option Addr → Prop) : Prop := match v with | some (.pointer p) => K p | _ => False
def mapV (v : Option Value) (K : Option Nat → Prop) : Prop := match v with | some (.map p) => K p | _ => False
def anyV (v : Option Value) (K : Value → Prop) : Prop := match v with | some v => K v | _ => False
@[congr] theorem intV_congr {v v' : Option Value} {k : IntKind} {K : Int → Prop} (h : v = v') {q_ : Prop} (hm_ : nf True = q_) : intV v k K = intV v' k K := by clear hm_; subst_vars; rfl
@[congr] theorem boolV_congr {v v' : Option Value} {K : Bool → Prop} (h : v = v') {q_ : Prop} (hm_ : nf True = q_) : boolV v K = boolV v' K := by clear hm_; subst_vars; rfl
@[congr] theorem strV_congr {v v' : Option Value} {K : ByteArray → Prop} (h : v = v') {q_ : Prop} (hm_ : nf True = q_) : strV v K = strV v' K := by clear hm_; subst_vars; rfl
@[congr] theorem slV_congr {v v' : Option Value} {K : Option Addr → Nat → Nat → Prop} (h : v = v') {q_ : Prop} (hm_ : nf True = q_) : slV v K = slV v' K := by clear hm_; subst_vars; rfl
@[congr] theorem ptrV_congr {v v' : Option Value} {K : Option Addr → Prop} (h : v = v') {q_ : Prop} (hm_ : nf True = q_) : ptrV v K = ptrV v' K := by clear hm_; subst_vars; rfl
@[congr] theorem mapV_congr {v v' : Option Value} {K : Option Nat → Prop} (h : v = v') {q_ : Prop} (hm_ : nf True = q_) : mapV v K = mapV v' K := by clear hm_; subst_vars; rfl
@[congr] theorem anyV_congr {v v' : Option Value} {K : Value → Prop} (h : v = v') {q_ : Prop} (hm_ : nf True = q_) : anyV v K = anyV v' K := by clear hm_; subst_vars; rfl
theorem Z3z (k k' : IntKind) (x : Int) (K : Int → Prop) : intV (some (.int k' x)) k K = (k' = k ∧ K x) := (rfl)
theorem Z40 (x : Bool) (K : Bool → Prop) : boolV (some (.bool x)) K = K x := (rfl)
theorem Z41 (x : ByteArray) (K : ByteArray → Prop) : strV (some (.string x)) K = K x := (rfl)
theorem Z42 (p : Option Addr) (n c : Nat) (K : Option Addr → Nat → Nat → Prop) : slV (some (.slice p n c)) K = K p n c := (rfl)
theorem Z43 (p : Option Addr) (K : Option Addr → Prop) : ptrV (some (.pointer p)) K = K p := (rfl)
theorem Z44 (p : Option Nat) (K : Option Nat → Prop) : mapV (some (.map p)) K = K p := (rfl)
theorem Z45 (v : Value) (K : Value → Prop) : anyV (some v) K = K v := (rfl)

variable (h : w.heap[b]? = some (.cells cs e f)) (j : Nat)
include h
theorem cell_of_blk : w.cell? ⟨b, j, none⟩ = cs[j]? := by simp only [World.cell?, h, Option.isSome_none, Bool.false_eq_true, if_false]
theorem ldInt_blk (k : IntKind) (K : Int → Prop) : LdInt w ⟨b, j, none⟩ k K = intV cs[j]? k K := by
  unfold LdInt intV; rw [cell_of_blk h]
  apply propext; constructor
  · rintro ⟨x, h1, h2⟩; rw [h1]; exact ⟨rfl, h2⟩
  · split
    · rintro ⟨rfl, h2⟩; exact ⟨_, by assumption, h2⟩
    · exact False.elim
theorem ldBool_blk (K : Bool → Prop) : LdBool w ⟨b, j, none⟩ K = boolV cs[j]? K := by
  unfold LdBool boolV; rw [cell_of_blk h]
  apply propext; constructor
  · rintro ⟨x, h1, h2⟩; rw [h1]; exact h2
  · split
    · intro h2; exact ⟨_, by assumption, h2⟩
    · exact False.elim
theorem ldStr_blk (K : ByteArray → Prop) : LdStr w ⟨b, j, none⟩ K = strV cs[j]? K := by
  unfold LdStr strV; rw [cell_of_blk h]
  apply propext; constructor
  · rintro ⟨x, h1, h2⟩; rw [h1]; exact h2
  · split
    · intro h2; exact ⟨_, by assumption, h2⟩
    · exact False.elim
theorem ldSl_blk (K : Option Addr → Nat → Nat → Prop) : LdSl w ⟨b, j, none⟩ K = slV cs[j]? K := by
  unfold LdSl slV; rw [cell_of_blk h]
  apply propext; constructor
  · rintro ⟨x, y, z, h1, h2⟩; rw [h1]; exact h2
  · split
    · intro h2; exact ⟨_, _, _, by assumption, h2⟩
    · exact False.elim
theorem ldPtr_blk (K : Option Addr → Prop) : LdPtr w ⟨b, j, none⟩ K = ptrV cs[j]? K := by
  unfold LdPtr ptrV; rw [cell_of_blk h]
  apply propext; constructor
  · rintro ⟨x, h1, h2⟩; rw [h1]; exact h2
  · split
    · intro h2; exact ⟨_, by assumption, h2⟩
    · exact False.elim
theorem ldMap_blk (K : Option Nat → Prop) : LdMap w ⟨b, j, none⟩ K = mapV cs[j]? K := by
  unfold LdMap mapV; rw [cell_of_blk h]
  apply propext; constructor
  · rintro ⟨x, h1, h2⟩; rw [h1]; exact h2
  · split
    · intro h2; exact ⟨_, by assumption, h2⟩
    · exact False.elim
theorem ldAny_blk (K : Value → Prop) : LdAny w ⟨b, j, none⟩ K = anyV cs[j]? K := by
  unfold LdAny anyV; rw [cell_of_blk h]
  apply propext; constructor
  · rintro ⟨x, h1, h2⟩; rw [h1]; exact h2
  · split
    · intro h2; exact ⟨_, by assumption, h2⟩
    · exact False.elim
theorem ldAgg_blk {n : Nat} (hn : cs.size = n) (K : List Value → Prop) : LdAgg w ⟨b, 0, none⟩ n K = K cs.toList := by
  unfold LdAgg
  apply propext; constructor
  · rintro ⟨vs, h1, h2, h3⟩
    have : vs = cs.toList := by
      refine List.ext_getElem (by simp [h1, hn]) fun i hi hi' => ?_
      have := h2 i vs[i] (List.getElem?_eq_getElem hi)
      rw [Addr.add_lit, cell_of_blk h, Nat.zero_add] at this
      have h4 : cs[i]? = some cs[i] := Array.getElem?_eq_getElem (by simpa using hi')
      rw [h4] at this
      simpa using this.symm
    rw [← this]; exact h3
  · intro hk
    refine ⟨cs.toList, by simpa using hn, fun i v hi => ?_, hk⟩
    rw [Addr.add_lit, cell_of_blk h, ← Array.getElem?_toList, Nat.zero_add]; exact hi
end
/-- a write to a block that is known whole -/
theorem StA.of {w : World} {b o : Nat} {cs : Array Value} {e : TypeId} {vs : List Value} {K : World → Prop} (h : w.heap[b]? = some (.cells cs e (0, 0))) (hl : o + vs.length ≤ cs.size) (h1 : ∀ v ∈ vs, v.oneCell' = true)
    (hk : ∀ w', Upd w b (.cells (cs.toList.take o ++ vs ++ cs.toList.drop (o + vs.length)).toArray e (0, 0)) w' → K w') : StA w ⟨b, o, none⟩ vs K := ⟨rfl, cs, e, h, hl, h1, hk⟩

/-- a word's value: its two lists -/
def RdW (w : World) (v : Value) (s l : List Int) : Prop := ∃ a b, v = .agg #[a, b] ∧ RdI .u16 w a s ∧ RdI .u16 w b l
theorem RdW.below {w w' : World} {v : Value} {s l : List Int} (h : RdW w v s l) (hb : Below w.heap.size w w') : RdW w' v s l := by
  obtain ⟨a, b, rfl, h1, h2⟩ := h
  exact ⟨a, b, rfl, h1.below hb, h2.below hb⟩

theorem BrD {p : Prop} [Decidable p] {X Y : Prop} (h1 : p → X) (h2 : ¬ p → Y) : Br (decide p) X Y := ⟨fun h => h1 (by simpa using h), fun h => h2 (by simpa using h)⟩
theorem BrE {a b : Int} {X Y : Prop} (h1 : a = b → X) (h2 : a ≠ b → Y) : Br (a == b) X Y := ⟨fun h => h1 (by simpa using h), fun h => h2 (by simpa using h)⟩
theorem BrN {a b : Int} {X Y : Prop} (h1 : a ≠ b → X) (h2 : a = b → Y) : Br (!(a == b)) X Y := ⟨fun h => h1 (by simpa using h), fun h => h2 (by simpa using h)⟩
theorem BrB {b : Bool} {X Y : Prop} (h1 : b = true → X) (h2 : b = false → Y) : Br b X Y := ⟨h1, h2⟩

/-- an answer; nothing that was there has turned -/
def Ans (w : World) (x v : Value) (w' : World) : Prop := v = x ∧ Below w.heap.size w w'
theorem Ans.mk {w w' : World} {x v : Value} (h : v = x) (hb : Below w.heap.size w w') : Ans w x v w' := ⟨h, hb⟩

/-- an element is read -/
theorem RdI.at_ {k : IntKind} {w : World} {v : Value} {l : List Int} (h : RdI k w v l) {i : Int} (h0 : 0 ≤ i) (h1 : i < l.length) {K : Int → Prop} (hk : K (nth l i.toNat)) :
    IxA 1 v i fun b o => LdInt w ⟨b, o, none⟩ k K := by
  obtain ⟨p, c, rfl, _, _, _, hc⟩ := h.out
  obtain ⟨b, o, rfl, _, hcell⟩ := hc (by omega)
  exact ⟨b, o, _, _, rfl, h0, h1, _, by rw [Nat.mul_one]; exact hcell i.toNat (by omega), hk⟩

/-- a cell of a block that is known whole -/
theorem cell_blk {w : World} {b : Nat} {cs : Array Value} {e : TypeId} {f : Nat × Nat} (h : w.heap[b]? = some (.cells cs e f)) {j : Nat} {v : Value} (hj : cs[j]? = some v) : w.cell? ⟨b, j, none⟩ = some v := by
  simp only [World.cell?, h, Option.isSome_none, Bool.false_eq_true, if_false]; exact hj

theorem bheap {w w' : World} (h : Below w.heap.size w w') {b : Nat} {o : Obj} (hb : w.heap[b]? = some o) : w'.heap[b]? = some o := by
  rw [h.block b (Array.getElem?_eq_some_iff.1 hb).1]; exact hb

/-- 'wrap' of what fits -/
theorem wi {n : Int} (h0 : -9223372036854775808 ≤ n) (h1 : n ≤ 9223372036854775807) : IntKind.i64.wrap n = n := by
  have := IntWalk.i64_in n ⟨h0, h1⟩
  exact this
theorem below_dn {B : Nat} {a w : World} (h : Below B a w) (n : Nat) : Below B a (w.drewN n) := ⟨h.os, h.tape, h.output, h.size, h.block⟩
/-- a cell that lay below is there still -/
theorem cell_at {w w' : World} {b o : Nat} {v : Value} (hb : Below w.heap.size w w') (hlt : b < w.heap.size) (h : w.cell? ⟨b, o, none⟩ = some v) : w'.cell? ⟨b, o, none⟩ = some v := (hb.cell (p := ⟨b, o, none⟩) hlt).trans h

theorem below_drewN (w : World) (n : Nat) : Below w.heap.size w (w.drewN n) := by
  induction n with
  | zero => exact Below.refl _ _
  | succ n ih => rw [← World.drew_drewN]; exact ⟨ih.os, ih.tape, ih.output, ih.size, ih.block⟩

end Go.Proofs.YtdpfafgecchafaaDoor

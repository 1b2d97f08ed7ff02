/- Own: append and make as steps of the walk; lent lists. -/
import Derived.Test.YtdpfafgecchafaaDoorBase
set_option linter.unusedVariables false
set_option maxRecDepth 20000
set_option linter.unusedSimpArgs false
namespace Go.Proofs.YtdpfafgecchafaaDoor
open Go Go.RowKit Sx

theorem E16 : Elem C.P 22 54 1 2 := elem_of (z := .int .u16 0) (by kernel_rfl) (by kernel_rfl) rfl (by decide)

theorem grown_below {w w' : World} {row : Option Nat} {B : Nat} (h : w.grownBy w' row) (hr : ∀ g, row = some g → B ≤ g) (hB : B ≤ w.heap.size) : Below B w w' := by
  refine ⟨h.os, h.tape, h.output, h.size, fun k hk => h.block k (by omega) ?_⟩
  rintro rfl
  exact absurd (hr k rfl) (by omega)

section
variable {P : Program} {w : World} {t ty e : TypeId} {sz bytes : Nat}
theorem app (E : Elem P t e sz bytes) {base : Nat} {v x : Value} {n m : Nat} {xs news : List Value} {K : KV} (hown : OwnC w base e sz v n xs) (hx : RdC w sz x m news) (h1 : ∀ u ∈ news, u.oneCell' = true)
    (hm : n + m ≤ most) (hbytes : (n + m) * bytes ≤ 140737488355328) (hbase : base ≤ w.heap.size)
    (hk : ∀ v' w', OwnC w' base e sz v' (n + m) (xs ++ news) → w.grownBy w' (roomOf v) → (roomOf v' = roomOf v ∨ roomOf v' = some w.heap.size) → Below base w w' → K v' w') : RunA P (Builtin.append_ #[t, t] ty #[v, x]) w K := by
  obtain ⟨v', w', hr, h2, h3, h4⟩ := run_append_C (P := P) w (ty := ty) E hown hx h1 hm hbytes hbase
  unfold RunA
  rw [hr]
  refine ⟨KeepD.grown h3 fun b hb => ?_, hk v' w' h2 h3 h4 (grown_below h3 (fun g hg => (hown.room g hg).1) hbase)⟩
  rcases hown.2.2 with ⟨p, rfl, _⟩ | ⟨g, cap, cur, rfl, _, hh, _⟩
  · cases p <;> simp [roomOf] at hb
  · simp [roomOf] at hb
    obtain ⟨_, rfl⟩ := hb
    exact ⟨_, hh, by intro x; simp⟩

/-- into room that is known -/
theorem app_fit (E : Elem P t e sz bytes) {x : Value} {n m g cap : Nat} {cur : Array Value} {news : List Value} {K : KV} (hg : w.heap[g]? = some (.cells cur e (0, 0))) (hx : RdC w sz x m news) (h1 : ∀ u ∈ news, u.oneCell' = true)
    (hroom : n + m ≤ cap) (hs : cur.size = cap * sz) (hk : ∀ w', Upd w g (.cells (cur.toList.take (n * sz) ++ news ++ cur.toList.drop (n * sz + news.length)).toArray e (0, 0)) w' → K (.slice (some ⟨g, 0, none⟩) (n + m) cap) w') :
    RunA P (Builtin.append_ #[t, t] ty #[.slice (some ⟨g, 0, none⟩) n cap, x]) w K := by
  obtain ⟨q, d, rfl, hd1, hd2, hd3, hlen, hcell⟩ := hx
  obtain ⟨i, z, hi, hz, hs', hb, hzs⟩ := E.info
  have hlt := (Array.getElem?_eq_some_iff.1 hg).1
  by_cases hm0 : m = 0
  · subst hm0
    have hnil : news = [] := List.eq_nil_of_length_eq_zero (by simpa using hlen)
    subst hnil
    have hr := run_append_zero (P := P) w (ty := ty) E (some ⟨g, 0, none⟩) n cap q d (by omega)
    unfold RunA
    rw [hr]
    refine ⟨KeepD.refl _, hk w ⟨hlt, ?_, fun _ _ => rfl, rfl, rfl, rfl, rfl⟩⟩
    simpa using hg
  obtain ⟨b, o, rfl, hlt', hc⟩ := hcell (by omega)
  have hc' := rdC_add (sz := sz) (n := m) (c := d) hc
  subst hs' hb
  have hfit : n * i.size + news.length ≤ cur.size := by rw [hlen, hs, ← Nat.add_mul]; exact Nat.mul_le_mul_right _ hroom
  have hr := run_append_room (P := P) w t ty e i E.und hi g n cap cur hg ⟨b, o, none⟩ m d news hlen hc' h1 hroom hfit
  unfold RunA
  rw [hr]
  have u : Upd w g (.cells (cur.toList.take (n * i.size) ++ news ++ cur.toList.drop (n * i.size + news.length)).toArray e (0, 0)) (w.setRow g (cur.toList.take (n * i.size) ++ news ++ cur.toList.drop (n * i.size + news.length)).toArray) := ⟨hlt, setRow_heap w g cur _ e _ hg, fun k hk => setRow_other w g k _ hk, by simp, rfl, rfl, rfl⟩
  exact ⟨KeepD.upd hg u, hk _ u⟩

theorem mkA {t e : TypeId} {k k' : IntKind} {l c : Int} {z : Value} {sz bytes : Nat} {K : KV} (n m : Nat) (hn : l = n) (hm : c = m) (ht : P.underlying t = some (.slice e)) (hi : (P.info? e).map (fun i => (i.zero, i.size, i.bytes)) = some (some z, sz, bytes))
    (hlc : n ≤ m) (hb : bytes * m ≤ 281474976710656) (h63 : m ≤ 9223372036854775807)
    (hk : ∀ g w', New w g (.cells (madeCells z.cells (m * sz)) e) w' → K (.slice (some ⟨g, 0, none⟩) n m) w') :
    RunA P (Instr.makeSlice t (.int k l) (.int k' c)) w K := by
  subst hn hm
  cases h : P.info? e with
  | none => simp [h] at hi
  | some i =>
    simp only [h, Option.map_some, Option.some.injEq, Prod.mk.injEq] at hi
    obtain ⟨hz, rfl, rfl⟩ := hi
    have hbb : (i.bytes : Int) * m ≤ 281474976710656 := by rw [← Int.natCast_mul]; omega
    have hr := run_make (P := P) (w := w) t e i z ht h hz k k' n m (by omega) (by omega) hbb (by omega)
    unfold RunA
    rw [hr]
    exact ⟨KeepD.alloc _ _, hk _ _ (New.mk' _ _)⟩
end

/-- a list that is lent: its room behind has the owner's two marks -/
def LentI (w : World) (base : Nat) (v : Value) (l : List Int) : Prop :=
  ∃ g, v = .slice (some ⟨g, 0, none⟩) l.length (l.length + 2) ∧ base ≤ g ∧ w.heap[g]? = some (.cells (nums .u16 (l ++ [60001, 60002])).toArray 54 (0, 0)) ∧ l.length + 2 ≤ most

theorem rd_of_cells {k : IntKind} {w : World} {g n c : Nat} {l : List Int} {cs : Array Value} {e : TypeId} (hg : w.heap[g]? = some (.cells cs e (0, 0))) (hn : n = l.length) (hc : n ≤ c) (hm : c ≤ maxLen) (hl : n ≤ most) (ht : ∀ j, j < l.length → cs[j]? = some (.int k (nth l j))) : RdI k w (.slice (some ⟨g, 0, none⟩) n c) l := by
  subst hn
  refine ⟨_, c, rfl, hc, hm, hl, by simp [nums], fun _ => ⟨g, 0, rfl, (Array.getElem?_eq_some_iff.1 hg).1, fun j x hx => ?_⟩⟩
  have hj : j < l.length := by
    have := (List.getElem?_eq_some_iff.1 hx).1
    simpa [nums] using this
  rw [nums_get k l j hj] at hx
  cases hx
  rw [cell_of_blk hg, Nat.zero_add]; exact ht j hj

theorem LentI.rd {w : World} {base : Nat} {v : Value} {l : List Int} (h : LentI w base v l) : RdI .u16 w v l := by
  obtain ⟨g, rfl, hb, hg, hm⟩ := h
  refine rd_of_cells hg rfl (by omega) (by simp only [most, maxLen] at *; omega) (by simp only [most] at *; omega) fun j hj => ?_
  rw [List.getElem?_toArray, nums_get _ _ _ (by simp; omega), nth_append_left hj]
theorem LentI.below {w w' : World} {base : Nat} {v : Value} {l : List Int} (h : LentI w base v l) (hb : Below w.heap.size w w') : LentI w' base v l := by
  obtain ⟨g, rfl, hb', hg, hm⟩ := h
  exact ⟨g, rfl, hb', bheap hb hg, hm⟩
end Go.Proofs.YtdpfafgecchafaaDoor

/- Plain: what Show prints, Read reads. -/
import Derived.Test.YtdpfafgecchafaaDoorWk
import Derived.Test.YtdpfafgecchafaaDoorWl
set_option linter.unusedVariables false
set_option maxRecDepth 20000
set_option linter.unusedSimpArgs false
namespace Go.Proofs.YtdpfafgecchafaaDoor
open Go Go.RowKit Sx

theorem digit_byte {d : Nat} (h : d < 10) : (UInt8.ofNat (48 + d)).toNat = 48 + d := by simp; omega
theorem isD_digit {d : Nat} (h : d < 10) : isD (UInt8.ofNat (48 + d)) := by unfold isD; rw [digit_byte h]; omega
theorem numGo_digit {d v n : Nat} (h : d < 10) (t : List UInt8) (hz : 0 < n → v ≠ 0) (hv : 10 * v + d ≤ 65535) : numGo (UInt8.ofNat (48 + d) :: t) v n = numGo t (10 * v + d) (n + 1) := by
  rw [numGo, if_pos (isD_digit h), digit_byte h, if_neg]
  · congr 1; omega
  · rintro (⟨h1, h2⟩ | h)
    · exact hz h1 h2
    · omega
theorem numGo_dec : ∀ (m : Nat) (t : List UInt8), m ≤ 65535 → numGo (Lib.decDigits m ++ t) 0 0 = numGo t m (Lib.decDigits m).length := by
  intro m
  induction m using Nat.strongRecOn with
  | ind m ih =>
    intro t hm
    by_cases h : m < 10
    · rw [dig_small h, List.singleton_append, numGo_digit h t (fun h => absurd h (by omega)) (by omega)]
      simp
    · rw [dig_big h, List.append_assoc, ih (m / 10) (by omega) _ (by omega), List.singleton_append, numGo_digit (by omega) t (fun _ => by omega) (by omega)]
      rw [List.length_append]
      congr 1
      omega
theorem dec_cons (m : Nat) : ∃ d r, d < 10 ∧ Lib.decDigits m = UInt8.ofNat (48 + d) :: r := by
  induction m using Nat.strongRecOn with
  | ind m ih =>
    by_cases h : m < 10
    · exact ⟨m, [], h, dig_small h⟩
    · obtain ⟨d, r, hd, e⟩ := ih (m / 10) (by omega)
      exact ⟨d, r ++ [UInt8.ofNat (48 + m % 10)], hd, by rw [dig_big h, e]; rfl⟩

/-- no digit follows -/
def NoD (t : List UInt8) : Prop := ∀ c r, t = c :: r → ¬ isD c
theorem numGo_stop {t : List UInt8} (h : NoD t) (v n : Nat) : numGo t v n = (v, n) := by
  cases t with
  | nil => rfl
  | cons c r => rw [numGo, if_neg (h c r rfl)]

theorem readF_blank (f : Nat) (r : List UInt8) (i : Nat) (op sh pt : Bool) (S L : List Int) : readF (f + 1) (32 :: r) i op sh pt S L = readF f r (i + 1) op sh true S L := by
  rw [readF, if_pos (by rfl)]
theorem readF_num (f : Nat) (c : Int) (h0 : 0 ≤ c) (h1 : c ≤ 65535) (t : List UInt8) (ht : NoD t) (i : Nat) (op : Bool) (S L : List Int) :
    readF (f + 1) (digs c ++ t) i op false true S L = readF f t (i + (digs c).length) op false false (if op = true then S else S ++ [c]) (if op = true then L ++ [c] else L) := by
  obtain ⟨d, r, hd, e⟩ := dec_cons c.toNat
  have hg : numGo (digs c ++ t) 0 0 = (c.toNat, (digs c).length) := by
    unfold digs
    rw [numGo_dec _ _ (by omega), numGo_stop ht]
  have hb := digit_byte hd
  have hc : ((c.toNat : Nat) : Int) = c := by omega
  have e' : digs c ++ t = UInt8.ofNat (48 + d) :: (r ++ t) := by unfold digs; rw [e]; rfl
  rw [e'] at hg ⊢
  rw [readF, hg, hb, if_neg (by omega), if_neg (by omega), if_neg (by omega), if_pos ⟨isD_digit hd, rfl, rfl⟩, ← e']
  simp only [List.drop_left, hc]

theorem NoD.cons {c : UInt8} {r : List UInt8} (h : ¬ isD c) : NoD (c :: r) := by
  intro c' r' e
  cases e
  exact h

theorem read_S : ∀ (s : List Int) (r : List UInt8) (f i : Nat) (S : List Int), U16 s → (showS s ++ r).length < f →
    ∃ f' i', r.length < f' ∧ readF f (showS s ++ r) i false false true S [] = readF f' r i' false false true (S ++ s) [] := by
  intro s
  induction s with
  | nil => intro r f i S _ hf; exact ⟨f, i, by simpa [showS] using hf, by simp [showS]⟩
  | cons c s ih =>
    intro r f i S hu hf
    obtain ⟨h0, h1⟩ := hu c (List.mem_cons_self ..)
    simp only [showS, List.append_assoc, List.singleton_append, List.cons_append, List.nil_append] at hf ⊢
    simp only [List.length_append, List.length_cons] at hf
    have hd : 1 ≤ (digs c).length := by obtain ⟨d, t, _, e⟩ := dec_cons c.toNat; unfold digs; rw [e]; simp
    obtain ⟨g, rfl⟩ : ∃ g, f = g + 1 + 1 := ⟨f - 2, by omega⟩
    rw [readF_num (g + 1) c h0 h1 _ (NoD.cons (by decide)), readF_blank]
    obtain ⟨f', i', hf', e⟩ := ih r g (i + (digs c).length + 1) (S ++ [c]) (fun d hd => hu d (List.mem_cons_of_mem _ hd)) (by simp only [List.length_append]; omega)
    exact ⟨f', i', hf', by simpa using e⟩

theorem read_L : ∀ (l : List Int) (r : List UInt8) (f i : Nat) (pt : Bool) (S L : List Int), U16 l → NoD r → (showL l ++ r).length < f →
    ∃ f' i' pt', r.length < f' ∧ readF f (showL l ++ r) i true false pt S L = readF f' r i' true false pt' S (L ++ l) := by
  intro l
  induction l with
  | nil => intro r f i pt S L _ _ hf; exact ⟨f, i, pt, by simpa [showL] using hf, by simp [showL]⟩
  | cons c l ih =>
    intro r f i pt S L hu hr hf
    obtain ⟨h0, h1⟩ := hu c (List.mem_cons_self ..)
    simp only [showL, List.append_assoc, List.singleton_append, List.cons_append, List.nil_append] at hf ⊢
    simp only [List.length_append, List.length_cons] at hf
    have hd : 1 ≤ (digs c).length := by obtain ⟨d, t, _, e⟩ := dec_cons c.toNat; unfold digs; rw [e]; simp
    obtain ⟨g, rfl⟩ : ∃ g, f = g + 1 + 1 := ⟨f - 2, by omega⟩
    have hn : NoD (showL l ++ r) := by
      cases l with
      | nil => simpa [showL] using hr
      | cons d l => simp only [showL, List.append_assoc, List.singleton_append, List.cons_append, List.nil_append]; exact NoD.cons (by decide)
    rw [readF_blank, readF_num g c h0 h1 _ hn]
    obtain ⟨f', i', pt', hf', e⟩ := ih r g (i + 1 + (digs c).length) false S (L ++ [c]) (fun d hd => hu d (List.mem_cons_of_mem _ hd)) hr (by simp only [List.length_append]; omega)
    exact ⟨f', i', pt', hf', by simpa using e⟩

theorem showOf_len {s l : List Int} (hs : U16 s) (hl : U16 l) : (showOf s l).length ≤ 6 * (s.length + l.length) + 2 := by
  cases l with
  | nil => simp [showOf]
  | cons c r =>
    have h1 := digs_len (hl c (by simp)).1 (hl c (by simp)).2
    have h2 := showL_len (s := r) fun x hx => hl x (by simp [hx])
    have h3 := showS_len hs
    simp only [showOf, List.length_append, List.length_cons, List.length_nil]; omega

theorem read_show (s l : List Int) (hs : U16 s) (hl : U16 l) (hn : l ≠ []) (hlen : (showOf s l).length ≤ 65536) : readOf (showOf s l) = .ok (s, l) := by
  rw [readOf, if_neg (by omega)]
  cases l with
  | nil => exact absurd rfl hn
  | cons c l =>
    obtain ⟨h0, h1⟩ := hl c (List.mem_cons_self ..)
    simp only [showOf, List.append_assoc, List.singleton_append, List.cons_append, List.nil_append]
    obtain ⟨f1, i1, hf1, e1⟩ := read_S s (40 :: (digs c ++ (showL l ++ [41]))) _ 0 [] hs (Nat.lt_succ_self _)
    rw [e1]
    simp only [List.length_cons, List.length_append] at hf1
    have hd : 1 ≤ (digs c).length := by obtain ⟨d, t, _, e⟩ := dec_cons c.toNat; unfold digs; rw [e]; simp
    obtain ⟨g, rfl⟩ : ∃ g, f1 = g + 1 + 1 := ⟨f1 - 2, by omega⟩
    have hnn : NoD (showL l ++ [41]) := by
      cases l with
      | nil => exact NoD.cons (by decide)
      | cons d l => simp only [showL, List.append_assoc, List.singleton_append, List.cons_append, List.nil_append]; exact NoD.cons (by decide)
    rw [readF, if_neg (by decide), if_pos ⟨rfl, rfl⟩, readF_num g c h0 h1 _ hnn]
    obtain ⟨f2, i2, pt2, hf2, e2⟩ := read_L l [41] g _ false ([] ++ s) ([] ++ [c]) (fun d hd => hl d (List.mem_cons_of_mem _ hd)) (NoD.cons (by decide)) (by simp only [List.length_cons, List.length_append, List.length_nil] at hf1 ⊢; omega)
    rw [if_pos rfl, if_pos rfl, e2]
    simp only [List.length_cons, List.length_nil] at hf2
    obtain ⟨g2, rfl⟩ : ∃ g2, f2 = g2 + 1 + 1 := ⟨f2 - 2, by omega⟩
    rw [readF, if_neg (by decide), if_neg (by decide), if_pos ⟨rfl, rfl, rfl, by simp⟩, readF, if_pos rfl]
    simp
end Go.Proofs.YtdpfafgecchafaaDoor

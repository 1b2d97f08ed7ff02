/- The row's side: a word that comes in; the listed tables; from a function's contract to the law's row. -/
import Derived.Test.YtdpfafgecchafaaDoorRows
import Derived.Test.YtdpfafgecchafaaDoorWj
import Derived.WalkKit
import Derived.ProofKit
import Derived.OpenShut
import Derived.ShutString
import Derived.ChangeOld
import Derived.Below
import Derived.LaidMore
import Derived.Stop.Joined
import Derived.Lib.SmallJoins
set_option linter.unusedVariables false
set_option linter.unusedSimpArgs false
set_option maxRecDepth 100000
namespace Go.Proofs.YtdpfafgecchafaaDoor
open Go Go.ChangeShapes Go.WideShapes Go.ChangeAt Go.RowKit
open Go.ChangeMaps (open_string shut_string)

theorem own : ownKnob Tryd.prog.godebug = none := by kernel_rfl
theorem laidOut : laidOutB Tryd.prog = true := by kernel_rfl

def laid3 : List (String × DataW Unit) := [("math/bits.deBruijn32tab", Rows.laid_math_bits_deBruijn32tab), ("math/bits.deBruijn64tab", Rows.laid_math_bits_deBruijn64tab), ("internal/strconv.uint64pow10", Rows.laid_internal_strconv_uint64pow10)]

theorem tab_of {W : World} (h : laidMetH Tryd.prog laid3 W) : Tab W.heap.size W := by
  rw [MakeChecks.laidMetH_plain _ _ _ (by kernel_rfl)] at h
  obtain ⟨ps, ⟨g0, t0, cs0, f0, p0, q0, hg0, ht0, hv0, hd0, ⟨g1, t1, cs1, f1, p1, q1, hg1, ht1, hv1, hd1, ⟨g2, t2, cs2, f2, p2, q2, hg2, ht2, hv2, hd2, _, _⟩, _⟩, _⟩, _, _⟩ := h
  refine Lib.tabBelow_of_tabIs ?_
  obtain rfl : g2 = 0 := Option.some.inj (hg2.symm.trans (show Tryd.prog.globalNamed "internal/strconv.uint64pow10" = some 0 by kernel_rfl))
  obtain rfl : t2 = 146 := Option.some.inj (ht2.symm.trans (show (Tryd.prog.globals[0]?).map (·.type) = some 146 by kernel_rfl))
  have hd : DataW.trod _ Tryd.prog W 0 _ false f2 146 cs2.toList = some (Lib.tabData .u64 Lib.pow10Tab, p2) := hd2
  show W.var? Tryd.prog "internal/strconv.uint64pow10" = _
  rw [hv2, ← Lib.cells_of_tab (n := 20) (e := 139) (by kernel_rfl) (by kernel_rfl) (by kernel_rfl) (by kernel_rfl) hd]

theorem door_met (os : Os) (args : Array Value) : laidMetH Tryd.prog laid3 ((World.doorLaid Tryd.prog 24 os).forCall (fun _ _ => 0) ⟨#[], args, []⟩).memory :=
  laidMetH_of_parts3 (fuel := 65) (laidMet_of_run' 65 (by kernel_rfl) (by kernel_rfl)) (by kernel_rfl) (by kernel_rfl)

/-- a list of letters that comes in -/
theorem letters_open {H : Type} {enc : TypeId × Value → H} {W : World} {n : Nat} {v : Value} {y : DataW H × List MemPlace}
    (h : DataW.trod enc Tryd.prog W 0 (fun _ => true) true n 22 [v] = some y) (hsz : ∀ k ∈ y.1.weights Tryd.prog 22, k ≤ reachBytes) : ∃ l, RdI .u16 W v l ∧ (∀ c ∈ l, 0 ≤ c ∧ c ≤ 65535) := by
  rcases open_ints (k := .u16) (e := 54) (by kernel_rfl) (by kernel_rfl) (by kernel_rfl) h with ⟨e, _⟩ | ⟨a, len, cap, zs, e, _, h1, h2, h3, hy, hc, hw⟩
  · simp only [List.cons.injEq, and_true] at e
    subst e
    exact ⟨[], RdI.nil _ _, fun c hc => by cases hc⟩
  · simp only [List.cons.injEq, and_true] at e
    subst e
    rw [if_pos rfl] at h3
    subst hy
    have h4 : (len + (cap - len)) * 2 ≤ reachBytes := by
      refine hsz _ ?_
      have e1 : Tryd.prog.underlying 22 = some (.slice 54) := by kernel_rfl
      have e2 : Tryd.prog.bytesOf 54 = 2 := by kernel_rfl
      simp [DataW.weights, e1, e2, lits, h3, Nat.min_eq_left h1]
    have h5 := reachBytes_lt
    have hzl : (zs.take len).length = len := by rw [List.length_take]; omega
    refine ⟨zs.take len, ⟨some a, cap, by rw [hzl], by omega, h2, by simp only [most]; omega, by simp [nums], fun h0 => ?_⟩, fun c hc => ?_⟩
    · have h0 : 0 < len := by omega
      have hc0 := hc 0 (by omega)
      obtain ⟨b, o, s⟩ := a
      have hs : s = none := by
        cases s with
        | none => rfl
        | some x =>
          exfalso
          simp only [Addr.add, if_true] at hc0
          unfold World.cell? at hc0
          cases hb : W.heap[b]? with
          | none => rw [hb] at hc0; simp at hc0
          | some ob => rw [hb] at hc0; cases ob <;> simp at hc0
      subst hs
      refine ⟨b, o, rfl, ?_, fun j x hx => ?_⟩
      · have : (W.cell? ⟨b, o, none⟩).isSome = true := by
          have := hc 0 (by omega)
          rw [Addr.add_lit, Nat.add_zero] at this
          rw [this]; rfl
        unfold World.cell? at this
        cases hb : W.heap[b]? with
        | none => rw [hb] at this; simp at this
        | some _ => exact (Array.getElem?_eq_some_iff.1 hb).1
      · have hj : j < len := by
          have := (List.getElem?_eq_some_iff.1 hx).1
          simp [nums] at this
          omega
        rw [nums_get _ _ _ (by omega)] at hx
        cases hx
        have := hc j (by omega)
        rw [Addr.add_lit] at this
        rw [this]
        congr 2
        rw [nth_eq?, List.getElem?_take_of_lt hj]
        simp [List.getD]
    · have := hw c (List.mem_of_mem_take hc)
      simpa [Lit.wf, IntKind.min, IntKind.max, IntKind.signed, IntKind.bits] using this

/-- a word that comes in -/
theorem word_open {H : Type} {enc : TypeId × Value → H} {W : World} {base : Nat} {v : Value} {d : DataW H} {p : List MemPlace} (hv : Value.okWide Tryd.prog W .any base 24 v)
    (h : DataW.Trod enc Tryd.prog W 0 (fun _ => true) true 24 v d p) (hsz : ∀ k ∈ d.weights Tryd.prog 24, k ≤ reachBytes) :
    ∃ s l, RdW W v s l ∧ (∀ c ∈ s, 0 ≤ c ∧ c ≤ 65535) ∧ (∀ c ∈ l, 0 ≤ c ∧ c ≤ 65535) := by
  obtain ⟨f0, f1, hu, ht0, ht1, hone, hC⟩ : ∃ f0 f1, Tryd.prog.underlying 24 = some (.struct #[f0, f1]) ∧ f0.type = 22 ∧ f1.type = 22 ∧ Go.Deep.oneCellFields Tryd.prog #[f0, f1] = true ∧ Tryd.prog.cellsOf 24 = 2 := by
    have : (match Tryd.prog.underlying 24 with | some (.struct ⟨[f0, f1]⟩) => decide (f0.type = 22 ∧ f1.type = 22) && Go.Deep.oneCellFields Tryd.prog #[f0, f1] | _ => false) = true := by kernel_rfl
    split at this
    · rename_i f0 f1 hu
      simp only [Bool.and_eq_true, decide_eq_true_eq] at this
      exact ⟨f0, f1, hu, this.1.1, this.1.2, this.2, by kernel_rfl⟩
    · cases this
  obtain ⟨v0, v1, y0, y1, n, rfl, rfl, rfl, h0, h1⟩ := Joins.open_agg2 hu hone hC hv h
  rw [ht0] at h0
  rw [ht1] at h1
  have hw0 : ∀ k ∈ y0.1.weights Tryd.prog 22, k ≤ reachBytes := fun k hk => hsz k (by simp [DataW.weights, hu, DataW.weightsEach, ht0, hk])
  have hw1 : ∀ k ∈ y1.1.weights Tryd.prog 22, k ≤ reachBytes := fun k hk => hsz k (by simp [DataW.weights, hu, DataW.weightsEach, ht1, hk])
  obtain ⟨s, r0, u0⟩ := letters_open h0 hw0
  obtain ⟨l, r1, u1⟩ := letters_open h1 hw1
  exact ⟨s, l, ⟨v0, v1, rfl, r0, r1⟩, u0, u1⟩
/-- a contract that an answer is given: as the kit says it -/
theorem calls_of {f : FuncId} {args : Array Value} {w : World} {x : Value} (hg : Sx.Good Sx.C.P f) (h : Sx.CallG Sx.C.P f args w (Ans w x)) : Calls Tryd.prog f args w fun e w' => e = .returned x ∧ Below w.heap.size w w' := by
  rcases h with ⟨_, h⟩ | ⟨v, w', h, _⟩
  · refine Calls.mono h ?_
    intro e w' he
    cases e with
    | returned v => exact ⟨by rw [he.2.1], he.2.2⟩
    | panicked c => exact he.elim
    | outgrown => exact he.elim
  · have := Sx.run_callFunc hg args w
    rw [this] at h
    cases h

end Go.Proofs.YtdpfafgecchafaaDoor

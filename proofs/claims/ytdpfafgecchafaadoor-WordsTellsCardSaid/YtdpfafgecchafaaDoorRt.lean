/- WordsTells holds: of every word, every numbers and every list of letters (of at most 4194304 letters each) the program's Normal, Suffix, Join, Prefix, Check, Places, Behind, At and Show answer as the document's; twice; what is lent stays; what comes out is its owner's; after the lent letters are written over the answers follow them; the law's closed head holds; what came in reads as it did. -/
import Derived.Test.YtdpfafgecchafaaDoorRw
import Derived.Test.YtdpfafgecchafaaDoorWv
import Derived.Test.YtdpfafgecchafaaDoorTie
import Derived.Test.YtdpfafgecchafaaDoorCards
import Derived.SevenTiedAt
set_option linter.unusedVariables false
set_option maxRecDepth 100000
namespace Go.Proofs.YtdpfafgecchafaaDoor
open Go Go.ChangeShapes Go.WideShapes Go.ChangeAt Go.RowKit

theorem good_tells : Sx.Good Sx.C.P 3 := ⟨Tryd.f3, by kernel_rfl, by kernel_rfl, by kernel_rfl⟩
theorem i64_bd {a : Int} (w : (Lit.int .i64 a).wf = true) : -9223372036854775808 ≤ a ∧ a ≤ 9223372036854775807 := by
  simpa [Lit.wf, IntKind.min, IntKind.max, IntKind.signed, IntKind.bits] using w

theorem tells_lifted (os : Os) (started : os.Started) (H : Type) (enc : TypeId × Value → H) :
    ReturnsInHanded {} Tryd.checked os 3 .any (fun w args => (Rows.wordsTellsSpec.pre enc Tryd.prog Tryd.f3 [] false w args ∧ laidMetH Tryd.prog laid3 w) ∧ sizedMet enc Tryd.prog Tryd.f3 (OpenSpec.ofChange Rows.wordsTellsSpec) false w args)
      (Rows.wordsTellsSpec.post enc Tryd.prog Tryd.f3 false true false false) := by
  refine returnsInHanded_of_change_and (C := Tryd.checked) (X := fun w _ => laidMetH Tryd.prog laid3 w) (fun _ _ _ hh h => h.of_heap hh) own started (by kernel_rfl) (by kernel_rfl)
    (ChangeSpec.witness_shaped (enc := enc) (C := Tryd.checked) (os := os) (X := fun w _ => laidMetH Tryd.prog laid3 w) false (World.doorLaid Tryd.prog 24 os) #[.agg #[.slice none 0 0, .slice none 0 0], .int .i64 0, .int .i64 0, .int .i64 0, .slice none 0 0] 8 rfl (World.shaped_of_RefB (by kernel_rfl) (by kernel_rfl)) (by kernel_rfl) (by kernel_rfl) (by kernel_rfl) (door_met os _)) ?_
  intro W base args ds gs before hval0 hW _ hsz0 hL _
  have hsz : (DataW.weightsEach Tryd.prog (Tryd.f3.params.toList ++ Rows.wordsTellsSpec.plain.varTypes Tryd.prog) (ds ++ gs)).all (· ≤ reachBytes) = true := hsz0
  have hval : ∀ (j : Nat) t v, Tryd.f3.params[j]? = some t → args[j]? = some v → Value.okWide Tryd.prog W .any base t v := hval0
  have hW' := hW
  obtain ⟨p, q, hA0, hV, rfl, hfz, hnd⟩ := hW
  have hA : DataW.TrodAll enc Tryd.prog W 0 (fun _ => true) true [24, 3, 3, 3, 22] args.toList ds p := hA0
  obtain ⟨v0, vs0, d0, ds0, p0, q0, hargs, rfl, rfl, h0, r0⟩ := trodAll_cons hA
  obtain ⟨v1, vs1, d1, ds1, p1, q1, rfl, rfl, rfl, h1, r1⟩ := trodAll_cons r0
  obtain ⟨v2, vs2, d2, ds2, p2, q2, rfl, rfl, rfl, h2, r2⟩ := trodAll_cons r1
  obtain ⟨v3, vs3, d3, ds3, p3, q3, rfl, rfl, rfl, h3, r3⟩ := trodAll_cons r2
  obtain ⟨v4, vs4, d4, ds4, p4, q4, rfl, rfl, rfl, h4, r4⟩ := trodAll_cons r3
  obtain ⟨rfl, rfl, rfl⟩ := trodAll_nil r4
  obtain rfl : args = #[v0, v1, v2, v3, v4] := by cases args; simp_all
  obtain ⟨rfl, rfl⟩ := trodVars_none hV
  have lt0 : ∀ x ∈ p0, x.block < W.heap.size := by obtain ⟨m, hm⟩ := h0; exact DataW.trod_lt m _ _ _ hm
  have lt4 : ∀ x ∈ p4, x.block < W.heap.size := by obtain ⟨m, hm⟩ := h4; exact DataW.trod_lt m _ _ _ hm
  obtain ⟨a1, rfl, rfl, rfl, w1⟩ := open_int (k := .i64) (by kernel_rfl) (hval 1 _ v1 rfl rfl) h1
  obtain ⟨a2, rfl, rfl, rfl, w2⟩ := open_int (k := .i64) (by kernel_rfl) (hval 2 _ v2 rfl rfl) h2
  obtain ⟨a3, rfl, rfl, rfl, w3⟩ := open_int (k := .i64) (by kernel_rfl) (hval 3 _ v3 rfl rfl) h3
  obtain ⟨pt, len4, cap4, rfl⟩ := okWide_slice (e := 54) (by kernel_rfl) (hval 4 _ v4 rfl rfl)
  obtain ⟨s, l, hw, us, ul⟩ := word_open (hval 0 _ v0 rfl rfl) h0 fun k hk => by
    have := List.all_eq_true.1 hsz k (DataW.weights_mem_each (j := 0) rfl rfl k hk)
    simpa using this
  obtain ⟨u, hu, uu⟩ : ∃ u, RdI .u16 W (.slice pt len4 cap4) u ∧ (∀ c ∈ u, 0 ≤ c ∧ c ≤ 65535) := by
    obtain ⟨m, hm⟩ := h4
    exact letters_open (n := m) (v := .slice pt len4 cap4) hm fun k hk => by
      have := List.all_eq_true.1 hsz k (DataW.weights_mem_each (j := 4) rfl rfl k hk)
      simpa using this
  have htab := tab_of hL
  clear hA0 hval0
  refine (calls_of good_tells (lawTells_any W W.heap.size s l u v0 (.slice pt len4 cap4) a1 a2 a3 hw hu us ul uu htab (Nat.le_refl _) (i64_bd w2) (i64_bd w3))).mono fun e W' ⟨he, bel⟩ => ?_
  subst he
  exact ⟨_, rfl, _, _, _, [], _, [], hW', trodAll_mk1 (shut_bool (by kernel_rfl) _),
    (trodAll_cons_mk (Below.trod laidOut (by kernel_rfl) (of_decide_eq_true (by kernel_rfl)) h0 bel lt0) (trodAll_cons_mk (shut_int (by kernel_rfl) w1) (trodAll_cons_mk (shut_int (by kernel_rfl) w2) (trodAll_cons_mk (shut_int (by kernel_rfl) w3) (trodAll_cons_mk (Below.trod laidOut (by kernel_rfl) (of_decide_eq_true (by kernel_rfl)) h4 bel lt4) trodAll_mk0))))), rfl, bel.frame _, fun h => by cases h⟩

theorem tells_row : Rows.WordsTellsSaid :=
  OpenClaim.holds_of_wide 3 Tryd.f3 rfl rfl rfl rfl rfl rfl rfl ⟨rfl, rfl, rfl, rfl, rfl⟩ rfl rfl rfl rfl rfl (by kernel_rfl) (by kernel_rfl) (by kernel_rfl)
    (of_decide_eq_true (by kernel_rfl)) (by unfold Func.isWrapper; first | (rw [if_pos (by decide +kernel)]; kernel_rfl) | (rw [if_neg (by decide +kernel)]; exact ⟨rfl, rfl⟩))
    (fun os started H enc _ => tells_lifted os started H enc)

theorem tells_card : Rows.WordsTellsCardSaid :=
  Claim7.holds_tied_plain_at .later [] [.data, .data, .data] true (true, "a59dba58b22d891373b0a76a51995acb31e8a214e67bd5821892781bfb16260a") false
    tells_row (fun _ h => by cases h) (by kernel_rfl) (fun _ h => by cases h) wordsTells_row_tie rfl ⟨rfl, rfl⟩ (by kernel_rfl) rfl
    (fun f fn hf hfn => by
      obtain rfl : f = 3 := (Option.some.inj ((show Tryd.prog.funcNamed "augur/augurlaw05.WordsTells" = some 3 by kernel_rfl).symm.trans hf)).symm
      obtain rfl : fn = Tryd.f3 := (Option.some.inj ((show Tryd.prog.funcs[3]? = some Tryd.f3 by kernel_rfl).symm.trans hfn)).symm
      refine ⟨by kernel_rfl, fun j t ht => ?_⟩
      have hp : Tryd.f3.params.toList.all (fun t => !Tryd.prog.wantsStandIn t) = true := by kernel_rfl
      have := List.all_eq_true.1 hp t (Array.mem_toList_iff.2 (Array.mem_of_getElem? ht))
      rw [Bool.not_eq_true'] at this
      exact this)
    (by kernel_rfl)
end Go.Proofs.YtdpfafgecchafaaDoor

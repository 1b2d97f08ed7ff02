/- WordsBack holds: of every word w whose stem and loop have at most 10000 letters in all, Read of Show(w) is w; of a word without a loop Show is empty and Read gives the error 51; the law's closed head holds; what came in reads as it did. -/
import Derived.Test.YtdpfafgecchafaaDoorRw
import Derived.Test.YtdpfafgecchafaaDoorWq
import Derived.Test.YtdpfafgecchafaaDoorTie
import Derived.Test.YtdpfafgecchafaaDoorCards
import Derived.SevenTiedAt
set_option linter.unusedVariables false
set_option maxRecDepth 100000
namespace Go.Proofs.YtdpfafgecchafaaDoor
open Go Go.ChangeShapes Go.WideShapes Go.ChangeAt Go.RowKit

theorem good_back : Sx.Good Sx.C.P 7 := ⟨Tryd.f7, by kernel_rfl, by kernel_rfl, by kernel_rfl⟩

theorem back_lifted (os : Os) (started : os.Started) (H : Type) (enc : TypeId × Value → H) :
    ReturnsInHanded {} Tryd.checked os 7 .any (fun w args => (Rows.wordsBackSpec.pre enc Tryd.prog Tryd.f7 [] false w args ∧ laidMetH Tryd.prog laid3 w) ∧ sizedMet enc Tryd.prog Tryd.f7 (OpenSpec.ofChange Rows.wordsBackSpec) false w args)
      (Rows.wordsBackSpec.post enc Tryd.prog Tryd.f7 false true false false) := by
  refine returnsInHanded_of_change_and (C := Tryd.checked) (X := fun w _ => laidMetH Tryd.prog laid3 w) (fun _ _ _ hh h => h.of_heap hh) own started (by kernel_rfl) (by kernel_rfl)
    (ChangeSpec.witness_shaped (enc := enc) (C := Tryd.checked) (os := os) (X := fun w _ => laidMetH Tryd.prog laid3 w) false (World.doorLaid Tryd.prog 24 os) #[.agg #[.slice none 0 0, .slice none 0 0]] 8 rfl (World.shaped_of_RefB (by kernel_rfl) (by kernel_rfl)) (by kernel_rfl) (by kernel_rfl) (by kernel_rfl) (door_met os _)) ?_
  intro W base args ds gs before hval0 hW _ hsz0 hL _
  have hsz : (DataW.weightsEach Tryd.prog (Tryd.f7.params.toList ++ Rows.wordsBackSpec.plain.varTypes Tryd.prog) (ds ++ gs)).all (· ≤ reachBytes) = true := hsz0
  have hval : ∀ (j : Nat) t v, Tryd.f7.params[j]? = some t → args[j]? = some v → Value.okWide Tryd.prog W .any base t v := hval0
  have hW' := hW
  obtain ⟨p, q, hA0, hV, rfl, hfz, hnd⟩ := hW
  have hA : DataW.TrodAll enc Tryd.prog W 0 (fun _ => true) true [24] args.toList ds p := hA0
  obtain ⟨v0, d0, rfl, rfl, h0⟩ := trodAll_one hA
  obtain ⟨rfl, rfl⟩ := trodVars_none hV
  have lt0 : ∀ x ∈ p, x.block < W.heap.size := by obtain ⟨m, hm⟩ := h0; exact DataW.trod_lt m _ _ _ hm
  obtain ⟨s, l, hw, us, ul⟩ := word_open (hval 0 _ v0 rfl rfl) h0 fun k hk => by
    have := List.all_eq_true.1 hsz k (DataW.weights_mem_each (j := 0) rfl rfl k hk)
    simpa using this
  have htab := tab_of hL
  clear hA0 hval0
  refine (calls_of good_back (lawBack_any W W.heap.size s l v0 hw us ul htab (Nat.le_refl _))).mono fun e W' ⟨he, bel⟩ => ?_
  subst he
  exact ⟨_, rfl, _, _, _, [], _, [], hW', trodAll_mk1 (shut_bool (by kernel_rfl) _), trodAll_mk1 (Below.trod laidOut (by kernel_rfl) (of_decide_eq_true (by kernel_rfl)) h0 bel lt0), rfl, bel.frame _, fun h => by cases h⟩

theorem back_row : Rows.WordsBackSaid :=
  OpenClaim.holds_of_wide 7 Tryd.f7 rfl rfl rfl rfl rfl rfl rfl ⟨rfl, rfl, rfl, rfl, rfl⟩ rfl rfl rfl rfl rfl (by kernel_rfl) (by kernel_rfl) (by kernel_rfl)
    (of_decide_eq_true (by kernel_rfl)) (by unfold Func.isWrapper; first | (rw [if_pos (by decide +kernel)]; kernel_rfl) | (rw [if_neg (by decide +kernel)]; exact ⟨rfl, rfl⟩))
    (fun os started H enc _ => back_lifted os started H enc)

theorem back_card : Rows.WordsBackCardSaid :=
  Claim7.holds_tied_plain_at .later [] [.data, .data, .data] true (true, "a59dba58b22d891373b0a76a51995acb31e8a214e67bd5821892781bfb16260a") false
    back_row (fun _ h => by cases h) (by kernel_rfl) (fun _ h => by cases h) wordsBack_row_tie rfl ⟨rfl, rfl⟩ (by kernel_rfl) rfl
    (fun f fn hf hfn => by
      obtain rfl : f = 7 := (Option.some.inj ((show Tryd.prog.funcNamed "augur/augurlaw05.WordsBack" = some 7 by kernel_rfl).symm.trans hf)).symm
      obtain rfl : fn = Tryd.f7 := (Option.some.inj ((show Tryd.prog.funcs[7]? = some Tryd.f7 by kernel_rfl).symm.trans hfn)).symm
      refine ⟨by kernel_rfl, fun j t ht => ?_⟩
      have hp : Tryd.f7.params.toList.all (fun t => !Tryd.prog.wantsStandIn t) = true := by kernel_rfl
      have := List.all_eq_true.1 hp t (Array.mem_toList_iff.2 (Array.mem_of_getElem? ht))
      rw [Bool.not_eq_true'] at this
      exact this)
    (by kernel_rfl)
end Go.Proofs.YtdpfafgecchafaaDoor

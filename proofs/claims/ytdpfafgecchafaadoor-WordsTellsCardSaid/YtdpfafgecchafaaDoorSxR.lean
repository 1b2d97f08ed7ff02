/- Sx, part R: loops that range over a function. -/
import Derived.RangeFuncNested
import Derived.Test.YtdpfafgecchafaaDoorSxS
set_option linter.unusedVariables false
set_option linter.unusedSimpArgs false
namespace Go.Proofs.YtdpfafgecchafaaDoor.Sx
open Go Go.RowKit

/-! ### what turns lies in T, or is new -/
structure Kp (T : Nat → Prop) (w w' : World) : Prop where
  os : w'.os = w.os
  tape : w'.tape = w.tape
  output : w'.output = w.output
  size : w.heap.size ≤ w'.heap.size
  block : ∀ k, k < w.heap.size → ¬ T k → w'.heap[k]? = w.heap[k]?
def noT : Nat → Prop := fun _ => False
theorem Kp.refl (T : Nat → Prop) (w : World) : Kp T w w := ⟨rfl, rfl, rfl, Nat.le_refl _, fun _ _ _ => rfl⟩
theorem Kp.below {T : Nat → Prop} {w w' : World} (h : Below w.heap.size w w') : Kp T w w' := ⟨h.os, h.tape, h.output, h.size, fun k hk _ => h.block k hk⟩
theorem Kp.mono {T T' : Nat → Prop} {w w' : World} (h : Kp T w w') (hs : ∀ k, k < w.heap.size → T k → T' k) : Kp T' w w' := ⟨h.os, h.tape, h.output, h.size, fun k hk ht => h.block k hk fun h => ht (hs k hk h)⟩
theorem Kp.trans {T T' : Nat → Prop} {a b c : World} (h : Kp T a b) (h' : Kp T' b c) (hs : ∀ k, k < a.heap.size → T' k → T k) : Kp T a c :=
  ⟨h'.os.trans h.os, h'.tape.trans h.tape, h'.output.trans h.output, Nat.le_trans h.size h'.size, fun k hk ht => (h'.block k (Nat.lt_of_lt_of_le hk h.size) fun h => ht (hs k hk h)).trans (h.block k hk ht)⟩
theorem Kp.upd {w w' : World} {b : Nat} {o : Obj} (u : Upd w b o w') {T : Nat → Prop} (h : T b) : Kp T w w' := ⟨u.os, u.tape, u.output, Nat.le_of_eq u.size.symm, fun k _ ht => u.rest k (by rintro rfl; exact ht h)⟩
theorem Kp.new {w w' : World} {b : Nat} {o : Obj} (n : New w b o w') {T : Nat → Prop} : Kp T w w' := Kp.below n.ext
theorem Kp.to {T : Nat → Prop} {w w' : World} (h : Kp T w w') (hn : ∀ k, k < w.heap.size → ¬ T k) : Below w.heap.size w w' := ⟨h.os, h.tape, h.output, h.size, fun k hk => h.block k hk (hn k hk)⟩
theorem Kp.put {T : Nat → Prop} {w : World} {r : Nat} {o : Obj} (h : T r) : Kp T w (w.putObj r o) := ⟨rfl, rfl, rfl, by simp, fun k hk ht => World.putObj_heap_other (by rintro rfl; exact ht h)⟩
theorem Kp.at_ {T : Nat → Prop} {w w' : World} (h : Kp T w w') {b : Nat} {o : Obj} (hb : w.heap[b]? = some o) (ht : ¬ T b) : w'.heap[b]? = some o := (h.block b (Array.getElem?_eq_some_iff.1 hb).1 ht).trans hb

theorem Kp.grown {w w' : World} {row : Option Nat} (h : w.grownBy w' row) : Kp (fun b => row = some b) w w' := ⟨h.os, h.tape, h.output, h.size, fun k hk ht => h.block k hk fun e => ht e.symm⟩

/-- what speaks of the blocks G alone -/
structure Terr (J : (Nat → Prop) → World → Prop) : Prop where
  lt : ∀ {G w}, J G w → ∀ b, G b → b < w.heap.size
  keep : ∀ {G w w'}, J G w → Kp (fun b => ¬ G b) w w' → J G w'

/-- how the things that are handed to yield look -/
structure Enc (α : Type) where
  is : α → Value → World → Prop
  rm : Value → Nat → Prop
  lt : ∀ {x v w}, is x v w → ∀ b, rm v b → b < w.heap.size
  keep : ∀ {x v w w'}, is x v w → Kp (fun b => ¬ rm v b) w w' → is x v w'

def Rnd {α : Type} (P : Program) (l : Nat) (E : Enc α) (xs : List α) (J Jx : List α → (Nat → Prop) → World → Prop) : Prop :=
  ∀ pre x G v W, (pre ++ [x]) <+: xs → J pre G W → E.is x v W → (∀ b, E.rm v b → ¬ G b) → YieldA P l #[v] W fun r W' => ∃ G', Kp (fun b => G b ∨ E.rm v b) W W' ∧ (∀ b, G' b → G b ∨ E.rm v b ∨ W.heap.size ≤ b) ∧
    ((r = .bool true ∧ J (pre ++ [x]) G' W') ∨ (r = .bool false ∧ Jx (pre ++ [x]) G' W'))
/-- f, called with a yield, hands it the things of xs one after another until it says no -/
def Seq {α : Type} (bd : Option Nat) (P : Program) (f : FuncId) (cap : Array Value) (E : Enc α) (xs : List α) (rdb : Nat → Prop) (w : World) : Prop :=
  ∀ l G (J Jx : List α → (Nat → Prop) → World → Prop), (∀ pre, Terr (J pre)) → (∀ pre, Terr (Jx pre)) → J [] G w → (∀ b, rdb b → ¬ G b) → Rnd P l E xs J Jx → (∀ N, bd = some N → ∀ pre G W, J pre G W → pre.length ≤ N) →
    CallG P f (#[.func (.yield l) #[] #[]] ++ cap) w fun _ w' => ∃ G', Kp G w w' ∧ (∀ b, G' b → G b ∨ w.heap.size ≤ b) ∧ (J xs G' w' ∨ ∃ pre, pre <+: xs ∧ Jx pre G' w')

theorem YieldA.mono {P : Program} {l : Nat} {a : Array Value} {w : World} {K K' : KV} (h : YieldA P l a w K) (hk : ∀ v w', K v w' → K' v w') : YieldA P l a w K' := by
  obtain ⟨f, t, b, c, h1, h2⟩ := h
  exact ⟨f, t, b, c, h1, RoundIn.mono h2 (retK_mono fun v w hv => ⟨hv.1, hk _ _ hv.2⟩)⟩

theorem KeepD.putLoop {W : World} {L : Nat} {r r' : Loop} (h : W.heap[L]? = some (.loop r)) : KeepD W (W.putObj L (.loop r')) := by
  refine ⟨by simp, fun b x hb => ?_, fun b x hb => ?_⟩
  · by_cases e : b = L
    · subst e; rw [h] at hb; cases hb
    · rw [World.putObj_heap_other e]; exact hb
  · by_cases e : b = L
    · subst e; exact ⟨r', World.putObj_heap_same (Array.getElem?_eq_some_iff.1 h).1⟩
    · exact ⟨x, by rw [World.putObj_heap_other e]; exact hb⟩

/-- how a round's body is left -/
def roundQ {α : Type} (T : Nat → Prop) (W2 : World) (J : List α → (Nat → Prop) → World → Prop) (Jx : Exit → List α → (Nat → Prop) → World → Prop) (pre : List α) : Post := fun e _ W' => ∃ G', Kp T W2 W' ∧ (∀ b, G' b → T b ∨ W2.heap.size ≤ b) ∧
  match e with
  | .normal => J pre G' W'
  | .ret => Jx .ret pre G' W'
  | .exit i => Jx (.exit i) pre G' W'
  | _ => False

def rcd (fn : FuncId) (tmps : Array Value) (p : Tmp) (asg body : Code) (d : Nat) (st : LoopState) (pe : Option Code) : Loop := { state := st, pending := pe, fn, tmps, params := #[p], assign := asg, body, defers := d }

theorem getD_put (l : Env) (p : Nat) (v : Value) : l.toArray.setIfInBounds p v = (put l p v).toArray := by
  rw [put_eq]; simp

theorem range_gen {α : Type} {C : Ctx} {E : Enc α} {g : Operand} {p : Tmp} {asg body : Code} {Q : Post} {l : Env} {w : World} {f : FuncId} {cap : Array Value} {xs : List α} {rdb G0 : Nat → Prop} {bd : Option Nat}
    (hg : ev l g = .func (.func f) #[] cap) (hgood : Good C.P f) (hseq : ∀ w', Below w.heap.size w w' → Seq bd C.P f cap E xs rdb w')
    (J : List α → (Nat → Prop) → World → Prop) (Jx : Exit → List α → (Nat → Prop) → World → Prop) (hJ : ∀ pre, Terr (J pre)) (hJx : ∀ e pre, Terr (Jx e pre)) (h0 : J [] G0 w) (hrd : ∀ b, rdb b → ¬ G0 b ∧ b < w.heap.size) (hbd : ∀ N, bd = some N → ∀ pre G W, J pre G W → pre.length ≤ N)
    (A : Value → Env → (Nat → Prop) → World → Prop) (hA : ∀ v l', Terr (A v l'))
    (hasg : ∀ x v W, E.is x v W → sx C asg (fun e l' W1 => e = .normal ∧ ∃ N, Kp noT W W1 ∧ (∀ b, N b → W.heap.size ≤ b) ∧ A v l' N W1) (put l p v) W)
    (hbody : ∀ pre x v G N l' W, (pre ++ [x]) <+: xs → w.heap.size ≤ W.heap.size → J pre G W → E.is x v W → A v l' N W → (∀ b, E.rm v b → ¬ G b) → (∀ b, N b → ¬ G b ∧ ¬ E.rm v b ∧ w.heap.size ≤ b) → sx C body (roundQ (fun b => G b ∨ E.rm v b ∨ N b) W J Jx (pre ++ [x])) l' W)
    (hdone : ∀ G W, J xs G W → Kp G0 w W → (∀ b, G b → G0 b ∨ w.heap.size ≤ b) → Q .normal l W)
    (hexit : ∀ e pre G W, Jx e pre G W → pre <+: xs → Kp G0 w W → (∀ b, G b → G0 b ∨ w.heap.size ≤ b) → (e = .ret ∨ ∃ i, e = .exit i) → Q e l W) :
    RawA C (.rangeFunc g #[p] asg body) Q l w := by
  intro m rd D hm ho
  have hm : m = true := hm.resolve_right (by simp [noRange])
  subst hm
  refine wpIn_rangeFunc ?_
  intro fn hfn
  -- the record is laid
  obtain ⟨L, mk, w1, dd, he, hb1, hL1, hLge, hmk⟩ : ∃ L mk w1 dd, (Instr.enterLoop fn (act D l).tmps #[p] asg body (Wd rd).round).run C.P w = .ok (L, mk.map mark) w1 ∧ Below w.heap.size w w1 ∧ w1.heap[L]? = some (.loop (rcd fn l.toArray p asg body dd .ready none)) ∧ w.heap.size ≤ L ∧ MkOk w w1 mk := by
    cases rd with
    | none =>
      refine ⟨w.heap.size + 1, [w.heap.size], _, w.heap.size, run_enterLoop_outer _ _ _ _ _, ?_, ?_, by omega, ?_⟩
      · exact (((Below.refl _ w).alloc (Nat.le_refl _) _).alloc (by simp) _)
      · have := World.alloc_heap_new (w.alloc (.deferred (some []))) (.loop (rcd fn l.toArray p asg body w.heap.size .ready none)); rwa [World.size_alloc] at this
      · refine ⟨by simp, ?_⟩
        intro b hb
        simp only [List.mem_singleton] at hb
        subst hb
        exact ⟨Nat.le_refl _, (Below.heap_alloc _ _ _ (by simp)).trans (World.alloc_heap_new w _)⟩
    | some l0 =>
      obtain ⟨r0, hr0⟩ := ho l0 rfl
      exact ⟨w.heap.size, [], _, r0.defers, run_enterLoop_inner hr0 _ _ _ _ _, (Below.refl _ w).alloc (Nat.le_refl _) _, World.alloc_heap_new w _, Nat.le_refl _, MkOk.nil _ _⟩
  have hLlt : L < w1.heap.size := (Array.getElem?_eq_some_iff.1 hL1).1
  have hG0 := (hJ []).lt h0
  have eg : ∀ args W, (callFunc f args).run C.P W = .ok (.enter f args) W := fun args W => run_callFunc hgood args W
  have hev : (act D l).eval g = .func (.func f) #[] cap := by rw [act_eval]; exact hg
  refine ⟨L, mk.map mark, w1, { target := .fn (.func f) cap, args := #[.func (.yield L) #[] #[]] }, w1, f, #[.func (.yield L) #[] #[]] ++ cap, w1, he, ?_, ?_, ?_, (fun h => by cases h), ?_⟩
  · simp only [resolve, hev]
    simp [go_sem]
  · intro f' hf'; simp [Target.leads] at hf'; subst hf'; exact trivial
  · simp [invoke, go_sem, eg]
  · -- the call
    have hcall := hseq w1 hb1 L (fun b => G0 b ∨ b = L)
      (fun pre G W => ∃ G1, (∀ b, G b ↔ G1 b ∨ b = L) ∧ ¬ G1 L ∧ J pre G1 W ∧ W.heap[L]? = some (.loop (rcd fn l.toArray p asg body dd .ready none)))
      (fun pre G W => ∃ G1 e c, (e = .ret ∧ c = .ret ∨ ∃ i, e = .exit i ∧ c = .exit i) ∧ (∀ b, G b ↔ G1 b ∨ b = L) ∧ ¬ G1 L ∧ Jx e pre G1 W ∧ W.heap[L]? = some (.loop (rcd fn l.toArray p asg body dd .done (some c))))
      ?_ ?_ ⟨G0, fun _ => Iff.rfl, fun h => by have := hG0 L h; omega, (hJ []).keep h0 (Kp.below hb1), hL1⟩ ?_ ?_ (by rintro N hN pre G W ⟨G1, _, _, hj, _⟩; exact hbd N hN pre G1 W hj)
    · have hcall := hcall.resolve_right (by rintro ⟨v, w', h1, _⟩; rw [eg] at h1; cases h1)
      refine (callsIn_Wd (n := 0)).2 (Calls.mono hcall.2 ?_)
      intro e w2 he2
      cases e with
      | returned v =>
        obtain ⟨hd2, G', hk2, hs2, hor⟩ := he2
        have hkw : Kp G0 w w2 := (Kp.below hb1).trans hk2 (fun k hk ht => ht.resolve_right (by omega))
        have hmk2 : MkOk w w2 mk := ⟨hmk.1, fun b hb => ⟨(hmk.2 b hb).1, hd2.2.1 b _ (hmk.2 b hb).2⟩⟩
        have hfin : ∀ o : Loop, Kp G0 w (w2.putObj L (.loop o)) := fun o => hkw.trans (Kp.put (T := fun b => b = L) rfl) (by intro k hk ht; omega)
        have hend : ∀ (r o : Loop), w2.heap[L]? = some (.loop r) → MkOk w (w2.putObj L (.loop o)) mk ∧ KeepD w (w2.putObj L (.loop o)) := fun r o hr =>
          have hd := KeepD.putLoop (r' := o) hr
          ⟨⟨hmk.1, fun b hb => ⟨(hmk.2 b hb).1, hd.2.1 b _ (hmk2.2 b hb).2⟩⟩, ((KeepD.below hb1).trans hd2).trans hd⟩
        rcases hor with ⟨G1, hG, hGL, hj, hl⟩ | ⟨pre, hpre, G1, e, c, hec, hG, hGL, hj, hl⟩
        · refine ⟨none, _, run_endLoop (P := C.P) hl (by simp [rcd]), ?_⟩
          obtain ⟨k1, k2⟩ := hend _ { rcd fn l.toArray p asg body dd .ready none with state := .exhausted } hl
          refine ⟨l, mk, rfl, (fun h => by cases h), k1, k2, hdone G1 _ ((hJ xs).keep hj (Kp.put (by exact hGL))) (hfin _) fun b hb => ?_⟩
          rcases hs2 b ((hG b).2 (.inl hb)) with (h | h) | h
          · exact .inl h
          · exact .inr (h ▸ hLge)
          · exact .inr (Nat.le_trans hb1.size h)
        · refine ⟨some c, _, run_endLoop (P := C.P) hl (by simp [rcd]), ?_⟩
          obtain ⟨k1, k2⟩ := hend _ { rcd fn l.toArray p asg body dd .done (some c) with state := .exhausted } hl
          have hq := hexit e pre G1 _ ((hJx e pre).keep hj (Kp.put (by exact hGL))) hpre (hfin { rcd fn l.toArray p asg body dd .done (some c) with state := .exhausted }) (fun b hb => by
            rcases hs2 b ((hG b).2 (.inl hb)) with (h | h) | h
            · exact .inl h
            · exact .inr (h ▸ hLge)
            · exact .inr (Nat.le_trans hb1.size h)) (hec.imp (fun h => h.1) fun ⟨i, h⟩ => ⟨i, h.1⟩)
          rcases hec with ⟨rfl, rfl⟩ | ⟨i, rfl, rfl⟩
          · exact wpIn_ret ⟨l, mk, rfl, (fun h => by cases h), k1, k2, hq⟩
          · exact wpIn_exit ⟨l, mk, rfl, (fun h => by cases h), k1, k2, hq⟩
      | panicked c => exact he2.elim
      | outgrown => exact he2.elim
    · intro pre
      refine ⟨?_, ?_⟩
      · rintro G W ⟨G1, hG, hGL, hj, hl⟩ b hb
        rcases (hG b).1 hb with h | rfl
        · exact (hJ pre).lt hj b h
        · exact (Array.getElem?_eq_some_iff.1 hl).1
      · rintro G W W' ⟨G1, hG, hGL, hj, hl⟩ hk
        exact ⟨G1, hG, hGL, (hJ pre).keep hj (hk.mono fun k _ h h' => h ((hG k).2 (.inl h'))), hk.at_ hl (fun h => h ((hG L).2 (.inr rfl)))⟩
    · intro pre
      refine ⟨?_, ?_⟩
      · rintro G W ⟨G1, e, c, hec, hG, hGL, hj, hl⟩ b hb
        rcases (hG b).1 hb with h | rfl
        · exact (hJx e pre).lt hj b h
        · exact (Array.getElem?_eq_some_iff.1 hl).1
      · rintro G W W' ⟨G1, e, c, hec, hG, hGL, hj, hl⟩ hk
        exact ⟨G1, e, c, hec, hG, hGL, (hJx e pre).keep hj (hk.mono fun k _ h h' => h ((hG k).2 (.inl h'))), hk.at_ hl (fun h => h ((hG L).2 (.inr rfl)))⟩
    · intro b hb
      have := hrd b hb
      rintro (h | h)
      · exact this.1 h
      · omega
    · -- one round
      rintro pre x Gp v W hpre ⟨G, hG, hGL, hj, hl⟩ hx hdis
      have hy := run_yield (P := C.P) (args := #[v]) hl rfl
      have hLW : L < W.heap.size := (Array.getElem?_eq_some_iff.1 hl).1
      have hrmL : ¬ E.rm v L := fun h => hdis L h ((hG L).2 (.inr rfl))
      have hrmG : ∀ b, E.rm v b → ¬ G b := fun b h h' => hdis b h ((hG b).2 (.inl h'))
      refine ⟨fn, _, asg, body, hy, ?_⟩
      have ht : ((rcd fn l.toArray p asg body dd .ready none).params.zip #[v]).foldl (fun tmps (t, a) => tmps.setIfInBounds t a) (rcd fn l.toArray p asg body dd .ready none).tmps = (put l p v).toArray := by
        simp [rcd, put_eq]
      have ho1 : RdOk (some L) W := fun l' h => by cases h; exact ⟨_, hl⟩
      rw [ht]
      refine roundIn_of_wpIn (F := Fence.wide) trivial ?_
      have h1 := sx_ok (C := C) asg _ (put l p v) W true (some L) [] (.inl rfl) ho1 (hasg x v W hx)
      refine wpIn_mono h1 ?_
      rintro e a1 W1 ⟨l', M, rfl, _, hM, hd1, rfl, N, hk1, hN, hAv⟩
      have hl1 := hk1.at_ hl (fun h => h)
      have hLW1 := (Array.getElem?_eq_some_iff.1 hl1).1
      refine ⟨_, run_beginRound (P := C.P) hl1 rfl, ?_⟩
      obtain ⟨W2, hW2⟩ : ∃ W2, W2 = W1.putObj L (.loop { rcd fn l.toArray p asg body dd .ready none with state := .busy }) := ⟨_, rfl⟩
      rw [← hW2]
      have hl2 : W2.heap[L]? = some (.loop { rcd fn l.toArray p asg body dd .ready none with state := .busy }) := by rw [hW2]; exact World.putObj_heap_same hLW1
      have hd2 : KeepD W1 W2 := by rw [hW2]; exact KeepD.putLoop hl1
      have hk2 : Kp (fun b => b = L) W1 W2 := by rw [hW2]; exact Kp.put rfl
      have hk12 : Kp (fun b => b = L) W W2 := (hk1.mono (T' := fun b => b = L) (fun _ _ h => h.elim)).trans hk2 (fun _ _ h => h)
      have hNL : ¬ N L := fun h => by have := hN L h; omega
      have hwW : w.heap.size ≤ W.heap.size := by omega
      have hN2 : ∀ b, N b → ¬ G b ∧ ¬ E.rm v b ∧ w.heap.size ≤ b := fun b h => ⟨fun h' => by have h1 := (hJ pre).lt hj b h'; have h2 := hN b h; omega, fun h' => by have h1 := E.lt hx b h'; have h2 := hN b h; omega, Nat.le_trans hwW (hN b h)⟩
      have hbd := hbody pre x v G N l' W2 hpre (Nat.le_trans hwW hk12.size) ((hJ pre).keep hj (hk12.mono fun k _ h h' => hGL (h ▸ h'))) (E.keep hx (hk12.mono fun k _ h h' => hrmL (h ▸ h'))) ((hA v l').keep hAv (hk2.mono fun k _ h h' => hNL (h ▸ h'))) hrmG hN2
      have h2 := sx_ok (C := C) body _ l' W2 true (some L) (M.map mark ++ []) (.inl rfl) ((ho1.keep hd1).keep hd2) hbd
      refine wpIn_mono h2 ?_
      rintro e a3 W3 ⟨l3, M3, rfl, _, _, hd3, G', hk3, hs3, hq⟩
      have hl3 : W3.heap[L]? = some (.loop { rcd fn l.toArray p asg body dd .ready none with state := .busy }) := hk3.at_ hl2 (fun h => h.elim hGL fun h => h.elim hrmL hNL)
      have hkall : ∀ o, Kp (fun b => Gp b ∨ E.rm v b) W (W3.putObj L (.loop o)) := fun o => by
        refine ((hk12.mono (T' := fun b => Gp b ∨ E.rm v b) fun k _ h => .inl ((hG k).2 (.inr h))).trans hk3 ?_).trans (Kp.put (T := fun b => b = L) rfl) (fun k _ h => .inl ((hG k).2 (.inr h)))
        rintro k hk (h | h | h)
        · exact .inl ((hG k).2 (.inl h))
        · exact .inr h
        · have := hN k h; omega
      have hG'L : ¬ G' L := fun h => by
        rcases hs3 L h with (h | h | h) | h
        · exact hGL h
        · exact hrmL h
        · exact hNL h
        · have := (Array.getElem?_eq_some_iff.1 hl2).1; omega
      have hsub : ∀ b, (G' b ∨ b = L) → Gp b ∨ E.rm v b ∨ W.heap.size ≤ b := by
        rintro b (h | rfl)
        · rcases hs3 b h with (h | h | h) | h
          · exact .inl ((hG b).2 (.inl h))
          · exact .inr (.inl h)
          · exact .inr (.inr (hN b h))
          · exact .inr (.inr (Nat.le_trans hk12.size h))
        · exact .inl ((hG _).2 (.inr rfl))
      have hdall : ∀ o : Loop, KeepD W (W3.putObj L (.loop o)) := fun o => ((hd1.trans hd2).trans hd3).trans (KeepD.putLoop hl3)
      have hLW3 := (Array.getElem?_eq_some_iff.1 hl3).1
      cases e with
      | normal => exact ⟨_, _, run_endRound (P := C.P) none hl3, hdall _, fun b => G' b ∨ b = L, hkall _, hsub, .inl ⟨rfl, G', fun _ => Iff.rfl, hG'L, (hJ _).keep hq (Kp.put (by exact hG'L)), World.putObj_heap_same hLW3⟩⟩
      | ret => exact ⟨_, _, run_endRound (P := C.P) (some .ret) hl3, hdall _, fun b => G' b ∨ b = L, hkall _, hsub, .inr ⟨rfl, G', .ret, .ret, .inl ⟨rfl, rfl⟩, fun _ => Iff.rfl, hG'L, (hJx _ _).keep hq (Kp.put (by exact hG'L)), World.putObj_heap_same hLW3⟩⟩
      | exit i => exact ⟨_, _, run_endRound (P := C.P) (some (.exit i)) hl3, hdall _, fun b => G' b ∨ b = L, hkall _, hsub, .inr ⟨rfl, G', .exit i, .exit i, .inr ⟨i, rfl, rfl⟩, fun _ => Iff.rfl, hG'L, (hJx _ _).keep hq (Kp.put (by exact hG'L)), World.putObj_heap_same hLW3⟩⟩
      | goto t => exact hq.elim
      | panic c => exact hq.elim
      | outgrown => exact hq.elim

/-- the loop's variable is boxed -/
def boxA (T : TypeId) (t : Nat) (lv : Value → Env) (v : Value) (l' : Env) (N : Nat → Prop) (W : World) : Prop := ∃ b, l' = put (lv v) t (.pointer (some ⟨b, 0, none⟩)) ∧ (∀ k, N k ↔ k = b) ∧ W.heap[b]? = some (.cells (Z3r v).toArray T (0, 0))
theorem boxA.terr (T : TypeId) (t : Nat) (lv : Value → Env) (v : Value) (l' : Env) : Terr (boxA T t lv v l') := by
  refine ⟨?_, ?_⟩
  · rintro N W ⟨b, _, hN, hb⟩ k hk
    rw [(hN k).1 hk]; exact (Array.getElem?_eq_some_iff.1 hb).1
  · rintro N W W' ⟨b, h1, hN, hb⟩ hk
    exact ⟨b, h1, hN, hk.at_ hb fun h => h ((hN b).2 rfl)⟩
theorem boxA.mk' {T : TypeId} {t : Nat} {lv : Value → Env} {v : Value} {W W1 : World} {b : Nat} {l' : Env} (n : New W b (.cells (Z3r v).toArray T (0, 0)) W1) (hl : l' = put (lv v) t (.pointer (some ⟨b, 0, none⟩))) :
    (Exit.normal : Exit) = .normal ∧ ∃ N, Kp noT W W1 ∧ (∀ b, N b → W.heap.size ≤ b) ∧ boxA T t lv v l' N W1 :=
  ⟨rfl, fun k => k = b, Kp.new n, fun k hk => by rw [hk, n.hb]; exact Nat.le_refl _, b, hl, fun _ => Iff.rfl, n.at_⟩

theorem roundQ.mono {α : Type} {T T' : Nat → Prop} {W2 : World} {J : List α → (Nat → Prop) → World → Prop} {Jx : Exit → List α → (Nat → Prop) → World → Prop} {pre : List α} (h : ∀ b, T b → T' b) : ∀ e l w, roundQ T W2 J Jx pre e l w → roundQ T' W2 J Jx pre e l w :=
  fun e l w ⟨G', h1, h2, h3⟩ => ⟨G', h1.mono fun k _ => h k, fun b hb => (h2 b hb).imp (h b) id, h3⟩

theorem range_box {α : Type} {C : Ctx} {E : Enc α} {g : Operand} {p : Tmp} {asg body : Code} {Q : Post} {l : Env} {w : World} {f : FuncId} {cap : Array Value} {xs : List α} {rdb G0 : Nat → Prop} {bd : Option Nat}
    (T : TypeId) (t : Nat) (hg : ev l g = .func (.func f) #[] cap) (hgood : Good C.P f) (hseq : ∀ w', Below w.heap.size w w' → Seq bd C.P f cap E xs rdb w')
    (J : List α → (Nat → Prop) → World → Prop) (Jx : Exit → List α → (Nat → Prop) → World → Prop) (hJ : ∀ pre, Terr (J pre)) (hJx : ∀ e pre, Terr (Jx e pre)) (h0 : J [] G0 w) (hrd : ∀ b, rdb b → ¬ G0 b ∧ b < w.heap.size) (hbd : ∀ N, bd = some N → ∀ pre G W, J pre G W → pre.length ≤ N)
    (hasg : ∀ x v W, E.is x v W → sx C asg (fun e l' W1 => e = .normal ∧ ∃ N, Kp noT W W1 ∧ (∀ b, N b → W.heap.size ≤ b) ∧ boxA T t (fun v => put l p v) v l' N W1) (put l p v) W)
    (hbody : ∀ pre x v G b W, (pre ++ [x]) <+: xs → w.heap.size ≤ W.heap.size → J pre G W → E.is x v W → W.heap[b]? = some (.cells (Z3r v).toArray T (0, 0)) → (∀ b, E.rm v b → ¬ G b) → ¬ G b → ¬ E.rm v b → w.heap.size ≤ b →
      sx C body (roundQ (fun k => G k ∨ E.rm v k ∨ k = b) W J Jx (pre ++ [x])) (put (put l p v) t (.pointer (some ⟨b, 0, none⟩))) W)
    (hdone : ∀ G W, J xs G W → Kp G0 w W → (∀ b, G b → G0 b ∨ w.heap.size ≤ b) → Q .normal l W)
    (hexit : ∀ e pre G W, Jx e pre G W → pre <+: xs → Kp G0 w W → (∀ b, G b → G0 b ∨ w.heap.size ≤ b) → (e = .ret ∨ ∃ i, e = .exit i) → Q e l W) :
    RawA C (.rangeFunc g #[p] asg body) Q l w := by
  refine range_gen hg hgood hseq J Jx hJ hJx h0 hrd hbd (boxA T t fun v => put l p v) (fun v l' => boxA.terr _ _ _ _ _) hasg ?_ hdone hexit
  rintro pre x v G N l' W h1 h2 h3 h4 ⟨b, rfl, hN, hb⟩ h5 h6
  obtain ⟨k1, k2, k3⟩ := h6 b ((hN b).2 rfl)
  have := hbody pre x v G b W h1 h2 h3 h4 hb h5 k1 k2 k3
  have e : (fun k => G k ∨ E.rm v k ∨ k = b) = (fun k => G k ∨ E.rm v k ∨ N k) := funext fun k => by rw [propext (hN k)]
  rw [← e]
  exact this

/-! ### functions that hold such a loop -/
/-- blocks of deferred calls have been shut -/
structure Shut (w0 w w' : World) : Prop where
  os : w'.os = w.os
  tape : w'.tape = w.tape
  output : w'.output = w.output
  size : w'.heap.size = w.heap.size
  low : ∀ k : Nat, k < w0.heap.size → w'.heap[k]? = w.heap[k]?
  rest : ∀ (k : Nat) (o : Obj), w.heap[k]? = some o → (∀ x, o ≠ Obj.deferred x) → w'.heap[k]? = some o
theorem Shut.refl (w0 w : World) : Shut w0 w w := ⟨rfl, rfl, rfl, rfl, fun _ _ => rfl, fun _ _ h _ => h⟩
theorem Shut.cell {w0 w w' : World} (h : Shut w0 w w') {k : Nat} {cs : Array Value} {e : TypeId} {f : Nat × Nat} (hk : w.heap[k]? = some (.cells cs e f)) : w'.heap[k]? = some (.cells cs e f) := h.rest k _ hk (by intro x; simp)
theorem Shut.below {w0 w w' : World} (h : Shut w0 w w') : Below w0.heap.size w w' := ⟨h.os, h.tape, h.output, Nat.le_of_eq h.size.symm, h.low⟩
theorem Shut.step {w0 w w' : World} (h : Shut w0 w w') {b : Nat} {o : Obj} {x : Option (List Deferred)} (hb : w.heap[b]? = some (.deferred x)) (hl : w0.heap.size ≤ b) : Shut w0 w (w'.putObj b o) :=
  ⟨h.os, h.tape, h.output, by simp [h.size], fun k hk => (World.putObj_heap_other (by omega)).trans (h.low k hk), fun k o' hk hn => (World.putObj_heap_other (by rintro rfl; rw [hb] at hk; cases hk; exact hn x rfl)).trans (h.rest k o' hk hn)⟩

def retM (C : Ctx) (rs : List ResultVar) (w0 : World) (R : KV) : Post
  | .ret, l, w => ∀ W, Shut w0 w W → resL C rs l W fun vs => resK vs fun v => R v W
  | .normal, l, w => ∀ W, Shut w0 w W → resL C rs l W fun vs => resK vs fun v => R v W
  | _, _, _ => False
section
variable (C : Ctx) (rs : List ResultVar) (w0 : World) (R : KV) (l : Env) (w : World)
theorem retM_r : retM C rs w0 R .ret l w = ∀ W, Shut w0 w W → resL C rs l W fun vs => resK vs fun v => R v W := (rfl)
theorem retM_n : retM C rs w0 R .normal l w = ∀ W, Shut w0 w W → resL C rs l W fun vs => resK vs fun v => R v W := (rfl)
end

theorem leavesM_ok {C : Ctx} {fn : Func} {tmps : Array Value} {R : Ending → World → Prop} {w0 w : World} : ∀ (M : List Nat) (w' : World), M.Nodup → (∀ b ∈ M, w0.heap.size ≤ b ∧ w.heap[b]? = some (.deferred (some [])) ∧ w'.heap[b]? = some (.deferred (some []))) → Shut w0 w w' →
    (∀ W, Shut w0 w W → ∃ v, (results fn tmps).run C.P W = .ok v W ∧ R (.returned v) W) → LeavesInM Fence.wide 0 C.P fn tmps R (M.map mark) .returning w' := by
  intro M
  induction M with
  | nil => intro w' _ _ hs h; exact h w' hs
  | cons b M ih =>
    intro w' hn hm hs h
    obtain ⟨h1, h2, h3⟩ := hm b (List.mem_cons_self ..)
    obtain ⟨hnb, hnM⟩ := List.nodup_cons.1 hn
    refine ⟨by simp, .inl ⟨b, _, rfl, run_takeDeferred (P := C.P) h3, ih _ hnM (fun k hk => ?_) (hs.step h2 h1) h⟩⟩
    obtain ⟨g1, g2, g3⟩ := hm k (List.mem_cons_of_mem _ hk)
    exact ⟨g1, g2, (World.putObj_heap_other (by rintro rfl; exact hnb hk)).trans g3⟩

/-- a function that holds a loop over a function is walked -/
theorem fn_okM {C : Ctx} {f : FuncId} {fn : Func} {c : Code} {args : List Value} {w : World} {R : KV} (k : Nat) (rs : List ResultVar) (hf : C.P.funcs[f]? = some fn) (hb : fn.body = some c) (hn : (fn.name == "runtime.NumGoroutine") = false) (hk : fn.ntmps = args.length + k) (hrs : fn.results.toList = rs)
    (h : sx C c (retM C rs w R) (args ++ undefs k) w) : CallG C.P f args.toArray w R := by
  subst hrs
  refine .inl ⟨⟨fn, hf, hn, by rw [hb]; rfl⟩, ?_⟩
  refine callsIn_wide.1 (callsIn_of_wp_marks (F := Fence.wide) (n := 0) hf hb trivial ?_)
  have he : ({ tmps := args.toArray ++ Array.replicate (fn.ntmps - args.toArray.size) undef, defers := [] } : Act) = act [] (args ++ undefs k) := by
    unfold act
    congr 1
    rw [hk, undefs_eq]
    simp
  rw [he]
  refine wpIn_mono (sx_ok (C := C) _ _ _ _ true none [] (.inl rfl) (RdOk.no _) h) ?_
  rintro e a' w' ⟨l', M, rfl, _, h2, h3, hq⟩
  have fin : (∀ W, Shut w w' W → resL C fn.results.toList l' W fun vs => resK vs fun v => R v W) → LeavesInM Fence.wide 0 C.P fn (act (M.map mark ++ []) l').tmps (fun e w1 => match e with | .returned v => KeepD w w1 ∧ R v w1 | _ => False) (act (M.map mark ++ []) l').defers .returning w' := by
    intro hq
    have : (act (M.map mark ++ []) l').defers = M.map mark := by simp [act]
    rw [this]
    refine leavesM_ok (w0 := w) (w := w') M w' h2.1 (fun b hb => ⟨(h2.2 b hb).1, (h2.2 b hb).2, (h2.2 b hb).2⟩) (Shut.refl _ _) fun W hs => ?_
    obtain ⟨v, h4, h5⟩ := results_ok (fn := fn) (hq W hs)
    refine ⟨v, h4, ⟨by rw [hs.size]; exact h3.1, fun b x hb => ?_, fun b r hb => ?_⟩, h5⟩
    · rw [hs.low b (Array.getElem?_eq_some_iff.1 hb).1]; exact h3.2.1 b x hb
    · obtain ⟨r', hr'⟩ := h3.2.2 b r hb
      exact ⟨r', by rw [hs.low b (Array.getElem?_eq_some_iff.1 hb).1]; exact hr'⟩
  cases e with
  | normal => exact fin hq
  | ret => exact fin hq
  | _ => exact hq.elim
end Go.Proofs.YtdpfafgecchafaaDoor.Sx

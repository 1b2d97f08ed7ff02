/- Sx, part E: a region that draws its order: one walk in the order of the text serves every order. -/
import Derived.Test.YtdpfafgecchafaaDoorSxD
import Derived.Still
set_option linter.unusedVariables false
set_option linter.unusedSimpArgs false
namespace Go.Proofs.YtdpfafgecchafaaDoor.Sx
open Go Go.RowKit

def upd (ex : Nat → Bool) (i : Nat) (b : Bool) : Nat → Bool := fun j => if j = i then b else ex j
theorem upd_comm {ex : Nat → Bool} {i j : Nat} {b c : Bool} (h : i ≠ j) : upd (upd ex i b) j c = upd (upd ex j c) i b := by
  funext k
  unfold upd
  by_cases h1 : k = i
  · subst h1; simp [h]
  · by_cases h2 : k = j
    · subst h2; simp [h1]
    · simp [h1, h2]
theorem upd_ne {ex : Nat → Bool} {i j : Nat} {b : Bool} (h : j ≠ i) : upd ex i b j = ex j := by simp [upd, h]
theorem upd_self {ex : Nat → Bool} {i : Nat} {b : Bool} : upd ex i b i = b := by simp [upd]

abbrev Specs := Nat → Option (Value → World → Prop)
/-- the blocks that an operation's value owns -/
abbrev Frs := Nat → Value → Nat → Prop

structure SpecOk (ops : Array Oper) (T : Specs) (fr : Frs) (n : Nat) : Prop where
  stable : ∀ j S, T j = some S → ∀ v W W', S v W → Below W.heap.size W W' → S v W'
  uniq : ∀ j S o d, T j = some S → ops[j]? = some o → o.dst = some d → ∀ k ok, ops[k]? = some ok → k ≠ j → ok.dst ≠ some d
  dst : ∀ j S o, T j = some S → ops[j]? = some o → o.dst = none → False
  inb : ∀ j S o d, T j = some S → ops[j]? = some o → o.dst = some d → d < n
  own : ∀ j v b, fr j v b → ∃ S, T j = some S

section
variable {C : Ctx} {ops : Array Oper} {w0 : World} {T : Specs} {fr : Frs}

def KnowS (ops : Array Oper) (w0 : World) (T : Specs) (fr : Frs) (ex : Nat → Bool) (a : Act) (W : World) : Prop :=
  Below w0.heap.size w0 W ∧ (∀ j S o d, ex j = true → T j = some S → ops[j]? = some o → o.dst = some d → S (a.tmps.getD d undef) W) ∧
    (∀ j o d b, ex j = true → ops[j]? = some o → o.dst = some d → fr j (a.tmps.getD d undef) b → b < W.heap.size) ∧
    (∀ j o d k o' d' b, j ≠ k → ex j = true → ex k = true → ops[j]? = some o → o.dst = some d → ops[k]? = some o' → o'.dst = some d' → fr j (a.tmps.getD d undef) b → fr k (a.tmps.getD d' undef) b → False)

def DepsS (ops : Array Oper) (T : Specs) (o : Oper) (ex : Nat → Bool) (a : Act) (W : World) : Prop :=
  ∀ e ∈ o.after, Region.binds .any e = true → ∀ S oj d, ex e.on = true → T e.on = some S → ops[e.on]? = some oj → oj.dst = some d → S (a.tmps.getD d undef) W

def GoodS (C : Ctx) (ops : Array Oper) (w0 : World) (T : Specs) (o : Oper) (S : Value → World → Prop) (fo : Value → Nat → Prop) (ex : Nat → Bool) (a : Act) : Prop :=
  ∀ W, Below w0.heap.size w0 W → DepsS ops T o ex a W → OpV C.P o.op o.type a.eval W (fun v W' => Below W.heap.size W W' ∧ S v W' ∧ ∀ b, fo v b → W.heap.size ≤ b ∧ b < W'.heap.size)

def StepS (C : Ctx) (ops : Array Oper) (w0 : World) (T : Specs) (fr : Frs) (i : Nat) (o : Oper) (ex : Nat → Bool) (a : Act) (V : Bool → Value → Prop) : Prop :=
  (Region.wanted o (yielded ops a.tmps) = true ∧ T i = none ∧ ∃ v, (∀ W, Below w0.heap.size w0 W → (execOp a.eval o).run C.P W = .ok (.value v) W) ∧ V = fun b u => b = true ∧ u = v) ∨
  (Region.wanted o (yielded ops a.tmps) = true ∧ (∃ S, T i = some S ∧ GoodS C ops w0 T o S (fr i) ex a) ∧ V = fun b _ => b = true) ∨
  (Region.wanted o (yielded ops a.tmps) = false ∧ V = fun b u => b = false ∧ u = undef)

def sOp (C : Ctx) (ops : Array Oper) (w0 : World) (T : Specs) (fr : Frs) (i : Nat) (K : Bool → Act → Prop) (ex : Nat → Bool) (a : Act) : Prop :=
  ∀ o, ops[i]? = some o → ∃ V, StepS C ops w0 T fr i o ex a V ∧ ∀ b u, V b u → K b (a.put o.dst u)

def anyS (C : Ctx) (ops : Array Oper) (w0 : World) (T : Specs) (fr : Frs) (R : Array Bool → Prop) (Qs : (Nat → Bool) → Act → Prop) : Nat → Array Bool → (Nat → Bool) → Act → Prop
  | 0, listed, ex, a => R listed ∧ Qs ex a
  | n + 1, listed, ex, a => Region.ready .any ops listed ≠ [] ∧
    ∀ i ∈ Region.ready .any ops listed, sOp C ops w0 T fr i (fun b a' => (∃ W, KnowS ops w0 T fr (upd ex i b) a' W) → anyS C ops w0 T fr R Qs n (listed.setIfInBounds i true) (upd ex i b) a') ex a

theorem put_size (a : Act) (d : Option Tmp) (v : Value) : (a.put d v).tmps.size = a.tmps.size := by
  cases d <;> simp [Act.put]

theorem put_same (a : Act) (d : Tmp) (v : Value) (h : d < a.tmps.size) : (a.put (some d) v).tmps.getD d undef = v := by
  simp [Act.put, h]
theorem put_other (a : Act) (x : Option Tmp) (d : Tmp) (v : Value) (h : x ≠ some d) : (a.put x v).tmps.getD d undef = a.tmps.getD d undef := by
  cases x with
  | none => rfl
  | some e =>
    have : e ≠ d := fun he => h (by rw [he])
    simp [Act.put, Array.getElem?_setIfInBounds_ne this]

/-- what is known stays, whatever one more operation lays into its place -/
theorem KnowS.put {n : Nat} (hs : SpecOk ops T fr n) {ex : Nat → Bool} {a : Act} {W W' : World} (hk : KnowS ops w0 T fr ex a W) (hb : Below W.heap.size W W') {i : Nat} {o : Oper} (hi : ops[i]? = some o) {b : Bool} {v : Value}
    (hn : a.tmps.size = n) (hv : ∀ S, b = true → T i = some S → S v W' ∧ ∀ g, fr i v g → W.heap.size ≤ g ∧ g < W'.heap.size) : KnowS ops w0 T fr (upd ex i b) (a.put o.dst v) W' := by
  have slot : ∀ {j : Nat} {oj : Oper} {d : Nat}, ops[j]? = some oj → oj.dst = some d → (∃ S, T j = some S) → j ≠ i → (a.put o.dst v).tmps.getD d undef = a.tmps.getD d undef := fun hj hd hT hji => by
    obtain ⟨S, hT⟩ := hT
    exact put_other _ _ _ _ (hs.uniq _ S _ _ hT hj hd i o hi (Ne.symm hji))
  have slotI : ∀ {d : Nat}, o.dst = some d → (∃ S, T i = some S) → (a.put o.dst v).tmps.getD d undef = v := fun hd hT => by
    obtain ⟨S, hT⟩ := hT
    rw [hd, put_same _ _ _ (by rw [hn]; exact hs.inb i S o _ hT hi hd)]
  have mine : ∀ {oj : Oper}, ops[i]? = some oj → o = oj := fun hj => by rw [hi] at hj; exact Option.some.inj hj
  have lt : ∀ {j : Nat} {oj : Oper} {d g : Nat}, upd ex i b j = true → ops[j]? = some oj → oj.dst = some d → fr j ((a.put o.dst v).tmps.getD d undef) g → j ≠ i → g < W.heap.size := fun hex hj hd hf hji => by
    rw [upd_ne hji] at hex
    rw [slot hj hd (hs.own _ _ _ hf) hji] at hf
    exact hk.2.2.1 _ _ _ _ hex hj hd hf
  have ge : ∀ {oj : Oper} {d g : Nat}, upd ex i b i = true → ops[i]? = some oj → oj.dst = some d → fr i ((a.put o.dst v).tmps.getD d undef) g → W.heap.size ≤ g ∧ g < W'.heap.size := fun hex hj hd hf => by
    obtain rfl := mine hj
    have hT := hs.own _ _ _ hf
    rw [slotI hd hT] at hf
    obtain ⟨S, hT⟩ := hT
    rw [upd_self] at hex
    exact (hv S hex hT).2 _ hf
  refine ⟨hk.1.trans (hb.mono hk.1.size), fun j S oj d hex hT hj hd => ?_, fun j oj d g hex hj hd hf => ?_, fun j oj d k ok d' g hne hex hex' hj hd hk' hd' hf hf' => ?_⟩
  · by_cases hji : j = i
    · subst hji
      rw [upd_self] at hex
      obtain rfl := mine hj
      rw [slotI hd ⟨S, hT⟩]
      exact (hv S hex hT).1
    · rw [upd_ne hji] at hex
      rw [slot hj hd ⟨S, hT⟩ hji]
      exact hs.stable j S hT _ _ _ (hk.2.1 j S oj d hex hT hj hd) hb
  · by_cases hji : j = i
    · subst hji; exact (ge hex hj hd hf).2
    · exact Nat.lt_of_lt_of_le (lt hex hj hd hf hji) hb.size
  · by_cases hji : j = i
    · subst hji
      have h1 := ge hex hj hd hf
      have h2 := lt hex' hk' hd' hf' (Ne.symm hne)
      omega
    · by_cases hki : k = i
      · subst hki
        have h1 := ge hex' hk' hd' hf'
        have h2 := lt hex hj hd hf hji
        omega
      · rw [upd_ne hji] at hex
        rw [upd_ne hki] at hex'
        rw [slot hj hd (hs.own _ _ _ hf) hji] at hf
        rw [slot hk' hd' (hs.own _ _ _ hf') hki] at hf'
        exact hk.2.2.2 j oj d k ok d' g hne hex hex' hj hd hk' hd' hf hf'

theorem KnowS.deps {ex : Nat → Bool} {a : Act} {W : World} (hk : KnowS ops w0 T fr ex a W) (o : Oper) : DepsS ops T o ex a W :=
  fun e _ _ S oj d hex hT hj hd => hk.2.1 e.on S oj d hex hT hj hd

theorem anyS_sound {rd : Option Nat} {n m : Nat} (hs : SpecOk ops T fr n) {R : Array Bool → Prop} {Qs : (Nat → Bool) → Act → Prop} {Q' : Exit → Act → World → Prop} (hQ : ∀ listed ex a W, R listed → KnowS ops w0 T fr ex a W → Qs ex a → wpAnyIn (Wd rd) 0 C.P .any ops Q' m listed a W) :
    ∀ (fuel : Nat) (listed : Array Bool) (ex : Nat → Bool) (a : Act) (W : World), a.tmps.size = n → KnowS ops w0 T fr ex a W → anyS C ops w0 T fr R Qs fuel listed ex a → wpAnyIn (Wd rd) 0 C.P .any ops Q' (fuel + m) listed a W
  | 0, _, _, _, _, _, hk, h => by rw [Nat.zero_add]; exact hQ _ _ _ _ h.1 hk h.2
  | fuel + 1, listed, ex, a, W, hn, hk, h => by
    rw [show fuel + 1 + m = (fuel + m) + 1 by omega]
    refine ⟨fun h0 => absurd h0 h.1, fun i hi => ?_⟩
    have h1 := h.2 i hi
    unfold wpOpIn
    split
    · rename_i ho
      rw [mem_ready] at hi
      obtain ⟨_, o, ho', _⟩ := hi
      rw [ho] at ho'; cases ho'
    · rename_i o ho
      obtain ⟨V, hst, hV⟩ := h1 o ho
      rcases hst with ⟨hw, hT, v, hrun, rfl⟩ | ⟨hw, ⟨S, hT, hg⟩, rfl⟩ | ⟨hw, rfl⟩
      · rw [if_pos hw]
        have h0 : OpV0 C.P o.op o.type a.eval W (fun v' w' => v' = v ∧ w' = W) := by
          unfold OpV0
          have he : execOp a.eval ⟨none, o.op, o.type, "", #[], none⟩ = execOp a.eval o := rfl
          rw [he, hrun W hk.1]; exact ⟨rfl, rfl⟩
        refine OpV0.wpIn (OpV0.mono ?_ h0)
        intro v' w' hvw
        obtain ⟨rfl, rfl⟩ := hvw
        have hk' := hk.put (b := true) (v := v') hs (Below.refl _ _) ho hn (fun S _ hS => by rw [hT] at hS; cases hS)
        exact anyS_sound hs hQ fuel _ _ _ _ (by rw [put_size]; exact hn) hk' (hV true _ ⟨rfl, rfl⟩ ⟨_, hk'⟩)
      · rw [if_pos hw]
        refine OpV0.wpIn (OpV0.mono (fun v W' hvw => ?_) (hg W hk.1 (hk.deps o)))
        replace hvw := hvw.2
        have hk' := hk.put (b := true) (v := v) hs hvw.1 ho hn (fun S' _ hS => by rw [hT] at hS; cases hS; exact hvw.2)
        exact anyS_sound hs hQ fuel _ _ _ _ (by rw [put_size]; exact hn) hk' (hV true v rfl ⟨W', hk'⟩)
      · rw [if_neg (by rw [hw]; simp)]
        have hk' := hk.put (b := false) (v := undef) hs (Below.refl _ _) ho hn (fun S hb _ => by cases hb)
        refine ⟨fun _ _ => trivial, ?_⟩
        exact anyS_sound hs hQ fuel _ _ _ _ (by rw [put_size]; exact hn) hk' (hV false undef ⟨rfl, rfl⟩ ⟨W, hk'⟩)

/-- a step hangs on its own operands alone -/
theorem StepS.of_same {i : Nat} {o : Oper} {ex ex' : Nat → Bool} {a a' : Act} {V : Bool → Value → Prop} (h : StepS C ops w0 T fr i o ex a V) (he : execOp a'.eval o = execOp a.eval o)
    (hw : Region.wanted o (yielded ops a'.tmps) = Region.wanted o (yielded ops a.tmps)) (hd : ∀ W, DepsS ops T o ex' a' W → DepsS ops T o ex a W) : StepS C ops w0 T fr i o ex' a' V := by
  unfold StepS at *
  rw [he, hw]
  rcases h with h | ⟨h1, ⟨S, h2, h3⟩, h4⟩ | h
  · exact .inl h
  · refine .inr (.inl ⟨h1, ⟨S, h2, fun W hW hdW => ?_⟩, h4⟩)
    have h5 := h3 W hW (hd W hdW)
    unfold OpV OpV0 at h5 ⊢
    have e1 : execOp a'.eval ⟨none, o.op, o.type, "", #[], none⟩ = execOp a'.eval o := rfl
    have e2 : execOp a.eval ⟨none, o.op, o.type, "", #[], none⟩ = execOp a.eval o := rfl
    rw [e1, he, ← e2]
    exact h5
  · exact .inr (.inr h)

theorem StepS.unique {i : Nat} {o : Oper} {ex : Nat → Bool} {a : Act} {V V' : Bool → Value → Prop} (h : StepS C ops w0 T fr i o ex a V) (h' : StepS C ops w0 T fr i o ex a V') : V = V' := by
  rcases h with ⟨h1, h2, v, h3, rfl⟩ | ⟨h1, ⟨S, h2, h3⟩, rfl⟩ | ⟨h1, rfl⟩
  · rcases h' with ⟨g1, g2, u, g3, rfl⟩ | ⟨g1, ⟨S', g2, g3⟩, rfl⟩ | ⟨g1, rfl⟩
    · have := h3 w0 (Below.refl _ _)
      rw [g3 w0 (Below.refl _ _)] at this
      cases this; rfl
    · exact absurd (h2.symm.trans g2) (by simp)
    · exact absurd (h1.symm.trans g1) (by simp)
  · rcases h' with ⟨g1, g2, u, g3, rfl⟩ | ⟨g1, ⟨S', g2, g3⟩, rfl⟩ | ⟨g1, rfl⟩
    · exact absurd (h2.symm.trans g2) (by simp)
    · rfl
    · exact absurd (h1.symm.trans g1) (by simp)
  · rcases h' with ⟨g1, g2, u, g3, rfl⟩ | ⟨g1, ⟨S', g2, g3⟩, rfl⟩ | ⟨g1, rfl⟩
    · exact absurd (h1.symm.trans g1) (by simp)
    · exact absurd (h1.symm.trans g1) (by simp)
    · rfl

/-- one more outcome of an operation that runs in a known world -/
theorem StepS.some {n : Nat} (hs : SpecOk ops T fr n) {i : Nat} {o : Oper} (hi : ops[i]? = some o) {ex : Nat → Bool} {a : Act} {V : Bool → Value → Prop} (h : StepS C ops w0 T fr i o ex a V) (hn : a.tmps.size = n) {W : World} (hk : KnowS ops w0 T fr ex a W)
    (hv : ∀ S, T i = some S → OpV C.P o.op o.type a.eval W (fun v W' => Below W.heap.size W W' ∧ S v W' ∧ ∀ b, fr i v b → W.heap.size ≤ b ∧ b < W'.heap.size) → ∃ v W', Below W.heap.size W W' ∧ S v W' ∧ ∀ b, fr i v b → W.heap.size ≤ b ∧ b < W'.heap.size) : ∃ b v, V b v ∧ ∃ W', KnowS ops w0 T fr (upd ex i b) (a.put o.dst v) W' := by
  rcases h with ⟨h1, h2, v, h3, rfl⟩ | ⟨h1, ⟨S, h2, h3⟩, rfl⟩ | ⟨h1, rfl⟩
  · exact ⟨true, v, ⟨rfl, rfl⟩, W, hk.put hs (Below.refl _ _) hi hn (fun S _ hS => by rw [h2] at hS; cases hS)⟩
  · obtain ⟨v, W', hb, hS⟩ := hv S h2 (h3 W hk.1 (hk.deps o))
    exact ⟨true, v, rfl, W', hk.put hs hb hi hn (fun S' _ hS' => by rw [h2] at hS'; cases hS'; exact hS)⟩
  · exact ⟨false, undef, ⟨rfl, rfl⟩, W, hk.put hs (Below.refl _ _) hi hn (fun S hb _ => by cases hb)⟩

/-- an operation that comes back tells a value -/
theorem OpV.some {P : Program} {op : Op} {rt : TypeId} {ρ : Operand → Value} {w : World} {K : KV} (h : OpV P op rt ρ w K) : ∃ v w', K v w' := by
  have h0 : ∃ v w', KeepD w w' ∧ K v w' := by
    unfold OpV OpV0 at h
    split at h
    · exact ⟨_, _, h⟩
    · exact ⟨_, _, h⟩
    · obtain ⟨e, w', fr, hR, _⟩ := h []
      cases e with
      | returned v => exact ⟨v, w', hR⟩
      | panicked c => exact hR.elim
      | outgrown => exact hR.elim
    · obtain ⟨v, w', hR, _⟩ := h default []
      exact ⟨v, w', hR⟩
    · obtain ⟨e, w', hR, _⟩ := h.2 default [] (room_wide _)
      cases e with
      | returned v => exact ⟨v, w', hR⟩
      | panicked c => exact hR.elim
      | outgrown => exact hR.elim
    · exact h.elim
  obtain ⟨v, w', _, hk⟩ := h0
  exact ⟨v, w', hk⟩

/-- whatever has come up has all behind it that it waits for -/
def Closed (ops : Array Oper) (listed : Array Bool) : Prop := ∀ m o, ops[m]? = some o → listed.getD m false = true → ∀ e ∈ o.after, Region.binds .any e = true → listed.getD e.on false = true
theorem getD_set_true {listed : Array Bool} {s e : Nat} (h : listed.getD e false = true) : (listed.setIfInBounds s true).getD e false = true := by
  by_cases hs : s = e
  · subst hs
    rcases Nat.lt_or_ge s listed.size with h' | h'
    · simp [h']
    · simp [Array.getElem?_eq_none h'] at h
  · rw [getD_set_ne false hs]; exact h
theorem Closed.set {listed : Array Bool} {s : Nat} (h : Closed ops listed) (hr : s ∈ Region.ready .any ops listed) : Closed ops (listed.setIfInBounds s true) := by
  intro m o hm hl e he hb
  refine getD_set_true ?_
  by_cases hs : s = m
  · subst hs
    obtain ⟨_, o', ho', hall⟩ := mem_ready.1 hr
    rw [hm] at ho'; cases ho'
    exact hall e he hb
  · rw [getD_set_ne false hs] at hl
    exact h m o hm hl e he hb
theorem Closed.start (n : Nat) : Closed ops (Array.replicate n false) := by
  intro m o hm hl
  rcases Nat.lt_or_ge m n with h' | h'
  · simp [h'] at hl
  · simp [Nat.not_lt.2 h'] at hl

theorem anyS_first {n : Nat} (hs : SpecOk ops T fr n) {R : Array Bool → Prop} {Qs : (Nat → Bool) → Act → Prop} {i : Nat} {oi : Oper} (hi : ops[i]? = some oi) (hsel : ∀ (j : Nat) (o : Oper) cs b, ops[j]? = some o → o.op ≠ .select cs b)
    (hR : ∀ (listed : Array Bool) (j : Nat), Closed ops listed → R (listed.setIfInBounds i true) → listed.getD i true = false → j ∈ Region.ready .any ops listed → j ≠ i → False) :
    ∀ (fuel : Nat) (listed : Array Bool) (ex : Nat → Bool) (a : Act) (V : Bool → Value → Prop), Closed ops listed → a.tmps.size = n →
      (∀ j, listed.getD j true = false → ex j = false) →
      (∀ j oj, ops[j]? = some oj → j ≠ i → listed.getD j true = false → (∀ e ∈ oj.after, Region.binds .any e = true → e.on ≠ i) → oi.apart ops oj = true) →
      i ∈ Region.ready .any ops listed → (∃ W, KnowS ops w0 T fr ex a W) → StepS C ops w0 T fr i oi ex a V →
      (∀ b u, V b u → (∃ W, KnowS ops w0 T fr (upd ex i b) (a.put oi.dst u) W) → anyS C ops w0 T fr R Qs fuel (listed.setIfInBounds i true) (upd ex i b) (a.put oi.dst u)) →
      anyS C ops w0 T fr R Qs (fuel + 1) listed ex a := by
  intro fuel
  induction fuel with
  | zero =>
    intro listed ex a V hcl hn hex hfree hr hk hst H
    refine ⟨fun h => (by rw [h] at hr; cases hr), fun j hj => ?_⟩
    by_cases hji : j = i
    · subst hji
      intro o ho
      obtain rfl : oi = o := by rw [hi] at ho; exact Option.some.inj ho
      exact ⟨V, hst, fun b u hbu hW => H b u hbu hW⟩
    · obtain ⟨W, hkW⟩ := hk
      obtain ⟨b, v, hbv, hW⟩ := hst.some hs hi hn hkW (fun S _ h => h.some)
      exact (hR listed j hcl (H b v hbv hW).1 (mem_ready.1 hr).1 hj hji).elim
  | succ fuel ih =>
    intro listed ex a V hcl hn hex hfree hr hk hst H
    refine ⟨fun h => (by rw [h] at hr; cases hr), fun j hj => ?_⟩
    by_cases hji : j = i
    · subst hji
      intro o ho
      obtain rfl : oi = o := by rw [hi] at ho; exact Option.some.inj ho
      exact ⟨V, hst, fun b u hbu hW => H b u hbu hW⟩
    · have hij : i ≠ j := Ne.symm hji
      obtain ⟨hjun, oj, hoj, hall⟩ := mem_ready.1 hj
      obtain ⟨hiun, oi', hoi', halli⟩ := mem_ready.1 hr
      obtain rfl : oi = oi' := by rw [hi] at hoi'; exact Option.some.inj hoi'
      have set_i : ∀ {e : Nat}, listed.getD e false = true → e ≠ i := fun he heq => by
        rw [heq] at he
        rcases Nat.lt_or_ge i listed.size with h' | h'
        · simp [h'] at hiun he; rw [hiun] at he; cases he
        · simp [Array.getElem?_eq_none h'] at he
      have set_j : ∀ {e : Nat}, listed.getD e false = true → e ≠ j := fun he heq => by
        rw [heq] at he
        rcases Nat.lt_or_ge j listed.size with h' | h'
        · simp [h'] at hjun he; rw [hjun] at he; cases he
        · simp [Array.getElem?_eq_none h'] at he
      have hnot : ∀ e ∈ oj.after, Region.binds .any e = true → e.on ≠ i := fun e he hb => set_i (hall e he hb)
      have hnoti : ∀ e ∈ oi.after, Region.binds .any e = true → e.on ≠ j := fun e he hb => set_j (halli e he hb)
      have hap := hfree j oj hoj hji hjun hnot
      obtain ⟨p1, p2, p3⟩ := Oper.apart_spec hap
      -- j's step is the same ahead of i and behind it
      have stepj : ∀ (b : Bool) (u : Value) (Vj : Bool → Value → Prop), StepS C ops w0 T fr j oj (upd ex i b) (a.put oi.dst u) Vj → StepS C ops w0 T fr j oj ex a Vj := by
        intro b u Vj hst'
        refine hst'.of_same (execOp_put oj (fun cs b => hsel j oj cs b hoj) a oi.dst u p1).symm (wanted_put oj a oi.dst u p1).symm (fun W hd => ?_)
        intro e he hb S ok d hexe hT hok hdk
        have hne := hnot e he hb
        rw [upd_ne hne] at hexe
        rw [put_other _ _ _ _ (hs.uniq e.on S ok d hT hok hdk i oi hi (Ne.symm hne))]
        exact hd e he hb S ok d hexe hT hok hdk
      have stepi : ∀ (b : Bool) (u : Value), StepS C ops w0 T fr i oi (upd ex j b) (a.put oj.dst u) V := by
        intro b u
        refine hst.of_same (execOp_put oi (fun cs b => hsel i oi cs b hi) a oj.dst u p3) (wanted_put oi a oj.dst u p3) (fun W hd => ?_)
        intro e he hb S ok d hexe hT hok hdk
        have hne := hnoti e he hb
        have := hd e he hb S ok d (by rw [upd_ne hne]; exact hexe) hT hok hdk
        rwa [put_other _ _ _ _ (hs.uniq e.on S ok d hT hok hdk j oj hoj (Ne.symm hne))] at this
      intro o ho
      obtain rfl : oj = o := by rw [hoj] at ho; exact Option.some.inj ho
      obtain ⟨W, hkW⟩ := hk
      obtain ⟨b0, v0, hbv0, hW0⟩ := hst.some hs hi hn hkW (fun S _ h => h.some)
      obtain ⟨Vj, hstj, _⟩ := (H b0 v0 hbv0 hW0).2 j (ready_mono hj hji) oj hoj
      have hstj0 := stepj _ _ _ hstj
      refine ⟨Vj, hstj0, fun b' u hb'u hWj => ?_⟩
      refine ih (listed.setIfInBounds j true) (upd ex j b') (a.put oj.dst u) V (hcl.set hj) (by rw [put_size]; exact hn) ?_ ?_ (ready_mono hr hij) hWj (stepi b' u) ?_
      · intro k hk
        by_cases hkj : k = j
        · subst hkj
          exfalso
          rcases Nat.lt_or_ge k listed.size with h' | h'
          · simp [h'] at hk
          · rw [Array.getElem?_eq_none h' |> fun h => (by simp [h] : listed.getD k true = true)] at hjun; cases hjun
        · rw [getD_set_ne true (Ne.symm hkj)] at hk
          rw [upd_ne hkj]; exact hex k hk
      · intro k ok hk hki hun hno
        refine hfree k ok hk hki ?_ hno
        by_cases hjk : j = k
        · subst hjk; exact hjun
        · rw [getD_set_ne true hjk] at hun; exact hun
      · intro b v hbv hW2
        have hcomm : (a.put oj.dst u).put oi.dst v = (a.put oi.dst v).put oj.dst u := (Act.put_comm a v u p2).symm
        rw [hcomm, upd_comm hji] at hW2 ⊢
        obtain ⟨W2, hk2⟩ := hW2
        have hne : ∀ {k : Nat}, upd ex i b k = true → k ≠ j := fun hexk e => by
          subst e
          rw [upd_ne hji, hex _ hjun] at hexk; cases hexk
        have slot : ∀ {k : Nat} {ok : Oper} {d : Nat}, k ≠ j → ops[k]? = some ok → ok.dst = some d → (∃ S, T k = some S) → ((a.put oi.dst v).put oj.dst u).tmps.getD d undef = (a.put oi.dst v).tmps.getD d undef := fun hkj hok hdk hT => by
          obtain ⟨S, hT⟩ := hT
          exact put_other _ _ _ _ (hs.uniq _ S _ _ hT hok hdk j oj hoj (Ne.symm hkj))
        have hk1 : KnowS ops w0 T fr (upd ex i b) (a.put oi.dst v) W2 := by
          refine ⟨hk2.1, fun k S ok d hexk hT hok hdk => ?_, fun k ok d g hexk hok hdk hf => ?_, fun k ok d k' ok' d' g hkk hexk hexk' hok hdk hok' hdk' hf hf' => ?_⟩
          · have hkj := hne hexk
            have := hk2.2.1 k S ok d (by rw [upd_ne hkj]; exact hexk) hT hok hdk
            rwa [slot hkj hok hdk ⟨S, hT⟩] at this
          · have hkj := hne hexk
            exact hk2.2.2.1 k ok d g (by rw [upd_ne hkj]; exact hexk) hok hdk (by rw [slot hkj hok hdk (hs.own _ _ _ hf)]; exact hf)
          · have hkj := hne hexk
            have hkj' := hne hexk'
            exact hk2.2.2.2 k ok d k' ok' d' g hkk (by rw [upd_ne hkj]; exact hexk) (by rw [upd_ne hkj']; exact hexk') hok hdk hok' hdk' (by rw [slot hkj hok hdk (hs.own _ _ _ hf)]; exact hf) (by rw [slot hkj' hok' hdk' (hs.own _ _ _ hf')]; exact hf')
        obtain ⟨Vj', hstj', hK⟩ := (H b v hbv ⟨W2, hk1⟩).2 j (ready_mono hj hji) oj hoj
        have hsame := (stepj _ _ _ hstj').unique hstj0
        subst hsame
        rw [Array.setIfInBounds_comm _ _ hji]
        exact hK b' u hb'u ⟨W2, hk2⟩
end
end Go.Proofs.YtdpfafgecchafaaDoor.Sx

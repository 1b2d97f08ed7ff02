/- Sx, part F: the walk: lists of operations, regions, code, calls. -/
import Derived.Test.YtdpfafgecchafaaDoorSxE
set_option linter.unusedVariables false
set_option linter.unusedSimpArgs false
namespace Go.Proofs.YtdpfafgecchafaaDoor.Sx
open Go Go.RowKit

/-! ### guards -/
def dstOf : List Oper → Nat → Option Nat
  | [], _ => none
  | o :: _, 0 => o.dst
  | _ :: r, n + 1 => dstOf r n
theorem dstOf_eq (os : List Oper) (j : Nat) : dstOf os j = (os[j]?).bind (·.dst) := by
  induction os generalizing j with
  | nil => simp [dstOf]
  | cons o r ih => cases j <;> simp [dstOf, ih]

def gd (os : List Oper) (g : Option (Nat × Bool)) (l : Env) (X Y : Env → Prop) : Prop :=
  match g with
  | none => X l
  | some (j, want) => match dstOf os j with
    | none => Y l
    | some d => match get l d with
      | .bool b => match want with
        | true => Br b (X (put l d (.bool true))) (Y (put l d (.bool false)))
        | false => Br b (Y (put l d (.bool true))) (X (put l d (.bool false)))
      | _ => Y l

theorem put_get (l : Env) (d : Nat) : put l d (get l d) = l := by
  induction l generalizing d with
  | nil => rfl
  | cons v l ih => cases d <;> simp [put, get, ih]

theorem gd_ok {D : List Deferred} {ops : Array Oper} {o : Oper} {l : Env} {X Y : Env → Prop} (h : gd ops.toList o.guard l X Y) :
    (Region.wanted o (yielded ops (act D l).tmps) = true ∧ X l) ∨ (Region.wanted o (yielded ops (act D l).tmps) = false ∧ Y l) := by
  unfold gd at h
  unfold Region.wanted
  split at h
  · rename_i hg; rw [hg]; exact .inl ⟨rfl, h⟩
  · rename_i j want hg
    rw [hg]
    simp only
    have hy : yielded ops (act D l).tmps j = match dstOf ops.toList j with
        | none => none
        | some d => match get l d with
          | .bool b => some b
          | _ => none := by
      unfold yielded
      rw [dstOf_eq]
      simp only [Array.getElem?_toList]
      cases hd : (ops[j]?).bind (·.dst) with
      | none => rfl
      | some d =>
        simp only [Option.bind_some]
        rw [get_eq]
        show (match (l.toArray[d]? : Option Value) with | some (.bool b) => some b | _ => none) = _
        simp only [List.getElem?_toArray, List.getD_eq_getElem?_getD]
        cases l[d]? with
        | none => rfl
        | some v => simp only [Option.getD_some]; cases v <;> rfl
    rw [hy]
    split at h
    · exact .inr ⟨rfl, h⟩
    · rename_i d hd
      split at h
      · rename_i b hb
        have hp : put l d (.bool b) = l := by rw [← hb]; exact put_get l d
        split at h
        · cases b
          · rw [Z0p, hp] at h; exact .inr ⟨rfl, h⟩
          · rw [Z0o, hp] at h; exact .inl ⟨rfl, h⟩
        · cases b
          · rw [Z0p, hp] at h; exact .inl ⟨rfl, h⟩
          · rw [Z0o, hp] at h; exact .inr ⟨rfl, h⟩
      · rename_i hnb
        right
        refine ⟨?_, h⟩
        cases hv : get l d <;> first | rfl | exact absurd hv (hnb _)

/-! ### operations one behind the other -/
def seqOps (C : Ctx) (os : List Oper) : List Oper → Env → World → (Env → World → Prop) → Prop
  | [], l, w, K => K l w
  | o :: r, l, w, K => gd os o.guard l
      (fun l' => op1 C o.op o.type (ev l') w fun v w' => seqOps C os r (putO l' o.dst v) w' K)
      (fun l' => seqOps C os r (putO l' o.dst undef) w K)

theorem seqOps_ok {C : Ctx} {D : List Deferred} {rd : Option Nat} {w0 : World} {ops : Array Oper} {Q : Exit → Act → World → Prop} {K : Env → World → Prop} (hK : ∀ l w, KeepD w0 w → K l w → Q .normal (act D l) w) :
    ∀ (r : List Oper) (l : Env) (w : World), KeepD w0 w → seqOps C ops.toList r l w K → wpListIn (Wd rd) 0 C.P ops Q r (act D l) w := by
  intro r
  induction r with
  | nil => intro l w hd h; exact hK _ _ hd h
  | cons o r ih =>
    intro l w hd h
    unfold wpListIn
    rcases gd_ok (D := D) h with ⟨hw, h⟩ | ⟨hw, h⟩
    · rw [if_pos hw]
      refine OpV0.wpIn ?_
      rw [act_eval]
      exact OpV0.mono (fun v w' h => by rw [act_put]; exact ih _ _ (hd.trans h.1) h.2) (op1_ok h)
    · rw [if_neg (by rw [hw]; simp), act_put]
      exact ⟨fun _ _ => trivial, ih _ _ hd h⟩

/-! ### operations in whatever order -/
abbrev Facts := List (Nat × Value × (World → Prop))
def depB : List Edge → Nat → Bool
  | [], _ => false
  | e :: r, j => (Region.binds .any e && e.on == j) || depB r j
def Fd (after : List Edge) : Facts → World → Prop
  | [], _ => True
  | (j, _, f) :: r, W => (if depB after j = true then f W else True) ∧ Fd after r W
def Fall : Facts → World → Prop
  | [], _ => True
  | (_, _, f) :: r, W => f W ∧ Fall r W
/-- what the values own is apart -/
def Dis1 (fr : Frs) (i : Nat) (v : Value) : Facts → Prop
  | [] => True
  | (j, u, _) :: r => (∀ b, fr i v b → fr j u b → False) ∧ Dis1 fr i v r
def Dis (fr : Frs) : Facts → Prop
  | [] => True
  | (i, v, _) :: r => Dis1 fr i v r ∧ Dis fr r
theorem depB_spec {after : List Edge} {j : Nat} (h : depB after j = true) : ∃ e ∈ after, Region.binds .any e = true ∧ e.on = j := by
  induction after with
  | nil => simp [depB] at h
  | cons e r ih =>
    simp only [depB, Bool.or_eq_true, Bool.and_eq_true, beq_iff_eq] at h
    rcases h with ⟨h1, h2⟩ | h
    · exact ⟨e, by simp, h1, h2⟩
    · obtain ⟨e', he, h⟩ := ih h
      exact ⟨e', by simp [he], h⟩

def flow (C : Ctx) (w0 : World) (os : List Oper) (T : Specs) (fr : Frs) : Nat → List Oper → Facts → Env → (Facts → Env → Prop) → Prop
  | _, [], F, l, K => K F l
  | i, o :: r, F, l, K => gd os o.guard l
      (fun l' => match T i with
        | none => rd1 C o.op (ev l') w0 fun v => flow C w0 os T fr (i + 1) r F (putO l' o.dst v) K
        | some S => (∀ W, Below w0.heap.size w0 W → Fd o.after.toList F W → op1 C o.op o.type (ev l') W fun v W' => Below W.heap.size W W' ∧ S v W' ∧ ∀ b, fr i v b → W.heap.size ≤ b ∧ b < W'.heap.size) ∧
            (∀ v, (∃ W, Below w0.heap.size w0 W ∧ S v W) → flow C w0 os T fr (i + 1) r ((i, v, S v) :: F) (putO l' o.dst v) K))
      (fun l' => flow C w0 os T fr (i + 1) r F (putO l' o.dst undef) K)

/-- what a list of facts says of a frame -/
def FactsOk (ops : Array Oper) (T : Specs) (F : Facts) (ex : Nat → Bool) (l : Env) : Prop :=
  ∀ p ∈ F, ∃ S o d, T p.1 = some S ∧ ops[p.1]? = some o ∧ o.dst = some d ∧ ex p.1 = true ∧ p.2.1 = get l d ∧ p.2.2 = S (get l d)

theorem FactsOk.fall {D : List Deferred} {ops : Array Oper} {w0 : World} {T : Specs} {fr : Frs} {F : Facts} {ex : Nat → Bool} {l : Env} (h : FactsOk ops T F ex l) {W : World} (hk : KnowS ops w0 T fr ex (act D l) W) : Fall F W := by
  induction F with
  | nil => trivial
  | cons p r ih =>
    refine ⟨?_, ih fun q hq => h q (by simp [hq])⟩
    obtain ⟨S, o, d, h1, h2, h3, h4, _, h5⟩ := h p (by simp)
    have := hk.2.1 p.1 S o d h4 h1 h2 h3
    rw [h5, get_eq]
    simpa [act] using this

theorem FactsOk.dis {D : List Deferred} {ops : Array Oper} {w0 : World} {T : Specs} {fr : Frs} {F : Facts} {ex : Nat → Bool} {l : Env} (h : FactsOk ops T F ex l) (hn : (F.map (·.1)).Nodup) {W : World} (hk : KnowS ops w0 T fr ex (act D l) W) : Dis fr F := by
  induction F with
  | nil => trivial
  | cons p r ih =>
    rw [List.map_cons, List.nodup_cons] at hn
    refine ⟨?_, ih (fun q hq => h q (by simp [hq])) hn.2⟩
    obtain ⟨S, o, d, h1, h2, h3, h4, h5, _⟩ := h p (by simp)
    have key : ∀ G : Facts, (∀ q ∈ G, q ∈ r) → Dis1 fr p.1 p.2.1 G := by
      intro G
      induction G with
      | nil => intro _; trivial
      | cons q G ihG =>
        intro hG
        refine ⟨fun b hb hb' => ?_, ihG fun q hq => hG q (by simp [hq])⟩
        have hq := hG q (by simp)
        obtain ⟨S', o', d', g1, g2, g3, g4, g5, _⟩ := h q (by simp [hq])
        have ga : ∀ d, (act D l).tmps.getD d undef = get l d := fun d => by rw [get_eq]; simp [act]
        refine hk.2.2.2 p.1 o d q.1 o' d' b (fun e => hn.1 ?_) h4 g4 h2 h3 g2 g3 (by rw [ga, ← h5]; exact hb) (by rw [ga, ← g5]; exact hb')
        rw [e]; exact List.mem_map_of_mem hq
    exact key r fun _ h => h

theorem FactsOk.fd {D : List Deferred} {ops : Array Oper} {T : Specs} {F : Facts} {ex : Nat → Bool} {l : Env} (h : FactsOk ops T F ex l) {W : World} {o : Oper} (hk : DepsS ops T o ex (act D l) W) : Fd o.after.toList F W := by
  induction F with
  | nil => trivial
  | cons p r ih =>
    refine ⟨?_, ih fun q hq => h q (by simp [hq])⟩
    split
    · rename_i hd
      obtain ⟨e, he, hb, heq⟩ := depB_spec hd
      obtain ⟨S, oj, d, h1, h2, h3, h4, _, h5⟩ := h p (by simp)
      have := hk e (by simpa using he) hb S oj d (by rw [heq]; exact h4) (by rw [heq]; exact h1) (by rw [heq]; exact h2) h3
      rw [h5, get_eq]
      simpa [act] using this
    · trivial

theorem putO_len (l : Env) (d : Option Nat) (v : Value) : (putO l d v).length = l.length := by
  cases d <;> simp [putO, put_eq]

theorem FactsOk.put {ops : Array Oper} {T : Specs} {fr : Frs} {n : Nat} (hs : SpecOk ops T fr n) {F : Facts} {ex : Nat → Bool} {l : Env} (h : FactsOk ops T F ex l) {i : Nat} {o : Oper} (hi : ops[i]? = some o) (b : Bool) (v : Value) (hn : ∀ p ∈ F, p.1 ≠ i) :
    FactsOk ops T F (upd ex i b) (putO l o.dst v) := by
  intro p hp
  obtain ⟨S, oj, d, h1, h2, h3, h4, h5, h6⟩ := h p hp
  have hne := hn p hp
  have hu := hs.uniq p.1 S oj d h1 h2 h3 i o hi (Ne.symm hne)
  have hg : get (putO l o.dst v) d = get l d := by
    cases hd : o.dst with
    | none => rfl
    | some e =>
      have : e ≠ d := fun he => hu (by rw [hd, he])
      exact get_put_ne l e d v this
  exact ⟨S, oj, d, h1, h2, h3, by rw [upd_ne hne]; exact h4, by rw [hg]; exact h5, by rw [hg]; exact h6⟩

/-- the first k operations have come up, and no other -/
def LB (ops : Array Oper) (s : Nat) (listed : Array Bool) : Prop := listed.size = ops.size ∧ ∀ j, j < ops.size → listed.getD j true = decide (j < s)
theorem LB.set {ops : Array Oper} {s : Nat} {listed : Array Bool} (h : LB ops s listed) (hs : s < ops.size) : LB ops (s + 1) (listed.setIfInBounds s true) := by
  refine ⟨by simp [h.1], fun j hj => ?_⟩
  by_cases hjs : s = j
  · subst hjs; simp [h.1, hs]
  · rw [getD_set_ne true hjs, h.2 j hj]
    have : (j < s) ↔ (j < s + 1) := by omega
    simp [this]
theorem LB.start (ops : Array Oper) : LB ops 0 (Array.replicate ops.size false) := ⟨by simp, fun j hj => by simp [hj]⟩

/-- what a list of edges waits for, as bits -/
def depM : List Edge → Nat → Nat
  | [], s => s
  | e :: r, s => depM r (if Region.binds .any e then s ||| 2 ^ e.on else s)
def reachM (ops : Array Oper) : Nat → Nat → Nat
  | 0, s => s
  | i + 1, s => reachM ops i (if s.testBit i then (match ops[i]? with
    | some o => depM o.after.toList s
    | none => s) else s)
/-- the operations from k on wait for all that stand ahead of them (one way or another) -/
def sufB (k : Nat) (ops : Array Oper) : Bool :=
  (List.range ops.size).all fun m => decide (m < k) || match ops[m]? with
    | some o => (reachM ops m (depM o.after.toList 0)) % 2 ^ m == 2 ^ m - 1
    | none => true

theorem depM_spec {listed : Array Bool} : ∀ (r : List Edge) (s : Nat), (∀ e ∈ r, Region.binds .any e = true → listed.getD e.on false = true) → (∀ j, s.testBit j = true → listed.getD j false = true) → ∀ j, (depM r s).testBit j = true → listed.getD j false = true := by
  intro r
  induction r with
  | nil => intro s _ h j hj; exact h j hj
  | cons e r ih =>
    intro s hr h j hj
    refine ih _ (fun e' he' => hr e' (by simp [he'])) ?_ j hj
    intro i hi
    split at hi
    · rename_i hb
      rw [Nat.testBit_or, Bool.or_eq_true] at hi
      rcases hi with hi | hi
      · exact h i hi
      · rw [Nat.testBit_two_pow] at hi
        have : e.on = i := by simpa using hi
        rw [← this]; exact hr e (by simp) hb
    · exact h i hi
theorem reachM_spec {ops : Array Oper} {listed : Array Bool} (hc : Closed ops listed) : ∀ (i s : Nat), (∀ j, s.testBit j = true → listed.getD j false = true) → ∀ j, (reachM ops i s).testBit j = true → listed.getD j false = true := by
  intro i
  induction i with
  | zero => intro s h j hj; exact h j hj
  | succ i ih =>
    intro s h j hj
    refine ih _ ?_ j hj
    intro q hq
    split at hq
    · rename_i hb
      split at hq
      · rename_i o ho
        exact depM_spec _ s (fun e he hbd => hc i o ho (h i hb) e (by simpa using he) hbd) h q hq
      · exact h q hq
    · exact h q hq

theorem sufB_spec {k : Nat} {ops : Array Oper} (h : sufB k ops = true) {m j : Nat} {o : Oper} (hm : ops[m]? = some o) (hk : k ≤ m) (hj : j < m) {listed : Array Bool} (hc : Closed ops listed) (hr : m ∈ Region.ready .any ops listed) : listed.getD j false = true := by
  obtain ⟨_, o', ho', hall⟩ := mem_ready.1 hr
  rw [hm] at ho'; cases ho'
  have hlt := (Array.getElem?_eq_some_iff.1 hm).1
  have h1 := List.all_eq_true.1 h m (by simpa using hlt)
  simp only [Bool.or_eq_true, decide_eq_true_eq, hm, beq_iff_eq] at h1
  rcases h1 with h1 | h1
  · omega
  · refine reachM_spec hc m _ (depM_spec _ 0 (fun e he hb => hall e (Array.mem_toList_iff.1 he) hb) (fun j h => by simp at h)) j ?_
    have h2 := congrArg (fun n => Nat.testBit n j) h1
    simp only [Nat.testBit_mod_two_pow, Nat.testBit_two_pow_sub_one] at h2
    simpa [hj] using h2

theorem lex_step {ops : Array Oper} {fuel k : Nat} {listed : Array Bool} (h : Region.lexFrom .any ops (fuel + 1) k listed = true) :
    k ∈ Region.ready .any ops listed ∧ Region.free .any ops listed k = true ∧ Region.lexFrom .any ops fuel (k + 1) (listed.setIfInBounds k true) = true := by
  simp only [Region.lexFrom, Bool.and_eq_true] at h
  exact ⟨by simpa using h.1.1, h.1.2, h.2⟩

/-- the operations at the end, one behind the other -/
theorem suf_ok {rd : Option Nat} {C : Ctx} {ops : Array Oper} {Q : Exit → Act → World → Prop} {k : Nat} (hS : sufB k ops = true) :
    ∀ (r : List Oper) (s : Nat) (listed : Array Bool) (a : Act) (W : World), (∀ j, r[j]? = ops[s + j]?) → k ≤ s → LB ops s listed → Closed ops listed → Region.lexFrom .any ops r.length s listed = true →
      wpListIn (Wd rd) 0 C.P ops Q r a W → wpAnyIn (Wd rd) 0 C.P .any ops Q r.length listed a W := by
  intro r
  induction r with
  | nil =>
    intro s listed a W _ _ _ _ hl h
    exact ⟨by simpa [Region.lexFrom] using hl, h⟩
  | cons o r ih =>
    intro s listed a W hr hks hL hcl hl h
    obtain ⟨h1, h2, h3⟩ := lex_step hl
    have h0 : ops[s]? = some o := by simpa using (hr 0).symm
    refine ⟨fun he => (by rw [he] at h1; cases h1), fun i hi => ?_⟩
    have his : i = s := by
      obtain ⟨hu, oi, hoi, hall⟩ := mem_ready.1 hi
      have hlt := (Array.getElem?_eq_some_iff.1 hoi).1
      rw [hL.2 i hlt] at hu
      simp only [decide_eq_false_iff_not, Nat.not_lt] at hu
      rcases Nat.lt_or_eq_of_le hu with hgt | heq
      · have this := sufB_spec hS hoi (by omega) hgt hcl hi
        have hslt := (Array.getElem?_eq_some_iff.1 h0).1
        have h4 := hL.2 s hslt
        simp only [Nat.lt_irrefl, decide_false] at h4
        have h5 : s < listed.size := by rw [hL.1]; exact hslt
        simp [h5] at this h4
        rw [this] at h4; cases h4
      · exact heq.symm
    subst his
    unfold wpOpIn
    simp only [h0]
    unfold wpListIn at h
    have hslt := (Array.getElem?_eq_some_iff.1 h0).1
    have ih' := fun a W hh => ih (i + 1) (listed.setIfInBounds i true) a W (fun j => by have := hr (j + 1); simpa [Nat.add_assoc, Nat.add_comm 1 j] using this) (by omega) (hL.set hslt) (hcl.set h1) h3 hh
    split
    · rename_i hw; rw [if_pos hw] at h
      exact Oper.wpIn_mono ih' h
    · rename_i hw; rw [if_neg hw] at h; exact ⟨h.1, ih' _ _ h.2⟩

theorem flow_any {D : List Deferred} {C : Ctx} {ops : Array Oper} {w0 : World} {T : Specs} {fr : Frs} {n k : Nat} (hs : SpecOk ops T fr n) (hsel : Region.noSelect ops = true) (hS : sufB k ops = true)
    {R : Array Bool → Prop} {Qs : (Nat → Bool) → Act → Prop} {K : Facts → Env → Prop} {m : Nat}
    (hR : ∀ listed, LB ops k listed → Closed ops listed → Region.lexFrom .any ops m k listed = true → R listed) (hR' : ∀ listed, R listed → LB ops k listed)
    (hQ : ∀ F ex l, l.length = n → FactsOk ops T F ex l → (F.map (·.1)).Nodup → K F l → Qs ex (act D l)) :
    ∀ (r : List Oper) (s : Nat) (listed : Array Bool) (ex : Nat → Bool) (F : Facts) (l : Env), s + r.length = k → (∀ j, j < r.length → r[j]? = ops[s + j]?) → LB ops s listed → Closed ops listed → l.length = n →
      (∀ j, s ≤ j → ex j = false) → (∀ p ∈ F, p.1 < s) → (F.map (·.1)).Nodup → FactsOk ops T F ex l → (∃ W, KnowS ops w0 T fr ex (act D l) W) → Region.lexFrom .any ops (r.length + m) s listed = true →
      flow C w0 ops.toList T fr s r F l K → anyS C ops w0 T fr R Qs r.length listed ex (act D l) := by
  intro r
  induction r with
  | nil =>
    intro s listed ex F l hsk _ hL hcl hn hex hF hnd hfo hk hl h
    simp only [List.length_nil, Nat.add_zero] at hsk
    subst hsk
    exact ⟨hR _ hL hcl (by simpa using hl), hQ F ex l hn hfo hnd h⟩
  | cons o r ih =>
    intro s listed ex F l hsk hr hL hcl hn hex hF hnd hfo hk hl h
    have h0 : ops[s]? = some o := by simpa using (hr 0 (by simp)).symm
    have hslt := (Array.getElem?_eq_some_iff.1 h0).1
    rw [show (o :: r).length + m = (r.length + m) + 1 by simp; omega] at hl
    obtain ⟨h1, h2, h3⟩ := lex_step hl
    have hsk' : s < k := by simp only [List.length_cons] at hsk; omega
    have first := anyS_first (C := C) (w0 := w0) hs (R := R) (Qs := Qs) h0 (Region.noSelect_spec hsel) (by
      intro listed j hcl' hRl hun hj hjs
      have hL' := hR' _ hRl
      obtain ⟨hu, oj, hoj, hall⟩ := mem_ready.1 hj
      have hjlt := (Array.getElem?_eq_some_iff.1 hoj).1
      have h4 := hL'.2 j hjlt
      rw [getD_set_ne true (Ne.symm hjs), hu] at h4
      have hkj : k ≤ j := by simpa using h4.symm
      have this := sufB_spec hS hoj hkj (j := s) (by omega) hcl' hj
      have hsz : s < listed.size := by have := hL'.1; simp at this; omega
      simp [hsz] at this hun
      rw [hun] at this; cases this) r.length listed ex (act D l)
    have hfree := Region.free_spec h0 h2
    have hunl : ∀ j, listed.getD j true = false → ex j = false := by
      intro j hj
      rcases Nat.lt_or_ge j ops.size with hlt | hge
      · rw [hL.2 j hlt] at hj
        simp at hj
        exact hex j hj
      · exact hex j (by omega)
    have next : ∀ (b : Bool) (v : Value) (F' : Facts), (∀ p ∈ F', p.1 < s + 1) → (F'.map (·.1)).Nodup → FactsOk ops T F' (upd ex s b) (putO l o.dst v) → (∃ W, KnowS ops w0 T fr (upd ex s b) ((act D l).put o.dst v) W) →
        flow C w0 ops.toList T fr (s + 1) r F' (putO l o.dst v) K → anyS C ops w0 T fr R Qs r.length (listed.setIfInBounds s true) (upd ex s b) ((act D l).put o.dst v) := by
      intro b v F' hF' hnd' hfo' hk' hfl
      rw [act_put] at hk' ⊢
      exact ih (s + 1) _ _ F' _ (by simp only [List.length_cons] at hsk; omega) (fun j hj => by have := hr (j + 1) (by simp; omega); simpa [Nat.add_assoc, Nat.add_comm 1 j] using this) (hL.set hslt) (hcl.set h1) (by rw [putO_len]; exact hn)
        (fun j hj => by rw [upd_ne (by omega)]; exact hex j (by omega)) hF' hnd' hfo' hk' h3 hfl
    have hFs : ∀ p ∈ F, p.1 ≠ s := fun p hp => by have := hF p hp; omega
    have hsz : (act D l).tmps.size = n := by simpa [act] using hn
    unfold flow at h
    rcases gd_ok h with ⟨hw, h⟩ | ⟨hw, h⟩
    · split at h
      · rename_i hT
        obtain ⟨v, hv, hrd⟩ := rd1_ok (rt := o.type) h
        refine first _ hcl hsz hunl hfree h1 hk (.inl ⟨hw, hT, v, fun W hW => by rw [act_eval]; exact hrd W hW, rfl⟩) ?_
        rintro b u ⟨rfl, rfl⟩ hk'
        exact next true u F (fun p hp => by have := hF p hp; omega) hnd (hfo.put hs h0 true u hFs) hk' hv
      · rename_i S hT
        obtain ⟨hg, hv⟩ := h
        refine first _ hcl hsz hunl hfree h1 hk (.inr (.inl ⟨hw, ⟨S, hT, fun W hW hd => by rw [act_eval]; exact op1_ok (hg W hW (hfo.fd hd))⟩, rfl⟩)) ?_
        rintro b u rfl hk'
        cases hd : o.dst with
        | none =>
          -- without a place nothing can be told of it: it is not a fact
          rw [hd] at hk' 
          exact (False.elim (by
            have := hs.inb
            exact (hs.dst s S o hT h0 hd).elim))
        | some d =>
          have hdn := hs.inb s S o d hT h0 hd
          have hget : get (putO l o.dst u) d = u := by rw [hd]; exact get_put_self l d u (by rw [hn]; exact hdn)
          obtain ⟨W, hkW⟩ := hk'
          have hSu : S u W := by
            have := hkW.2.1 s S o d (by rw [upd_self]) hT h0 hd
            rw [act_put] at this
            rw [← hget, get_eq]; simpa [act] using this
          rw [← hd]
          refine next true u ((s, u, S u) :: F) (fun p hp => ?_) (by rw [List.map_cons, List.nodup_cons]; exact ⟨fun hm => by obtain ⟨q, hq, he⟩ := List.mem_map.1 hm; exact hFs q hq he, hnd⟩) (fun p hp => ?_) (by rw [hd] ; exact ⟨W, by rw [hd] at hkW; exact hkW⟩) (hv u ⟨W, hkW.1, hSu⟩)
          · rcases List.mem_cons.1 hp with rfl | hp
            · simp
            · have := hF p hp; omega
          · rcases List.mem_cons.1 hp with rfl | hp
            · exact ⟨S, o, d, hT, h0, hd, by rw [upd_self], by rw [hget], by rw [hget]⟩
            · exact hfo.put hs h0 true u hFs p hp
    · refine first _ hcl hsz hunl hfree h1 hk (.inr (.inr ⟨hw, rfl⟩)) ?_
      rintro b u ⟨rfl, rfl⟩ hk'
      exact next false undef F (fun p hp => by have := hF p hp; omega) hnd (hfo.put hs h0 false undef hFs) hk' h

/-! ### a region that draws -/
/-- what is told of some operations: their place, what they come to, the blocks that their value owns -/
abbrev SpecL := List (Nat × (Value → World → Prop) × (Value → Nat → Prop))
def tsp : SpecL → Specs
  | [], _ => none
  | (j, S, _) :: r, i => if i = j then some S else tsp r i
def frp : SpecL → Frs
  | [], _ => fun _ _ => False
  | (j, _, f) :: r, i => if i = j then f else frp r i
/-- a value that owns nothing -/
def noB : Value → Nat → Prop := fun _ _ => False

/-- the specified operations have places of their own -/
def placeB (ops : Array Oper) (dom : List Nat) (n : Nat) : Bool :=
  dom.all fun j => match ops[j]? with
    | none => true
    | some o => match o.dst with
      | none => false
      | some d => decide (d < n) && (List.range ops.size).all fun k => k == j || match ops[k]? with
          | none => true
          | some ok => ok.dst != some d

def Stable (S : Value → World → Prop) : Prop := ∀ v W W', S v W → Below W.heap.size W W' → S v W'
def StableAll : SpecL → Prop
  | [] => True
  | (_, S, _) :: r => Stable S ∧ StableAll r

theorem tsp_mem {L : SpecL} {j : Nat} {S : Value → World → Prop} (h : tsp L j = some S) : j ∈ L.map (·.1) ∧ ∃ f, (j, S, f) ∈ L := by
  induction L with
  | nil => cases h
  | cons p r ih =>
    obtain ⟨i, S', f⟩ := p
    unfold tsp at h
    split at h
    · rename_i e; cases h; subst e; exact ⟨by simp, f, by simp⟩
    · obtain ⟨h1, f', h2⟩ := ih h
      exact ⟨by simp [h1], f', by simp [h2]⟩
theorem frp_own {L : SpecL} {j : Nat} {v : Value} {b : Nat} (h : frp L j v b) : ∃ S, tsp L j = some S := by
  induction L with
  | nil => exact h.elim
  | cons p r ih =>
    obtain ⟨i, S', f⟩ := p
    unfold tsp
    unfold frp at h
    split
    · exact ⟨_, rfl⟩
    · rename_i hne
      rw [if_neg hne] at h
      exact ih h
theorem stableAll_mem {L : SpecL} (h : StableAll L) : ∀ p ∈ L, Stable p.2.1 := by
  induction L with
  | nil => intro p hp; cases hp
  | cons q r ih =>
    obtain ⟨i, S, f⟩ := q
    intro p hp
    rcases List.mem_cons.1 hp with rfl | hp
    · exact h.1
    · exact ih h.2 p hp

theorem specOk_of {ops : Array Oper} {L : SpecL} {n : Nat} (hp : placeB ops (L.map (·.1)) n = true) (hs : StableAll L) : SpecOk ops (tsp L) (frp L) n := by
  have key : ∀ j S o, tsp L j = some S → ops[j]? = some o → ∃ d, o.dst = some d ∧ d < n ∧ ∀ k ok, ops[k]? = some ok → k ≠ j → ok.dst ≠ some d := by
    intro j S o hT ho
    have h1 := List.all_eq_true.1 hp j (tsp_mem hT).1
    simp only [ho] at h1
    cases hd : o.dst with
    | none => rw [hd] at h1; cases h1
    | some d =>
      rw [hd] at h1
      simp only [Bool.and_eq_true, decide_eq_true_eq] at h1
      refine ⟨d, rfl, h1.1, fun k ok hk hkj => ?_⟩
      have h2 := List.all_eq_true.1 h1.2 k (by simpa using (Array.getElem?_eq_some_iff.1 hk).1)
      simp only [hk, Bool.or_eq_true, beq_iff_eq, hkj, false_or] at h2
      simpa using h2
  refine ⟨fun j S hT => by obtain ⟨f, hf⟩ := (tsp_mem hT).2; exact stableAll_mem hs _ hf, ?_, ?_, ?_, fun j v b h => frp_own h⟩
  · intro j S o d hT ho hd k ok hk hkj
    obtain ⟨d', hd', _, hu⟩ := key j S o hT ho
    rw [hd] at hd'; cases hd'
    exact hu k ok hk hkj
  · intro j S o hT ho hd
    obtain ⟨d', hd', _⟩ := key j S o hT ho
    rw [hd] at hd'; cases hd'
  · intro j S o d hT ho hd
    obtain ⟨d', hd', hlt, _⟩ := key j S o hT ho
    rw [hd] at hd'; cases hd'
    exact hlt

theorem draw_ok {D : List Deferred} {rd : Option Nat} {C : Ctx} {id : Nat} {ops : Array Oper} {Q : Exit → Act → World → Prop} {l : Env} {w : World} {K : Env → World → Prop} (k : Nat) (L : SpecL)
    (hm : C.P.follows .mixedOrders = true) (hB : Region.lexB .any ops = true) (hS : sufB k ops = true) (hk : k ≤ ops.size) (hp : placeB ops (L.map (·.1)) l.length = true) (hs : StableAll L)
    (hK : ∀ l w', KeepD w w' → K l w' → Q .normal (act D l) w')
    (h : flow C w ops.toList (tsp L) (frp L) 0 (ops.toList.take k) [] l fun F l' => ∀ W, Below w.heap.size w W → Fall F W → Dis (frp L) F → seqOps C ops.toList (ops.toList.drop k) l' W K) :
    (Code.region id ops true).wpIn (Wd rd) 0 C.P Q (act D l) w := by
  simp only [Region.lexB, Bool.and_eq_true] at hB
  have hsp := specOk_of hp hs
  have hk0 : KnowS ops w (tsp L) (frp L) (fun _ => false) (act D l) { w with drawn := w.drawn + 1 } := ⟨⟨rfl, rfl, rfl, Nat.le_refl _, fun _ _ => rfl⟩, (fun j S o d h => by cases h), (fun j o d b h => by cases h), (fun j o d k o' d' b _ h => by cases h)⟩
  have hlen : (ops.toList.take k).length = k := by rw [List.length_take, Array.length_toList]; omega
  have hdl : (ops.toList.drop k).length = ops.size - k := by rw [List.length_drop, Array.length_toList]
  refine wpIn_region_any hm ?_
  have ha := flow_any (C := C) (w0 := w) (T := tsp L) (fr := frp L) (n := l.length) (k := k) (m := ops.size - k) hsp hB.1 hS
    (R := fun listed => LB ops k listed ∧ Closed ops listed ∧ Region.lexFrom .any ops (ops.size - k) k listed = true)
    (Qs := fun ex a => ∃ F l', a = act D l' ∧ l'.length = l.length ∧ FactsOk ops (tsp L) F ex l' ∧ (F.map (·.1)).Nodup ∧ ∀ W, Below w.heap.size w W → Fall F W → Dis (frp L) F → seqOps C ops.toList (ops.toList.drop k) l' W K)
    (K := fun F l' => ∀ W, Below w.heap.size w W → Fall F W → Dis (frp L) F → seqOps C ops.toList (ops.toList.drop k) l' W K)
    (fun listed h1 h2 h3 => ⟨h1, h2, h3⟩) (fun listed h => h.1) (fun F ex l' hl hf hnd hq => ⟨F, l', rfl, hl, hf, hnd, hq⟩)
    (ops.toList.take k) 0 (Array.replicate ops.size false) (fun _ => false) [] l (by rw [hlen]; omega)
    (fun j hj => by rw [hlen] at hj; rw [List.getElem?_take, if_pos hj, Array.getElem?_toList, Nat.zero_add]) (LB.start ops) (Closed.start _) rfl (fun _ _ => rfl) (fun p hp => by cases hp) (by simp) (fun p hp => by cases hp) ⟨_, hk0⟩
    (by rw [hlen, show k + (ops.size - k) = ops.size by omega]; exact hB.2) h
  rw [hlen] at ha
  have := anyS_sound (rd := rd) (m := ops.size - k) hsp (Q' := Q) (fun listed ex a W hR hkn hq => by
    obtain ⟨F, l', rfl, hl, hf, hnd, hq⟩ := hq
    have h1 := seqOps_ok (D := D) (rd := rd) (w0 := w) (Q := Q) hK _ _ _ (KeepD.below hkn.1) (hq W hkn.1 (hf.fall hkn) (hf.dis hnd hkn))
    have h2 := suf_ok (rd := rd) (C := C) (Q := Q) hS (ops.toList.drop k) k listed (act D l') W (fun j => by rw [List.getElem?_drop, Array.getElem?_toList]) (Nat.le_refl _) hR.1 hR.2.1 (by rw [hdl]; exact hR.2.2) h1
    rw [hdl] at h2
    exact h2) k (Array.replicate ops.size false) (fun _ => false) (act D l) _ (by simp [act]) hk0 ha
  rwa [show k + (ops.size - k) = ops.size by omega] at this
end Go.Proofs.YtdpfafgecchafaaDoor.Sx

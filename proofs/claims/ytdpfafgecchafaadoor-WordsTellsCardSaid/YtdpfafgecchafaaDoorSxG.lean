/- Sx, part G: the walk over code; loops; functions. -/
import Derived.Test.YtdpfafgecchafaaDoorSxF
set_option linter.unusedVariables false
set_option linter.unusedSimpArgs false
namespace Go.Proofs.YtdpfafgecchafaaDoor.Sx
open Go Go.RowKit

abbrev Post := Exit → Env → World → Prop
/-- a mark among the deferred calls: a loop over a function has been left; its block holds no call -/
def mark (b : Nat) : Deferred := { target := .collected b, args := #[] }
def MkOk (w0 w : World) (M : List Nat) : Prop := M.Nodup ∧ ∀ b ∈ M, w0.heap.size ≤ b ∧ w.heap[b]? = some (.deferred (some []))
theorem MkOk.nil (w0 w : World) : MkOk w0 w [] := ⟨List.nodup_nil, fun _ h => by cases h⟩
theorem MkOk.app {w0 w1 w2 : World} {M N : List Nat} (h : MkOk w0 w1 M) (h' : MkOk w1 w2 N) (hd : KeepD w0 w1) (hd' : KeepD w1 w2) : MkOk w0 w2 (N ++ M) := by
  refine ⟨List.nodup_append.2 ⟨h'.1, h.1, ?_⟩, fun b hb => ?_⟩
  · rintro a ha b hb rfl
    have h1 := (h'.2 a ha).1
    have h2 := (Array.getElem?_eq_some_iff.1 (h.2 a hb).2).1
    omega
  · rcases List.mem_append.1 hb with hb | hb
    · exact ⟨Nat.le_trans hd.1 (h'.2 b hb).1, (h'.2 b hb).2⟩
    · exact ⟨(h.2 b hb).1, hd'.2.1 b _ (h.2 b hb).2⟩
/-- the round's own record is a loop's -/
def RdOk (rd : Option Nat) (w : World) : Prop := ∀ l, rd = some l → ∃ r, w.heap[l]? = some (.loop r)
theorem RdOk.no (w : World) : RdOk none w := fun l h => by cases h
theorem RdOk.keep {rd : Option Nat} {w w' : World} (h : RdOk rd w) (hd : KeepD w w') : RdOk rd w' := fun l hl => by obtain ⟨r, hr⟩ := h l hl; exact hd.2.2 l r hr
def toQ (m : Bool) (D : List Deferred) (w0 : World) (Q : Post) : Exit → Act → World → Prop := fun e a w => ∃ l M, a = act (M.map mark ++ D) l ∧ (m = false → M = []) ∧ MkOk w0 w M ∧ KeepD w0 w ∧ Q e l w
theorem toQ_mk {m : Bool} {D : List Deferred} {w0 w : World} {Q : Post} {e : Exit} {l : Env} (hd : KeepD w0 w) (h : Q e l w) : toQ m D w0 Q e (act D l) w := ⟨l, [], rfl, fun _ => rfl, MkOk.nil _ _, hd, h⟩
theorem toQ_trans {m : Bool} {D : List Deferred} {M : List Nat} {w0 w1 w2 : World} {Q : Post} {e : Exit} {a : Act} (hm : m = false → M = []) (hM : MkOk w0 w1 M) (hd : KeepD w0 w1) (h : toQ m (M.map mark ++ D) w1 Q e a w2) : toQ m D w0 Q e a w2 := by
  obtain ⟨l, N, rfl, h1, h2, h3, h4⟩ := h
  exact ⟨l, N ++ M, by rw [List.map_append, List.append_assoc], fun hf => by rw [h1 hf, hm hf]; rfl, hM.app h2 hd h3, hd.trans h3, h4⟩
theorem toQ_imp {m : Bool} {D : List Deferred} {w0 w : World} {Q Q' : Post} {e e' : Exit} {a : Act} (h : ∀ l, Q e l w → Q' e' l w) (hq : toQ m D w0 Q e a w) : toQ m D w0 Q' e' a w := by
  obtain ⟨l, M, h1, h2, h3, h4, h5⟩ := hq
  exact ⟨l, M, h1, h2, h3, h4, h l h5⟩

/-- code without a loop over a function -/
def noRange : Code → Bool
  | .seq a b => noRange a && noRange b
  | .cond _ a b => noRange a && noRange b
  | .block _ a => noRange a
  | .loop a => noRange a
  | .scope a => noRange a
  | .rangeFunc .. => false
  | _ => true

def DrawA (C : Ctx) (ops : Array Oper) (l : Env) (w : World) (K : Env → World → Prop) : Prop :=
  ∀ rd D id (Q : Exit → Act → World → Prop), (∀ l w', KeepD w w' → K l w' → Q .normal (act D l) w') → (Code.region id ops true).wpIn (Wd rd) 0 C.P Q (act D l) w
def LoopA (C : Ctx) (b : Code) (Q : Post) (l : Env) (w : World) : Prop := ∀ m rd D, m = true ∨ noRange b = true → RdOk rd w → (Code.loop b).wpIn (Wd rd) 0 C.P (toQ m D w Q) (act D l) w
def RawA (C : Ctx) (c : Code) (Q : Post) (l : Env) (w : World) : Prop := ∀ m rd D, m = true ∨ noRange c = true → RdOk rd w → c.wpIn (Wd rd) 0 C.P (toQ m D w Q) (act D l) w

/-- a region that only reads: one walk -/
theorem draw_rd {C : Ctx} {ops : Array Oper} {l : Env} {w : World} {K : Env → World → Prop} (hB : Region.lexB .any ops = true) (hS : sufB ops.size ops = true)
    (h : flow C w ops.toList (tsp []) (frp []) 0 ops.toList [] l fun F l' => ∀ W, Below w.heap.size w W → Fall F W → Dis (frp []) F → K l' W) : DrawA C ops l w K := by
  intro rd D id Q hK
  have htk : ops.toList.take ops.size = ops.toList := by rw [← Array.length_toList, List.take_length]
  have hdr : ops.toList.drop ops.size = [] := by rw [← Array.length_toList, List.drop_length]
  refine draw_ok (K := K) ops.size [] C.mixed hB hS (Nat.le_refl _) rfl trivial hK ?_
  rw [htk, hdr]
  exact h

/-- a region that draws: the first k operations in any order, some of them told by what they come to; the others behind them -/
theorem draw_sp {C : Ctx} {ops : Array Oper} {l : Env} {w : World} {K : Env → World → Prop} (k : Nat) (L : SpecL)
    (hB : Region.lexB .any ops = true) (hS : sufB k ops = true) (hk : k ≤ ops.size) (n : Nat) (hn : l.length = n) (hp : placeB ops (L.map (·.1)) n = true) (hs : StableAll L)
    (h : flow C w ops.toList (tsp L) (frp L) 0 (ops.toList.take k) [] l fun F l' => ∀ W, Below w.heap.size w W → Fall F W → Dis (frp L) F → seqOps C ops.toList (ops.toList.drop k) l' W K) : DrawA C ops l w K :=
  fun rd D id Q hK => draw_ok (K := K) k L C.mixed hB hS hk (by rw [hn]; exact hp) hs hK h

/-! ### code -/
def thenQ (X : Env → World → Prop) (Q : Post) : Post
  | .normal, l, w => X l w
  | e, l, w => Q e l w
def blockQ (id : Nat) (Q : Post) : Post
  | .exit i, l, w => if i = id then Q .normal l w else Q (.exit i) l w
  | e, l, w => Q e l w
def condA (c : Operand) (l : Env) (X Y : Env → Prop) : Prop :=
  match c with
  | .tmp t => match get l t with
    | .bool b => Br b (X (put l t (.bool true))) (Y (put l t (.bool false)))
    | _ => False
  | .const v => match v with
    | .bool b => Br b (X l) (Y l)
    | _ => False
  | _ => False

def sx (C : Ctx) : Code → Post → Env → World → Prop
  | .skip, Q, l, w => Q .normal l w
  | .region _ os d, Q, l, w => match d with
    | true => DrawA C os l w fun l w => Q .normal l w
    | false => seqOps C os.toList os.toList l w fun l w => Q .normal l w
  | .seq a b, Q, l, w => sx C a (thenQ (fun l w => sx C b Q l w) Q) l w
  | .cond c x y, Q, l, w => condA c l (fun l => sx C x Q l w) (fun l => sx C y Q l w)
  | .block id b, Q, l, w => sx C b (blockQ id Q) l w
  | .loop b, Q, l, w => LoopA C b Q l w
  | .exit i, Q, l, w => Q (.exit i) l w
  | .ret, Q, l, w => Q .ret l w
  | .label _, Q, l, w => Q .normal l w
  | c, Q, l, w => RawA C c Q l w

section
variable (C : Ctx) (Q : Post) (l : Env) (w : World)
theorem Z00 : sx C .skip Q l w = Q .normal l w := by simp only [sx]
theorem sx_region (id : Nat) (os : Array Oper) : sx C (.region id os false) Q l w = seqOps C os.toList os.toList l w fun l w => Q .normal l w := by simp only [sx]
theorem Z02 (id : Nat) (os : Array Oper) : sx C (.region id os true) Q l w = DrawA C os l w fun l w => Q .normal l w := by simp only [sx]
theorem Z03 (a b : Code) : sx C (.seq a b) Q l w = sx C a (thenQ (fun l w => sx C b Q l w) Q) l w := by simp only [sx]
theorem Z04 (c : Operand) (x y : Code) : sx C (.cond c x y) Q l w = condA c l (fun l => sx C x Q l w) (fun l => sx C y Q l w) := by simp only [sx]
theorem Z05 (id : Nat) (b : Code) : sx C (.block id b) Q l w = sx C b (blockQ id Q) l w := by simp only [sx]
theorem Z06 (b : Code) : sx C (.loop b) Q l w = LoopA C b Q l w := by simp only [sx]
theorem Z07 (i : Nat) : sx C (.exit i) Q l w = Q (.exit i) l w := by simp only [sx]
theorem Z08 : sx C .ret Q l w = Q .ret l w := by simp only [sx]
theorem Z09 (f : Operand) (ps : Array Tmp) (a b : Code) : sx C (.rangeFunc f ps a b) Q l w = RawA C (.rangeFunc f ps a b) Q l w := by simp only [sx]
theorem Z0a (X : Env → World → Prop) : thenQ X Q .normal l w = X l w := (rfl)
theorem Z0b (X : Env → World → Prop) (i : Nat) : thenQ X Q (.exit i) l w = Q (.exit i) l w := (rfl)
theorem Z0c (X : Env → World → Prop) : thenQ X Q .ret l w = Q .ret l w := (rfl)
theorem Z0d (id : Nat) : blockQ id Q .normal l w = Q .normal l w := (rfl)
theorem Z0e (id : Nat) : blockQ id Q .ret l w = Q .ret l w := (rfl)
theorem Z0f (id i : Nat) : blockQ id Q (.exit i) l w = if i = id then Q .normal l w else Q (.exit i) l w := (rfl)
end

theorem sx_ok {C : Ctx} : ∀ (c : Code) (Q : Post) (l : Env) (w : World) (m : Bool) (rd : Option Nat) (D : List Deferred), m = true ∨ noRange c = true → RdOk rd w → sx C c Q l w → c.wpIn (Wd rd) 0 C.P (toQ m D w Q) (act D l) w := by
  intro c
  induction c with
  | skip => intro Q l w m rd D hm ho h; rw [Z00] at h; exact wpIn_skip (toQ_mk (KeepD.refl _) h)
  | region id os d =>
    intro Q l w m rd D hm ho h
    cases d with
    | true => rw [Z02] at h; exact h rd D id _ fun l w' hd hq => toQ_mk hd hq
    | false => rw [sx_region] at h; exact wpIn_region_list (seqOps_ok (w0 := w) (fun l w' hd hq => toQ_mk hd hq) _ _ _ (KeepD.refl _) h)
  | seq a b iha ihb =>
    intro Q l w m rd D hm ho h
    rw [Z03] at h
    have hma : m = true ∨ noRange a = true := hm.imp id fun h => by simp only [noRange, Bool.and_eq_true] at h; exact h.1
    have hmb : m = true ∨ noRange b = true := hm.imp id fun h => by simp only [noRange, Bool.and_eq_true] at h; exact h.2
    refine wpIn_seq (wpIn_mono (iha _ _ _ m rd D hma ho h) ?_)
    rintro e a' w' ⟨l', M, rfl, h1, h2, h3, hq⟩
    cases e with
    | normal =>
      refine wpIn_mono (ihb _ _ _ m rd (M.map mark ++ D) hmb (ho.keep h3) hq) ?_
      intro e a2 w2 hq2
      exact toQ_trans h1 h2 h3 hq2
    | _ => exact ⟨l', M, rfl, h1, h2, h3, hq⟩
  | cond c x y ihx ihy =>
    intro Q l w m rd D hm ho h
    have hmx : m = true ∨ noRange x = true := hm.imp id fun h => by simp only [noRange, Bool.and_eq_true] at h; exact h.1
    have hmy : m = true ∨ noRange y = true := hm.imp id fun h => by simp only [noRange, Bool.and_eq_true] at h; exact h.2
    rw [Z04] at h
    unfold condA at h
    split at h
    · rename_i t
      split at h
      · rename_i b hb
        have hp : put l t (.bool b) = l := by rw [← hb]; exact put_get l t
        cases b
        · rw [Z0p, hp] at h
          exact wpIn_cond_false (by rw [act_eval]; exact hb) (ihy _ _ _ m rd D hmy ho h)
        · rw [Z0o, hp] at h
          exact wpIn_cond_true (by rw [act_eval]; exact hb) (ihx _ _ _ m rd D hmx ho h)
      · exact h.elim
    · split at h
      · rename_i b
        cases b
        · rw [Z0p] at h; exact wpIn_cond_false rfl (ihy _ _ _ m rd D hmy ho h)
        · rw [Z0o] at h; exact wpIn_cond_true rfl (ihx _ _ _ m rd D hmx ho h)
      · exact h.elim
    · exact h.elim
  | block id b ih =>
    intro Q l w m rd D hm ho h
    rw [Z05] at h
    refine wpIn_block (wpIn_mono (ih _ _ _ m rd D hm ho h) ?_)
    rintro e a' w' ⟨l', M, rfl, h1, h2, h3, hq⟩
    cases e with
    | exit i =>
      simp only [Exit.inBlock]
      have hq : (if i = id then Q .normal l' w' else Q (.exit i) l' w') := hq
      split <;> rename_i hi
      · rw [if_pos hi] at hq; exact ⟨l', M, rfl, h1, h2, h3, hq⟩
      · rw [if_neg hi] at hq; exact ⟨l', M, rfl, h1, h2, h3, hq⟩
    | _ => exact ⟨l', M, rfl, h1, h2, h3, hq⟩
  | loop b ih => intro Q l w m rd D hm ho h; rw [Z06] at h; exact h m rd D hm ho
  | exit i => intro Q l w m rd D hm ho h; rw [Z07] at h; exact wpIn_exit (toQ_mk (KeepD.refl _) h)
  | ret => intro Q l w m rd D hm ho h; rw [Z08] at h; exact wpIn_ret (toQ_mk (KeepD.refl _) h)
  | label n => intro Q l w m rd D hm ho h; simp only [sx] at h; exact wpIn_label (toQ_mk (KeepD.refl _) h)
  | rangeFunc f ps a b => intro Q l w m rd D hm ho h; simp only [sx] at h; exact h m rd D hm ho
  | scope b => intro Q l w m rd D hm ho h; simp only [sx] at h; exact h m rd D hm ho
  | goto n => intro Q l w m rd D hm ho h; simp only [sx] at h; exact h m rd D hm ho
  | refuse s => intro Q l w m rd D hm ho h; simp only [sx] at h; exact h m rd D hm ho

/-! ### loops -/
def hv : List Bool → Nat → Env → (Nat → Value) → Env
  | true :: m, i, _ :: r, u => u i :: hv m (i + 1) r u
  | false :: m, i, v :: r, u => v :: hv m (i + 1) r u
  | _, _, l, _ => l

def loopQ (ws : List Bool) (l : Env) (I : (Nat → Value) → World → Prop) (m : (Nat → Value) → World → Nat) (u : Nat → Value) (w : World) (Q : Post) : Post
  | .normal, l', w' => hv ws 0 l (get l') = l' ∧ I (get l') w' ∧ m (get l') w' < m u w
  | e, l', w' => Q e l' w'
section
variable (ws : List Bool) (l : Env) (I : (Nat → Value) → World → Prop) (m : (Nat → Value) → World → Nat) (u : Nat → Value) (w : World) (Q : Post) (l' : Env) (w' : World)
theorem Z0g : loopQ ws l I m u w Q .normal l' w' = (hv ws 0 l (get l') = l' ∧ I (get l') w' ∧ m (get l') w' < m u w) := (rfl)
theorem Z0h (i : Nat) : loopQ ws l I m u w Q (.exit i) l' w' = Q (.exit i) l' w' := (rfl)
theorem Z0i : loopQ ws l I m u w Q .ret l' w' = Q .ret l' w' := (rfl)
end

theorem loop_ok {C : Ctx} {b : Code} {Q : Post} {l : Env} {w : World} (ws : List Bool) (I : (Nat → Value) → World → Prop) (m : (Nat → Value) → World → Nat)
    (h0 : hv ws 0 l (get l) = l ∧ I (get l) w) (hr : ∀ u w, I u w → sx C b (loopQ ws l I m u w Q) (hv ws 0 l u) w) : LoopA C b Q l w := by
  intro mb rd D hmb ho
  refine wpIn_loop (fun a w' => ∃ l' M, a = act (M.map mark ++ D) l' ∧ (mb = false → M = []) ∧ MkOk w w' M ∧ KeepD w w' ∧ hv ws 0 l (get l') = l' ∧ I (get l') w') (fun a w => m (get a.tmps.toList) w) ⟨l, [], rfl, fun _ => rfl, MkOk.nil _ _, KeepD.refl _, h0.1, h0.2⟩ ?_
  rintro a w' ⟨l', M, rfl, g1, g2, g3, h1, h2⟩
  have h3 := hr (get l') w' h2
  rw [h1] at h3
  refine wpIn_mono (sx_ok _ _ _ _ mb rd (M.map mark ++ D) hmb (ho.keep g3) h3) ?_
  intro e a'' w'' hq
  have hq := toQ_trans g1 g2 g3 hq
  obtain ⟨l'', N, rfl, k1, k2, k3, hq⟩ := hq
  have ht : ∀ (D : List Deferred) (l : Env), (act D l).tmps.toList = l := fun D l => by simp [act]
  cases e with
  | normal => exact ⟨⟨l'', N, rfl, k1, k2, k3, hq.1, hq.2.1⟩, by rw [ht, ht]; exact hq.2.2⟩
  | _ => exact ⟨l'', N, rfl, k1, k2, k3, hq⟩

theorem LoopA.mono {C : Ctx} {b : Code} {Q Q' : Post} {l : Env} {w : World} (h : LoopA C b Q l w) (hq : ∀ e l w, Q e l w → Q' e l w) : LoopA C b Q' l w :=
  fun m rd D hm ho => wpIn_mono (h m rd D hm ho) fun e a w' hh => toQ_imp (fun l => hq e l w') hh

/-- a loop that is left by one exit: what follows is walked once -/
def cutQ (ws : List Bool) (l : Env) (ex : Nat) (R : (Nat → Value) → World → Prop) (Q : Post) : Post
  | .exit i, l', w' => if i = ex then hv ws 0 l (get l') = l' ∧ R (get l') w' else Q (.exit i) l' w'
  | e, l', w' => Q e l' w'
section
variable (ws : List Bool) (l : Env) (ex : Nat) (R : (Nat → Value) → World → Prop) (Q : Post) (l' : Env) (w' : World)
theorem Z0j : cutQ ws l ex R Q .normal l' w' = Q .normal l' w' := (rfl)
theorem Z0k (i : Nat) : cutQ ws l ex R Q (.exit i) l' w' = if i = ex then hv ws 0 l (get l') = l' ∧ R (get l') w' else Q (.exit i) l' w' := (rfl)
theorem Z0l : cutQ ws l ex R Q .ret l' w' = Q .ret l' w' := (rfl)
end
theorem loop_cut {C : Ctx} {b : Code} {Q : Post} {l : Env} {w : World} (ws : List Bool) (ex : Nat) (I : (Nat → Value) → World → Prop) (m : (Nat → Value) → World → Nat) (R : (Nat → Value) → World → Prop)
    (h0 : hv ws 0 l (get l) = l ∧ I (get l) w) (hr : ∀ u w, I u w → sx C b (loopQ ws l I m u w (cutQ ws l ex R Q)) (hv ws 0 l u) w) (hx : ∀ u w, R u w → Q (.exit ex) (hv ws 0 l u) w) : LoopA C b Q l w := by
  refine LoopA.mono (loop_ok ws I m h0 hr) ?_
  intro e l' w' hq
  cases e with
  | exit i =>
    have hq : (if i = ex then hv ws 0 l (get l') = l' ∧ R (get l') w' else Q (.exit i) l' w') := hq
    by_cases he : i = ex
    · rw [if_pos he] at hq
      obtain ⟨h1, h2⟩ := hq
      have := hx _ _ h2
      rw [h1] at this
      rw [he]; exact this
    · rw [if_neg he] at hq
      exact hq
  | _ => exact hq

/-! ### functions -/
def res1 (C : Ctx) : ResultVar → Env → World → (Value → Prop) → Prop
  | .tmp t, l, _, K => K (get l t)
  | .cell a t, l, w, K => Z3b C t (get l a) w K
def resL (C : Ctx) : List ResultVar → Env → World → (List Value → Prop) → Prop
  | [], _, _, K => K []
  | r :: rs, l, w, K => res1 C r l w fun v => resL C rs l w fun vs => K (v :: vs)
def resK (vs : List Value) (K : Value → Prop) : Prop :=
  match vs with
  | [v] => K v
  | vs => K (.tuple vs.toArray)
def retQ (C : Ctx) (rs : List ResultVar) (R : KV) : Post
  | .ret, l, w => resL C rs l w fun vs => resK vs fun v => R v w
  | .normal, l, w => resL C rs l w fun vs => resK vs fun v => R v w
  | _, _, _ => False
section
variable (C : Ctx) (rs : List ResultVar) (R : KV) (l : Env) (w : World)
theorem Z0m : retQ C rs R .ret l w = resL C rs l w fun vs => resK vs fun v => R v w := (rfl)
theorem Z0n : retQ C rs R .normal l w = resL C rs l w fun vs => resK vs fun v => R v w := (rfl)
end

def resSem (tmps : Array Value) : ResultVar → Sem Value
  | .tmp t => pure (tmps.getD t undef)
  | .cell a t => do loadVar t (← asAddr (tmps.getD a undef))

theorem res1_ok {C : Ctx} {r : ResultVar} {l : Env} {w : World} {K : Value → Prop} (h : res1 C r l w K) :
    ∃ v, (resSem l.toArray r).run C.P w = .ok v w ∧ K v := by
  have hg : ∀ t, l.toArray.getD t undef = get l t := fun t => by rw [get_eq]; simp
  cases r with
  | tmp t => exact ⟨get l t, by show (pure (l.toArray.getD t undef) : Sem Value).run C.P w = _; rw [hg]; rfl, h⟩
  | cell a t =>
    have h : Z3b C t (get l a) w K := h
    show ∃ v, (do loadVar t (← asAddr (l.toArray.getD a undef)) : Sem Value).run C.P w = .ok v w ∧ K v
    rw [hg]
    obtain ⟨v, h1, h2⟩ := load_ok (ρ := fun _ => get l a) (x := .tmp 0) (rt := 0) h
    refine ⟨v, ?_, h2⟩
    have h3 := h1 w (Below.refl _ _)
    unfold Z3b at h
    split at h
    · rename_i p hp
      rw [hp] at h3 ⊢
      have : (execOp (fun _ => Value.pointer (some p)) ⟨none, .load t (.tmp 0), 0, "", #[], none⟩) = (do pure (.value (← loadVar t p)) : Sem Next) := rfl
      rw [this, Sem.run_bind] at h3
      simp only [asAddr, Sem.run_bind, Sem.run_pure, Result.andThen_ok]
      cases hr : (loadVar t p).run C.P w with
      | ok u w' => rw [hr] at h3; simp at h3; rw [h3.1, h3.2]
      | halt a b => rw [hr] at h3; simp at h3
    · exact h.elim

theorem resL_ok {C : Ctx} {l : Env} {w : World} : ∀ (rs : List ResultVar) (K : List Value → Prop), resL C rs l w K →
    ∃ vs, (rs.mapM (resSem l.toArray)).run C.P w = .ok vs w ∧ K vs := by
  intro rs
  induction rs with
  | nil => intro K h; exact ⟨[], rfl, h⟩
  | cons r rs ih =>
    intro K h
    obtain ⟨v, h1, h2⟩ := res1_ok h
    obtain ⟨vs, h3, h4⟩ := ih _ h2
    exact ⟨v :: vs, by rw [List.mapM_cons, Sem.run_bind, h1, Result.andThen_ok, Sem.run_bind, h3, Result.andThen_ok]; rfl, h4⟩

theorem results_ok {C : Ctx} {fn : Func} {l : Env} {w : World} {R : KV} (h : resL C fn.results.toList l w fun vs => resK vs fun v => R v w) : ∃ v, (results fn l.toArray).run C.P w = .ok v w ∧ R v w := by
  obtain ⟨vs, h1, h2⟩ := resL_ok _ _ h
  have hm : (results fn l.toArray).run C.P w = .ok (if h : vs.toArray.size = 1 then vs.toArray[0] else .tuple vs.toArray) w := by
    have he : results fn l.toArray = (do let vs ← fn.results.mapM (resSem l.toArray); pure (if h : vs.size = 1 then vs[0] else .tuple vs) : Sem Value) := by
      unfold results
      congr 1
    show (results fn l.toArray).run C.P w = _
    rw [he, Sem.run_bind, ← Array.toArray_toList (xs := fn.results), List.mapM_toArray, Sem.run_map, h1]
    rfl
  unfold resK at h2
  split at h2
  · rename_i v
    exact ⟨v, hm, h2⟩
  · rename_i hne
    refine ⟨_, hm, ?_⟩
    rw [dif_neg]
    · exact h2
    · intro hs
      cases vs with
      | nil => simp at hs
      | cons v r => cases r with
        | nil => exact hne v rfl
        | cons u r => simp at hs

def undefs : Nat → List Value
  | 0 => []
  | n + 1 => undef :: undefs n
theorem undefs_eq (n : Nat) : undefs n = List.replicate n undef := by
  induction n with
  | zero => rfl
  | succ n ih => rw [undefs, ih, List.replicate_succ]

/-- a function is walked -/
theorem fn_ok {C : Ctx} {f : FuncId} {fn : Func} {c : Code} {args : List Value} {w : World} {R : KV} (k : Nat) (rs : List ResultVar) (hf : C.P.funcs[f]? = some fn) (hb : fn.body = some c) (hn : (fn.name == "runtime.NumGoroutine") = false) (hk : fn.ntmps = args.length + k) (hrs : fn.results.toList = rs)
    (h : sx C c (retQ C rs R) (args ++ undefs k) w) (hnr : noRange c = true := by kernel_rfl) : CallG C.P f args.toArray w R := by
  subst hrs
  refine .inl ⟨⟨fn, hf, hn, by rw [hb]; rfl⟩, ?_⟩
  refine callsIn_wide.1 (callsIn_of_wp (F := Fence.wide) (n := 0) hf hb trivial ?_)
  have he : ({ tmps := args.toArray ++ Array.replicate (fn.ntmps - args.toArray.size) undef, defers := [] } : Act) = act [] (args ++ undefs k) := by
    unfold act
    congr 1
    rw [hk, undefs_eq]
    simp
  rw [he]
  refine wpIn_mono (sx_ok (C := C) _ _ _ _ false none [] (.inr hnr) (RdOk.no _) h) ?_
  rintro e a' w' ⟨l', M, rfl, h1, _, h3, hq⟩
  obtain rfl := h1 rfl
  cases e with
  | normal => obtain ⟨v, h1, h2⟩ := results_ok (fn := fn) hq; exact ⟨rfl, v, h1, h3, h2⟩
  | ret => obtain ⟨v, h1, h2⟩ := results_ok (fn := fn) hq; exact ⟨rfl, v, h1, h3, h2⟩
  | _ => exact hq.elim

theorem CallG.mono {P : Program} {f : FuncId} {args : Array Value} {w : World} {K K' : KV} (hc : CallG P f args w K) (h : ∀ v w, K v w → K' v w) : CallG P f args w K' :=
  hc.imp (fun hc => ⟨hc.1, hc.2.mono fun v w hv => ⟨hv.1, h v w hv.2⟩⟩) fun ⟨v, w', h1, h2, h3⟩ => ⟨v, w', h1, h2, h v w' h3⟩
end Go.Proofs.YtdpfafgecchafaaDoor.Sx

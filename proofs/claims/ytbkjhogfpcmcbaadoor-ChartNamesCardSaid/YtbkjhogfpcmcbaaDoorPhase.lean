/-
  A region that draws its order: those of its operations that only read ('heads': the mask says which) are walked first, in the order of the text, in whatever world that meets S; then the others, in the one order that is left.
  Behind each of the others but the last one S is shown anew. Conditions: none (plain lemmas over any program).
-/
import Derived.WalkKit
import Derived.BigQuiet
import Derived.OrdersHeld
import Derived.Deep.QuietTactic
import Derived.Below
import Derived.StillTail
import Derived.Lib.Hide
namespace Go.Proofs.YtbkjhogfpcmcbaaDoor
open Go Go.RowKit
section
variable {P : Program} {ops : Array Oper} {Q : Exit → Act → World → Prop} {md : Region.Mode} {S : World → Prop} {late : Nat}

/-- each listed operation's forerunners are listed. -/
def Shutd (md : Region.Mode) (ops : Array Oper) (l : Array Bool) : Prop :=
  ∀ j oj, ops[j]? = some oj → l.getD j false = true → ∀ e ∈ oj.after, Region.binds md e = true → l.getD e.on false = true
theorem Shutd.set {i : Nat} {l : Array Bool} (h : Shutd md ops l) (hi : i ∈ Region.ready md ops l) : Shutd md ops (l.setIfInBounds i true) := by
  obtain ⟨_, oi, hoi, hall⟩ := mem_ready.1 hi
  intro j oj hj hl e he hb
  by_cases hij : i = j
  · subst hij
    obtain rfl : oj = oi := Option.some.inj (hj.symm.trans hoi)
    exact getD_set_true (hall e he hb)
  · rw [getD_set_ne false hij] at hl
    exact getD_set_true (h j oj hj hl e he hb)
theorem Shutd.start (n : Nat) : Shutd md ops (Array.replicate n false) := fun j _ _ hl => by
  rw [getD_replicate_false] at hl
  cases hl

/-- does operation t wait for i, or for one that does? -/
def leadsB (md : Region.Mode) (ops : Array Oper) (i : Nat) : Nat → Nat → Bool
  | 0, _ => false
  | n + 1, t => match ops[t]? with
    | some o => o.after.any fun e => Region.binds md e && (e.on == i || leadsB md ops i n e.on)
    | none => false
theorem leads_listed {i : Nat} {l : Array Bool} (hc : Shutd md ops l) : ∀ (n t : Nat) (ot : Oper), ops[t]? = some ot → (∀ e ∈ ot.after, Region.binds md e = true → l.getD e.on false = true) →
    leadsB md ops i n t = true → l.getD i false = true
  | 0, _, _, _, _, h => by cases h
  | n + 1, t, ot, ho, hall, h => by
    simp only [leadsB, ho] at h
    obtain ⟨e, he, hb⟩ := Array.any_eq_true'.1 h
    simp only [Bool.and_eq_true, Bool.or_eq_true, beq_iff_eq] at hb
    have hl := hall e he hb.1
    rcases hb.2 with hon | hon
    · rw [← hon]; exact hl
    · cases hx : ops[e.on]? with
      | none =>
        cases n with
        | zero => simp [leadsB] at hon
        | succ n => simp [leadsB, hx] at hon
      | some ox => exact leads_listed hc n e.on ox hx (hc e.on ox hx hl) hon
theorem leads_not_ready {i n t : Nat} {l : Array Bool} (hc : Shutd md ops l) (h : leadsB md ops i n t = true) (hi : l.getD i true = false) : t ∉ Region.ready md ops l := by
  intro hr
  obtain ⟨_, ot, hot, hall⟩ := mem_ready.1 hr
  have := leads_listed hc n t ot hot hall h
  rw [getD_both hi] at this
  cases this

/-- whatever order is picked from here on; behind each operation that is carried out, but for the late one, S holds. -/
def wpAnyP (P : Program) (md : Region.Mode) (ops : Array Oper) (Q : Exit → Act → World → Prop) (S : World → Prop) (late : Nat) : Nat → Array Bool → Act → World → Prop
  | 0, l, a, w => Region.ready md ops l = [] ∧ Q .normal a w
  | n + 1, l, a, w => (Region.ready md ops l = [] → Q .normal a w) ∧
    ∀ i ∈ Region.ready md ops l, wpOp P ops Q i (fun a' w' => (i ≠ late → S w') ∧ wpAnyP P md ops Q S late n (l.setIfInBounds i true) a' w') a w
theorem wpAny_of_P : ∀ (n : Nat) (l : Array Bool) (a : Act) (w : World), wpAnyP P md ops Q S late n l a w → wpAny P md ops Q n l a w
  | 0, _, _, _, h => h
  | n + 1, _, _, _, h => ⟨h.1, fun i hi => wpOp_mono (fun a' w' h' => wpAny_of_P n _ a' w' h'.2) (h.2 i hi)⟩

theorem wpAnyP_first {i : Nat} {oi : Oper} {v : Value} {m : Nat} (hi : ops[i]? = some oi) (hsel : ∀ (j : Nat) (o : Oper) cs b, ops[j]? = some o → o.op ≠ .select cs b)
    (hQ : ∀ c a w, Q (.panic c) (a.put oi.dst v) w → Q (.panic c) a w) (hlead : leadsB md ops i m late = true) (hil : i ≠ late) :
    ∀ (n : Nat) (l : Array Bool) (a : Act) (w : World), Shutd md ops l →
      (∀ j oj, ops[j]? = some oj → j ≠ i → l.getD j true = false → (∀ e ∈ oj.after, Region.binds md e = true → e.on ≠ i) → oi.apart ops oj = true) →
      i ∈ Region.ready md ops l → YieldsIf P ops S oi v a → S w →
      wpAnyP P md ops Q S late n (l.setIfInBounds i true) (a.put oi.dst v) w → wpAnyP P md ops Q S late (n + 1) l a w := by
  intro n
  induction n with
  | zero =>
    intro l a w _ _ hr hy hS H
    refine ⟨fun h => (by rw [h] at hr; cases hr), fun j hj => ?_⟩
    by_cases hji : j = i
    · subst hji; exact hy.wpOp hi hS ⟨fun _ => hS, H⟩
    · have := ready_mono hj hji
      rw [H.1] at this
      cases this
  | succ n ih =>
    intro l a w hc hfree hr hy hS H
    refine ⟨fun h => (by rw [h] at hr; cases hr), fun j hj => ?_⟩
    by_cases hji : j = i
    · subst hji; exact hy.wpOp hi hS ⟨fun _ => hS, H⟩
    · have h1 := H.2 j (ready_mono hj hji)
      obtain ⟨hjun, oj, hoj, hall⟩ := mem_ready.1 hj
      have hun := (mem_ready.1 hr).1
      have hnot : ∀ e ∈ oj.after, Region.binds md e = true → e.on ≠ i := fun e he hb heq => by
        have h2 := hall e he hb
        rw [heq, getD_both hun] at h2
        cases h2
      have hjl : j ≠ late := fun e => leads_not_ready hc hlead hun (e ▸ hj)
      have h2 := wpOp_putIf hoj (hfree j oj hoj hji hjun hnot) (fun cs b => hsel i oi cs b hi) (fun cs b => hsel j oj cs b hoj) hQ hy h1
      refine wpOp_mono (fun a' w' h3 => ⟨fun _ => h3.2.1 hjl, ih (l.setIfInBounds j true) a' w' (hc.set hj) ?_ (ready_mono hr (Ne.symm hji)) h3.1 (h3.2.1 hjl) ?_⟩) h2
      · intro k ok hk hki huk hno
        refine hfree k ok hk hki ?_ hno
        by_cases hjk : j = k
        · subst hjk; exact hjun
        · rw [getD_set_ne true hjk] at huk; exact huk
      · rw [Array.setIfInBounds_comm _ _ hji]
        exact h3.2.2

/-- the operations that the mask takes, and those that it leaves. -/
def taken : List Bool → List Oper → List Oper
  | true :: m, o :: l => o :: taken m l
  | false :: m, _ :: l => taken m l
  | _, _ => []
def leftOut : List Bool → List Oper → List Oper
  | true :: m, _ :: l => leftOut m l
  | false :: m, o :: l => o :: leftOut m l
  | _, _ => []
def places : List Bool → Nat → List Nat
  | true :: m, k => k :: places m (k + 1)
  | false :: m, k => places m (k + 1)
  | [], _ => []
def others : List Bool → Nat → List Nat
  | true :: m, k => others m (k + 1)
  | false :: m, k => k :: others m (k + 1)
  | [], _ => []
theorem taken_places (m : List Bool) : ∀ (l : List Oper) (k : Nat), m.length = l.length → (∀ j, l[j]? = ops[k + j]?) → (places m k).map (fun i => ops[i]?) = (taken m l).map some := by
  induction m with
  | nil => intro l k h _; cases l <;> simp_all [taken, places]
  | cons b m ih =>
    intro l k h hg
    match l, h with
    | o :: l, h =>
      have h0 := hg 0
      have hs : ∀ j, l[j]? = ops[k + 1 + j]? := fun j => by have := hg (j + 1); rw [show k + 1 + j = k + (j + 1) by omega, ← this]; rfl
      have := ih l (k + 1) (by simpa using h) hs
      cases b
      · exact this
      · simp only [places, taken, List.map_cons, this]
        simp only [Nat.add_zero, List.getElem?_cons_zero] at h0
        rw [← h0]
theorem leftOut_others (m : List Bool) : ∀ (l : List Oper) (k : Nat), m.length = l.length → (∀ j, l[j]? = ops[k + j]?) → (others m k).map (fun i => ops[i]?) = (leftOut m l).map some := by
  induction m with
  | nil => intro l k h _; cases l <;> simp_all [leftOut, others]
  | cons b m ih =>
    intro l k h hg
    match l, h with
    | o :: l, h =>
      have h0 := hg 0
      have hs : ∀ j, l[j]? = ops[k + 1 + j]? := fun j => by have := hg (j + 1); rw [show k + 1 + j = k + (j + 1) by omega, ← this]; rfl
      have := ih l (k + 1) (by simpa using h) hs
      cases b
      · simp only [others, leftOut, List.map_cons, this]
        simp only [Nat.add_zero, List.getElem?_cons_zero] at h0
        rw [← h0]
      · exact this

/-- an operation that is no call of a Go function. -/
def noCall (o : Oper) : Bool := match o.op with
  | .move _ | .assign _ | .pick .. | .load .. | .binOp .. | .unOp .. | .convert .. | .slice .. | .fieldAddr .. | .field .. | .indexAddr .. | .index .. | .lookup .. | .extract .. | .makeInterface .. | .build .. => true
  | .nilCheck _ => true
  | .call c => (match c.callee with | .builtin .len | .builtin .cap | .builtin .min | .builtin .max => true | _ => false)
  | _ => false
theorem andThen_noEnter {α : Type} {r : Result α} {w' : World} {g : FuncId} {args : Array Value} {k : α → World → Result Next} (h : r.andThen k = .ok (.enter g args) w') : ∃ x w1, r = .ok x w1 ∧ k x w1 = .ok (.enter g args) w' := by
  cases r with
  | ok x w1 => exact ⟨x, w1, rfl, h⟩
  | halt h' w1 => cases h
theorem noEnter_panic {w w' : World} {g : FuncId} {args : Array Value} (h : (runtimePanic .nilDeref : Sem Next).run P w = .ok (.enter g args) w') : False := by
  simp [runtimePanic, goPanic, program, Sem.run, Sem.run_bind, Result.andThen] at h
theorem noSkip_panic {w w' : World} (h : (runtimePanic .nilDeref : Sem Next).run P w = .ok .skip w') : False := by
  simp [runtimePanic, goPanic, program, Sem.run, Sem.run_bind, Result.andThen] at h
theorem andThen_noSkip {α : Type} {r : Result α} {w' : World} {k : α → World → Result Next} (h : r.andThen k = .ok .skip w') : ∃ x w1, r = .ok x w1 ∧ k x w1 = .ok .skip w' := by
  cases r with
  | ok x w1 => exact ⟨x, w1, rfl, h⟩
  | halt h' w1 => cases h
theorem noCall_enter {o : Oper} {a : Act} {w w' : World} {f : FuncId} {args : Array Value} (h : noCall o = true) : (execOp a.eval o).run P w ≠ .ok (.enter f args) w' := by
  intro hr
  obtain ⟨dst, op, type, pos, after, guard⟩ := o
  cases op <;> simp only [noCall] at h <;> (try cases h) <;> simp only [execOp] at hr
  all_goals (try (simp only [Sem.run_pure, Sem.run_bind] at hr))
  case move => cases hr
  case assign => cases hr
  case nilCheck x =>
    revert hr
    split
    · intro hr; exact noEnter_panic hr
    · intro hr; exact noEnter_panic hr
    · intro hr; exact noEnter_panic hr
    · split
      · intro hr; exact noEnter_panic hr
      · intro hr
        simp only [Sem.run_bind] at hr
        obtain ⟨x, w1, _, h2⟩ := andThen_noEnter hr
        obtain ⟨y, w2, _, h3⟩ := andThen_noEnter h2
        split at h3
        · simp [unsupported, Sem.run, Result.andThen] at h3
        · cases h3
      · intro hr; cases hr
    · intro hr; cases hr
  case call c =>
    obtain ⟨callee, cargs, ct⟩ := c
    cases callee with
    | builtin b =>
      cases b <;> simp only at h <;> (try cases h) <;> simp only [resolve, Sem.run_pure, Sem.run_bind, Result.andThen_ok, invoke, builtin] at hr
      all_goals
        obtain ⟨x, w1, _, h2⟩ := andThen_noEnter hr
        cases h2
    | invoke r m => cases h
    | value f => cases h
  all_goals
    obtain ⟨x, w1, _, h2⟩ := andThen_noEnter hr
    first
    | (cases h2; done)
    | (split at h2 <;> cases h2)
theorem noCall_skip {o : Oper} {a : Act} {w w' : World} (h : noCall o = true) : (execOp a.eval o).run P w ≠ .ok .skip w' := by
  intro hr
  obtain ⟨dst, op, type, pos, after, guard⟩ := o
  cases op <;> simp only [noCall] at h <;> (try cases h) <;> simp only [execOp] at hr
  all_goals (try (simp only [Sem.run_pure, Sem.run_bind] at hr))
  case move => cases hr
  case assign => cases hr
  case nilCheck x =>
    revert hr
    split
    · intro hr; exact noSkip_panic hr
    · intro hr; exact noSkip_panic hr
    · intro hr; exact noSkip_panic hr
    · split
      · intro hr; exact noSkip_panic hr
      · intro hr
        simp only [Sem.run_bind] at hr
        obtain ⟨x, w1, _, h2⟩ := andThen_noSkip hr
        obtain ⟨y, w2, _, h3⟩ := andThen_noSkip h2
        split at h3
        · simp [unsupported, Sem.run, Result.andThen] at h3
        · cases h3
      · intro hr; cases hr
    · intro hr; cases hr
  case call c =>
    obtain ⟨callee, cargs, ct⟩ := c
    cases callee with
    | builtin b =>
      cases b <;> simp only at h <;> (try cases h) <;> simp only [resolve, Sem.run_pure, Sem.run_bind, Result.andThen_ok, invoke, builtin] at hr
      all_goals
        obtain ⟨x, w1, _, h2⟩ := andThen_noSkip hr
        cases h2
    | invoke r m => cases h
    | value f => cases h
  all_goals
    obtain ⟨x, w1, _, h2⟩ := andThen_noSkip hr
    first
    | (cases h2; done)
    | (split at h2 <;> cases h2)

/-- what is asked behind one operation: S, and what follows. -/
def ThenS (S : World → Prop) (K : Act → World → Prop) (Q : Exit → Act → World → Prop) : Exit → Act → World → Prop
  | .normal, a, w => S w ∧ K a w
  | .exit i, a, w => Q (.exit i) a w
  | .goto l, a, w => Q (.goto l) a w
  | .ret, a, w => Q .ret a w
  | .panic c, a, w => Q (.panic c) a w
  | .outgrown, a, w => Q .outgrown a w
theorem ThenS.mk {K : Act → World → Prop} {a : Act} {w : World} (h : S w) (k : K a w) : ThenS S K Q .normal a w := ⟨h, k⟩
theorem wp_then {o : Oper} {a : Act} {w : World} {K K' : Act → World → Prop} (h : o.wp P a w K' (ThenS S K Q)) : o.wp P a w K' Q := by
  unfold Oper.wp at *
  generalize (execOp a.eval o).run P w = r at *
  cases r with
  | ok n w' =>
    cases n <;> simp only [Oper.upon] at h ⊢ <;> first
      | exact h
      | exact Calls.mono h (fun e w'' he => by cases e <;> exact he)
  | halt x w' => cases x <;> simp only [Oper.upon] at h ⊢ <;> exact h
theorem wpOp_of_then {i : Nat} {o : Oper} {a : Act} {w : World} {K : Act → World → Prop} (hi : ops[i]? = some o) (h : wpList P ops (ThenS S K Q) [o] a w) : wpOp P ops Q i (fun a' w' => S w' ∧ K a' w') a w := by
  unfold wpOp
  simp only [hi]
  unfold wpList at h
  split
  · rename_i hw
    rw [if_pos hw] at h
    rcases h with h | ⟨h1, a', w', h2⟩
    · exact .inl (Oper.wp_mono (fun _ _ h => h) (wp_then h))
    · exact .inr ⟨h1, a', w', h2⟩
  · rename_i hw
    rw [if_neg hw] at h
    exact h
theorem wpOp_of_list {i : Nat} {o : Oper} {a : Act} {w : World} (hi : ops[i]? = some o) (h : wpList P ops Q [o] a w) : wpOp P ops Q i (fun a' w' => Q .normal a' w') a w := by
  unfold wpOp
  simp only [hi]
  unfold wpList at h
  split
  · rename_i hw
    rw [if_pos hw] at h
    exact h
  · rename_i hw
    rw [if_neg hw] at h
    exact h

/-- the operations one behind the other; S behind each of them but the last one. -/
def wpTail (P : Program) (ops : Array Oper) (S : World → Prop) (Q : Exit → Act → World → Prop) : List Oper → Act → World → Prop
  | [], a, w => Q .normal a w
  | o :: r, a, w => if r.isEmpty then wpList P ops Q [o] a w else wpList P ops (ThenS S (wpTail P ops S Q r) Q) [o] a w
theorem wpTail_more {o o' : Oper} {r : List Oper} {a : Act} {w : World} (h : wpList P ops (ThenS S (wpTail P ops S Q (o' :: r)) Q) [o] a w) : wpTail P ops S Q (o :: o' :: r) a w := by
  rw [wpTail]; exact h
theorem wpTail_last {o : Oper} {a : Act} {w : World} (h : wpList P ops Q [o] a w) : wpTail P ops S Q [o] a w := by
  rw [wpTail]; exact h

def tailsB (md : Region.Mode) (ops : Array Oper) (late : Nat) : List Nat → Array Bool → Bool
  | [], l => (Region.ready md ops l).isEmpty
  | t :: ts, l => decide (Region.ready md ops l = [t]) && ((t == late) == ts.isEmpty) && tailsB md ops late ts (l.setIfInBounds t true)
theorem tails_any : ∀ (ts : List Nat) (os : List Oper) (l : Array Bool) (a : Act) (w : World), ts.map (fun i => ops[i]?) = os.map some → tailsB md ops late ts l = true →
    wpTail P ops S Q os a w → wpAnyP P md ops Q S late ts.length l a w := by
  intro ts
  induction ts with
  | nil =>
    intro os l a w hm hB h
    have : os = [] := by cases os <;> simp_all
    subst this
    exact ⟨by simpa [tailsB] using hB, h⟩
  | cons t ts ih =>
    intro os l a w hm hB h
    cases os with
    | nil => simp at hm
    | cons o os =>
      simp only [List.map_cons, List.cons.injEq] at hm
      simp only [tailsB, Bool.and_eq_true, decide_eq_true_eq, beq_iff_eq] at hB
      obtain ⟨⟨hr, hl⟩, hB⟩ := hB
      refine ⟨fun h0 => (by rw [hr] at h0; cases h0), fun i hi => ?_⟩
      rw [hr] at hi
      obtain rfl : i = t := by simpa using hi
      cases os with
      | nil =>
        have hts : ts = [] := by have := hm.2; cases ts <;> simp_all
        subst hts
        simp only [List.isEmpty_nil, beq_iff_eq] at hl
        refine wpOp_mono (fun a' w' h' => ⟨fun hne => absurd hl hne, ?_⟩) (wpOp_of_list hm.1 (by rw [wpTail] at h; exact h))
        exact ih [] _ a' w' rfl hB h'
      | cons o' os =>
        refine wpOp_mono (fun a' w' h' => ⟨fun _ => h'.1, ?_⟩) (wpOp_of_then hm.1 (by rw [wpTail] at h; exact h))
        exact ih (o' :: os) _ a' w' hm.2 hB h'.2

def headsB (md : Region.Mode) (ops : Array Oper) (late : Nat) (ts : List Nat) : List Nat → Array Bool → Bool
  | [], l => tailsB md ops late ts l
  | i :: is, l => (Region.ready md ops l).contains i && Region.free md ops l i && (i != late) && leadsB md ops i ops.size late && ((ops[i]?).map noCall).getD false && headsB md ops late ts is (l.setIfInBounds i true)
theorem heads_any (hs : Region.noSelect ops = true) (hQ : ∀ c t v a w, Q (.panic c) (Act.put a (some t) v) w → Q (.panic c) a w) (ts : List Nat) (tos : List Oper) (w : World) (hS : S w) (ht : ts.map (fun i => ops[i]?) = tos.map some) :
    ∀ (is : List Nat) (os : List Oper) (l : Array Bool) (a : Act), Shutd md ops l → is.map (fun i => ops[i]?) = os.map some → headsB md ops late ts is l = true →
    wpQuiet P ops S (fun a' => wpTail P ops S Q tos a' w) os a → wpAnyP P md ops Q S late (ts.length + is.length) l a w := by
  intro is
  induction is with
  | nil =>
    intro os l a hc hm hB h
    have : os = [] := by cases os <;> simp_all
    subst this
    exact tails_any ts tos l a w ht hB h
  | cons i is ih =>
    intro os l a hc hm hB h
    cases os with
    | nil => simp at hm
    | cons o os =>
      simp only [List.map_cons, List.cons.injEq] at hm
      simp only [headsB, Bool.and_eq_true, bne_iff_ne] at hB
      obtain ⟨⟨⟨⟨⟨hr, hf⟩, hl⟩, hlead⟩, hn⟩, hB⟩ := hB
      rw [hm.1] at hn
      simp only [Option.map_some, Option.getD_some] at hn
      have hri : i ∈ Region.ready md ops l := by simpa using hr
      have hy : ∃ v, YieldsIf P ops S o v a ∧ wpQuiet P ops S (fun a' => wpTail P ops S Q tos a' w) os (a.put o.dst v) := by
        rw [wpQuiet] at h
        split at h
        · rename_i hw
          obtain ⟨v, h1, h2⟩ := h
          refine ⟨v, .inl ⟨hw, fun w' hw' => ?_⟩, h2⟩
          have h3 := h1 w' hw'
          unfold Oper.quietAt at h3
          generalize hrr : (execOp a.eval o).run P w' = r at h3
          cases r with
          | ok n w1 =>
            cases n <;> simp only [Oper.quietUpon] at h3
            case value u => obtain ⟨rfl, rfl⟩ := h3; rfl
            case skip => exact absurd hrr (noCall_skip hn)
            case enter f args => exact absurd hrr (noCall_enter hn)
          | halt x w1 => simp only [Oper.quietUpon] at h3
        · rename_i hw
          exact ⟨undef, .inr ⟨by simpa using hw, rfl⟩, h⟩
      obtain ⟨v, hy, hrest⟩ := hy
      rw [List.length_cons, ← Nat.add_assoc]
      exact wpAnyP_first hm.1 (fun j o cs b hj => Region.noSelect_spec hs j o cs b hj) (fun c a w h => by cases hd : o.dst with | none => (rw [hd] at h; exact h) | some t => (rw [hd] at h; exact hQ c t v a w h)) hlead hl _ l a w hc
        (fun j oj hj hne hun hno => Region.free_spec hm.1 hf j oj hj hne hun hno) hri hy hS (ih os _ _ (hc.set hri) hm.2 hB hrest)

/-- THE LAW: the heads first, in whatever world that meets S; then the others. -/
theorem wp_region_phase0 {id : Nat} {a : Act} {w : World} (S : World → Prop) (m : List Bool) (late : Nat) (opl hl tl : List Oper) (hm : P.follows .mixedOrders = true) (ho : ops = opl.toArray) (hlen : (m.length == opl.length) = true)
    (hB : (Region.noSelect ops && headsB .any ops late (others m 0) (places m 0) (Array.replicate ops.size false)) = true)
    (hh : hl = taken m opl) (ht : tl = leftOut m opl)
    (hQ : ∀ c t v a w, Q (.panic c) (Act.put a (some t) v) w → Q (.panic c) a w) (hS : S w.drew)
    (h : wpQuiet P ops S (fun a' => wpTail P ops S Q tl a' w.drew) hl a) : (Code.region id ops true).wp P Q a w := by
  subst hh ht
  have hlen' : m.length = opl.length := by simpa using hlen
  have hg : ∀ j, opl[j]? = ops[0 + j]? := fun j => by rw [ho, Nat.zero_add]; simp
  simp only [Bool.and_eq_true] at hB
  have h1 := heads_any hB.1 hQ (others m 0) (leftOut m opl) w.drew hS (leftOut_others m opl 0 hlen' hg) (places m 0) (taken m opl) _ a (Shutd.start _) (taken_places m opl 0 hlen' hg) hB.2 h
  have hsz : ops.size = (others m 0).length + (places m 0).length := by
    have h2 := congrArg List.length (leftOut_others (ops := ops) m opl 0 hlen' hg)
    have h3 := congrArg List.length (taken_places (ops := ops) m opl 0 hlen' hg)
    simp only [List.length_map] at h2 h3
    rw [h2, h3, ho]
    clear h1 hB h hg hS h2 h3 ho hlen
    induction m generalizing opl with
    | nil => cases opl <;> simp_all [taken, leftOut]
    | cons b m ih =>
      match opl, hlen' with
      | o :: l, hl =>
        have := ih l (by simpa using hl)
        simp only [List.size_toArray] at this
        cases b <;> simp [taken, leftOut] <;> omega
  refine wp_region_any hm ?_
  have h4 := wpAny_of_P _ _ _ _ h1
  rw [← hsz] at h4
  exact h4
/-- the same, S behind a letter. -/
theorem wp_region_phase {id : Nat} {a : Act} {w : World} (S0 : World → Prop) (m : List Bool) (late : Nat) (opl hl tl : List Oper) (hm : P.follows .mixedOrders = true) (ho : ops = opl.toArray) (hlen : (m.length == opl.length) = true)
    (hB : (Region.noSelect ops && headsB .any ops late (others m 0) (places m 0) (Array.replicate ops.size false)) = true)
    (hh : hl = taken m opl) (ht : tl = leftOut m opl)
    (hQ : ∀ c t v a w, Q (.panic c) (Act.put a (some t) v) w → Q (.panic c) a w) (hS : S0 w.drew)
    (h : ∀ S : World → Prop, Hid (∀ w', S w' ↔ S0 w') → wpQuiet P ops S (fun a' => wpTail P ops S Q tl a' w.drew) hl a) : (Code.region id ops true).wp P Q a w :=
  wp_region_phase0 S0 m late opl hl tl hm ho hlen hB hh ht hQ hS (h S0 (show ∀ w', S0 w' ↔ S0 w' from fun _ => Iff.rfl))
end
end Go.Proofs.YtbkjhogfpcmcbaaDoor

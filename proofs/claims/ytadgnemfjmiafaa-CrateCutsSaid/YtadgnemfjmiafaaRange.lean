/-
  A range over a function whose iterator keeps state of its own in cells (a captured variable, results behind pointers).
  Conditions: the body always goes on; what the loop's caller says abides the iterator's own stores.
-/
import Derived.RangeFuncNested
import Derived.RangeFuncBound
import Derived.RangeFuncCalls
import Derived.RangeFuncLeaves
import Derived.RangeFuncBox
import Derived.Deep.Draws
namespace Go.Proofs.Ytadgnemfjmiafaa
open Go Go.RowKit

/-- blocks that lay lie as they lay, but for those of X. -/
structure Old (X : Nat → Prop) (W W' : World) : Prop where
  os : W'.os = W.os
  tape : W'.tape = W.tape
  output : W'.output = W.output
  size : W.heap.size ≤ W'.heap.size
  same : ∀ k, k < W.heap.size → ¬ X k → W'.heap[k]? = W.heap[k]?
theorem Old.refl (X : Nat → Prop) (W : World) : Old X W W := ⟨rfl, rfl, rfl, Nat.le_refl _, fun _ _ _ => rfl⟩
theorem Old.trans {X : Nat → Prop} {A B C : World} (h : Old X A B) (k : Old X B C) : Old X A C :=
  ⟨k.os.trans h.os, k.tape.trans h.tape, k.output.trans h.output, Nat.le_trans h.size k.size, fun i hi hn => (k.same i (Nat.lt_of_lt_of_le hi h.size) hn).trans (h.same i hi hn)⟩
theorem Old.mono {X Y : Nat → Prop} {A B : World} (h : Old X A B) (hxy : ∀ k, k < A.heap.size → X k → Y k) : Old Y A B :=
  ⟨h.os, h.tape, h.output, h.size, fun i hi hn => h.same i hi fun hx => hn (hxy i hi hx)⟩
theorem Old.alloc (X : Nat → Prop) (W : World) (o : Obj) : Old X W (W.alloc o) := ⟨rfl, rfl, rfl, by simp, fun i hi _ => Below.heap_alloc W o i hi⟩
theorem Old.drewN (X : Nat → Prop) (W : World) (n : Nat) : Old X W (W.drewN n) := ⟨rfl, rfl, rfl, Nat.le_refl _, fun _ _ _ => rfl⟩
theorem Old.putObj {X : Nat → Prop} {W : World} {l : Nat} {o : Obj} (hl : X l) : Old X W (W.putObj l o) :=
  ⟨rfl, rfl, rfl, by simp, fun i _ hn => World.putObj_heap_other (fun e => hn (e ▸ hl))⟩
theorem Old.setCell {X : Nat → Prop} {W : World} {p : Addr} {v : Value} (hl : X p.block) : Old X W (W.setCell p v) :=
  ⟨rfl, rfl, rfl, (KeepsWalks.setCell W p v).size, fun i _ hn => Below.heap_setCell _ _ _ _ (fun e => hn (e ▸ hl))⟩
theorem Old.of_below {X : Nat → Prop} {W W' : World} (h : Below W.heap.size W W') : Old X W W' := ⟨h.os, h.tape, h.output, h.size, fun i hi _ => h.block i hi⟩
theorem Old.grown {X : Nat → Prop} {W W' : World} {row : Option Nat} (h : W.grownBy W' row) (hr : ∀ r, row = some r → X r) : Old X W W' :=
  ⟨h.os, h.tape, h.output, h.size, fun i hi hn => h.block i hi (fun e => hn (hr i e.symm))⟩
theorem Old.below {X : Nat → Prop} {w A B : World} {n : Nat} (hb : Below n w A) (h : Old X A B) (hn : n ≤ A.heap.size) (hx : ∀ k, X k → n ≤ k) : Below n w B :=
  ⟨h.os.trans hb.os, h.tape.trans hb.tape, h.output.trans hb.output, Nat.le_trans hb.size h.size, fun i hi => (h.same i (by omega) (fun e => by have := hx i e; omega)).trans (hb.block i hi)⟩

/-- what an iterator owes that writes the boxes X: the loop's own box is O. -/
def Hands {α : Type} (F : Fence) (n : Nat) (P : Program) (g : Nat) (lb : Array Value) (encs : α → Array Value) (X : Nat → Prop) (O : Nat) (Fact : List α → α → World → Prop) (N : Nat)
    (S : List α → World → Prop) (w : World) : Prop :=
  ∀ (l : Nat) (J : List α → World → Prop) (W : World), Below w.heap.size w W → w.heap.size + 2 ≤ W.heap.size → (∀ s A B, J s A → Old X A B → J s B) →
    (∀ pre x A, J pre A → pre.length < N → Fact pre x A → YieldAt F (n - 1) P l (encs x) A fun e B =>
      e = .returned (.bool true) ∧ J (pre ++ [x]) B ∧ Old (fun k => k = O ∨ w.heap.size ≤ k) A B) →
    J [] W →
    CallsIn F n P g (#[.func (.yield l) #[] #[]] ++ lb) W fun e B => (∃ v, e = .returned v) ∧ ∃ xs, S xs B ∧ J xs B

/-- how the body of a round is left. -/
def onPost {α : Type} (w : World) (O : Nat) (I : List α → World → Prop) (xs : List α) (W : World) : Exit → Act → World → Prop
  | .normal, _, W' => Old (fun k => k = O ∨ w.heap.size + 2 ≤ k) W W' ∧ I xs W'
  | .ret, _, _ => False
  | .exit _, _, _ => False
  | .goto _, _, _ => False
  | .panic _, _, _ => False
  | .outgrown, _, _ => False

theorem range_cells {α : Type} {F : Fence} {n : Nat} {P : Program} {g : Operand} {ps : Array Tmp} {assign body : Code} {Q : Exit → Act → World → Prop} {a : Act} {w : World}
    (hro : F.round = none) (h1 : 1 ≤ n) {gf : Nat} {lb : Array Value} (hg : a.eval g = .func (.func gf) #[] lb) (hFg : F.fn gf) (eg : ∀ args w, (callFunc gf args).run P w = .ok (.enter gf args) w)
    {encs : α → Array Value} {X : Nat → Prop} {O N : Nat} {Fact : List α → α → World → Prop} {S : List α → World → Prop}
    (hps : ∀ x, (encs x).size = ps.size) (hX : ∀ k, X k → k < w.heap.size) (hO : O < w.heap.size) (hseq : Hands F (n - 1) P gf lb encs X O Fact N S w)
    (hFact : ∀ pre x A B, Fact pre x A → Old (fun k => k = w.heap.size ∨ k = w.heap.size + 1) A B → Fact pre x B)
    (hS : ∀ xs A B, S xs A → Old (fun k => k = w.heap.size ∨ k = w.heap.size + 1) A B → S xs B)
    (I : List α → World → Prop) (hI : ∀ s A B, I s A → Old (fun k => X k ∨ k = w.heap.size ∨ k = w.heap.size + 1) A B → I s B) (h0 : I [] w) (a₁ : α → Act)
    (hassign : ∀ (l : Nat) (x : α) (W : World) (K : Act → World → Prop), K (a₁ x) W →
      assign.wpIn (F.inRound l) (n - 1 - 1) P (Exit.then K (fun _ _ _ => False)) { tmps := (ps.zip (encs x)).foldl (fun t (p, v) => t.setIfInBounds p v) a.tmps, defers := [] } W)
    (hbody : ∀ (l : Nat) (pre : List α) (x : α) (W : World), I pre W → Fact pre x W → pre.length < N → w.heap.size + 2 ≤ W.heap.size → body.wpIn (F.inRound l) (n - 1 - 1) P (onPost w O I (pre ++ [x]) W) (a₁ x) W)
    (hdone : ∀ (xs : List α) (W : World), S xs W → I xs W → W.heap[w.heap.size]? = some (.deferred (some [])) → Q .normal { a with defers := { target := .collected w.heap.size, args := #[] } :: a.defers } W) :
    (Code.rangeFunc g ps assign body).wpIn F n P Q a w := by
  refine wpIn_rangeFunc fun fn hfn => ?_
  rw [hro]
  obtain ⟨mk, hmk⟩ : ∃ mk : LoopState → Loop, mk = fun st => { state := st, pending := none, fn, tmps := a.tmps, params := ps, assign, body, defers := w.heap.size } := ⟨_, rfl⟩
  have hsz : ((w.alloc (.deferred (some []))).alloc (.loop (mk .ready))).heap.size = w.heap.size + 2 := by simp
  have old1 : ∀ Z, Old Z w ((w.alloc (.deferred (some []))).alloc (.loop (mk .ready))) := fun Z => (Old.alloc Z w _).trans (Old.alloc Z _ _)
  have rec1 : ((w.alloc (.deferred (some []))).alloc (.loop (mk .ready))).heap[w.heap.size + 1]? = some (.loop (mk .ready)) := by
    have := World.alloc_heap_new (w.alloc (.deferred (some []))) (.loop (mk .ready)); rwa [World.size_alloc] at this
  have def1 : ((w.alloc (.deferred (some []))).alloc (.loop (mk .ready))).heap[w.heap.size]? = some (.deferred (some [])) :=
    (Below.heap_alloc _ _ _ (by simp)).trans (World.alloc_heap_new w _)
  have bel1 : Below w.heap.size w ((w.alloc (.deferred (some []))).alloc (.loop (mk .ready))) := ((Below.refl _ w).alloc (Nat.le_refl _) _).alloc (by simp) _
  refine ⟨w.heap.size + 1, [{ target := .collected w.heap.size, args := #[] }], (w.alloc (.deferred (some []))).alloc (.loop (mk .ready)), { target := .fn (.func gf) lb, args := #[.func (.yield (w.heap.size + 1)) #[] #[]] },
    (w.alloc (.deferred (some []))).alloc (.loop (mk .ready)), gf, #[.func (.yield (w.heap.size + 1)) #[] #[]] ++ lb, (w.alloc (.deferred (some []))).alloc (.loop (mk .ready)), ?_, ?_, ?_, ?_, fun _ => h1, ?_⟩
  · rw [hmk]; exact run_enterLoop_outer _ _ _ _ _
  · simp only [resolve, hg]; simp [go_sem]
  · intro f' hf'; simp [Target.leads] at hf'; subst hf'; exact hFg
  · simp [invoke, go_sem, eg]
  generalize (w.alloc (.deferred (some []))).alloc (.loop (mk .ready)) = W1 at hsz old1 rec1 def1 bel1 ⊢
  refine (hseq (w.heap.size + 1) (fun pre W => I pre W ∧ W.heap[w.heap.size + 1]? = some (.loop (mk .ready)) ∧ W.heap[w.heap.size]? = some (.deferred (some [])) ∧ w.heap.size + 2 ≤ W.heap.size) W1 bel1 (Nat.le_of_eq hsz.symm)
    ?_ ?_ ⟨hI _ _ _ h0 (old1 _), rec1, def1, Nat.le_of_eq hsz.symm⟩).mono ?_
  · -- the iterator's own stores
    rintro s A B ⟨hi, hl, hd, hs⟩ hold
    refine ⟨hI _ _ _ hi (hold.mono fun _ _ h => .inl h), (hold.same _ (by omega) fun h => ?_).trans hl, (hold.same _ (by omega) fun h => ?_).trans hd, Nat.le_trans hs hold.size⟩
    · have := hX _ h; omega
    · have := hX _ h; omega
  · -- one round
    rintro pre x W ⟨hi, hl, hd, hs⟩ hlen hf
    have hy := run_yield (P := P) (args := encs x) hl (by rw [hmk]; exact hps x)
    rw [hmk] at hy
    refine ⟨fn, _, assign, body, hy, roundIn_of_wpIn hfn (hassign _ x W _ ⟨_, run_beginRound hl (by rw [hmk]), ?_⟩)⟩
    have hl2 : (W.putObj (w.heap.size + 1) (.loop { mk .ready with state := .busy })).heap[w.heap.size + 1]? = some (.loop { mk .ready with state := .busy }) := World.putObj_heap_same (by omega)
    have hd2 : (W.putObj (w.heap.size + 1) (.loop { mk .ready with state := .busy })).heap[w.heap.size]? = some (.deferred (some [])) := (World.putObj_heap_other (by omega)).trans hd
    have o2 : ∀ Z : Nat → Prop, Z (w.heap.size + 1) → Old Z W (W.putObj (w.heap.size + 1) (.loop { mk .ready with state := .busy })) := fun Z hZ => Old.putObj hZ
    have hs2 : w.heap.size + 2 ≤ (W.putObj (w.heap.size + 1) (.loop { mk .ready with state := .busy })).heap.size := by simpa using hs
    generalize W.putObj (w.heap.size + 1) (.loop { mk .ready with state := .busy }) = W2 at hl2 hd2 o2 hs2 ⊢
    refine wpIn_mono (hbody _ pre x W2 (hI _ _ _ hi (o2 _ (.inr (.inr rfl)))) (hFact _ _ _ _ hf (o2 _ (.inr rfl))) hlen hs2) ?_
    rintro e a3 W3 hp
    cases e with
    | normal =>
      obtain ⟨ho3, hi3⟩ := hp
      have hl3 := (ho3.same (w.heap.size + 1) (by omega) (by omega)).trans hl2
      have hd3 := (ho3.same w.heap.size (by omega) (by omega)).trans hd2
      have he := run_endRound (P := P) none hl3
      have hs3 := Nat.le_trans hs2 ho3.size
      refine ⟨_, _, he, rfl, ⟨hI _ _ _ hi3 (Old.putObj (.inr (.inr rfl))), ?_, (World.putObj_heap_other (by omega)).trans hd3, by simpa using hs3⟩, ?_⟩
      · rw [World.putObj_heap_same (by omega), hmk]; rfl
      · exact ((o2 _ (.inr (by omega))).trans (ho3.mono fun k _ h => h.imp id fun h => by omega)).trans (Old.putObj (.inr (by omega)))
    | ret => exact hp.elim
    | exit id => exact hp.elim
    | goto t => exact hp.elim
    | panic ch => exact hp.elim
    | outgrown => exact hp.elim
  · -- behind the iterator
    rintro e W2 ⟨⟨v, rfl⟩, xs, hS2, hi, hl, hd, hs⟩
    refine ⟨none, _, by have := run_endLoop (P := P) hl (by rw [hmk]; simp); rw [hmk] at this; exact this, ?_⟩
    exact hdone xs _ (hS _ _ _ hS2 (Old.putObj (.inr rfl))) (hI _ _ _ hi (Old.putObj (.inr (.inr rfl)))) ((World.putObj_heap_other (by omega)).trans hd)
end Go.Proofs.Ytadgnemfjmiafaa

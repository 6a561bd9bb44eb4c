/- A call on a disk. Conditions: the disk lies in the call's own memory, and is good. -/
import Derived.Test.YtpgoacemjpobjaaQf
namespace Go.Proofs.Ytpgoacemjpobjaa
open Go Go.RowKit
set_option linter.unusedVariables false
set_option linter.unusedSimpArgs false
variable {w w' : World} {base n : Nat} {V V' : Vs} {D : Dk}

/-! what stays true of a disk -/
theorem good_new (m : Int) : Good (newD m) := by
  have hf : Full (List.replicate (min (max m 0) 65536).toNat zsec) := fun s hs => by rw [(List.mem_replicate.1 hs).2]; rfl
  exact ⟨hf, hf, fun x hx => (by cases hx), rfl, by simp [newD]; omega, fun x hx => (by cases hx), ⟨Int.le_refl _, by simp [newD]⟩, rfl⟩
theorem good_dies (h : Good D) : Good (diesD D) := by
  have := h.arm
  unfold diesD
  split
  · exact h
  · exact ⟨h.fulln, h.fullf, h.fullw, h.same, h.many, h.lies, ⟨by simp only []; omega, by simp only []; omega⟩, h.is⟩
theorem good_put (h : Good D) (k : Nat) (s : Sec) (hk : k < D.now.length) (hs : s.length = 64) : Good (putD D k s) := by
  refine ⟨h.fulln.set k s hs, h.fullf, ?_, ?_, ?_, ?_, h.arm, ?_⟩
  · intro x hx
    rcases List.mem_append.1 hx with hx | hx
    · exact h.fullw x hx
    · simp at hx; subst hx; exact hs
  · simp [putD]; exact h.same
  · simp [putD]; exact h.many
  · intro x hx
    simp only [putD, List.length_set]
    rcases List.mem_append.1 hx with hx | hx
    · exact h.lies x hx
    · simp at hx; subst hx; exact hk
  · simp only [putD]; rw [laid_snoc, ← h.is]
theorem good_sync (h : Good D) : Good (syncD D) := by
  unfold syncD
  split
  · exact h
  · split
    · exact good_dies h
    · have hn : (diesD D).now = D.now := by unfold diesD; split <;> rfl
      have hg := good_dies h
      refine ⟨hg.fulln, laid_full h.fullf h.fullw, fun x hx => (by cases hx), ?_, hg.many, fun x hx => (by cases hx), hg.arm, ?_⟩
      · simp only [hn, laid_len]; exact h.same
      · simp only [hn]; exact h.is
theorem crashL_full (h : Good D) (keep tear : Int) : Full (crashL D keep tear) ∧ (crashL D keep tear).length = D.firm.length := by
  have hl := laid_len D.firm (D.wait.take (keepN D keep))
  have hf := laid_full (l := D.firm) (ws := D.wait.take (keepN D keep)) h.fullf (h.fullw.take _)
  unfold crashL
  split
  · rename_i x hx
    have hx64 := h.fullw x (List.mem_of_getElem? hx)
    have hxl := h.lies x (List.mem_of_getElem? hx)
    rw [← h.same, ← hl] at hxl
    refine ⟨hf.set _ _ (torn_len (hf _ (by rw [List.getD_eq_getElem?_getD, List.getElem?_eq_getElem hxl]; exact List.getElem_mem hxl)) hx64 _ (by unfold tearN; omega)), by rw [List.length_set]; exact hl⟩
  · exact ⟨hf, hl⟩
theorem good_crash (h : Good D) (keep tear : Int) : Good (crashD D keep tear) := by
  obtain ⟨h1, h2⟩ := crashL_full h keep tear
  exact ⟨h1, h1, fun x hx => (by cases hx), rfl, by simp only [crashD]; rw [h2, h.same]; exact h.many, fun x hx => (by cases hx), ⟨Int.le_refl _, by simp [crashD]⟩, rfl⟩
/-- a call's argument, and how many writes wait at most. -/
def Fits (o : Op4) : Prop := o.n ≤ 9223372036854775807
theorem good_step (o : Op4) (ho : Fits o) (h : Good D) : Good (stepA o D).1 := by
  unfold stepA
  split
  · exact ⟨h.fulln, h.fullf, h.fullw, h.same, h.many, h.lies, ⟨by simp only [armD]; omega, by have := ho; unfold Fits at this; simp only [armD]; omega⟩, h.is⟩
  · split
    · exact good_crash h _ _
    · split
      · exact h
      · split
        · exact h
        · split
          · exact good_sync h
          · split
            · exact h
            · split
              · exact h
              · rename_i h6 h7
                simp only [not_or, not_and, Int.not_lt, Int.not_le, Nat.not_lt] at h6
                have hl : o.n.toNat < D.now.length := by rw [← h.same]; omega
                refine good_dies (good_put h _ _ hl (pad_len ?_))
                by_cases h0 : o.kd = 0
                · exact h6.2.2 h0
                · rename_i h1 h2 h3 h4 h5; omega
theorem wait_dies : (diesD D).wait = D.wait := by unfold diesD; split <;> rfl
theorem wait_step (o : Op4) : (stepA o D).1.wait.length ≤ D.wait.length + 1 := by
  unfold stepA
  split
  · exact Nat.le_succ _
  · split
    · exact Nat.zero_le _
    · split
      · exact Nat.le_succ _
      · split
        · exact Nat.le_succ _
        · split
          · unfold syncD
            split
            · exact Nat.le_succ _
            · split
              · rw [wait_dies]; exact Nat.le_succ _
              · exact Nat.zero_le _
          · split
            · exact Nat.le_succ _
            · split
              · exact Nat.le_succ _
              · simp only [wait_dies, putD, List.length_append, List.length_cons, List.length_nil]; exact Nat.le_refl _
theorem last_now (h : Good D) (i : Nat) : lastAt D D.wait.length i = D.now.getD i [] := by unfold lastAt; rw [List.take_length, ← h.is]
theorem step_0 (o : Op4) (hk : o.kd = 0) (h : Good D) : stepA o D = (wrD D o.n o.b, [], wrE D o.n o.b.length) := by
  unfold stepA wrD wrE mayE
  rw [if_neg (by omega), if_neg (by omega), if_neg (by omega)]
  cases hd : D.dead
  · simp only [Bool.false_eq_true, if_false]
    rw [if_neg (by omega), h.same]
    by_cases h1 : o.n < 0 ∨ (D.now.length : Int) ≤ o.n
    · rw [if_pos (by rcases h1 with h | h; exact .inl h; exact .inr (.inl h)), if_pos h1]; simp
    · rw [if_neg h1]
      by_cases h2 : 64 < o.b.length
      · rw [if_pos (.inr (.inr ⟨hk, h2⟩))]; simp [h2]
      · rw [if_neg (by rintro (h | h | h); exact h1 (.inl h); exact h1 (.inr h); exact h2 h.2), if_neg (by omega)]; simp [h2]
  · simp
theorem step_1 (o : Op4) (hk : o.kd = 1) (h : Good D) : stepA o D = if mayE D o.n ≠ 0 then (D, [], mayE D o.n) else (D, D.now.getD o.n.toNat [], 0) := by
  unfold stepA mayE
  rw [if_neg (by omega), if_neg (by omega), if_neg (by omega)]
  cases hd : D.dead
  · simp only [Bool.false_eq_true, if_false]
    rw [if_neg (by omega), h.same]
    by_cases h1 : o.n < 0 ∨ (D.now.length : Int) ≤ o.n
    · rw [if_pos (by rcases h1 with h | h; exact .inl h; exact .inr (.inl h)), if_pos h1]; simp
    · rw [if_neg h1, if_neg (by rintro (h | h | h); exact h1 (.inl h); exact h1 (.inr h); omega), if_pos hk, last_now h]; simp
  · simp
theorem step_2 (o : Op4) (hk : o.kd = 2) : stepA o D = (syncD D, [], syncE D) := by
  unfold stepA
  rw [if_neg (by omega), if_neg (by omega), if_neg (by omega)]
  cases hd : D.dead
  · rw [if_neg (by decide), if_pos hk]
  · rw [if_pos rfl]; unfold syncD syncE; rw [hd]; rfl
theorem step_x (o : Op4) (hk : o.kd < 0 ∨ 4 < o.kd) : stepA o D = (D, [], 0) := by
  unfold stepA
  rw [if_neg (by omega), if_neg (by omega), if_pos hk]

/-- what a call on a disk leaves: the disk's blocks may have changed, its new ones were its own, or are new. -/
structure Moves (w w' : World) (S S' : Nat → Prop) : Prop where
  touch : Touch S w w'
  lies : ∀ k, S' k → S k ∨ w.heap.size ≤ k
theorem Moves.refl (w : World) (S : Nat → Prop) : Moves w w S S := ⟨Touch.refl _ _, fun _ h => .inl h⟩
theorem Moves.trans {w'' : World} {S S' S'' : Nat → Prop} (h : Moves w w' S S') (k : Moves w' w'' S' S'') : Moves w w'' S S'' := by
  refine ⟨⟨k.touch.os.trans h.touch.os, k.touch.tape.trans h.touch.tape, k.touch.output.trans h.touch.output, Nat.le_trans h.touch.size k.touch.size, fun i hi hn => ?_⟩, fun i hv => ?_⟩
  · refine (k.touch.block i (Nat.lt_of_lt_of_le hi h.touch.size) (fun ho => ?_)).trans (h.touch.block i hi hn)
    rcases h.lies i ho with h1 | h1
    · exact hn h1
    · omega
  · rcases k.lies i hv with h1 | h1
    · exact h.lies i h1
    · exact .inr (Nat.le_trans h.touch.size h1)
theorem Moves.below {B : Nat} {w0 : World} {S S' : Nat → Prop} (h : Moves w w' S S') (hb : Below B w0 w) (hB : B ≤ w0.heap.size) (hg : ∀ k, S k → B ≤ k) : Below B w0 w' :=
  Below.touch hb h.touch hB hg
theorem Goes.moves (h : Goes w w' n V V') : Moves w w' (Of n V) (Of n V') := ⟨h.touch, h.lies⟩
theorem Moves.of_below {S : Nat → Prop} (h : Below w.heap.size w w') : Moves w w' S S := ⟨Touch.of_below h, fun _ h => .inl h⟩
theorem RAt.moves {S S' : Nat → Prop} {af aw : Option Addr} {cf cw : Nat} (h : RAt w S af aw cf cw D) (g : Moves w w' S S') : RAt w' S' af aw cf cw D := by
  have h1 := h.mono (bad' := fun k => S k ∨ w.heap.size ≤ k) (fun k hk hh => hh.elim id (fun h => by omega))
  have h2 := h1.stays (w' := w') g.touch.size (fun k hk hb => g.touch.block k hk (fun hs => hb (.inl hs)))
  exact h2.mono (fun k _ hs => g.lies k hs)
def Dids (w : World) (base n : Nat) (V : Vs) (r : Dk × Sec × Int) (e : Ending) (w' : World) : Prop :=
  ∃ n' V', e = .returned (.tuple #[.pointer (some ⟨n', 0, none⟩), .agg #[st r.2.1, .int .i64 r.2.2]]) ∧ Dsk w' base n' V' r.1 ∧ Moves w w' (Of n V) (Of n' V')
theorem ret_t48 {fn : Func} {R : Ending → World → Prop} {act : Act} {w : World} {t u c : Nat} {p s e : Value} (h : fn.results = #[.tmp t, .cell u 48]) (hd : act.defers = []) (ht : act.tmps.getD t undef = p) (hu : act.tmps.getD u undef = .pointer (some ⟨c, 0, none⟩))
    (hc : Box w c 48 #[s, e]) (hR : R (.returned (.tuple #[p, .agg #[s, e]])) w) : bodyPost Try.prog fn R .ret act w := by
  have d0 : w.cell? ⟨c, 0, none⟩ = some s := hc.cell 0
  have d1 : w.cell? ⟨c, 1, none⟩ = some e := hc.cell 1
  refine bodyPost_ret (v := .tuple #[p, .agg #[s, e]]) ?_ hd hR
  rw [Array.getD_eq_getD_getElem?] at ht hu
  simp [results, h, ht, hu, go_sem, d0, d1]
/-- the end of does, behind a call on the disk. -/
theorem does_fin {w0 w1 : World} {n' : Nat} {V1 : Vs} {D1 : Dk} {s e s0 e0 : Value} {act : Act} {POST : Ending → World → Prop} (h : ∀ k, Of n V k → k < w.heap.size) (hB0 : Below w.heap.size w w0) (hs0 : w.heap.size + 1 < w0.heap.size) (hM : Moves w0 w1 (Of n V) (Of n' V1)) (hD : Dsk w1 base n' V1 D1)
    (hc : Box w1 (w.heap.size + 1) 48 #[s0, e0]) (hd : act.defers = []) (ht : act.tmps.getD 4 undef = .pointer (some ⟨n', 0, none⟩)) (hu : act.tmps.getD 5 undef = .pointer (some ⟨w.heap.size + 1, 0, none⟩))
    (hR : ∀ w', Dsk w' base n' V1 D1 → Moves w w' (Of n V) (Of n' V1) → POST (.returned (.tuple #[.pointer (some ⟨n', 0, none⟩), .agg #[s, e]])) w') :
    bodyPost Try.prog Try.f18 POST .ret act ((w1.setCell ⟨w.heap.size + 1, 0, none⟩ s).setCell ⟨w.heap.size + 1, 1, none⟩ e) := by
  have hne : ∀ k, Of n' V1 k → k ≠ w.heap.size + 1 := fun k hk e => by
    rcases hM.lies k hk with h1 | h1
    · have := h k h1; omega
    · omega
  refine ret_t48 Try.results18 hd ht hu ((hc.set 0 s).set 1 e) (hR _ ?_ ?_)
  · exact hD.stays fun k _ hk => (Below.heap_setCell _ _ _ _ (hne k hk)).trans (Below.heap_setCell _ _ _ _ (hne k hk))
  · have h1 : Moves w w1 (Of n V) (Of n' V1) := (Moves.of_below hB0).trans hM
    exact ⟨(h1.touch.setCell_new (p := ⟨w.heap.size + 1, 0, none⟩) (by show w.heap.size ≤ w.heap.size + 1; omega) s).setCell_new (p := ⟨w.heap.size + 1, 1, none⟩) (by show w.heap.size ≤ w.heap.size + 1; omega) e, h1.lies⟩
end Go.Proofs.Ytpgoacemjpobjaa

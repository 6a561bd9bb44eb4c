/-
  A region that draws its order, by steps: each step is either an operation that only reads (it may be taken first, in whatever world that meets S), or the only operation that is ready.
  After a call or a store (the latter kind) reads may come again. Conditions: none (plain lemmas over any program).
-/
import Derived.Test.YtbkjhogfpcmcbaaDoorPhase
namespace Go.Proofs.YtbkjhogfpcmcbaaDoor
open Go Go.RowKit
section
variable {P : Program} {ops : Array Oper} {Q : Exit → Act → World → Prop} {md : Region.Mode} {S : World → Prop} {late : Nat}

def wpSteps (P : Program) (ops : Array Oper) (S : World → Prop) (Q : Exit → Act → World → Prop) : List (Bool × Oper) → Act → World → Prop
  | [], a, w => Q .normal a w
  | (true, o) :: r, a, w => wpQuiet P ops S (fun a' => wpSteps P ops S Q r a' w) [o] a
  | (false, o) :: r, a, w => if r.isEmpty then wpList P ops Q [o] a w else wpList P ops (ThenS S (wpSteps P ops S Q r) Q) [o] a w
theorem wpSteps_head {o : Oper} {r : List (Bool × Oper)} {a : Act} {w : World} (h : wpQuiet P ops S (fun a' => wpSteps P ops S Q r a' w) [o] a) : wpSteps P ops S Q ((true, o) :: r) a w := by
  rw [wpSteps]; exact h
theorem wpSteps_more {o : Oper} {x : Bool × Oper} {r : List (Bool × Oper)} {a : Act} {w : World} (h : wpList P ops (ThenS S (wpSteps P ops S Q (x :: r)) Q) [o] a w) : wpSteps P ops S Q ((false, o) :: x :: r) a w := by
  rw [wpSteps]; exact h
theorem wpSteps_last {o : Oper} {a : Act} {w : World} (h : wpList P ops Q [o] a w) : wpSteps P ops S Q [(false, o)] a w := by
  rw [wpSteps]; exact h
def stepsB (md : Region.Mode) (ops : Array Oper) (late : Nat) : List (Bool × Nat) → Array Bool → Bool
  | [], l => (Region.ready md ops l).isEmpty
  | (true, i) :: r, l => (Region.ready md ops l).contains i && Region.free md ops l i && (i != late) && leadsB md ops i ops.size late && ((ops[i]?).map noCall).getD false && stepsB md ops late r (l.setIfInBounds i true)
  | (false, t) :: r, l => decide (Region.ready md ops l = [t]) && ((t == late) == r.isEmpty) && stepsB md ops late r (l.setIfInBounds t true)
theorem steps_any (hs : Region.noSelect ops = true) (hQ : ∀ c t v a w, Q (.panic c) (Act.put a (some t) v) w → Q (.panic c) a w) :
    ∀ (is : List (Bool × Nat)) (os : List (Bool × Oper)) (l : Array Bool) (a : Act) (w : World), Shutd md ops l → S w → is.map (fun x => (x.1, ops[x.2]?)) = os.map (fun x => (x.1, some x.2)) → stepsB md ops late is l = true →
    wpSteps P ops S Q os a w → wpAnyP P md ops Q S late is.length l a w := by
  intro is
  induction is with
  | nil =>
    intro os l a w hc hS hm hB h
    have : os = [] := by cases os <;> simp_all
    subst this
    exact ⟨by simpa [stepsB] using hB, h⟩
  | cons x is ih =>
    intro os l a w hc hS hm hB h
    cases os with
    | nil => simp at hm
    | cons y os =>
      obtain ⟨b, i⟩ := x
      obtain ⟨b', o⟩ := y
      simp only [List.map_cons, List.cons.injEq, Prod.mk.injEq] at hm
      obtain ⟨⟨hbb, hoo⟩, hmr⟩ := hm
      subst hbb
      cases b with
      | true =>
        simp only [stepsB, Bool.and_eq_true, bne_iff_ne] at hB
        obtain ⟨⟨⟨⟨⟨hr, hf⟩, hl⟩, hlead⟩, hn⟩, hB⟩ := hB
        rw [hoo] at hn
        simp only [Option.map_some, Option.getD_some] at hn
        have hri : i ∈ Region.ready md ops l := by simpa using hr
        have hy : ∃ v, YieldsIf P ops S o v a ∧ wpSteps P ops S Q os (a.put o.dst v) w := by
          rw [wpSteps] at h
          rw [wpQuiet] at h
          split at h
          · rename_i hw
            obtain ⟨v, h1, h2⟩ := h
            refine ⟨v, .inl ⟨hw, fun w' hw' => ?_⟩, h2⟩
            have h3 := h1 w' hw'
            unfold Oper.quietAt at h3
            generalize hrr : (execOp a.eval o).run P w' = r at h3
            cases r with
            | ok n w1 =>
              cases n <;> simp only [Oper.quietUpon] at h3
              case value u => obtain ⟨rfl, rfl⟩ := h3; rfl
              case skip => exact absurd hrr (noCall_skip hn)
              case enter f args => exact absurd hrr (noCall_enter hn)
            | halt x w1 => simp only [Oper.quietUpon] at h3
          · rename_i hw
            exact ⟨undef, .inr ⟨by simpa using hw, rfl⟩, h⟩
        obtain ⟨v, hy, hrest⟩ := hy
        rw [List.length_cons]
        exact wpAnyP_first hoo (fun j o cs b hj => Region.noSelect_spec hs j o cs b hj) (fun c a w h => by cases hd : o.dst with | none => (rw [hd] at h; exact h) | some t => (rw [hd] at h; exact hQ c t v a w h)) hlead hl _ l a w hc
          (fun j oj hj hne hun hno => Region.free_spec hoo hf j oj hj hne hun hno) hri hy hS (ih os _ _ w (hc.set hri) hS hmr hB hrest)
      | false =>
        simp only [stepsB, Bool.and_eq_true, decide_eq_true_eq, beq_iff_eq] at hB
        obtain ⟨⟨hr, hl⟩, hB⟩ := hB
        rw [List.length_cons]
        refine ⟨fun h0 => (by rw [hr] at h0; cases h0), fun j hj => ?_⟩
        have hjr := hj
        rw [hr] at hj
        obtain rfl : j = i := by simpa using hj
        cases os with
        | nil =>
          have hts : is = [] := by cases is <;> simp_all
          subst hts
          simp only [List.isEmpty_nil, beq_iff_eq] at hl
          refine wpOp_mono (fun a' w' h' => ⟨fun hne => absurd hl hne, ?_⟩) (wpOp_of_list hoo (by rw [wpSteps] at h; exact h))
          exact ⟨by simpa [stepsB] using hB, h'⟩
        | cons y os =>
          refine wpOp_mono (fun a' w' h' => ⟨fun _ => h'.1, ?_⟩) (wpOp_of_then hoo (by rw [wpSteps] at h; exact h))
          exact ih (y :: os) _ a' w' (hc.set hjr) h'.1 hmr hB h'.2
def pickS (opl : List Oper) : List (Bool × Nat) → List (Bool × Oper)
  | [] => []
  | (b, i) :: r => match opl[i]? with
    | some o => (b, o) :: pickS opl r
    | none => pickS opl r
theorem pickS_map {opl : List Oper} : ∀ (st : List (Bool × Nat)), (st.all fun x => decide (x.2 < opl.length)) = true → st.map (fun x => (x.1, opl[x.2]?)) = (pickS opl st).map (fun x => (x.1, some x.2)) := by
  intro st
  induction st with
  | nil => intro _; rfl
  | cons x st ih =>
    intro h
    obtain ⟨b, i⟩ := x
    simp only [List.all_cons, Bool.and_eq_true, decide_eq_true_eq] at h
    simp only [pickS, List.map_cons, List.getElem?_eq_getElem h.1]
    rw [ih h.2]
theorem wp_region_steps {id : Nat} {a : Act} {w : World} (S0 : World → Prop) (st : List (Bool × Nat)) (late : Nat) (opl : List Oper) (osl : List (Bool × Oper)) (hm : P.follows .mixedOrders = true) (ho : ops = opl.toArray)
    (hlen : (st.length == opl.length && st.all fun x => decide (x.2 < opl.length)) = true)
    (hB : (Region.noSelect ops && stepsB .any ops late st (Array.replicate ops.size false)) = true)
    (hos : osl = pickS opl st)
    (hQ : ∀ c t v a w, Q (.panic c) (Act.put a (some t) v) w → Q (.panic c) a w) (hS : S0 w.drew)
    (h : ∀ S : World → Prop, Hid (∀ w', S w' ↔ S0 w') → wpSteps P ops S Q osl a w.drew) : (Code.region id ops true).wp P Q a w := by
  subst hos
  simp only [Bool.and_eq_true, beq_iff_eq] at hlen hB
  subst ho
  have h1 := steps_any (md := .any) (late := late) (S := S0) hB.1 hQ st (pickS opl st) _ a w.drew (Shutd.start _) hS (by simpa using pickS_map st hlen.2) hB.2 (h S0 (show ∀ w', S0 w' ↔ S0 w' from fun _ => Iff.rfl))
  have hsz : st.length = opl.toArray.size := by rw [hlen.1]; simp
  refine wp_region_any hm ?_
  have h4 := wpAny_of_P _ _ _ _ h1
  rw [hsz] at h4
  exact h4
end
end Go.Proofs.YtbkjhogfpcmcbaaDoor

/- zname: paths as lists of names, plain mathematics over lists of bytes. Conditions: none (no program). -/
import Derived.Lib.SplitLaws
import Derived.Lib.Join
import Derived.Lib.Strings
namespace Go.Proofs.YtbkjhogfpcmcbaaDoor.Zn
set_option linter.unusedVariables false
set_option linter.unusedSimpArgs false

abbrev Nm := List UInt8
def letN (n : Nat) : Bool := decide ((97 ≤ n ∧ n ≤ 122) ∨ (65 ≤ n ∧ n ≤ 90) ∨ (48 ≤ n ∧ n ≤ 57) ∨ n = 46 ∨ n = 45 ∨ n = 95)
def lets (s : Nm) : Bool := s.all fun c => letN c.toNat
def nameB (s : Nm) : Bool := lets s && decide (1 ≤ s.length) && decide (s.length ≤ 60) && !(s == [46]) && !(s == [46, 46])
def splitS : Nm → List Nm
  | [] => [[]]
  | c :: t => if c = 47 then [] :: splitS t else match splitS t with
    | [] => [[c]]
    | x :: r => (c :: x) :: r
def namesO (p : Nm) : Option (List Nm) :=
  if p = [47] then some [] else
  match p with
  | [] => none
  | c :: t => if c = 47 ∧ (splitS t).length ≤ 8 ∧ (splitS t).all nameB = true then some (splitS t) else none
def flat (l : List Nm) : Nm := l.flatMap (fun x => 47 :: x)
def pathOf (l : List Nm) : Nm := if l = [] then [47] else flat l
def free (x : Nm) : Prop := ∀ c ∈ x, c ≠ 47

theorem flat_nil : flat [] = [] := rfl
theorem flat_cons (x : Nm) (r : List Nm) : flat (x :: r) = 47 :: (x ++ flat r) := rfl
theorem flat_app (l m : List Nm) : flat (l ++ m) = flat l ++ flat m := by simp [flat]
theorem letN_slash : letN 47 = false := by decide
theorem name_lets {x : Nm} (h : nameB x = true) : lets x = true := by
  unfold nameB at h; simp only [Bool.and_eq_true] at h; exact h.1.1.1.1
theorem lets_free {x : Nm} (h : lets x = true) : free x := by
  intro c hc e
  unfold lets at h
  have := List.all_eq_true.1 h c hc
  subst e
  exact absurd this (by decide)
theorem name_free {x : Nm} (h : nameB x = true) : free x := lets_free (name_lets h)
theorem name_len {x : Nm} (h : nameB x = true) : 1 ≤ x.length ∧ x.length ≤ 60 := by
  unfold nameB at h; simp only [Bool.and_eq_true, decide_eq_true_eq] at h; exact ⟨h.1.1.1.2, h.1.1.2⟩
theorem name_ne {x : Nm} (h : nameB x = true) : x ≠ [] := by
  rintro rfl; have := (name_len h).1; simp at this
theorem splitS_ne (s : Nm) : splitS s ≠ [] := by
  cases s with
  | nil => simp [splitS]
  | cons c t =>
    unfold splitS
    split
    · simp
    · split <;> simp
theorem splitS_free {x : Nm} (h : free x) : splitS x = [x] := by
  induction x with
  | nil => rfl
  | cons c t ih =>
    have hc : c ≠ 47 := h c (by simp)
    unfold splitS
    rw [if_neg hc, ih (fun d hd => h d (by simp [hd]))]
theorem splitS_app {x : Nm} (t : Nm) (h : free x) : splitS (x ++ 47 :: t) = x :: splitS t := by
  induction x with
  | nil => simp [splitS]
  | cons c r ih =>
    have hc : c ≠ 47 := h c (by simp)
    rw [List.cons_append, splitS, if_neg hc, ih (fun d hd => h d (by simp [hd]))]
theorem splitS_flat {x : Nm} {r : List Nm} (hx : free x) (hr : ∀ y ∈ r, free y) : splitS (x ++ flat r) = x :: r := by
  induction r generalizing x with
  | nil => rw [flat_nil, List.append_nil, splitS_free hx]
  | cons y r ih => rw [flat_cons, splitS_app _ hx, ih (hr y (by simp)) (fun z hz => hr z (by simp [hz]))]
theorem flat_splitS (s : Nm) : flat (splitS s) = 47 :: s := by
  induction s with
  | nil => rfl
  | cons c t ih =>
    unfold splitS
    split
    · rename_i hc; rw [flat_cons, ih, hc]; rfl
    · split
      · rename_i h; exact absurd h (splitS_ne t)
      · rename_i x r h
        rw [h, flat_cons] at ih
        rw [flat_cons, List.cons_append]
        have := (List.cons.inj ih).2
        rw [this]
theorem splitS_all_free (s : Nm) : ∀ y ∈ splitS s, free y := by
  induction s with
  | nil => intro y hy; simp [splitS] at hy; subst hy; intro c hc; cases hc
  | cons c t ih =>
    unfold splitS
    split
    · intro y hy
      rcases List.mem_cons.1 hy with rfl | hy
      · intro c hc; cases hc
      · exact ih y hy
    · rename_i hc
      split
      · intro y hy; simp at hy; subst hy; intro d hd; simp at hd; subst hd; exact hc
      · rename_i x r h
        intro y hy
        rw [h] at ih
        rcases List.mem_cons.1 hy with rfl | hy
        · intro d hd
          rcases List.mem_cons.1 hd with rfl | hd
          · exact hc
          · exact ih x (by simp) d hd
        · exact ih y (by simp [hy])
theorem splitS_len (s : Nm) : (splitS s).length ≤ s.length + 1 := by
  induction s with
  | nil => simp [splitS]
  | cons c t ih =>
    unfold splitS
    split
    · simp; omega
    · split
      · simp
      · rename_i x r h; rw [h] at ih; simp at ih ⊢; omega
theorem splitS_parts (s : Nm) : ∀ y ∈ splitS s, y.length ≤ s.length := by
  intro y hy
  have h := flat_splitS s
  have : y.length + 1 ≤ (flat (splitS s)).length := by
    obtain ⟨a, b, e⟩ := List.append_of_mem hy
    rw [e, flat_app, flat_cons]; simp; omega
  rw [h] at this; simpa using this
theorem path_nil : pathOf [] = [47] := rfl
theorem path_cons (x : Nm) (r : List Nm) : pathOf (x :: r) = 47 :: (x ++ flat r) := by unfold pathOf; rw [if_neg (by simp)]; rfl
theorem path_of_ne {l : List Nm} (h : l ≠ []) : pathOf l = flat l := by unfold pathOf; rw [if_neg h]

theorem names_iff (p : Nm) (l : List Nm) : namesO p = some l ↔ p = pathOf l ∧ l.length ≤ 8 ∧ l.all nameB = true := by
  unfold namesO
  by_cases h : p = [47]
  · rw [if_pos h]
    subst h
    constructor
    · intro e; cases e; exact ⟨rfl, by simp, rfl⟩
    · rintro ⟨h1, h2, h3⟩
      cases l with
      | nil => rfl
      | cons x r =>
        rw [path_cons] at h1
        have hx := name_ne (x := x) (by simp at h3; exact h3.1)
        have := (List.cons.inj h1).2
        cases x with
        | nil => exact absurd rfl hx
        | cons _ _ => simp at this
  · rw [if_neg h]
    constructor
    · intro e
      split at e
      · cases e
      · rename_i c t
        split at e
        · rename_i hc
          cases e
          refine ⟨?_, hc.2.1, hc.2.2⟩
          rw [path_of_ne (splitS_ne t), flat_splitS, hc.1]
        · cases e
    · rintro ⟨h1, h2, h3⟩
      cases l with
      | nil => exact absurd h1 h
      | cons x r =>
        have hn : ∀ y ∈ x :: r, nameB y = true := List.all_eq_true.1 h3
        have hs : splitS (x ++ flat r) = x :: r := splitS_flat (name_free (hn x (by simp))) (fun y hy => name_free (hn y (by simp [hy])))
        rw [path_cons] at h1
        subst h1
        simp only []
        rw [hs, if_pos ⟨by first | rfl | trivial, h2, h3⟩]
theorem names_none {p : Nm} {l : List Nm} (h : ¬ (l.length ≤ 8 ∧ l.all nameB = true)) (hf : ∀ x ∈ l, free x) (hl : l ≠ []) (h1 : l ≠ [[]]) (hp : p = flat l) : namesO p = none := by
  cases hq : namesO p with
  | none => rfl
  | some m =>
    exfalso
    obtain ⟨e, h2, h3⟩ := (names_iff p m).1 hq
    have hn : ∀ y ∈ m, nameB y = true := List.all_eq_true.1 h3
    cases l with
    | nil => exact hl rfl
    | cons x r =>
      have hs : splitS (x ++ flat r) = x :: r := splitS_flat (hf x (by simp)) (fun y hy => hf y (by simp [hy]))
      rw [hp, flat_cons] at e
      cases m with
      | nil =>
        rw [path_nil] at e
        have e2 := (List.cons.inj e).2
        rw [e2] at hs
        exact h1 (hs.symm.trans rfl)
      | cons y m =>
        rw [path_cons] at e
        have e2 := (List.cons.inj e).2
        rw [e2, splitS_flat (name_free (hn y (by simp))) (fun z hz => name_free (hn z (by simp [hz])))] at hs
        rw [hs] at h2 h3
        exact h ⟨h2, h3⟩
/-- of names: the parts. -/
theorem names_path {l : List Nm} (h2 : l.length ≤ 8) (h3 : l.all nameB = true) : namesO (pathOf l) = some l := (names_iff _ _).2 ⟨rfl, h2, h3⟩
theorem path_inj {l m : List Nm} (h2 : l.length ≤ 8) (h3 : l.all nameB = true) (k2 : m.length ≤ 8) (k3 : m.all nameB = true) (h : pathOf l = pathOf m) : l = m := by
  have a := names_path h2 h3
  rw [h, names_path k2 k3] at a
  exact (Option.some.inj a).symm
theorem flat_len (l : List Nm) (h : l.all nameB = true) : (flat l).length ≤ 61 * l.length := by
  induction l with
  | nil => simp [flat_nil]
  | cons x r ih =>
    simp only [List.all_cons, Bool.and_eq_true] at h
    have h1 := (name_len h.1).2
    have h2 := ih h.2
    rw [flat_cons]; simp only [List.length_cons, List.length_append]; omega
theorem path_len {p : Nm} {l : List Nm} (h : namesO p = some l) : p.length ≤ 489 := by
  obtain ⟨rfl, h2, h3⟩ := (names_iff p l).1 h
  have := flat_len l h3
  unfold pathOf; split
  · simp
  · omega

/-! the parts of a path -/
def depthZ (p : Nm) : Int := match namesO p with | some l => (l.length : Int) | none => -1
def lsOf (p : Nm) : List Nm := (namesO p).getD []
def baseZ (p : Nm) : Nm := (lsOf p).getLastD []
def parentZ (p : Nm) : Nm := if lsOf p = [] then [] else pathOf (lsOf p).dropLast
def isParent (p : Nm) : Bool := !(lsOf p).isEmpty
def validZ (p : Nm) : Bool := (namesO p).isSome
def joinOk (p s : Nm) : Bool := validZ p && nameB s && decide ((lsOf p).length < 8)
def joinZ (p s : Nm) : Nm := if joinOk p s then pathOf (lsOf p ++ [s]) else []
def underZ (p q : Nm) : Bool := validZ p && validZ q && (lsOf q).isPrefixOf (lsOf p)

theorem join_flat (l : List Nm) : (47 : UInt8) :: Go.Lib.join l [47] = pathOf l := by
  cases l with
  | nil => rfl
  | cons x r =>
    rw [Go.Lib.join_cons, path_cons]
    unfold Go.Lib.joinTail flat
    rw [List.flatMap_def]
    rfl
/-- a path, behind its slash, if it has names. -/
theorem trim_path {p : Nm} {l : List Nm} (h : namesO p = some l) : Go.Lib.trimSuffix p [47] = flat l := by
  obtain ⟨rfl, h2, h3⟩ := (names_iff p l).1 h
  cases l with
  | nil => rfl
  | cons x r =>
    rw [path_of_ne (by simp)]
    unfold Go.Lib.trimSuffix
    rw [if_neg]
    intro hs
    unfold Go.Lib.hasSuffix at hs
    have hs' : [47] <:+ flat (x :: r) := List.isSuffixOf_iff_suffix.1 hs
    obtain ⟨init, last, e⟩ : ∃ init last, x :: r = init ++ [last] := ⟨(x :: r).dropLast, (x :: r).getLast (by simp), (List.dropLast_concat_getLast (by simp)).symm⟩
    have hl : nameB last = true := List.all_eq_true.1 h3 last (by rw [e]; simp)
    rw [e, flat_app, flat_cons, flat_nil, List.append_nil] at hs'
    obtain ⟨li, c, ec⟩ : ∃ li c, last = li ++ [c] := ⟨last.dropLast, last.getLast (name_ne hl), (List.dropLast_concat_getLast (name_ne hl)).symm⟩
    obtain ⟨t, ht⟩ := hs'
    rw [ec] at ht
    have h5 : t ++ [47] = (flat init ++ 47 :: li) ++ [c] := by rw [ht]; simp
    have h6 := List.append_inj_right' h5 rfl
    have h7 : (47 : UInt8) = c := by simpa using h6
    exact name_free hl c (by rw [ec]; simp) h7.symm
theorem joinP {p s : Nm} {l : List Nm} (h : namesO p = some l) : Go.Lib.trimSuffix p [47] ++ [47] ++ s = flat (l ++ [s]) := by
  rw [trim_path h, flat_app]; simp [flat]
theorem index_free (s : Nm) : Go.Lib.indexByte s 47 = -1 ↔ free s := by
  induction s with
  | nil => simp [Go.Lib.indexByte, free]
  | cons c t ih =>
    unfold Go.Lib.indexByte
    by_cases hc : c = 47
    · subst hc; simp [free]
    · have : (c == 47) = false := by simpa using hc
      rw [this]
      have hge := Go.Lib.indexByte_ge t 47
      simp only [Bool.false_eq_true, if_false]
      by_cases h2 : Go.Lib.indexByte t 47 = -1
      · have h3 := ih.1 h2
        rw [h2]
        simp only [beq_self_eq_true, if_true, true_iff]
        intro d hd
        rcases List.mem_cons.1 hd with rfl | hd
        · exact hc
        · exact h3 d hd
      · have : (Go.Lib.indexByte t 47 == -1) = false := by simpa using h2
        rw [this]
        simp only [Bool.false_eq_true, if_false]
        constructor
        · intro h; omega
        · intro h; exact absurd (ih.2 (fun d hd => h d (by simp [hd]))) h2
/-- the program's join: a path is refused, or taken. -/
theorem join_valid {p s : Nm} {l : List Nm} (h : namesO p = some l) (hf : free s) : (validZ (flat (l ++ [s])) && !(flat (l ++ [s]) == [47])) = joinOk p s := by
  obtain ⟨rfl, h2, h3⟩ := (names_iff p l).1 h
  have hL : lsOf (pathOf l) = l := by unfold lsOf; rw [h]; rfl
  unfold joinOk
  rw [hL, show validZ (pathOf l) = true by unfold validZ; rw [h]; rfl]
  by_cases hs : nameB s = true ∧ l.length < 8
  · have ha : (l ++ [s]).all nameB = true := by simp [List.all_append, h3, hs.1]
    have hb : (l ++ [s]).length ≤ 8 := by simp; omega
    have hc := names_path hb ha
    rw [path_of_ne (by simp)] at hc
    have hd : validZ (flat (l ++ [s])) = true := by unfold validZ; rw [hc]; rfl
    have he : (flat (l ++ [s]) == [47]) = false := by
      rw [beq_eq_false_iff_ne]
      intro e
      rw [e] at hc
      have : namesO [47] = some [] := rfl
      rw [this] at hc
      have := Option.some.inj hc
      simp at this
    rw [hd, he, hs.1]; simp [hs.2]
  · have hR : (true && nameB s && decide (l.length < 8)) = false := by
      cases h5 : nameB s with
      | false => rfl
      | true => simp; have : ¬ l.length < 8 := fun h6 => hs ⟨h5, h6⟩; omega
    rw [hR]
    by_cases h1 : l ++ [s] = [[]]
    · rw [h1]; rfl
    · have hf' : ∀ x ∈ l ++ [s], free x := by
        intro x hx
        rcases List.mem_append.1 hx with hx | hx
        · exact name_free (List.all_eq_true.1 h3 x hx)
        · simp at hx; subst hx; exact hf
      have := names_none (p := flat (l ++ [s])) (l := l ++ [s]) (fun ⟨ha, hb⟩ => hs ⟨by simp [List.all_append] at hb; exact hb.2, by simp at ha; omega⟩) hf' (by simp) h1 rfl
      unfold validZ
      rw [this]; rfl
theorem join_slash {p s : Nm} (hf : ¬ free s) : joinOk p s = false := by
  unfold joinOk
  cases h : nameB s with
  | false => simp
  | true => exact absurd (name_free h) hf
theorem prefix_path {l m : List Nm} (h2 : l.length ≤ 8) (h3 : l.all nameB = true) (k2 : m.length ≤ 8) (k3 : m.all nameB = true) (hlen : m.length ≤ l.length) : (pathOf (l.take m.length) == pathOf m) = m.isPrefixOf l := by
  have ha : (l.take m.length).all nameB = true := List.all_eq_true.2 fun x hx => List.all_eq_true.1 h3 x (List.mem_of_mem_take hx)
  have hb : (l.take m.length).length ≤ 8 := by rw [List.length_take]; omega
  rw [Bool.eq_iff_iff, beq_iff_eq, List.isPrefixOf_iff_prefix]
  constructor
  · intro h; have := path_inj hb ha k2 k3 h; rw [List.prefix_iff_eq_take]; exact this.symm
  · intro h; rw [List.prefix_iff_eq_take] at h; rw [← h]
end Go.Proofs.YtbkjhogfpcmcbaaDoor.Zn

/- chart: a map as a text, plain: how it is read, how it is written. Conditions: none (no program). -/
import Derived.Test.YtbkjhogfpcmcbaaDoorLg
import Derived.Lib.IndexMore
namespace Go.Proofs.YtbkjhogfpcmcbaaDoor
open Go Go.RowKit Zn
open Go.Lib (decDigits)
set_option linter.unusedVariables false
set_option linter.unusedSimpArgs false
/-- a text around the first letter c. -/
def cut1 (c : UInt8) : Nm → Option (Nm × Nm)
  | [] => none
  | x :: t => if x = c then some ([], t) else (cut1 c t).map fun y => (x :: y.1, y.2)
theorem cut1_some {c : UInt8} {l a b : Nm} (h : cut1 c l = some (a, b)) : l = a ++ c :: b ∧ ∀ x ∈ a, x ≠ c := by
  induction l generalizing a with
  | nil => cases h
  | cons x t ih =>
    unfold cut1 at h
    by_cases hx : x = c
    · rw [if_pos hx] at h
      cases h
      exact ⟨by rw [hx]; rfl, fun y hy => by cases hy⟩
    · rw [if_neg hx] at h
      cases hc : cut1 c t with
      | none => rw [hc] at h; cases h
      | some y =>
        rw [hc] at h
        cases h
        obtain ⟨h1, h2⟩ := ih hc
        refine ⟨by rw [List.cons_append, ← h1], fun z hz => ?_⟩
        rcases List.mem_cons.1 hz with rfl | hz
        · exact hx
        · exact h2 z hz
theorem cut1_app {c : UInt8} {a : Nm} (b : Nm) (h : ∀ x ∈ a, x ≠ c) : cut1 c (a ++ c :: b) = some (a, b) := by
  induction a with
  | nil => rw [List.nil_append]; unfold cut1; rw [if_pos rfl]
  | cons x t ih =>
    rw [List.cons_append]
    unfold cut1
    rw [if_neg (h x (by simp)), ih (fun y hy => h y (by simp [hy]))]; rfl
theorem cut1_index (c : UInt8) (l : Nm) : Lib.index l [c] = match cut1 c l with | some y => (y.1.length : Int) | none => -1 := by
  induction l with
  | nil => rfl
  | cons x t ih =>
    unfold Lib.index cut1
    by_cases hx : x = c
    · subst hx
      simp
    · have hp : [c].isPrefixOf (x :: t) = false := by
        simp only [List.isPrefixOf, Bool.and_true]
        simpa using fun e => hx e.symm
      rw [hp, if_neg hx, ih]
      cases cut1 c t with
      | none => rfl
      | some y =>
        have : ((y.1.length : Int) == -1) = false := by rw [beq_eq_false_iff_ne]; omega
        simp [this]
theorem cut_none {c : UInt8} {l : Nm} (h : cut1 c l = none) : Lib.cut l [c] = (l, [], false) := by
  unfold Lib.cut
  rw [cut1_index, h, if_neg (by decide)]
theorem cut_some {c : UInt8} {l a b : Nm} (h : cut1 c l = some (a, b)) : Lib.cut l [c] = (a, b, true) := by
  obtain ⟨h1, _⟩ := cut1_some h
  unfold Lib.cut
  rw [cut1_index, h]
  simp only []
  rw [if_pos (by omega), Int.toNat_natCast, h1, List.take_left]
  congr 1
  rw [List.length_singleton, show a ++ c :: b = (a ++ [c]) ++ b by simp]
  rw [List.drop_left' (by simp)]
/-- a line: a volume and a path. -/
def lineO (l : Nm) : Option Mt := match cut1 32 l with
  | none => none
  | some y => if numB y.1 then some ⟨⟨y.2.toArray⟩, (val y.1 : Nat)⟩ else none
/-- the lines of a text; 'n': at least its length. -/
def decF : Nat → Nm → Option (List Mt)
  | _, [] => some []
  | 0, _ :: _ => none
  | n + 1, c :: t => match cut1 10 (c :: t) with
    | none => none
    | some y => match lineO y.1 with
      | none => none
      | some m => (decF n y.2).map (m :: ·)
theorem decF_line {n : Nat} {l x r : Nm} {m : Mt} (h : cut1 10 l = some (x, r)) (hl : lineO x = some m) : decF (n + 1) l = (decF n r).map (m :: ·) := by
  cases l with
  | nil => cases h
  | cons c t => simp only [decF, h, hl]
theorem decF_bad {n : Nat} {l x r : Nm} (h : cut1 10 l = some (x, r)) (hl : lineO x = none) : decF (n + 1) l = none := by
  cases l with
  | nil => cases h
  | cons c t => simp only [decF, h, hl]
theorem decF_tail {n : Nat} {l : Nm} (hne : l ≠ []) (h : cut1 10 l = none) : decF n l = none := by
  cases l with
  | nil => exact absurd rfl hne
  | cons c t =>
    cases n with
    | zero => rfl
    | succ n => simp only [decF, h]
theorem decF_nil (n : Nat) : decF n [] = some [] := by cases n <;> rfl
theorem line_none {l : Nm} (h : cut1 32 l = none) : lineO l = none := by unfold lineO; rw [h]
theorem line_no {l v p : Nm} (h : cut1 32 l = some (v, p)) (hn : numB v = false) : lineO l = none := by unfold lineO; rw [h]; simp only [hn]; rfl
theorem line_yes {l v p : Nm} (h : cut1 32 l = some (v, p)) (hn : numB v = true) : lineO l = some ⟨⟨p.toArray⟩, (val v : Nat)⟩ := by unfold lineO; rw [h]; simp only [hn]; rfl
/-- what is read off a text. -/
def decodeO (l : Nm) : Option (List Mt) := if l.length ≤ 1024 then (match decF l.length l with | some ms => if checkB ms then some ms else none | none => none) else none
/-- the document's reading: letter by letter; the volume so far, the path so far. -/
def scan : Nm → Option Nm → Nm → Option (List Mt)
  | _, _, [] => some []
  | v, none, c :: t => if c = 10 then none else if c = 32 then scan v (some []) t else scan (v ++ [c]) none t
  | v, some q, c :: t => if c = 10 then (scan [] none t).map (⟨⟨q.toArray⟩, numV v⟩ :: ·) else scan v (some (q ++ [c])) t
/-- what is written. -/
def encM (x : Mt) : Nm := decDigits x.v.toNat ++ 32 :: (x.p.data.toList ++ [10])
def encL (ms : List Mt) : Nm := ms.flatMap encM
theorem scan_path (v q x r : Nm) (h : ∀ c ∈ x, c ≠ 10) : scan v (some q) (x ++ 10 :: r) = (scan [] none r).map (⟨⟨(q ++ x).toArray⟩, numV v⟩ :: ·) := by
  induction x generalizing q with
  | nil => rw [List.nil_append, scan, if_pos rfl, List.append_nil]
  | cons c t ih => rw [List.cons_append, scan, if_neg (h c (by simp)), ih _ (fun d hd => h d (by simp [hd])), List.append_assoc]; rfl
theorem scan_line (v x r : Nm) (h : ∀ c ∈ x, c ≠ 10) : scan v none (x ++ 10 :: r) = match cut1 32 x with
    | none => none
    | some y => (scan [] none r).map (⟨⟨y.2.toArray⟩, numV (v ++ y.1)⟩ :: ·) := by
  induction x generalizing v with
  | nil => rw [List.nil_append, scan, if_pos rfl]; rfl
  | cons c t ih =>
    have hc := h c (by simp)
    have ht : ∀ d ∈ t, d ≠ 10 := fun d hd => h d (by simp [hd])
    rw [List.cons_append, scan, if_neg hc]
    unfold cut1
    by_cases h32 : c = 32
    · rw [if_pos h32, if_pos h32, scan_path _ _ _ _ ht]; simp only [List.append_nil, List.nil_append]
    · rw [if_neg h32, if_neg h32, ih _ ht]
      cases cut1 32 t with
      | none => rfl
      | some y => simp
theorem scan_tail {v : Nm} {q : Option Nm} {x : Nm} (h : ∀ c ∈ x, c ≠ 10) : scan v q x = some [] := by
  induction x generalizing v q with
  | nil => cases q <;> rfl
  | cons c t ih =>
    have hc := h c (by simp)
    have ht : ∀ d ∈ t, d ≠ 10 := fun d hd => h d (by simp [hd])
    cases q with
    | none => rw [scan, if_neg hc]; split <;> exact ih ht
    | some q => rw [scan, if_neg hc]; exact ih ht
theorem cut1_none_free {c : UInt8} {l : Nm} (h : cut1 c l = none) : ∀ x ∈ l, x ≠ c := by
  induction l with
  | nil => intro x hx; cases hx
  | cons y t ih =>
    unfold cut1 at h
    by_cases hy : y = c
    · rw [if_pos hy] at h; cases h
    · rw [if_neg hy] at h
      cases hc : cut1 c t with
      | some z => rw [hc] at h; cases h
      | none =>
        intro x hx
        rcases List.mem_cons.1 hx with rfl | hx
        · exact hy
        · exact ih hc x hx
theorem numB_dec {l : Nm} (h : numB l = true) : decDigits (val l) = l := by
  unfold numB at h
  simp only [Bool.and_eq_true, decide_eq_true_eq] at h
  exact h.1.2.symm
theorem dec_scan : ∀ (n : Nat) (l : Nm) (ms : List Mt), decF n l = some ms → scan [] none l = some ms ∧ encL ms = l := by
  intro n
  induction n with
  | zero =>
    intro l ms h
    cases l with
    | nil => cases h; exact ⟨rfl, rfl⟩
    | cons c t => cases h
  | succ n ih =>
    intro l ms h
    cases l with
    | nil => rw [decF_nil] at h; cases h; exact ⟨rfl, rfl⟩
    | cons c t =>
      cases hc : cut1 10 (c :: t) with
      | none => rw [decF_tail (by simp) hc] at h; cases h
      | some y =>
        obtain ⟨x, r⟩ := y
        cases hl : lineO x with
        | none => rw [decF_bad hc hl] at h; cases h
        | some m =>
          rw [decF_line hc hl] at h
          cases hr : decF n r with
          | none => rw [hr] at h; cases h
          | some ms' =>
            rw [hr] at h
            obtain rfl : m :: ms' = ms := Option.some.inj h
            obtain ⟨h1, h2⟩ := ih r ms' hr
            obtain ⟨e1, e2⟩ := cut1_some hc
            rw [e1]
            cases hs : cut1 32 x with
            | none => rw [line_none hs] at hl; cases hl
            | some z =>
              obtain ⟨v, p⟩ := z
              obtain ⟨e3, e4⟩ := cut1_some hs
              cases hv : numB v with
              | false => rw [line_no hs hv] at hl; cases hl
              | true =>
                rw [line_yes hs hv] at hl
                obtain rfl := Option.some.inj hl
                constructor
                · rw [scan_line _ _ _ e2, hs]
                  simp only [List.nil_append]
                  rw [h1]
                  have : numV v = ((val v : Nat) : Int) := by unfold numV; rw [hv]; rfl
                  rw [this]; rfl
                · show encM _ ++ encL ms' = _
                  rw [h2]
                  unfold encM
                  rw [Int.toNat_natCast, numB_dec hv, e3]
                  simp
theorem scan_dec : ∀ (n : Nat) (l : Nm) (ms : List Mt), l.length ≤ n → scan [] none l = some ms → (∀ x ∈ ms, 0 ≤ x.v) → encL ms = l → decF n l = some ms := by
  intro n
  induction n with
  | zero =>
    intro l ms hn h _ _
    obtain rfl : l = [] := List.length_eq_zero_iff.1 (by omega)
    exact h
  | succ n ih =>
    intro l ms hn h hv he
    by_cases hne : l = []
    · subst hne; rw [decF_nil]; exact h
    cases hc : cut1 10 l with
    | none =>
      rw [scan_tail (cut1_none_free hc)] at h
      cases h
      exact absurd he.symm hne
    | some y =>
      obtain ⟨x, r⟩ := y
      obtain ⟨e1, e2⟩ := cut1_some hc
      have hrl : r.length ≤ n := by rw [e1, List.length_append, List.length_cons] at hn; omega
      rw [e1, scan_line _ _ _ e2] at h
      cases hs : cut1 32 x with
      | none => rw [hs] at h; cases h
      | some z =>
        obtain ⟨v, p⟩ := z
        obtain ⟨e3, _⟩ := cut1_some hs
        rw [hs] at h
        simp only [List.nil_append] at h
        cases hr : scan [] none r with
        | none => rw [hr] at h; cases h
        | some ms' =>
          rw [hr] at h
          obtain rfl := (Option.some.inj h)
          have hn0 := hv _ (List.mem_cons_self ..)
          simp only at hn0
          cases hb : numB v with
          | false => unfold numV at hn0; rw [hb] at hn0; simp at hn0
          | true =>
            have hnv : numV v = ((val v : Nat) : Int) := by unfold numV; rw [hb]; rfl
            rw [decF_line hc (line_yes hs hb)]
            have he2 : encL ms' = r := by
              change encM _ ++ encL ms' = l at he
              rw [e1, e3] at he
              unfold encM at he
              rw [hnv, Int.toNat_natCast, numB_dec hb] at he
              simpa using he
            rw [ih r ms' hrl hr (fun x hx => hv x (List.mem_cons_of_mem _ hx)) he2, hnv]; rfl
theorem anyBad_mem {ms : List Mt} (h : anyBad ms = false) {x : Mt} (hx : x ∈ ms) : validZ x.p.data.toList = true ∧ 1 ≤ x.v ∧ x.v ≤ 999 := by
  unfold anyBad at h
  have := List.any_eq_false.1 h x hx
  unfold badB at this
  simp only [Bool.or_eq_true, Bool.not_eq_true', decide_eq_true_eq, not_or, Bool.not_eq_false] at this
  obtain ⟨⟨h1, h2⟩, h3⟩ := this
  exact ⟨h1, by omega, by omega⟩
theorem check_mem {ms : List Mt} (h : checkB ms = true) {x : Mt} (hx : x ∈ ms) : validZ x.p.data.toList = true ∧ 1 ≤ x.v ∧ x.v ≤ 999 := by
  unfold checkB at h
  simp only [Bool.and_eq_true, Bool.not_eq_true'] at h
  exact anyBad_mem h.1.2 hx
/-- a map's text, or none. -/
def encO (ms : List Mt) : Option Nm := if checkB ms && decide ((encL ms).length ≤ 1024) then some (encL ms) else none
def rdecO (l : Nm) : Option (List Mt) := match scan [] none l with
  | none => none
  | some ms => if encO ms = some l then some ms else none
theorem rdec_eq (l : Nm) : rdecO l = decodeO l := by
  cases hd : decodeO l with
  | some ms =>
    unfold decodeO at hd
    split at hd
    · rename_i hl
      cases hf : decF l.length l with
      | none => rw [hf] at hd; cases hd
      | some ms' =>
        rw [hf] at hd
        simp only at hd
        split at hd
        · rename_i hc
          obtain rfl := Option.some.inj hd
          obtain ⟨h1, h2⟩ := dec_scan _ _ _ hf
          unfold rdecO encO
          rw [h1]
          simp only
          rw [h2, hc, decide_eq_true hl]
          simp
        · cases hd
    · cases hd
  | none =>
    cases hr : rdecO l with
    | none => rfl
    | some ms =>
      exfalso
      unfold rdecO at hr
      cases hs : scan [] none l with
      | none => rw [hs] at hr; cases hr
      | some ms' =>
        rw [hs] at hr
        simp only at hr
        split at hr
        · rename_i he
          obtain rfl := Option.some.inj hr
          unfold encO at he
          split at he
          · rename_i hc
            rw [Bool.and_eq_true, decide_eq_true_eq] at hc
            have he2 := Option.some.inj he
            have hf := scan_dec l.length l ms' (Nat.le_refl _) hs (fun x hx => by have := (check_mem hc.1 hx).2.1; omega) he2
            unfold decodeO at hd
            rw [hf, if_pos (by rw [← he2]; exact hc.2)] at hd
            simp only [hc.1] at hd
            cases hd
          · cases he
        · cases hr
theorem valid_let {p : Nm} (h : validZ p = true) : ∀ c ∈ p, c ≠ 10 := by
  obtain ⟨L, hL⟩ := Option.isSome_iff_exists.1 h
  obtain ⟨rfl, _, hn⟩ := (names_iff _ _).1 hL
  intro c hc
  have hcc : c = 47 ∨ ∃ x ∈ L, c ∈ x := by
    unfold pathOf at hc
    split at hc
    · left; simpa using hc
    · unfold flat at hc
      obtain ⟨x, hx, hcx⟩ := List.mem_flatMap.1 hc
      rcases List.mem_cons.1 hcx with rfl | h2
      · exact .inl rfl
      · exact .inr ⟨x, hx, h2⟩
  rcases hcc with rfl | ⟨x, hx, hcx⟩
  · decide
  · rintro rfl
    have := name_lets (List.all_eq_true.1 hn x hx)
    unfold lets at this
    exact absurd (List.all_eq_true.1 this 10 hcx) (by decide)
theorem digs_ne {l : Nm} (h : digs l = true) (d : UInt8) (hd : digC d = false) : ∀ c ∈ l, c ≠ d := by
  rintro c hc rfl
  have := List.all_eq_true.1 h c hc
  rw [hd] at this; cases this
theorem enc_dec : ∀ (n : Nat) (ms : List Mt), (encL ms).length ≤ n → (∀ x ∈ ms, validZ x.p.data.toList = true ∧ 1 ≤ x.v ∧ x.v ≤ 999) → decF n (encL ms) = some ms := by
  intro n
  induction n with
  | zero =>
    intro ms hn hv
    cases ms with
    | nil => rfl
    | cons x ms =>
      change (encM x ++ encL ms).length ≤ 0 at hn
      unfold encM at hn
      simp at hn
  | succ n ih =>
    intro ms hn hv
    cases ms with
    | nil => rfl
    | cons x ms =>
      obtain ⟨h1, h2, h3⟩ := hv x (List.mem_cons_self ..)
      obtain ⟨d1, d2, d3⟩ := dec_all x.v.toNat
      have e : encL (x :: ms) = (decDigits x.v.toNat ++ 32 :: x.p.data.toList) ++ 10 :: encL ms := by
        show encM x ++ encL ms = _
        unfold encM; simp
      have hl : (encL ms).length ≤ n := by rw [e, List.length_append, List.length_cons] at hn; omega
      have hc : cut1 10 (encL (x :: ms)) = some (decDigits x.v.toNat ++ 32 :: x.p.data.toList, encL ms) := by
        rw [e]
        refine cut1_app _ fun c hc => ?_
        rcases List.mem_append.1 hc with hc | hc
        · exact digs_ne d1 10 (by decide) c hc
        · rcases List.mem_cons.1 hc with rfl | hc
          · decide
          · exact valid_let h1 c hc
      have hs : cut1 32 (decDigits x.v.toNat ++ 32 :: x.p.data.toList) = some (decDigits x.v.toNat, x.p.data.toList) := cut1_app _ (digs_ne d1 32 (by decide))
      have hb : numB (decDigits x.v.toNat) = true := num_dec (by omega)
      rw [decF_line hc (line_yes hs hb), ih ms hl (fun y hy => hv y (List.mem_cons_of_mem _ hy)), d2]
      have : (⟨⟨x.p.data.toList.toArray⟩, ((x.v.toNat : Nat) : Int)⟩ : Mt) = x := by
        obtain ⟨p, v⟩ := x
        simp only at h2 ⊢
        rw [Int.toNat_of_nonneg (by omega)]
      rw [this]; rfl
theorem dec_of_enc {ms : List Mt} {t : Nm} (h : encO ms = some t) : decodeO t = some ms := by
  unfold encO at h
  split at h
  · rename_i hc
    rw [Bool.and_eq_true, decide_eq_true_eq] at hc
    obtain rfl := Option.some.inj h
    unfold decodeO
    rw [if_pos hc.2, enc_dec _ ms (Nat.le_refl _) (fun x hx => check_mem hc.1 hx)]
    simp only [hc.1]; rfl
  · cases h
end Go.Proofs.YtbkjhogfpcmcbaaDoor

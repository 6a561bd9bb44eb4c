/- All that is taken out of crates, one behind the other, as a plain function. Conditions: none. -/
import Derived.Test.YtadgnemfjmiafaaWf
namespace Go.Proofs.Ytadgnemfjmiafaa
open Go.RowKit

theorem getOf_ok {zs : List Int} (h : (getOf zs).2.2 = 0) :
    (getOf zs).2.1 = numOf zs + 12 ∧ numOf zs + 12 ≤ zs.length ∧ numOf zs ≤ 4096 ∧ (getOf zs).1 = (zs.drop 8).take (numOf zs) ∧ (getOf zs).1.length = numOf zs ∧
    8 ≤ zs.length ∧ numOf (zs.drop 4) = (Tally.sum (zs.take 4)).toNat ∧ numOf (zs.drop (8 + numOf zs)) = (Tally.sum ((zs.drop 8).take (numOf zs))).toNat := by
  unfold getOf at h ⊢
  split at h
  · cases h
  split at h
  · cases h
  split at h
  · cases h
  split at h
  · cases h
  split at h
  · cases h
  rename_i h1 h2 h3 h4 h5
  rw [if_neg h1, if_neg h2, if_neg h3, if_neg h4, if_neg h5]
  refine ⟨rfl, by omega, by omega, rfl, ?_, by omega, by simpa using h2, by simpa using h5⟩
  show ((zs.drop 8).take (numOf zs)).length = _
  rw [List.length_take, List.length_drop]; omega
theorem getOf_bad {zs : List Int} (h : (getOf zs).2.2 ≠ 0) : (getOf zs).1 = [] ∧ (getOf zs).2.1 = 0 := by
  unfold getOf at h ⊢
  split
  · exact ⟨rfl, rfl⟩
  split
  · exact ⟨rfl, rfl⟩
  split
  · exact ⟨rfl, rfl⟩
  split
  · exact ⟨rfl, rfl⟩
  split
  · exact ⟨rfl, rfl⟩
  rename_i h1 h2 h3 h4 h5
  rw [if_neg h1, if_neg h2, if_neg h3, if_neg h4, if_neg h5] at h
  exact absurd rfl h
theorem getOf_small (zs : List Int) : (getOf zs).2.2 = 0 ∨ (getOf zs).2.2 = 30 ∨ (getOf zs).2.2 = 31 ∨ (getOf zs).2.2 = 32 := by
  unfold getOf
  repeat (first | split | simp)
theorem numOf_more (a b : List Int) (h : 4 ≤ a.length) : numOf (a ++ b) = numOf a := by
  unfold numOf
  have e : ∀ i, i < 4 → (a ++ b).getD i 0 = a.getD i 0 := fun i hi => by
    simp only [List.getD_eq_getElem?_getD]
    rw [List.getElem?_append_left (by omega)]
  rw [e 0 (by omega), e 1 (by omega), e 2 (by omega), e 3 (by omega)]
theorem getOf_more {a : List Int} (b : List Int) (h : (getOf a).2.2 = 0) : getOf (a ++ b) = getOf a := by
  obtain ⟨h1, h2, h3, h4, h5, h6, h7, h8⟩ := getOf_ok h
  have n0 : numOf (a ++ b) = numOf a := numOf_more a b (by omega)
  have d4 : (a ++ b).drop 4 = a.drop 4 ++ b := List.drop_append_of_le_length (by omega)
  have t4 : (a ++ b).take 4 = a.take 4 := List.take_append_of_le_length (by omega)
  have d8 : (a ++ b).drop 8 = a.drop 8 ++ b := List.drop_append_of_le_length (by omega)
  have dn : (a ++ b).drop (8 + numOf a) = a.drop (8 + numOf a) ++ b := List.drop_append_of_le_length (by omega)
  have t8 : (a.drop 8 ++ b).take (numOf a) = (a.drop 8).take (numOf a) := List.take_append_of_le_length (by rw [List.length_drop]; omega)
  have m4 : numOf (a.drop 4 ++ b) = numOf (a.drop 4) := numOf_more _ _ (by rw [List.length_drop]; omega)
  have mn : numOf (a.drop (8 + numOf a) ++ b) = numOf (a.drop (8 + numOf a)) := numOf_more _ _ (by rw [List.length_drop]; omega)
  have hl : (a ++ b).length = a.length + b.length := List.length_append
  have hh : getOf a = ((a.drop 8).take (numOf a), numOf a + 12, 0) := by
    rw [← h4, ← h1, ← h]
  rw [hh, getOf, n0, d4, t4, d8, dn, t8, m4, mn, if_neg (by omega), if_neg (by omega), if_neg (by omega), if_neg (by omega), if_neg (by omega)]
/-- a crate that is cut off. -/
theorem getOf_cut (zs : List Int) (k : Nat) (hl : zs.length ≤ 4096) (hk : k < zs.length + 12) : getOf ((crateOf zs).take k) = ([], 0, 30) := by
  have hL : ((crateOf zs).take k).length = k := by rw [List.length_take, crateOf_len]; omega
  by_cases h8 : k < 8
  · rw [getOf, if_pos (by omega)]
  · have e : crateOf zs = fourOf zs.length ++ (sum4 (fourOf zs.length) ++ (zs ++ sum4 zs)) := by simp [crateOf, head8]
    have ea : crateOf zs = head8 zs.length ++ (zs ++ sum4 zs) := by simp [crateOf]
    have ek : (crateOf zs).take k = fourOf zs.length ++ (sum4 (fourOf zs.length) ++ (zs ++ sum4 zs).take (k - 8)) := by
      rw [ea, List.take_append, head8_len, List.take_of_length_le (by rw [head8_len]; omega)]
      simp [head8]
    have hN : numOf ((crateOf zs).take k) = zs.length := by rw [ek]; exact numOf_four _ (by omega) _
    have h4 : ((crateOf zs).take k).drop 4 = sum4 (fourOf zs.length) ++ (zs ++ sum4 zs).take (k - 8) := by rw [ek]; exact List.drop_left' (fourOf_len _)
    have t4 : ((crateOf zs).take k).take 4 = fourOf zs.length := by rw [ek]; exact List.take_left' (fourOf_len _)
    have n4 : numOf (sum4 (fourOf zs.length) ++ (zs ++ sum4 zs).take (k - 8)) = (Tally.sum (fourOf zs.length)).toNat := numOf_four _ (BitVec.isLt _) _
    rw [getOf, hN, h4, t4, n4, hL, if_neg (by omega), if_neg (by simp), if_neg (by omega), if_pos (by omega)]

/-- all bodies, how many bytes are left, and why. -/
def splitOf : Nat → List Int → List (List Int) × Nat × Nat
  | 0, zs => ([], zs.length, 30)
  | k + 1, zs => if (getOf zs).2.2 = 0 then ((getOf zs).1 :: (splitOf k (zs.drop (getOf zs).2.1)).1, (splitOf k (zs.drop (getOf zs).2.1)).2) else ([], zs.length, (getOf zs).2.2)
def splitAll (zs : List Int) : List (List Int) × Nat × Nat := splitOf zs.length zs
theorem splitOf_fuel : ∀ (k : Nat) (zs : List Int), zs.length ≤ k → splitOf k zs = splitAll zs := by
  intro k
  induction k using Nat.strongRecOn with
  | _ k ih =>
    intro zs hk
    cases k with
    | zero => obtain rfl : zs = [] := List.length_eq_zero_iff.1 (by omega); rfl
    | succ k =>
      unfold splitAll
      cases hz : zs.length with
      | zero =>
        obtain rfl : zs = [] := List.length_eq_zero_iff.1 hz
        rfl
      | succ m =>
        simp only [splitOf]
        by_cases h : (getOf zs).2.2 = 0
        · obtain ⟨h1, h2, _⟩ := getOf_ok h
          have hd : (zs.drop (getOf zs).2.1).length = zs.length - (numOf zs + 12) := by rw [List.length_drop, h1]
          rw [if_pos h, if_pos h, ih k (by omega) _ (by omega), ih m (by omega) _ (by omega)]
        · rw [if_neg h, if_neg h]
theorem splitAll_ok {zs : List Int} (h : (getOf zs).2.2 = 0) : splitAll zs = ((getOf zs).1 :: (splitAll (zs.drop (getOf zs).2.1)).1, (splitAll (zs.drop (getOf zs).2.1)).2) := by
  obtain ⟨h1, h2, _⟩ := getOf_ok h
  have hd : (zs.drop (getOf zs).2.1).length = zs.length - (numOf zs + 12) := by rw [List.length_drop, h1]
  obtain ⟨m, hm⟩ : ∃ m, zs.length = m + 1 := ⟨zs.length - 1, by omega⟩
  show splitOf zs.length zs = _
  rw [hm]
  simp only [splitOf]
  rw [if_pos h, splitOf_fuel m _ (by omega)]
theorem splitAll_bad {zs : List Int} (h : (getOf zs).2.2 ≠ 0) : splitAll zs = ([], zs.length, (getOf zs).2.2) := by
  show splitOf zs.length zs = _
  cases hz : zs.length with
  | zero =>
    obtain rfl : zs = [] := List.length_eq_zero_iff.1 hz
    rfl
  | succ m =>
    simp only [splitOf]
    rw [if_neg h, hz]
theorem splitAll_why (zs : List Int) : (splitAll zs).2.2 = 30 ∨ (splitAll zs).2.2 = 31 ∨ (splitAll zs).2.2 = 32 := by
  suffices H : ∀ (k : Nat) (zs : List Int), zs.length ≤ k → ((splitAll zs).2.2 = 30 ∨ (splitAll zs).2.2 = 31 ∨ (splitAll zs).2.2 = 32) from H _ _ (Nat.le_refl _)
  intro k
  induction k with
  | zero => intro zs hk; obtain rfl : zs = [] := List.length_eq_zero_iff.1 (by omega); exact .inl rfl
  | succ k ih =>
    intro zs hk
    by_cases h : (getOf zs).2.2 = 0
    · obtain ⟨h1, h2, _⟩ := getOf_ok h
      rw [splitAll_ok h]
      exact ih _ (by rw [List.length_drop, h1]; omega)
    · rw [splitAll_bad h]
      exact (getOf_small zs).resolve_left h
theorem splitAll_left (zs : List Int) : (splitAll zs).2.1 ≤ zs.length ∧ 12 * (splitAll zs).1.length ≤ zs.length := by
  suffices H : ∀ (k : Nat) (zs : List Int), zs.length ≤ k → ((splitAll zs).2.1 ≤ zs.length ∧ 12 * (splitAll zs).1.length ≤ zs.length) from H _ _ (Nat.le_refl _)
  intro k
  induction k with
  | zero => intro zs hk; obtain rfl : zs = [] := List.length_eq_zero_iff.1 (by omega); exact ⟨Nat.le_refl _, Nat.le_refl _⟩
  | succ k ih =>
    intro zs hk
    by_cases h : (getOf zs).2.2 = 0
    · obtain ⟨h1, h2, _⟩ := getOf_ok h
      rw [splitAll_ok h]
      have := ih (zs.drop (getOf zs).2.1) (by rw [List.length_drop, h1]; omega)
      rw [List.length_drop, h1] at this
      rw [h1]
      simp only [List.length_cons]
      omega
    · rw [splitAll_bad h]
      exact ⟨Nat.le_refl _, Nat.zero_le _⟩
/-- of whole crates with more behind them the bodies are those of both. -/
theorem splitAll_joins (a b : List Int) (h : (splitAll a).2 = (0, 30)) : splitAll (a ++ b) = ((splitAll a).1 ++ (splitAll b).1, (splitAll b).2) := by
  suffices H : ∀ (k : Nat) (a : List Int), a.length ≤ k → (splitAll a).2 = (0, 30) → splitAll (a ++ b) = ((splitAll a).1 ++ (splitAll b).1, (splitAll b).2) from H _ _ (Nat.le_refl _) h
  intro k
  induction k with
  | zero => intro a hk _; obtain rfl : a = [] := List.length_eq_zero_iff.1 (by omega); rfl
  | succ k ih =>
    intro a hk ha
    by_cases h : (getOf a).2.2 = 0
    · obtain ⟨h1, h2, _⟩ := getOf_ok h
      rw [splitAll_ok h] at ha ⊢
      have := ih (a.drop (getOf a).2.1) (by rw [List.length_drop, h1]; omega) ha
      rw [splitAll_ok (by rw [getOf_more b h]; exact h), getOf_more b h, List.drop_append_of_le_length (by omega), this]
      rfl
    · rw [splitAll_bad h] at ha
      obtain rfl : a = [] := List.length_eq_zero_iff.1 (by simpa using congrArg Prod.fst ha)
      rfl

/-- bodies, crated, one behind the other. -/
def catOf (bs : List (List Int)) : List Int := (bs.map crateOf).flatten
/-- how long they are, how many lie whole within cut, and where these end. -/
def cutStep (cut : Nat) (s : Nat × Nat × Nat) (z : List Int) : Nat × Nat × Nat :=
  if s.1 + (z.length + 12) ≤ cut then (s.1 + (z.length + 12), s.2.1 + 1, s.1 + (z.length + 12)) else (s.1 + (z.length + 12), s.2.1, s.2.2)
def cutOf (cut : Nat) (s : Nat × Nat × Nat) (bs : List (List Int)) : Nat × Nat × Nat := bs.foldl (cutStep cut) s
theorem cutOf_past (cut : Nat) : ∀ (bs : List (List Int)) (s : Nat × Nat × Nat), cut < s.1 → (cutOf cut s bs).2 = s.2 := by
  intro bs
  induction bs with
  | nil => intro s _; rfl
  | cons z bs ih =>
    intro s hs
    show (cutOf cut (cutStep cut s z) bs).2 = _
    have e : cutStep cut s z = (s.1 + (z.length + 12), s.2.1, s.2.2) := if_neg (by omega)
    rw [e, ih _ (by show cut < s.1 + (z.length + 12); omega)]
theorem cutOf_shift (k : Nat) : ∀ (bs : List (List Int)) (cut l n e : Nat), k ≤ cut → (cutOf cut (k + l, n + 1, k + e) bs).2 = ((cutOf (cut - k) (l, n, e) bs).2.1 + 1, k + (cutOf (cut - k) (l, n, e) bs).2.2) := by
  intro bs
  induction bs with
  | nil => intro cut l n e _; rfl
  | cons z bs ih =>
    intro cut l n e hk
    show (cutOf cut (cutStep cut (k + l, n + 1, k + e) z) bs).2 = ((cutOf (cut - k) (cutStep (cut - k) (l, n, e) z) bs).2.1 + 1, k + (cutOf (cut - k) (cutStep (cut - k) (l, n, e) z) bs).2.2)
    by_cases h : l + (z.length + 12) ≤ cut - k
    · have e1 : cutStep cut (k + l, n + 1, k + e) z = (k + (l + (z.length + 12)), (n + 1) + 1, k + (l + (z.length + 12))) := by
        unfold cutStep; rw [if_pos (by show k + l + (z.length + 12) ≤ cut; omega)]; simp only [Nat.add_assoc]
      have e2 : cutStep (cut - k) (l, n, e) z = (l + (z.length + 12), n + 1, l + (z.length + 12)) := if_pos h
      rw [e1, e2]; exact ih _ _ _ _ hk
    · have e1 : cutStep cut (k + l, n + 1, k + e) z = (k + (l + (z.length + 12)), n + 1, k + e) := by
        unfold cutStep; rw [if_neg (by show ¬ k + l + (z.length + 12) ≤ cut; omega)]; simp only [Nat.add_assoc]
      have e2 : cutStep (cut - k) (l, n, e) z = (l + (z.length + 12), n, e) := if_neg h
      rw [e1, e2]; exact ih _ _ _ _ hk
theorem splitAll_cut : ∀ (bs : List (List Int)) (cut : Nat), (∀ z ∈ bs, z.length ≤ 4096) → cut ≤ (catOf bs).length →
    splitAll ((catOf bs).take cut) = (bs.take (cutOf cut (0, 0, 0) bs).2.1, cut - (cutOf cut (0, 0, 0) bs).2.2, 30) ∧ (cutOf cut (0, 0, 0) bs).2.2 ≤ cut ∧ (cutOf cut (0, 0, 0) bs).2.1 ≤ bs.length := by
  intro bs
  induction bs with
  | nil =>
    intro cut _ hc
    obtain rfl : cut = 0 := by simpa [catOf] using hc
    exact ⟨rfl, Nat.le_refl _, Nat.le_refl _⟩
  | cons z bs ih =>
    intro cut hz hc
    have hz0 := hz z (by simp)
    have ec : catOf (z :: bs) = crateOf z ++ catOf bs := by simp [catOf]
    have hcl : (crateOf z).length = z.length + 12 := crateOf_len z
    have hlen : (catOf (z :: bs)).length = z.length + 12 + (catOf bs).length := by rw [ec, List.length_append, hcl]
    show splitAll _ = ((z :: bs).take (cutOf cut (cutStep cut (0, 0, 0) z) bs).2.1, cut - (cutOf cut (cutStep cut (0, 0, 0) z) bs).2.2, 30) ∧ (cutOf cut (cutStep cut (0, 0, 0) z) bs).2.2 ≤ cut ∧ (cutOf cut (cutStep cut (0, 0, 0) z) bs).2.1 ≤ _
    by_cases h : z.length + 12 ≤ cut
    · have e1 : cutStep cut (0, 0, 0) z = ((z.length + 12) + 0, 0 + 1, (z.length + 12) + 0) := by
        unfold cutStep; rw [if_pos (by show 0 + (z.length + 12) ≤ cut; omega)]; simp
      obtain ⟨i1, i2, i3⟩ := ih (cut - (z.length + 12)) (fun y hy => hz y (by simp [hy])) (by omega)
      have hs := cutOf_shift (z.length + 12) bs cut 0 0 0 h
      rw [e1, hs]
      have ht : (catOf (z :: bs)).take cut = crateOf z ++ (catOf bs).take (cut - (z.length + 12)) := by
        rw [ec, List.take_append, hcl, List.take_of_length_le (by omega)]
      have hg := getOf_crate z ((catOf bs).take (cut - (z.length + 12))) hz0
      refine ⟨?_, by show (z.length + 12) + _ ≤ cut; omega, by show _ + 1 ≤ (z :: bs).length; rw [List.length_cons]; omega⟩
      rw [ht, splitAll_ok (by rw [hg]), hg]
      show (z :: (splitAll ((crateOf z ++ _).drop (z.length + 12))).1, (splitAll ((crateOf z ++ _).drop (z.length + 12))).2) = _
      rw [List.drop_left' hcl, i1]
      show (z :: bs.take _, cut - (z.length + 12) - _, 30) = (z :: bs.take _, cut - (z.length + 12 + _), 30)
      rw [Nat.sub_sub]
    · have e1 : cutStep cut (0, 0, 0) z = (z.length + 12, 0, 0) := by
        unfold cutStep; rw [if_neg (by show ¬ 0 + (z.length + 12) ≤ cut; omega)]; simp
      have hp := cutOf_past cut bs (z.length + 12, 0, 0) (by show cut < z.length + 12; omega)
      rw [e1, hp]
      have ht : (catOf (z :: bs)).take cut = (crateOf z).take cut := by
        rw [ec, List.take_append_of_le_length (by omega)]
      have hg := getOf_cut z cut hz0 (by omega)
      refine ⟨?_, Nat.zero_le _, Nat.zero_le _⟩
      rw [ht, splitAll_bad (by rw [hg]; simp), hg]
      show ([], ((crateOf z).take cut).length, 30) = ([], cut - 0, 30)
      rw [List.length_take, hcl, Nat.min_eq_left (by omega), Nat.sub_zero]
end Go.Proofs.Ytadgnemfjmiafaa

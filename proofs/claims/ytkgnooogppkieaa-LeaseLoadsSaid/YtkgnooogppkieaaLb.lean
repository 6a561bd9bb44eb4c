/- lease: right, find. Conditions: the table lies in the call's own memory, its ids rise. -/
import Derived.Test.YtkgnooogppkieaaLa
namespace Go.Proofs.Ytkgnooogppkieaa
open Go.RowKit
set_option linter.unusedVariables false
set_option linter.unusedSimpArgs false
variable {w w' : World} {base n : Nat} {v : Value} {L : List Lz}

def rightB (p : Lz) : Bool := decide (1 ≤ p.1 ∧ p.1 ≤ 4611686018427387904 ∧ 1 ≤ p.2.1 ∧ p.2.1 ≤ 1000000 ∧ 0 ≤ p.2.2 ∧ p.2.2 ≤ 1099511627776)
theorem right_any (p : Lz) (w : World) : Calls Try.prog 27 #[tv p] w fun e w' => e = .returned (.bool (rightB p)) ∧ Below w.heap.size w w' := by
  have hX := Lib.hid (Box.new w 37 #[.int .i64 p.1, .int .i64 p.2.1, .int .i64 p.2.2])
  unfold tv
  by_cases h0 : 1 ≤ p.1
  rotate_left
  · have hr : rightB p = false := by simp [rightB]; omega
    rw [hr]
    clear hr
    go_enter Try.func27, Try.ntmps27
    go_wp2
    go_ret
    exact ⟨rfl, (Below.refl _ _).alloc (Nat.le_refl _) _⟩
  by_cases h1 : p.1 ≤ 4611686018427387904
  rotate_left
  · have hr : rightB p = false := by simp [rightB]; omega
    rw [hr]
    clear hr
    go_enter Try.func27, Try.ntmps27
    go_wp2
    go_ret
    exact ⟨rfl, (Below.refl _ _).alloc (Nat.le_refl _) _⟩
  by_cases h2 : 1 ≤ p.2.1
  rotate_left
  · have hr : rightB p = false := by simp [rightB]; omega
    rw [hr]
    clear hr
    go_enter Try.func27, Try.ntmps27
    go_wp2
    go_ret
    exact ⟨rfl, (Below.refl _ _).alloc (Nat.le_refl _) _⟩
  by_cases h3 : p.2.1 ≤ 1000000
  rotate_left
  · have hr : rightB p = false := by simp [rightB]; omega
    rw [hr]
    clear hr
    go_enter Try.func27, Try.ntmps27
    go_wp2
    go_ret
    exact ⟨rfl, (Below.refl _ _).alloc (Nat.le_refl _) _⟩
  have hr : rightB p = (decide (0 ≤ p.2.2) && decide (p.2.2 ≤ 1099511627776)) := by simp [rightB, h0, h1, h2, h3]
  obtain ⟨q, hq⟩ : ∃ q, (decide (0 ≤ p.2.2) && decide (p.2.2 ≤ 1099511627776)) = q := ⟨_, rfl⟩
  have C1 := Lib.hid (clock_any p.2.2 (w.alloc (.cells #[.int .i64 p.1, .int .i64 p.2.1, .int .i64 p.2.2] 37)))
  rw [hr]
  rw [hq] at C1 ⊢
  clear hr hq
  go_enter Try.func27, Try.ntmps27
  go_wp2_with fail
  refine C1.out.mono ?_
  rintro e w1 ⟨rfl, rfl⟩
  go_wp2
  go_ret
  exact ⟨rfl, (Below.refl _ _).alloc (Nat.le_refl _) _⟩

theorem ret_tt {fn : Func} {R : Ending → World → Prop} {act : Act} {w : World} {t u : Nat} {x y : Value} (h : fn.results = #[.tmp t, .tmp u]) (hd : act.defers = []) (ht : act.tmps.getD t undef = x) (hu : act.tmps.getD u undef = y)
    (hR : R (.returned (.tuple #[x, y])) w) : bodyPost Try.prog fn R .ret act w := by
  refine bodyPost_ret (v := .tuple #[x, y]) ?_ hd hR
  rw [Array.getD_eq_getD_getElem?] at ht hu
  simp [results, h, ht, hu, go_sem]
/-- where an id is, or would be. -/
def kOf (L : List Lz) (id : Int) : Nat := L.countP (fun p => decide (p.1 < id))
def isIn (L : List Lz) (id : Int) : Bool := L.any (fun p => p.1 == id)
theorem kOf_is (L : List Lz) (id : Int) (k : Nat) (hk : k ≤ L.length) (h0 : ∀ j p, j < k → L[j]? = some p → p.1 < id) (h1 : ∀ j p, k ≤ j → L[j]? = some p → id ≤ p.1) : kOf L id = k := by
  have e : L = L.take k ++ L.drop k := (List.take_append_drop k L).symm
  unfold kOf
  rw [e, List.countP_append]
  have a : (L.take k).countP (fun p => decide (p.1 < id)) = k := by
    rw [List.countP_eq_length.2, List.length_take]
    · omega
    · intro p hp
      obtain ⟨j, hj, hp⟩ := List.getElem_of_mem hp
      rw [List.length_take] at hj
      rw [List.getElem_take] at hp
      exact decide_eq_true (h0 j p (by omega) (by rw [List.getElem?_eq_getElem (by omega), hp]))
  have b : (L.drop k).countP (fun p => decide (p.1 < id)) = 0 := by
    rw [List.countP_eq_zero]
    intro p hp
    obtain ⟨j, hj, hp⟩ := List.getElem_of_mem hp
    rw [List.length_drop] at hj
    rw [List.getElem_drop] at hp
    have := h1 (k + j) p (by omega) (by rw [List.getElem?_eq_getElem (by omega), hp])
    simp; omega
  omega
theorem isIn_at (L : List Lz) (id : Int) (k : Nat) (p : Lz) (hp : L[k]? = some p) (h0 : ∀ j p, j < k → L[j]? = some p → p.1 < id) (h1 : ∀ j p, k ≤ j → L[j]? = some p → id ≤ p.1) (hs : Rises L) : isIn L id = (p.1 == id) := by
  rw [Bool.eq_iff_iff]
  unfold isIn
  rw [List.any_eq_true]
  constructor
  · rintro ⟨q, hq, he⟩
    obtain ⟨j, hj, hjq⟩ := List.getElem_of_mem hq
    have hjq' : L[j]? = some q := by rw [List.getElem?_eq_getElem hj, hjq]
    have he' : q.1 = id := by simpa using he
    rcases Nat.lt_trichotomy j k with h | rfl | h
    · have := h0 j q h hjq'; omega
    · rw [hp] at hjq'; obtain rfl := Option.some.inj hjq'; exact he
    · have hkl := (List.getElem?_eq_some_iff.1 hp)
      have := List.pairwise_iff_getElem.1 hs k j hkl.1 hj h
      rw [hkl.2, hjq] at this
      have := h1 k p (Nat.le_refl _) hp
      omega
  · intro he
    exact ⟨p, List.mem_of_getElem? hp, he⟩
theorem isIn_end (L : List Lz) (id : Int) (h0 : ∀ j p, j < L.length → L[j]? = some p → p.1 < id) : isIn L id = false := by
  unfold isIn
  rw [List.any_eq_false]
  intro q hq
  obtain ⟨j, hj, hjq⟩ := List.getElem_of_mem hq
  have := h0 j q hj (by rw [List.getElem?_eq_getElem hj, hjq])
  simp; omega
theorem kOf_le (L : List Lz) (id : Int) : kOf L id ≤ L.length := List.countP_le_length

set_option maxHeartbeats 1000000 in
theorem search_any (ad : Option Addr) (c : Nat) (id : Int) (h : w.ownsRow base 37 3 (.slice ad L.length c) L.length (cellsOf L)) (hs : Rises L) (hl : L.length ≤ 1000) :
    Calls Try.prog 37 #[.slice ad L.length c, .int .i64 id, .func (.func 38) #[] #[]] w fun e w' => e = .returned (.tuple #[.int .i64 (kOf L id : Nat), .bool (isIn L id)]) ∧ Below w.heap.size w w' := by
  have HO := Lib.hid h
  have HS := Lib.hid hs
  clear h hs
  go_enter Try.func37, Try.ntmps37
  go_wp2
  go_loopw [9, 10] (fun a b wr => ∃ i j : Nat, i ≤ j ∧ j ≤ L.length ∧ a = .int .i64 i ∧ b = .int .i64 j ∧ (∀ k p, k < i → L[k]? = some p → p.1 < id) ∧ (∀ k p, j ≤ k → L[k]? = some p → id ≤ p.1) ∧ Below w.heap.size w wr) (fun a b _ => (intOf b).toNat - (intOf a).toNat)
  case atStart => exact ⟨0, L.length, Nat.zero_le _, Nat.le_refl _, rfl, rfl, fun k p hk => by omega, fun k p hk hp => by have := (List.getElem?_eq_some_iff.1 hp).1; omega, Below.refl _ _⟩
  case round =>
    obtain ⟨i, j, hij, hj, rfl, rfl, hlo, hhi, hbel⟩ := hrel
    have HLO := Lib.hid hlo
    have HHI := Lib.hid hhi
    have HB := Lib.hid hbel
    clear hlo hhi hbel
    by_cases hlt : i < j
    · obtain ⟨m, hm⟩ : ∃ m, m = (i + j) / 2 := ⟨_, rfl⟩
      have hmj : m < j := by omega
      have him : i ≤ m := by omega
      have hm2 : ((i : Int) + (j : Int)) / 2 = (m : Int) := by omega
      obtain ⟨p, hp⟩ : ∃ p, L[m]? = some p := ⟨_, List.getElem?_eq_getElem (by omega)⟩
      obtain ⟨g, cap, he, hg, d0, d1, d2⟩ := own_cells (own_stays HO.out (fun k hk => HB.out.block k (own_lt HO.out k hk))) m p hp
      obtain ⟨rfl, rfl⟩ : ad = some ⟨g, 0, none⟩ ∧ c = cap := by simpa using he
      have HP := Lib.hid hp
      have hmn : m < L.length := by omega
      obtain ⟨q, hq⟩ : ∃ q, cmpI p.1 id = q := ⟨_, rfl⟩
      have C1 := Lib.hid (find1_any p id wr)
      rw [hq] at C1
      unfold tv at C1
      have HQ := Lib.hid hq
      clear hm he hp hq
      go_wp2_with fail
      refine C1.out.mono ?_
      rintro e w2 ⟨rfl, b2⟩
      have HB2 := Lib.hid (HB.out.trans (b2.mono HB.out.size))
      clear C1 b2 d0 d1 d2
      by_cases hq0 : q < 0
      · have hlt2 : p.1 < id := by
          have h := HQ.out
          unfold cmpI at h
          by_cases h1 : p.1 < id
          · exact h1
          · rw [if_neg h1] at h; split at h <;> omega
        go_wp2
        go_roundw
        case rel => exact ⟨m + 1, j, by omega, hj, by go_num, rfl, fun k r hk hr => by
          rcases Nat.lt_or_ge k m with h | h
          · have hlt' := (List.getElem?_eq_some_iff.1 HP.out).1
            have := List.pairwise_iff_getElem.1 HS.out k m (by omega) hlt' h
            rw [(List.getElem?_eq_some_iff.1 HP.out).2, (List.getElem?_eq_some_iff.1 hr).2] at this
            omega
          · obtain rfl : k = m := by omega
            rw [HP.out] at hr; obtain rfl := Option.some.inj hr; exact hlt2, HHI.out, HB2.out⟩
        case measure => simp [intOf]; omega
      · have hge : id ≤ p.1 := by
          have h := HQ.out
          unfold cmpI at h
          by_cases h1 : p.1 < id
          · rw [if_pos h1] at h; omega
          · omega
        go_wp2
        go_roundw
        case rel => exact ⟨i, m, him, by omega, rfl, by go_num, HLO.out, fun k r hk hr => by
          rcases Nat.lt_or_ge m k with h | h
          · have hlt' := (List.getElem?_eq_some_iff.1 HP.out).1
            have hkl := (List.getElem?_eq_some_iff.1 hr)
            have := List.pairwise_iff_getElem.1 HS.out m k hlt' hkl.1 h
            rw [(List.getElem?_eq_some_iff.1 HP.out).2, hkl.2] at this
            omega
          · obtain rfl : k = m := by omega
            rw [HP.out] at hr; obtain rfl := Option.some.inj hr; exact hge, HB2.out⟩
        case measure => simp [intOf]; omega
    · obtain rfl : i = j := by omega
      have HK := Lib.hid (kOf_is L id i hj HLO.out HHI.out)
      by_cases hin : i < L.length
      · obtain ⟨p, hp⟩ : ∃ p, L[i]? = some p := ⟨_, List.getElem?_eq_getElem hin⟩
        obtain ⟨g, cap, he, hg, d0, d1, d2⟩ := own_cells (own_stays HO.out (fun k hk => HB.out.block k (own_lt HO.out k hk))) i p hp
        obtain ⟨rfl, rfl⟩ : ad = some ⟨g, 0, none⟩ ∧ c = cap := by simpa using he
        have HI := Lib.hid (isIn_at L id i p hp HLO.out HHI.out HS.out)
        obtain ⟨q, hq⟩ : ∃ q, cmpI p.1 id = q := ⟨_, rfl⟩
        have C1 := Lib.hid (find1_any p id wr)
        rw [hq] at C1
        unfold tv at C1
        have HQ := Lib.hid (show (q == 0) = (p.1 == id) by
          rw [← hq]; unfold cmpI
          rw [Bool.eq_iff_iff, beq_iff_eq, beq_iff_eq]
          split
          · omega
          · split <;> omega)
        clear he hp hq
        go_wp2_with fail
        refine C1.out.mono ?_
        rintro e w2 ⟨rfl, b2⟩
        have HB2 := Lib.hid (HB.out.trans (b2.mono HB.out.size))
        clear C1 b2 d0 d1 d2
        go_wp2
        exact ret_tt (x := .int .i64 (i : Nat)) (y := .bool (q == 0)) Try.results37 rfl rfl rfl ⟨by rw [HK.out, HI.out, ← HQ.out], HB2.out⟩
      · have HI := Lib.hid (isIn_end L id (fun j p hj => HLO.out j p (by omega)))
        go_wp2
        exact ret_tt (x := .int .i64 (i : Nat)) (y := .bool false) Try.results37 rfl rfl rfl ⟨by rw [HK.out, HI.out], HB.out⟩

theorem find_any (id : Int) (h : Tab w base n v L) (hs : Rises L) (hl : L.length ≤ 1000) :
    Calls Try.prog 26 #[.pointer (some ⟨n, 0, none⟩), .int .i64 id] w fun e w' => e = .returned (.tuple #[.int .i64 (kOf L id : Nat), .bool (isIn L id)]) ∧ Below w.heap.size w w' := by
  obtain ⟨ad, c, rfl, _⟩ := own_shape h.row
  have c0 : w.cell? ⟨n, 0, none⟩ = some (.slice ad L.length c) := h.box.cell 0
  have C1 := Lib.hid (search_any ad c id h.row hs hl)
  clear h hs
  go_enter Try.func26, Try.ntmps26
  go_wp2_with fail
  refine C1.out.mono ?_
  rintro e w1 ⟨rfl, b1⟩
  clear C1 c0
  go_wp2
  exact ret_tt Try.results26 rfl rfl rfl ⟨rfl, b1⟩
end Go.Proofs.Ytkgnooogppkieaa

/- watcher: the binary search by compare. Conditions: the row lies in the call's own memory, it rises. -/
import Derived.Test.YtmcjpochpmiipaaDoorVb
namespace Go.Proofs.YtmcjpochpmiipaaDoor
open Go.RowKit
set_option linter.unusedVariables false
set_option linter.unusedSimpArgs false
variable {w w' : World} {base n : Nat} {v : Value} {L : List Wt}

theorem ret_tt {fn : Func} {R : Ending → World → Prop} {act : Act} {w : World} {t u : Nat} {x y : Value} (h : fn.results = #[.tmp t, .tmp u]) (hd : act.defers = []) (ht : act.tmps.getD t undef = x) (hu : act.tmps.getD u undef = y)
    (hR : R (.returned (.tuple #[x, y])) w) : bodyPost Tryd.prog fn R .ret act w := by
  refine bodyPost_ret (v := .tuple #[x, y]) ?_ hd hR
  rw [Array.getD_eq_getD_getElem?] at ht hu
  simp [results, h, ht, hu, go_sem]
/-- where a watch is, or would be. -/
def kOf (L : List Wt) (x : Wt) : Nat := L.countP (fun p => decide (Lt p x))
def isIn (L : List Wt) (x : Wt) : Bool := L.any (fun p => decide (p = x))
theorem isIn_iff (L : List Wt) (x : Wt) : isIn L x = true ↔ x ∈ L := by
  unfold isIn
  rw [List.any_eq_true]
  exact ⟨fun ⟨y, h, e⟩ => of_decide_eq_true e ▸ h, fun h => ⟨x, h, decide_eq_true rfl⟩⟩
theorem kOf_is (L : List Wt) (x : Wt) (k : Nat) (hk : k ≤ L.length) (h0 : ∀ j p, j < k → L[j]? = some p → Lt p x) (h1 : ∀ j p, k ≤ j → L[j]? = some p → ¬ Lt p x) : kOf L x = k := by
  have e : L = L.take k ++ L.drop k := (List.take_append_drop k L).symm
  unfold kOf
  rw [e, List.countP_append]
  have a : (L.take k).countP (fun p => decide (Lt p x)) = k := by
    rw [List.countP_eq_length.2, List.length_take]
    · omega
    · intro p hp
      obtain ⟨j, hj, hp⟩ := List.getElem_of_mem hp
      rw [List.length_take] at hj
      rw [List.getElem_take] at hp
      exact decide_eq_true (h0 j p (by omega) (by rw [List.getElem?_eq_getElem (by omega), hp]))
  have b : (L.drop k).countP (fun p => decide (Lt p x)) = 0 := by
    rw [List.countP_eq_zero]
    intro p hp
    obtain ⟨j, hj, hp⟩ := List.getElem_of_mem hp
    rw [List.length_drop] at hj
    rw [List.getElem_drop] at hp
    have := h1 (k + j) p (by omega) (by rw [List.getElem?_eq_getElem (by omega), hp])
    simpa using this
  omega
theorem isIn_at (L : List Wt) (x : Wt) (k : Nat) (p : Wt) (hp : L[k]? = some p) (h0 : ∀ j p, j < k → L[j]? = some p → Lt p x) (h1 : ∀ j p, k ≤ j → L[j]? = some p → ¬ Lt p x) (hs : Rises L) : isIn L x = decide (p = x) := by
  rw [Bool.eq_iff_iff]
  rw [isIn_iff, decide_eq_true_eq]
  constructor
  · intro hq
    obtain ⟨j, hj, hjq⟩ := List.getElem_of_mem hq
    have hjq' : L[j]? = some x := by rw [List.getElem?_eq_getElem hj, hjq]
    rcases Nat.lt_trichotomy j k with h | rfl | h
    · exact absurd (h0 j x h hjq') (Lt.irrefl x)
    · rw [hp] at hjq'; exact Option.some.inj hjq'
    · have hkl := (List.getElem?_eq_some_iff.1 hp)
      have := List.pairwise_iff_getElem.1 hs k j hkl.1 hj h
      rw [hkl.2, hjq] at this
      exact absurd this (h1 k p (Nat.le_refl _) hp)
  · intro he
    exact he ▸ List.mem_of_getElem? hp
theorem isIn_end (L : List Wt) (x : Wt) (h0 : ∀ j p, j < L.length → L[j]? = some p → Lt p x) : isIn L x = false := by
  rw [← Bool.not_eq_true, isIn_iff]
  intro hq
  obtain ⟨j, hj, hjq⟩ := List.getElem_of_mem hq
  exact Lt.irrefl x (h0 j x hj (by rw [List.getElem?_eq_getElem hj, hjq]))
theorem kOf_le (L : List Wt) (x : Wt) : kOf L x ≤ L.length := List.countP_le_length
theorem own_at {g c m : Nat} {e : TypeId} {l : List Wt} (h : w.ownsRow base e 3 (.slice (some ⟨g, 0, none⟩) m c) l.length (cellsOf l)) (k : Nat) (p : Wt) (hk : l[k]? = some p) :
    w.cell? ⟨g, k * 3, none⟩ = some (.int .i64 p.1) ∧ w.cell? ⟨g, k * 3 + 1, none⟩ = some (.string p.2.1) ∧ w.cell? ⟨g, k * 3 + 2, none⟩ = some (.bool p.2.2) := by
  obtain ⟨g', cap, he, _, d⟩ := own_cells h k p hk
  obtain ⟨rfl, _⟩ : g = g' ∧ _ := by simpa using he
  exact d
theorem own_below {e size k : Nat} {vv : Value} {xs : List Value} {B : Nat} (h : w.ownsRow base e size vv k xs) (hb : Below B w w') (hB : w.heap.size ≤ B) : w'.ownsRow base e size vv k xs :=
  own_stays h (fun j hj => hb.block j (Nat.lt_of_lt_of_le (own_lt h j hj) hB))

set_option maxHeartbeats 1000000 in
theorem search_any (ad : Option Addr) (c : Nat) (x : Wt) (h : w.ownsRow base 31 3 (.slice ad L.length c) L.length (cellsOf L)) (hs : Rises L) (hl : L.length ≤ 1000) :
    Calls Tryd.prog 23 #[.slice ad L.length c, tv x, .func (.func 24) #[] #[]] w fun e w' => e = .returned (.tuple #[.int .i64 (kOf L x : Nat), .bool (isIn L x)]) ∧ Below w.heap.size w w' := by
  have HO := Lib.hid (own_below h ((Below.refl w.heap.size w).alloc (Nat.le_refl _) (.cells #[.int .i64 x.1, .string x.2.1, .bool x.2.2] 31)) (Nat.le_refl _))
  have HS := Lib.hid hs
  have HX := Lib.hid (Box.new w 31 #[.int .i64 x.1, .string x.2.1, .bool x.2.2])
  have B0 := Lib.hid ((Below.refl w.heap.size w).alloc (Nat.le_refl _) (.cells #[.int .i64 x.1, .string x.2.1, .bool x.2.2] 31))
  unfold tv
  clear h hs
  go_enter Tryd.func23, Tryd.ntmps23
  go_wp2
  generalize w.alloc (.cells #[.int .i64 x.1, .string x.2.1, .bool x.2.2] 31) = w0 at HO HX B0 ⊢
  obtain ⟨nx, hnx⟩ : ∃ nx, nx = w.heap.size := ⟨_, rfl⟩
  rw [← hnx] at HX ⊢
  clear hnx
  go_loopw [9, 10] (fun a b wr => ∃ i j : Nat, i ≤ j ∧ j ≤ L.length ∧ a = .int .i64 i ∧ b = .int .i64 j ∧ (∀ k p, k < i → L[k]? = some p → Lt p x) ∧ (∀ k p, j ≤ k → L[k]? = some p → ¬ Lt p x) ∧ Below w0.heap.size w0 wr) (fun a b _ => (intOf b).toNat - (intOf a).toNat)
  case atStart => exact ⟨0, L.length, Nat.zero_le _, Nat.le_refl _, rfl, rfl, fun k p hk => by omega, fun k p hk hp => by have := (List.getElem?_eq_some_iff.1 hp).1; omega, Below.refl _ _⟩
  case round =>
    obtain ⟨i, j, hij, hj, rfl, rfl, hlo, hhi, hbel⟩ := hrel
    have HLO := Lib.hid hlo
    have HHI := Lib.hid hhi
    have HB := Lib.hid hbel
    have HOr := Lib.hid (own_below HO.out hbel (Nat.le_refl _))
    have HXr := Lib.hid (HX.out.below hbel HX.out.lt)
    clear hlo hhi hbel
    by_cases hlt : i < j
    · obtain ⟨m, hm⟩ : ∃ m, m = (i + j) / 2 := ⟨_, rfl⟩
      have hmj : m < j := by omega
      have him : i ≤ m := by omega
      have hm2 : ((i : Int) + (j : Int)) / 2 = (m : Int) := by omega
      obtain ⟨p, hp⟩ : ∃ p, L[m]? = some p := ⟨_, List.getElem?_eq_getElem (by omega)⟩
      obtain ⟨g, cap, he, hg, _⟩ := own_cells HOr.out m p hp
      obtain ⟨rfl, rfl⟩ : ad = some ⟨g, 0, none⟩ ∧ c = cap := by simpa using he
      have HP := Lib.hid hp
      have hmn : m < L.length := by omega
      clear hm he hp hg
      go_wp2
      refine wp_region_below (w0 := wr) (B := wr.heap.size) (by kernel_rfl) (by kernel_rfl) (Below.refl _ _) ?_
      go_big_quiet_want; go_big_quiet_op; go_big_quiet_on
      go_big_quiet_want; go_big_quiet_op; go_big_quiet_on
      go_big_quiet_want; go_big_quiet_op; go_big_quiet_on
      go_big_quiet_want; apply quiet_value; (· (intro w hw; go_simp; try rfl)); simp only [Act.put, List.setIfInBounds_toArray, List.set_cons_succ, List.set_cons_zero]; go_big_quiet_on
      go_big_quiet_want; apply quiet_value; (· (intro w hw; obtain ⟨c0, c1, c2⟩ := own_at (own_below HOr.out hw (Nat.le_refl _)) m p HP.out; go_simp; try rfl)); simp only [Act.put, List.setIfInBounds_toArray, List.set_cons_succ, List.set_cons_zero]; go_big_quiet_on
      go_big_quiet_want; apply quiet_value; (· (intro w hw; have hx := HXr.out.below hw HXr.out.lt; have x0 : w.cell? ⟨nx, 0, none⟩ = some (.int .i64 x.1) := hx.cell 0; have x1 : w.cell? ⟨nx, 1, none⟩ = some (.string x.2.1) := hx.cell 1; have x2 : w.cell? ⟨nx, 2, none⟩ = some (.bool x.2.2) := hx.cell 2; go_simp; try rfl)); simp only [Act.put, List.setIfInBounds_toArray, List.set_cons_succ, List.set_cons_zero]; go_big_quiet_on
      go_big_quiet_want; apply quiet_call (f := 24); (· (intro w hw; go_simp; try rfl)); (· (intro w hw; exact in_below (cmp_any p x w) hw (Nat.le_refl _))); simp only [Act.put, List.setIfInBounds_toArray, List.set_cons_succ, List.set_cons_zero]; go_big_quiet_on
      go_big_quiet_want; apply quiet_value; (· (intro w hw; go_simp; try rfl)); simp only [Act.put, List.setIfInBounds_toArray, List.set_cons_succ, List.set_cons_zero]; go_big_quiet_on
      refine wpQuiet_nil ?_
      intro w2 b2
      have HB2 := Lib.hid (HB.out.trans (b2.mono HB.out.size))
      clear b2
      by_cases hq0 : cmpW p x < 0
      · have hlt2 : Lt p x := (cmpW_neg p x).1 hq0
        have HLT2 := Lib.hid hlt2
        clear hlt2
        go_wp2
        go_roundw
        case rel => exact ⟨m + 1, j, by omega, hj, by go_num, rfl, fun k r hk hr => by
          rcases Nat.lt_or_ge k m with h | h
          · have hlt' := (List.getElem?_eq_some_iff.1 HP.out).1
            have := List.pairwise_iff_getElem.1 HS.out k m (by omega) hlt' h
            rw [(List.getElem?_eq_some_iff.1 HP.out).2, (List.getElem?_eq_some_iff.1 hr).2] at this
            exact this.trans HLT2.out
          · obtain rfl : k = m := by omega
            rw [HP.out] at hr; obtain rfl := Option.some.inj hr; exact HLT2.out, HHI.out, HB2.out⟩
        case measure => simp [intOf]; omega
      · have hge : ¬ Lt p x := fun k => hq0 ((cmpW_neg p x).2 k)
        have HGE := Lib.hid hge
        clear hge
        go_wp2
        go_roundw
        case rel => exact ⟨i, m, him, by omega, rfl, by go_num, HLO.out, fun k r hk hr => by
          rcases Nat.lt_or_ge m k with h | h
          · have hlt' := (List.getElem?_eq_some_iff.1 HP.out).1
            have hkl := (List.getElem?_eq_some_iff.1 hr)
            have := List.pairwise_iff_getElem.1 HS.out m k hlt' hkl.1 h
            rw [(List.getElem?_eq_some_iff.1 HP.out).2, hkl.2] at this
            exact fun q => HGE.out (this.trans q)
          · obtain rfl : k = m := by omega
            rw [HP.out] at hr; obtain rfl := Option.some.inj hr; exact HGE.out, HB2.out⟩
        case measure => simp [intOf]; omega
    · obtain rfl : i = j := by omega
      have HK := Lib.hid (kOf_is L x i hj HLO.out HHI.out)
      by_cases hin : i < L.length
      · obtain ⟨p, hp⟩ : ∃ p, L[i]? = some p := ⟨_, List.getElem?_eq_getElem hin⟩
        obtain ⟨g, cap, he, hg, _⟩ := own_cells HOr.out i p hp
        obtain ⟨rfl, rfl⟩ : ad = some ⟨g, 0, none⟩ ∧ c = cap := by simpa using he
        have HI := Lib.hid (isIn_at L x i p hp HLO.out HHI.out HS.out)
        have HP := Lib.hid hp
        have hd : decide ((i : Int) < (L.length : Int)) = true := by simpa using hin
        clear he hp hg
        go_wp2
        refine wp_region_below (w0 := wr) (B := wr.heap.size) (by kernel_rfl) (by kernel_rfl) (Below.refl _ _) ?_
        go_big_quiet_want; go_big_quiet_op; go_big_quiet_on
        go_big_quiet_want; go_big_quiet_op; go_big_quiet_on
        go_big_quiet_want; go_big_quiet_op; go_big_quiet_on
        go_big_quiet_want; apply quiet_value; (· (intro w hw; go_simp; try rfl)); simp only [Act.put, List.setIfInBounds_toArray, List.set_cons_succ, List.set_cons_zero]; go_big_quiet_on
        go_big_quiet_want; go_big_quiet_op; go_big_quiet_on
        go_big_quiet_want; go_big_quiet_op; go_big_quiet_on
        go_big_quiet_want; go_big_quiet_op; go_big_quiet_on
        go_big_quiet_want; go_big_quiet_op; go_big_quiet_on
        go_big_quiet_want; apply quiet_value; (· (intro w hw; go_simp; try rfl)); simp only [Act.put, List.setIfInBounds_toArray, List.set_cons_succ, List.set_cons_zero]; go_big_quiet_on
        go_big_quiet_want; apply quiet_value; (· (intro w hw; obtain ⟨c0, c1, c2⟩ := own_at (own_below HOr.out hw (Nat.le_refl _)) i p HP.out; go_simp; try rfl)); simp only [Act.put, List.setIfInBounds_toArray, List.set_cons_succ, List.set_cons_zero]; go_big_quiet_on
        go_big_quiet_want; apply quiet_value; (· (intro w hw; have hx := HXr.out.below hw HXr.out.lt; have x0 : w.cell? ⟨nx, 0, none⟩ = some (.int .i64 x.1) := hx.cell 0; have x1 : w.cell? ⟨nx, 1, none⟩ = some (.string x.2.1) := hx.cell 1; have x2 : w.cell? ⟨nx, 2, none⟩ = some (.bool x.2.2) := hx.cell 2; go_simp; try rfl)); simp only [Act.put, List.setIfInBounds_toArray, List.set_cons_succ, List.set_cons_zero]; go_big_quiet_on
        go_big_quiet_want; apply quiet_call (f := 24); (· (intro w hw; go_simp; try rfl)); (· (intro w hw; exact in_below (cmp_any p x w) hw (Nat.le_refl _))); simp only [Act.put, List.setIfInBounds_toArray, List.set_cons_succ, List.set_cons_zero]; go_big_quiet_on
        go_big_quiet_want; apply quiet_value; (· (intro w hw; go_simp; try rfl)); simp only [Act.put, List.setIfInBounds_toArray, List.set_cons_succ, List.set_cons_zero]; go_big_quiet_on
        go_big_quiet_want; apply quiet_value; (· (intro w hw; go_simp; try rfl)); simp only [Act.put, List.setIfInBounds_toArray, List.set_cons_succ, List.set_cons_zero]; go_big_quiet_on
        go_big_quiet_want; go_big_quiet_op; go_big_quiet_on
        go_big_quiet_want; go_big_quiet_op; go_big_quiet_on
        refine wpQuiet_nil ?_
        intro w2 b2
        have HB2 := Lib.hid (HB.out.trans (b2.mono HB.out.size))
        clear b2
        go_wp2
        exact ret_tt (x := .int .i64 (i : Nat)) (y := .bool (cmpW p x == 0)) Tryd.results23 rfl rfl rfl ⟨by rw [HK.out, HI.out, cmpW_zero], B0.out.trans (HB2.out.mono B0.out.size)⟩
      · have HI := Lib.hid (isIn_end L x (fun j p hj => HLO.out j p (by omega)))
        have hd : decide ((i : Int) < (L.length : Int)) = false := by simpa using hin
        go_wp2
        refine wp_region_below (w0 := wr) (B := wr.heap.size) (by kernel_rfl) (by kernel_rfl) (Below.refl _ _) ?_
        go_big_quiet_want; go_big_quiet_op; go_big_quiet_on
        go_big_quiet_want; go_big_quiet_op; go_big_quiet_on
        go_big_quiet_want; go_big_quiet_op; go_big_quiet_on
        go_big_quiet_want; apply quiet_value; (· (intro w hw; go_simp; try rfl)); simp only [Act.put, List.setIfInBounds_toArray, List.set_cons_succ, List.set_cons_zero]; go_big_quiet_on
        go_big_quiet_want; go_big_quiet_op; go_big_quiet_on
        go_big_quiet_skip
        go_big_quiet_skip
        go_big_quiet_skip
        go_big_quiet_skip
        go_big_quiet_skip
        go_big_quiet_skip
        go_big_quiet_skip
        go_big_quiet_skip
        go_big_quiet_want; apply quiet_value; (· (intro w hw; go_simp; try rfl)); simp only [Act.put, List.setIfInBounds_toArray, List.set_cons_succ, List.set_cons_zero]; go_big_quiet_on
        go_big_quiet_want; go_big_quiet_op; go_big_quiet_on
        go_big_quiet_want; go_big_quiet_op; go_big_quiet_on
        refine wpQuiet_nil ?_
        intro w2 b2
        have HB2 := Lib.hid (HB.out.trans (b2.mono HB.out.size))
        clear b2
        go_wp2
        exact ret_tt (x := .int .i64 (i : Nat)) (y := .bool false) Tryd.results23 rfl rfl rfl ⟨by rw [HK.out, HI.out], B0.out.trans (HB2.out.mono B0.out.size)⟩
end Go.Proofs.YtmcjpochpmiipaaDoor

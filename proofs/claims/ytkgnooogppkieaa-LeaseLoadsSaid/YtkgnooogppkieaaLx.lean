/- The document's Same, SameIds, Ended; plain. Conditions: the rows' cells are seen. -/
import Derived.Test.YtkgnooogppkieaaLv
namespace Go.Proofs.Ytkgnooogppkieaa
open Go.RowKit
set_option linter.unusedVariables false
set_option linter.unusedSimpArgs false
variable {w w' : World} {base : Nat} {L : List Lz}

theorem Sees.drewN {bad : Nat → Prop} {ad : Option Addr} (h : Sees w bad ad L) (j : Nat) : Sees (w.drewN j) bad ad L := h
set_option maxRecDepth 100000 in
set_option maxHeartbeats 4000000 in
theorem plain_any {bad : Nat → Prop} (ad : Option Addr) (c : Nat) (h : Sees w bad ad L) (hl : L.length ≤ 1000) :
    Calls Try.prog 20 #[.slice ad L.length c] w fun e w' => ∃ v', e = .returned v' ∧ w'.ownsRow w.heap.size 46 3 v' L.length (cellsOf L) ∧ Below w.heap.size w w' := by
  have HO := Lib.hid h
  obtain ⟨i0, hi, hz0, hz1, hz2⟩ := info_parts row46
  have HI := Lib.hid hi
  have HZZ := Lib.hid hz0
  clear h hi hz0
  go_enter Try.func20, Try.ntmps20
  go_wp2
  go_loopw [3, 8] (fun lv i wr => ∃ k : Nat, k ≤ L.length ∧ i = .int .i64 k ∧ wr.ownsRow w.heap.size 46 3 lv (L.take k).length (cellsOf (L.take k)) ∧ Below w.heap.size w wr) (fun _ i _ => L.length - (intOf i).toNat)
  case atStart => exact ⟨0, Nat.zero_le _, rfl, World.ownsRow_nil _ _ _ _, Below.refl _ _⟩
  case round =>
    obtain ⟨k, hk, rfl, hR, hbel⟩ := hrel
    obtain ⟨lad, lc, rfl, _⟩ := own_shape hR
    have hlk : (L.take k).length = k := by rw [List.length_take]; omega
    rw [hlk] at hR ⊢
    have HR := Lib.hid hR
    have HB := Lib.hid hbel
    clear hR hbel hlk
    by_cases hlt : k < L.length
    · obtain ⟨p, hp⟩ : ∃ p, L[k]? = some p := ⟨_, List.getElem?_eq_getElem hlt⟩
      obtain ⟨g, off, rfl, hg, _, d0, d1, d2⟩ := (HO.out.below HB.out).get k p hp
      have HE := Lib.hid (show L.take (k + 1) = L.take k ++ [p] by rw [List.take_add_one, hp]; rfl)
      have HB1 := Lib.hid (HB.out.alloc HB.out.size (.cells #[.int .i64 p.1, .int .i64 p.2.1, .int .i64 p.2.2] 37))
      have HRA := Lib.hid ((HR.out.alloc (.cells #[.int .i64 p.1, .int .i64 p.2.1, .int .i64 p.2.2] 37)).alloc (.cells #[.int .i64 p.1, .int .i64 p.2.1, .int .i64 p.2.2] 46))
      have HSX := Lib.hid (src46 (wr.alloc (.cells #[.int .i64 p.1, .int .i64 p.2.1, .int .i64 p.2.2] 37)) p)
      have HSZ := Lib.hid (show w.heap.size ≤ ((wr.alloc (.cells #[.int .i64 p.1, .int .i64 p.2.1, .int .i64 p.2.2] 37)).alloc (.cells #[.int .i64 p.1, .int .i64 p.2.1, .int .i64 p.2.2] 46)).heap.size by have := HB.out.size; simp; omega)
      simp only [World.size_alloc] at HSX
      clear hp
      go_wp2_with (at_builtin; refine wpList_append_at rfl (.tmp 12) (.tmp 14) 31 rfl w.heap.size 46 i0 _ 3 24 Try.underlying31 HI.out HZZ.out hz1 hz2 rfl (by decide) _ _ _ rfl HRA.out _ _ _ _ rfl HSX.out (by unfold maxLen; omega) (by omega) HSZ.out ?_; intro v6 w6 own6 g6 at6; obtain ⟨ad6, c6, rfl, hc6⟩ := own_shape own6)
      go_roundw
      case rel =>
        refine ⟨k + 1, by omega, by go_num, ?_, (HB1.out.alloc HB1.out.size _).grown g6 HSZ.out (own_ge HRA.out)⟩
        rw [HE.out, cells_snoc, List.length_append, show (L.take k).length = k by rw [List.length_take]; omega]
        exact own6
      case measure => simp [intOf]; omega
    · obtain rfl : k = L.length := by omega
      rw [List.take_length] at HR
      go_wp2
      go_ret
      exact ⟨_, rfl, HR.out, HB.out⟩
set_option maxRecDepth 100000 in
set_option maxHeartbeats 4000000 in
theorem same_any {bad bad' : Nat → Prop} (ad : Option Addr) (c : Nat) (ad' : Option Addr) (c' : Nat) (h : Sees w bad ad L) (h' : Sees w bad' ad' L) (hl : L.length ≤ 1000) :
    Calls Try.prog 19 #[.slice ad L.length c, .slice ad' L.length c'] w fun e w' => e = .returned (.bool true) ∧ Below w.heap.size w w' := by
  have HO := Lib.hid h
  have HP := Lib.hid h'
  have hne : ((L.length : Int) != (L.length : Int)) = false := bne_self_eq_false _
  clear h h'
  go_enter Try.func19, Try.ntmps19
  go_wp2
  go_loopw [5] (fun i wr => ∃ k : Nat, k ≤ L.length ∧ i = .int .i64 k ∧ Below w.heap.size w wr) (fun i _ => L.length - (intOf i).toNat)
  case atStart => exact ⟨0, Nat.zero_le _, rfl, Below.refl _ _⟩
  case round =>
    obtain ⟨k, hk, rfl, hbel⟩ := hrel
    have HB := Lib.hid hbel
    clear hbel
    by_cases hlt : k < L.length
    · obtain ⟨p, hp⟩ : ∃ p, L[k]? = some p := ⟨_, List.getElem?_eq_getElem hlt⟩
      obtain ⟨g, off, rfl, hg, _, d0, d1, d2⟩ := (HO.out.below HB.out).get k p hp
      obtain ⟨g', off', rfl, hg', _, e0, e1, e2⟩ := (HP.out.below HB.out).get k p hp
      clear hp
      go_wp2
      go_quiet (fail)
      have HBn := Lib.hid (Below.drewN HB.out nq)
      go_wp2
      go_roundw
      case rel => exact ⟨k + 1, by omega, by go_num, HBn.out⟩
      case measure => simp [intOf]; omega
    · obtain rfl : k = L.length := by omega
      go_wp2
      go_ret
      exact ⟨rfl, HB.out⟩
set_option maxRecDepth 100000 in
set_option maxHeartbeats 4000000 in
theorem sameIds_any {b1 b2 : Nat} {E : List Lz} (ad : Option Addr) (c : Nat) (ad' : Option Addr) (c' : Nat) (h : w.ownsRow b1 3 1 (.slice ad E.length c) E.length (ids E)) (h' : w.ownsRow b2 3 1 (.slice ad' E.length c') E.length (ids E)) (hl : E.length ≤ 1000) :
    Calls Try.prog 22 #[.slice ad E.length c, .slice ad' E.length c'] w fun e w' => e = .returned (.bool true) ∧ Below w.heap.size w w' := by
  have HO := Lib.hid h
  have HP := Lib.hid h'
  have hne : ((E.length : Int) != (E.length : Int)) = false := bne_self_eq_false _
  clear h h'
  go_enter Try.func22, Try.ntmps22
  go_wp2
  go_loopw [5] (fun i wr => ∃ k : Nat, k ≤ E.length ∧ i = .int .i64 k ∧ Below w.heap.size w wr) (fun i _ => E.length - (intOf i).toNat)
  case atStart => exact ⟨0, Nat.zero_le _, rfl, Below.refl _ _⟩
  case round =>
    obtain ⟨k, hk, rfl, hbel⟩ := hrel
    have HB := Lib.hid hbel
    clear hbel
    by_cases hlt : k < E.length
    · obtain ⟨p, hp⟩ : ∃ p, E[k]? = some p := ⟨_, List.getElem?_eq_getElem hlt⟩
      obtain ⟨g, cp, he, hg, d0⟩ := int_cells (own_stays HO.out (fun i hi => HB.out.block i (own_lt HO.out i hi))) k p hp
      obtain ⟨rfl, rfl⟩ : ad = some ⟨g, 0, none⟩ ∧ c = cp := by injection he with e1 e2 e3; exact ⟨e1, e3⟩
      obtain ⟨g', cp', he', hg', e0⟩ := int_cells (own_stays HP.out (fun i hi => HB.out.block i (own_lt HP.out i hi))) k p hp
      obtain ⟨rfl, rfl⟩ : ad' = some ⟨g', 0, none⟩ ∧ c' = cp' := by injection he' with e1 e2 e3; exact ⟨e1, e3⟩
      clear hp he he'
      go_wp2
      go_quiet (fail)
      have HBn := Lib.hid (Below.drewN HB.out nq)
      go_wp2
      go_roundw
      case rel => exact ⟨k + 1, by omega, by go_num, HBn.out⟩
      case measure => simp [intOf]; omega
    · obtain rfl : k = E.length := by omega
      go_wp2
      go_ret
      exact ⟨rfl, HB.out⟩
theorem src3 (w : World) (x : Int) : Src (w.alloc (.cells #[.int .i64 x] 3)) (some ⟨w.heap.size, 0, none⟩) 1 1 [.int .i64 x] := by
  refine ⟨rfl, by simp [Value.oneCell'], .inr ⟨_, rfl, fun j u hj => ?_⟩⟩
  rw [Addr.add_lit, Nat.zero_add, (Box.new w 3 #[.int .i64 x]).cell j]
  simpa using hj
set_option maxRecDepth 100000 in
set_option maxHeartbeats 4000000 in
theorem rended_any {bad : Nat → Prop} (ad : Option Addr) (c : Nat) (now : Int) (h : Sees w bad ad L) (hl : L.length ≤ 1000) (hv : ∀ p ∈ L, rightB p = true) :
    Calls Try.prog 23 #[.slice ad L.length c, .int .i64 now] w fun e w' => ∃ v', e = .returned v' ∧ w'.ownsRow w.heap.size 3 1 v' (endL L now).length (ids (endL L now)) ∧ Below w.heap.size w w' := by
  have HO := Lib.hid h
  have HV := Lib.hid hv
  have C0 := Lib.hid (fun w' => rclock_any now w')
  unfold endL
  obtain ⟨cb, hcb⟩ : ∃ cb, cb = clockB now := ⟨_, rfl⟩
  have e0 : (decide (0 ≤ now) && decide (now ≤ 1099511627776)) = cb := by rw [hcb]; rfl
  have HC := Lib.hid e0
  rw [e0] at C0
  rw [← hcb]
  obtain ⟨i0, hi, hz0, hz1, hz2⟩ := info_parts row3
  have HI := Lib.hid hi
  have HZZ := Lib.hid hz0
  clear h hi hz0 hcb e0 hv
  cases cb
  · go_enter Try.func23, Try.ntmps23
    go_wp2
    go_loopw [5, 6] (fun lv i wr => lv = .slice none 0 0 ∧ i = .int .i64 0 ∧ wr = w) (fun _ i _ => 0)
    case atStart => exact ⟨rfl, rfl, rfl⟩
    case round =>
      obtain ⟨rfl, rfl, rfl⟩ := hrel
      by_cases h0 : L.length = 0
      · rw [h0]
        go_wp2
        go_ret
        exact ⟨_, rfl, World.ownsRow_nil _ _ _ _, Below.refl _ _⟩
      · go_wp2_with fail
        refine (C0.out _).mono ?_
        rintro e w1 ⟨rfl, rfl⟩
        go_wp2
        go_ret
        exact ⟨_, rfl, World.ownsRow_nil _ _ _ _, Below.refl _ _⟩
  · go_enter Try.func23, Try.ntmps23
    go_wp2
    go_loopw [5, 6] (fun lv i wr => ∃ k : Nat, k ≤ L.length ∧ i = .int .i64 k ∧ wr.ownsRow w.heap.size 3 1 lv (lateL L now k).length (ids (lateL L now k)) ∧ Below w.heap.size w wr) (fun _ i _ => L.length - (intOf i).toNat)
    case atStart => exact ⟨0, Nat.zero_le _, rfl, World.ownsRow_nil _ _ _ _, Below.refl _ _⟩
    case round =>
      obtain ⟨k, hk, rfl, hR, hbel⟩ := hrel
      obtain ⟨lad, lc, rfl, _⟩ := own_shape hR
      have hlk : (lateL L now k).length ≤ k := lateL_len L now k
      have HR := Lib.hid hR
      have HB := Lib.hid hbel
      clear hR hbel
      by_cases hlt : k < L.length
      · obtain ⟨p, hp⟩ : ∃ p, L[k]? = some p := ⟨_, List.getElem?_eq_getElem hlt⟩
        obtain ⟨g, off, rfl, hg, _, d0, d1, d2⟩ := (HO.out.below HB.out).get k p hp
        have hr := HV.out p (List.mem_of_getElem? hp)
        simp only [rightB, decide_eq_true_eq] at hr
        obtain ⟨r1, r2, r3, r4, r5, r6⟩ := hr
        have hn : 0 ≤ now ∧ now ≤ 1099511627776 := by have := HC.out; simp only [Bool.and_eq_true, decide_eq_true_eq] at this; exact this
        obtain ⟨hn1, hn2⟩ := hn
        by_cases hla : p.2.1 < now - p.2.2
        · have HLA := Lib.hid (lateL_yes (now := now) hp (by simp [isLate, hla]))
          clear hp
          go_wp2_with fail
          refine (C0.out _).mono ?_
          rintro e w1 ⟨rfl, rfl⟩
          go_wp2
          go_quiet (fail)
          have HRv := Lib.hid (own_stays (w' := wr.drewN nq) HR.out (fun _ _ => rfl))
          have HBv := Lib.hid (Below.drewN HB.out nq)
          have HDv : Hid ((wr.drewN nq).cell? ⟨g, off + k * 3, none⟩ = some (.int .i64 p.1) ∧ g < (wr.drewN nq).heap.size) := ⟨d0, hg⟩
          clear d0 d1 d2 hg
          generalize wr.drewN nq = v1 at HRv HBv HDv ⊢
          obtain ⟨d0, hg⟩ := HDv.out
          have HRA := Lib.hid (HRv.out.alloc (.cells #[.int .i64 p.1] 3))
          have HSX := Lib.hid (src3 v1 p.1)
          have HSZ := Lib.hid (show w.heap.size ≤ (v1.alloc (.cells #[.int .i64 p.1] 3)).heap.size by have := HBv.out.size; simp; omega)
          go_wp2_with (at_builtin; refine wpList_append_at rfl (.tmp 30) (.tmp 36) 34 rfl w.heap.size 3 i0 _ 1 8 Try.underlying34 HI.out HZZ.out hz1 hz2 rfl (by decide) _ _ _ rfl HRA.out _ _ _ _ rfl HSX.out (by unfold maxLen; omega) (by omega) HSZ.out ?_; intro v6 w6 own6 g6 at6; obtain ⟨ad6, c6, rfl, hc6⟩ := own_shape own6)
          have hge6 := own_ge HRA.out
          go_roundw
          case rel =>
            refine ⟨k + 1, by omega, by go_num, ?_, (HBv.out.alloc HBv.out.size _).grown g6 HSZ.out hge6⟩
            rw [HLA.out, ids_snoc, List.length_append]
            exact own6
          case measure => simp [intOf]; omega
        · have HLA := Lib.hid (lateL_no (now := now) hp (by simp [isLate]; omega))
          clear hp
          go_wp2_with fail
          refine (C0.out _).mono ?_
          rintro e w1 ⟨rfl, rfl⟩
          go_wp2
          go_quiet (fail)
          have HRv := Lib.hid (own_stays (w' := wr.drewN nq) HR.out (fun _ _ => rfl))
          have HBv := Lib.hid (Below.drewN HB.out nq)
          go_wp2
          go_roundw
          case rel => exact ⟨k + 1, by omega, by go_num, by rw [HLA.out]; exact HRv.out, HBv.out⟩
          case measure => simp [intOf]; omega
      · obtain rfl : k = L.length := by omega
        go_wp2
        go_ret
        exact ⟨_, rfl, HR.out, HB.out⟩
end Go.Proofs.Ytkgnooogppkieaa

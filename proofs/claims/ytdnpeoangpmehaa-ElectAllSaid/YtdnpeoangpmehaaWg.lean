/- The walk of ElectBounds. Conditions: the calls lie in memory. -/
import Derived.Test.YtdnpeoangpmehaaWf
namespace Go.Proofs.Ytdnpeoangpmehaa
open Go.RowKit

theorem nextLim_le {s m lim : Nat} (h : lim ≤ 1000000) : lim ≤ nextLim s m lim ∧ nextLim s m lim ≤ 1000000 := by
  unfold nextLim; split <;> omega

theorem wait_quiet {s m wt lim b n : Nat} {w : World} (h : Box w b 46 (cells s m wt lim)) :
    Calls Try.prog 15 #[.pointer (some ⟨b, 0, none⟩)] (w.drewN n) fun e w'' => e = .returned (.int .i64 wt) ∧ ∃ k, w'' = w.drewN k :=
  Calls.quiet_of_same ((wait_any _ (h.drewN n)).mono fun _ _ h => ⟨h.1, h.2.symm⟩)
theorem wait_quiet0 {s m lim b n : Nat} {w : World} (h : Box w b 46 (cells s m 0 lim)) :
    Calls Try.prog 15 #[.pointer (some ⟨b, 0, none⟩)] (w.drewN n) fun e w'' => e = .returned (.int .i64 0) ∧ ∃ k, w'' = w.drewN k := wait_quiet h
theorem limit_quiet {s m wt lim b n : Nat} {w : World} (h : Box w b 46 (cells s m wt lim)) :
    Calls Try.prog 16 #[.pointer (some ⟨b, 0, none⟩)] (w.drewN n) fun e w'' => e = .returned (.int .i64 lim) ∧ ∃ k, w'' = w.drewN k :=
  Calls.quiet_of_same ((limit_any _ (h.drewN n)).mono fun _ _ h => ⟨h.1, h.2.symm⟩)

set_option maxHeartbeats 1000000 in
theorem electBounds_core (W : World) (a b c : Int) (p : Option Addr) (len cap : Nat) (zs : List Int) (hz : Ints .i64 W p len zs) :
    Calls Try.prog 7 #[.agg #[.int .i64 a, .int .i64 b, .int .i64 c], .slice p len cap] W fun e W' => e = .returned (.bool true) ∧ Below W.heap.size W W' := by
  have hlen := hz.2.2.1
  unfold maxLen at hlen
  by_cases hok : okMember a b c
  · obtain ⟨self, rfl⟩ := Int.eq_ofNat_of_zero_le hok.1
    obtain ⟨m, rfl⟩ := Int.eq_ofNat_of_zero_le (show 0 ≤ b by have := hok.2.1; omega)
    obtain ⟨s, rfl⟩ := Int.eq_ofNat_of_zero_le (show 0 ≤ c by have := hok.2.2.2.1; omega)
    obtain ⟨q1, q2, q3, q4, q5⟩ := hok
    have C1 := Lib.hid (fun w => new_box (self := self) (many := m) (span := s) ⟨q1, q2, q3, q4, q5⟩ w)
    have hlim : s * (self + 2) ≤ 9000 := Nat.le_trans (Nat.mul_le_mul (show s ≤ 1000 by omega) (show self + 2 ≤ 9 by omega)) (by omega)
    have hlim0 : s ≤ s * (self + 2) := Nat.le_mul_of_pos_right s (by omega)
    obtain ⟨lim0, hl⟩ : ∃ l, l = s * (self + 2) := ⟨_, rfl⟩
    rw [← hl] at C1 hlim hlim0
    clear hl
    have hx := box3 W self m s
    by_cases hbig : len > 5000
    · clear hx
      go_enter Try.func7, Try.ntmps7
      go_wp2_with fail
      refine (C1.out _).mono ?_
      rintro e w1 ⟨rfl, hb1, ht1⟩
      have HB := Lib.hid hb1; clear hb1
      go_wp2_with fail
      refine (alive_any _).mono ?_
      rintro e w2 ⟨rfl, hb2⟩
      go_wp2_with fail
      go_ret
      have h0 : Below W.heap.size W w1 := ((Below.refl _ _).alloc (Nat.le_refl _) _).trans (ht1.mono (by simp))
      exact ⟨rfl, h0.trans (hb2.mono h0.size)⟩
    · go_enter Try.func7, Try.ntmps7
      go_wp2_with fail
      refine (C1.out _).mono ?_
      rintro e w1 ⟨rfl, hb1, ht1⟩
      have h0 : Below W.heap.size W w1 := ((Below.refl _ _).alloc (Nat.le_refl _) _).trans (ht1.mono (by simp))
      have hx1 : Box w1 W.heap.size 23 #[.int .i64 self, .int .i64 m, .int .i64 s] := hx.below ht1 (by simp)
      simp only [World.size_alloc] at hb1
      have HB1 := Lib.hid hb1
      have HX1 := Lib.hid hx1
      have HZ := Lib.hid hz
      clear hx ht1 C1 hb1 hx1 hz
      go_wp2
      go_loopw [34] (fun i wr => ∃ k wt lim : Nat, k ≤ len ∧ i = .int .i64 k ∧ Box wr (W.heap.size + 1) 46 (cells s m wt lim) ∧ wt < lim ∧ lim ≤ 1000000 ∧ s ≤ lim ∧ Box wr W.heap.size 23 #[.int .i64 self, .int .i64 m, .int .i64 s] ∧ Below W.heap.size W wr) (fun i _ => len - (intOf i).toNat)
      case atStart => exact ⟨0, 0, lim0, Nat.zero_le _, rfl, HB1.out, by omega, by omega, by omega, HX1.out, h0⟩
      case round =>
        obtain ⟨k, wt, lim, hk, rfl, hb, hw1, hl1, hl2, hxr, hbel⟩ := hrel
        by_cases hlt : k < len
        · obtain ⟨pb, po, x, rfl, hck, hxw, ex, hpb⟩ := HZ.out.get k hlt
          rw [← hbel.cell (by exact hpb)] at hck
          have HB := Lib.hid hb
          have HX := Lib.hid hxr
          have CL := Lib.hid (limit_any wr hb)
          have HBL := Lib.hid hbel
          clear ex hxw hb h0 hxr hbel
          by_cases hx2 : x = 2
          · subst hx2
            have T := Lib.hid (heard_any _ HB.out)
            go_wp2_with fail
            refine CL.out.mono ?_
            rintro e w2 ⟨rfl, rfl⟩
            go_wp2_with fail
            refine T.out.mono ?_
            rintro e w3 ⟨rfl, hw3⟩
            have hb3 : Box w3 (W.heap.size + 1) 46 (cells s m 0 lim) := hw3 ▸ HB.out.set 2 _
            have hx3 : Box w3 W.heap.size 23 #[.int .i64 self, .int .i64 m, .int .i64 s] := hw3 ▸ HX.out.set_other (by simp) _
            have hl3 : Below W.heap.size W w3 := hw3 ▸ HBL.out.setCell (by simp) _
            clear hw3
            have c2 : w3.cell? ⟨W.heap.size, 2, none⟩ = some (.int .i64 s) := hx3.cell 2
            have HB3 := Lib.hid hb3
            have HX3 := Lib.hid hx3
            have HL3 := Lib.hid hl3
            have d1 : decide ((lim : Int) < (lim : Int)) = false := by simp; try omega
            have d2 : decide ((1000000 : Int) < (lim : Int)) = false := by simp; try omega
            have d3 : decide ((0 : Int) < 0) = false := by simp; try omega
            have d4 : decide ((lim : Int) ≤ (0 : Int)) = false := by simp; try omega
            have d5 : True := trivial
            have d6 : ¬ lim = 0 := by omega
            have d7 : ¬ s = 0 := by omega
            clear hb3 hx3 hl3
            go_wp2
            go_quiet (first | (go_at_call 15; exact wait_quiet0 HB3.out) | (go_at_call 16; exact limit_quiet HB3.out))
            go_wp2
            go_roundw
            case rel => exact ⟨k + 1, 0, lim, by omega, by go_num, HB3.out.drewN _, by omega, by omega, by omega, HX3.out.drewN _, Below.drewN HL3.out _⟩
            case measure => simp [intOf]; omega
          · by_cases hx1 : x = 1
            · subst hx1
              by_cases hn : s ≤ wt + 1
              · have T := Lib.hid (tick_nudge (s := s) (m := m) (wt := wt) (lim := lim) (by unfold Small; omega) hn wr HB.out)
                go_wp2_with fail
                refine CL.out.mono ?_
                rintro e w2 ⟨rfl, rfl⟩
                go_wp2_with fail
                refine T.out.mono ?_
                rintro e w3 ⟨rfl, hb3, ht3⟩
                have hx3 : Box w3 W.heap.size 23 #[.int .i64 self, .int .i64 m, .int .i64 s] := HX.out.touch ht3 (by omega)
                have hl3 : Below W.heap.size W w3 := Below.touch HBL.out ht3 (Nat.le_refl _) (by rintro j rfl; omega)
                clear ht3
                have c2 : w3.cell? ⟨W.heap.size, 2, none⟩ = some (.int .i64 s) := hx3.cell 2
                have HB3 := Lib.hid hb3
                have HX3 := Lib.hid hx3
                have HL3 := Lib.hid hl3
                have d1 : decide ((lim : Int) < (lim : Int)) = false := by simp; try omega
                have d2 : decide ((1000000 : Int) < (lim : Int)) = false := by simp; try omega
                have d3 : decide ((0 : Int) < 0) = false := by simp; try omega
                have d4 : decide ((lim : Int) ≤ (0 : Int)) = false := by simp; try omega
                have d5 : decide ((s : Int) ≤ (0 : Int)) = false := by simp; try omega
                have d6 : ¬ lim = 0 := by omega
                have d7 : ¬ s = 0 := by omega
                clear hb3 hx3 hl3
                go_wp2
                go_quiet (first | (go_at_call 15; exact wait_quiet0 HB3.out) | (go_at_call 16; exact limit_quiet HB3.out))
                go_wp2
                go_roundw
                case rel => exact ⟨k + 1, 0, lim, by omega, by go_num, HB3.out.drewN _, by omega, by omega, by omega, HX3.out.drewN _, Below.drewN HL3.out _⟩
                case measure => simp [intOf]; omega
              · have T := Lib.hid (tick_still (s := s) (m := m) (wt := wt) (lim := lim) (by unfold Small; omega) (by omega) wr HB.out)
                go_wp2_with fail
                refine CL.out.mono ?_
                rintro e w2 ⟨rfl, rfl⟩
                go_wp2_with fail
                refine T.out.mono ?_
                rintro e w3 ⟨rfl, hb3, ht3⟩
                have hx3 : Box w3 W.heap.size 23 #[.int .i64 self, .int .i64 m, .int .i64 s] := HX.out.touch ht3 (by omega)
                have hl3 : Below W.heap.size W w3 := Below.touch HBL.out ht3 (Nat.le_refl _) (by rintro j rfl; omega)
                clear ht3
                have c2 : w3.cell? ⟨W.heap.size, 2, none⟩ = some (.int .i64 s) := hx3.cell 2
                have HB3 := Lib.hid hb3
                have HX3 := Lib.hid hx3
                have HL3 := Lib.hid hl3
                have d1 : decide ((lim : Int) < (lim : Int)) = false := by simp; try omega
                have d2 : decide ((1000000 : Int) < (lim : Int)) = false := by simp; try omega
                have d3 : decide (((wt : Int) + 1) < 0) = false := by simp; try omega
                have d4 : decide ((lim : Int) ≤ ((wt : Int) + 1)) = false := by simp; try omega
                have d5 : decide ((s : Int) ≤ ((wt : Int) + 1)) = false := by simp; try omega
                have d6 : ¬ lim = 0 := by omega
                have d7 : ¬ s = 0 := by omega
                clear hb3 hx3 hl3
                go_wp2
                go_quiet (first | (go_at_call 15; exact wait_quiet HB3.out) | (go_at_call 16; exact limit_quiet HB3.out))
                go_wp2
                go_roundw
                case rel => exact ⟨k + 1, (wt + 1), lim, by omega, by go_num, HB3.out.drewN _, by omega, by omega, by omega, HX3.out.drewN _, Below.drewN HL3.out _⟩
                case measure => simp [intOf]; omega
            · have hE2 : (x == 2) = false := by simp; exact hx2
              have hE1 : (x == 1) = false := by simp; exact hx1
              clear hx1 hx2
              by_cases hn : lim ≤ wt + 1
              · have T := Lib.hid (tick_lead (s := s) (m := m) (wt := wt) (lim := lim) (by unfold Small; omega) hn wr HB.out)
                have hnl := nextLim_le (s := s) (m := m) hl1
                obtain ⟨nl, hnl'⟩ : ∃ l, l = nextLim s m lim := ⟨_, rfl⟩
                rw [← hnl'] at T hnl
                clear hnl'
                obtain ⟨hnl1, hnl2⟩ := hnl
                go_wp2_with fail
                refine CL.out.mono ?_
                rintro e w2 ⟨rfl, rfl⟩
                go_wp2_with fail
                refine T.out.mono ?_
                rintro e w3 ⟨rfl, hb3, ht3⟩
                have hx3 : Box w3 W.heap.size 23 #[.int .i64 self, .int .i64 m, .int .i64 s] := HX.out.touch ht3 (by omega)
                have hl3 : Below W.heap.size W w3 := Below.touch HBL.out ht3 (Nat.le_refl _) (by rintro j rfl; omega)
                clear ht3
                have c2 : w3.cell? ⟨W.heap.size, 2, none⟩ = some (.int .i64 s) := hx3.cell 2
                have HB3 := Lib.hid hb3
                have HX3 := Lib.hid hx3
                have HL3 := Lib.hid hl3
                have d1 : decide ((nl : Int) < (lim : Int)) = false := by simp; try omega
                have d2 : decide ((1000000 : Int) < (nl : Int)) = false := by simp; try omega
                have d3 : decide ((0 : Int) < 0) = false := by simp; try omega
                have d4 : decide ((nl : Int) ≤ (0 : Int)) = false := by simp; try omega
                have d5 : True := trivial
                have d6 : ¬ nl = 0 := by omega
                have d7 : ¬ s = 0 := by omega
                clear hb3 hx3 hl3
                go_wp2
                go_quiet (first | (go_at_call 15; exact wait_quiet0 HB3.out) | (go_at_call 16; exact limit_quiet HB3.out))
                go_wp2
                go_roundw
                case rel => exact ⟨k + 1, 0, nl, by omega, by go_num, HB3.out.drewN _, by omega, by omega, by omega, HX3.out.drewN _, Below.drewN HL3.out _⟩
                case measure => simp [intOf]; omega
              · have T := Lib.hid (tick_wait (s := s) (m := m) (wt := wt) (lim := lim) (by unfold Small; omega) (by omega) wr HB.out)
                go_wp2_with fail
                refine CL.out.mono ?_
                rintro e w2 ⟨rfl, rfl⟩
                go_wp2_with fail
                refine T.out.mono ?_
                rintro e w3 ⟨rfl, hb3, ht3⟩
                have hx3 : Box w3 W.heap.size 23 #[.int .i64 self, .int .i64 m, .int .i64 s] := HX.out.touch ht3 (by omega)
                have hl3 : Below W.heap.size W w3 := Below.touch HBL.out ht3 (Nat.le_refl _) (by rintro j rfl; omega)
                clear ht3
                have c2 : w3.cell? ⟨W.heap.size, 2, none⟩ = some (.int .i64 s) := hx3.cell 2
                have HB3 := Lib.hid hb3
                have HX3 := Lib.hid hx3
                have HL3 := Lib.hid hl3
                have d1 : decide ((lim : Int) < (lim : Int)) = false := by simp; try omega
                have d2 : decide ((1000000 : Int) < (lim : Int)) = false := by simp; try omega
                have d3 : decide (((wt : Int) + 1) < 0) = false := by simp; try omega
                have d4 : decide ((lim : Int) ≤ ((wt : Int) + 1)) = false := by simp; try omega
                have d5 : True := trivial
                have d6 : ¬ lim = 0 := by omega
                have d7 : ¬ s = 0 := by omega
                clear hb3 hx3 hl3
                go_wp2
                go_quiet (first | (go_at_call 15; exact wait_quiet HB3.out) | (go_at_call 16; exact limit_quiet HB3.out))
                go_wp2
                go_roundw
                case rel => exact ⟨k + 1, (wt + 1), lim, by omega, by go_num, HB3.out.drewN _, by omega, by omega, by omega, HX3.out.drewN _, Below.drewN HL3.out _⟩
                case measure => simp [intOf]; omega
        · clear hb hxr
          go_wp2_with fail
          refine (alive_any _).mono ?_
          rintro e w4 ⟨rfl, hb4⟩
          go_wp2_with fail
          go_ret
          exact ⟨rfl, hbel.trans (hb4.mono hbel.size)⟩
  · have C1 := Lib.hid (fun w => new_bad a b c hok w)
    clear hok
    go_enter Try.func7, Try.ntmps7
    go_wp2_with fail
    refine (C1.out _).mono ?_
    rintro e w1 ⟨rfl, rfl⟩
    go_wp2_with fail
    refine (alive_any _).mono ?_
    rintro e w2 ⟨rfl, hb2⟩
    go_wp2_with fail
    go_ret
    exact ⟨rfl, ((Below.refl _ _).alloc (Nat.le_refl _) _).trans (hb2.mono (by simp))⟩

theorem electBounds_walk {H : Type} {enc : TypeId × Value → H} {base : Nat} {p0 : List MemPlace} (W : World) (v0 : Value) (d0 : DataW H) (hv : Value.okWide Try.prog W .any base 23 v0)
    (h0 : DataW.Trod enc Try.prog W 0 (fun _ => true) true 23 v0 d0 p0) (_b0 : ∀ n ∈ d0.weights Try.prog 23, n ≤ 140737488351232) (a1 : Option Addr) (len1 cap1 : Nat) (z1 : List Int) (w1 : Ints .i64 W a1 len1 z1) (_c1 : len1 ≤ cap1) (_b1 : len1 * 8 ≤ 140737488351232) :
    Calls Try.prog 7 #[v0, .slice a1 len1 cap1] W fun e W' => e = .returned (.bool true) ∧ Below W.heap.size W W' := by
  obtain ⟨a, b, c, rfl, _⟩ := three_open hv h0
  exact electBounds_core W a b c a1 len1 cap1 z1 w1
end Go.Proofs.Ytdnpeoangpmehaa

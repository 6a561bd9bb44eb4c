/- The walk of ElectAll. Conditions: the calls lie in memory. -/
import Derived.Test.YtdnpeoangpmehaaWh
namespace Go.Proofs.Ytdnpeoangpmehaa
open Go.RowKit

/-- the document's timer in memory. -/
def rcells (s m wt lim : Nat) : Array Value := #[.int .i64 m, .int .i64 s, .int .i64 wt, .int .i64 lim]

section
variable {s m wt lim : Nat}
theorem rtick_wait (hs : Small s m wt lim) (h : wt + 1 < lim) (w : World) :
    Calls Try.prog 14 #[rv s m wt lim, .bool false] w fun e w' => e = .returned (.tuple #[rv s m (wt + 1) lim, .bool false, .bool false]) ∧ Below w.heap.size w w' := by
  have := rtick_any false hs w
  rw [show tick false s m wt lim = (false, false, wt + 1, lim) by simp [tick]; omega] at this
  exact this
theorem rtick_lead (hs : Small s m wt lim) (h : lim ≤ wt + 1) (w : World) :
    Calls Try.prog 14 #[rv s m wt lim, .bool false] w fun e w' => e = .returned (.tuple #[rv s m 0 (nextLim s m lim), .bool true, .bool false]) ∧ Below w.heap.size w w' := by
  have := rtick_any false hs w
  rw [show tick false s m wt lim = (true, false, 0, nextLim s m lim) by simp [tick, nextLim, h]] at this
  exact this
theorem rtick_nudge (hs : Small s m wt lim) (h : s ≤ wt + 1) (w : World) :
    Calls Try.prog 14 #[rv s m wt lim, .bool true] w fun e w' => e = .returned (.tuple #[rv s m 0 lim, .bool false, .bool true]) ∧ Below w.heap.size w w' := by
  have := rtick_any true hs w
  rw [show tick true s m wt lim = (false, true, 0, lim) by simp [tick, h]] at this
  exact this
theorem rtick_still (hs : Small s m wt lim) (h : wt + 1 < s) (w : World) :
    Calls Try.prog 14 #[rv s m wt lim, .bool true] w fun e w' => e = .returned (.tuple #[rv s m (wt + 1) lim, .bool false, .bool false]) ∧ Below w.heap.size w w' := by
  have := rtick_any true hs w
  rw [show tick true s m wt lim = (false, false, wt + 1, lim) by simp [tick]; omega] at this
  exact this
end

theorem after4 {W w : World} {bt br T f : Nat} {cb : Array Value} {c0 c1 c2 c3 v0 v1 v2 v3 : Value} {args : Array Value} {Q : Ending → World → Prop} {o : Obj}
    (HB : Box w bt T cb) (HR : Box w br 34 #[c0, c1, c2, c3]) (HL : Below W.heap.size W w) (hne : bt ≠ br) (hb : W.heap.size ≤ br)
    (h : ∀ w5, Box w5 bt T cb → Box w5 br 34 #[v0, v1, v2, v3] → Below W.heap.size W w5 → Calls Try.prog f args w5 Q) :
    Calls Try.prog f args (((((w.setCell ⟨br, 0, none⟩ v0).setCell ⟨br, 1, none⟩ v1).setCell ⟨br, 2, none⟩ v2).setCell ⟨br, 3, none⟩ v3).alloc o) Q := by
  refine h _ (((((HB.set_other hne _).set_other hne _).set_other hne _).set_other hne _).alloc _) ?_ ?_
  · have := (((((HR.set 0 v0).set 1 v1).set 2 v2).set 3 v3).alloc o)
    simpa using this
  · have h1 := HL.setCell (p := ⟨br, 0, none⟩) hb v0
    have h2 := h1.setCell (p := ⟨br, 1, none⟩) hb v1
    have h3 := h2.setCell (p := ⟨br, 2, none⟩) hb v2
    have h4 := h3.setCell (p := ⟨br, 3, none⟩) hb v3
    exact h4.alloc h4.size _

set_option maxHeartbeats 1000000 in
theorem electAll_core (W : World) (a b c : Int) (p : Option Addr) (len cap : Nat) (zs : List Int) (hz : Ints .i64 W p len zs) :
    Calls Try.prog 5 #[.agg #[.int .i64 a, .int .i64 b, .int .i64 c], .slice p len cap] W fun e W' => e = .returned (.bool true) ∧ Below W.heap.size W W' := by
  have hlen := hz.2.2.1
  unfold maxLen at hlen
  have hx := box3 W a b c
  by_cases hok : okMember a b c
  · obtain ⟨self, rfl⟩ := Int.eq_ofNat_of_zero_le hok.1
    obtain ⟨m, rfl⟩ := Int.eq_ofNat_of_zero_le (show 0 ≤ b by have := hok.2.1; omega)
    obtain ⟨s, rfl⟩ := Int.eq_ofNat_of_zero_le (show 0 ≤ c by have := hok.2.2.2.1; omega)
    obtain ⟨q1, q2, q3, q4, q5⟩ := hok
    have C1 := Lib.hid (fun w => new_box (self := self) (many := m) (span := s) ⟨q1, q2, q3, q4, q5⟩ w)
    have C2 := Lib.hid (fun w => rnew_ok (self := self) (many := m) (span := s) ⟨q1, q2, q3, q4, q5⟩ w)
    have hlim : s * (self + 2) ≤ 9000 := Nat.le_trans (Nat.mul_le_mul (show s ≤ 1000 by omega) (show self + 2 ≤ 9 by omega)) (by omega)
    have hlim0 : s ≤ s * (self + 2) := Nat.le_mul_of_pos_right s (by omega)
    obtain ⟨lim0, hl⟩ : ∃ l, l = s * (self + 2) := ⟨_, rfl⟩
    rw [← hl] at C1 C2 hlim hlim0
    clear hl
    go_enter Try.func5, Try.ntmps5
    go_wp2_with fail
    refine (C1.out _).mono ?_
    rintro e w1 ⟨rfl, hb1, ht1⟩
    have h0 : Below W.heap.size W w1 := ((Below.refl _ _).alloc (Nat.le_refl _) _).trans (ht1.mono (by simp))
    have hx1 : Box w1 W.heap.size 23 #[.int .i64 self, .int .i64 m, .int .i64 s] := hx.below ht1 (by simp)
    simp only [World.size_alloc] at hb1
    have hlt1 : W.heap.size + 1 < w1.heap.size := hb1.lt
    have x0 : w1.cell? ⟨W.heap.size, 0, none⟩ = some (.int .i64 self) := hx1.cell 0
    have x1 : w1.cell? ⟨W.heap.size, 1, none⟩ = some (.int .i64 m) := hx1.cell 1
    have x2 : w1.cell? ⟨W.heap.size, 2, none⟩ = some (.int .i64 s) := hx1.cell 2
    have HB1 := Lib.hid hb1
    have HZ := Lib.hid hz
    clear hx ht1 C1 hb1 hx1 hz
    go_wp2_with fail
    refine (C2.out _).mono ?_
    rintro e w2 ⟨rfl, ht2⟩
    have h2 : Below W.heap.size W w2 := h0.trans (ht2.mono h0.size)
    have HB2 := Lib.hid (HB1.out.below ht2 hlt1)
    have hlt2 : W.heap.size + 1 < w2.heap.size := HB2.out.lt
    have HN : Hid (Box (w2.alloc (.cells (rcells s m 0 lim0) 34)) w2.heap.size 34 (rcells s m 0 lim0)) := Box.new _ _ _
    clear x0 x1 x2 ht2 C2 h0 hlt1
    unfold rv
    by_cases hbig : len > 5000
    · go_wp2_with fail
      refine (alive_any _).mono ?_
      rintro e w3 ⟨rfl, hb3⟩
      go_wp2_with fail
      go_ret
      exact ⟨rfl, (h2.alloc h2.size _).trans (hb3.mono (Nat.le_trans h2.size (by simp)))⟩
    · go_wp2
      obtain ⟨br, hbr⟩ : ∃ g, g = w2.heap.size := ⟨_, rfl⟩
      rw [← hbr] at hlt2 HN ⊢
      have h3 : Below W.heap.size W (w2.alloc (.cells (rcells s m 0 lim0) 34)) := h2.alloc h2.size _
      have HB3 := Lib.hid (HB2.out.alloc (.cells (rcells s m 0 lim0) 34))
      have hle := h2.size
      rw [← hbr] at hle
      have H3 := Lib.hid h3
      clear h3 h2 hbr
      go_loopw [56] (fun i wr => ∃ k wt lim : Nat, k ≤ len ∧ i = .int .i64 k ∧ Box wr (W.heap.size + 1) 46 (cells s m wt lim) ∧ Box wr br 34 (rcells s m wt lim) ∧ wt < lim ∧ lim ≤ 1000000 ∧ s ≤ lim ∧ Below W.heap.size W wr) (fun i _ => len - (intOf i).toNat)
      case atStart => exact ⟨0, 0, lim0, Nat.zero_le _, rfl, HB3.out, HN.out, by omega, by omega, by omega, H3.out⟩
      case round =>
        obtain ⟨k, wt, lim, hk, rfl, hb, hr, hw1, hl1, hl2, hbel⟩ := hrel
        by_cases hlt : k < len
        · obtain ⟨pb, po, x, rfl, hck, hxw, ex, hpb⟩ := HZ.out.get k hlt
          rw [← hbel.cell (by exact hpb)] at hck
          have HB := Lib.hid hb
          have HR := Lib.hid hr
          have HBL := Lib.hid hbel
          clear ex hxw hb hr hbel
          by_cases hx2 : x = 2
          · subst hx2
            have T := Lib.hid (heard_any _ HB.out)
            go_wp2_with fail
            refine T.out.mono ?_
            rintro e w3 ⟨rfl, hw3⟩
            have hb3 := Lib.hid (show Box w3 (W.heap.size + 1) 46 (cells s m 0 lim) from hw3 ▸ HB.out.set 2 _)
            have hr3 := Lib.hid (show Box w3 br 34 (rcells s m wt lim) from hw3 ▸ HR.out.set_other (by simp; omega) _)
            have hl3 := Lib.hid (show Below W.heap.size W w3 from hw3 ▸ HBL.out.setCell (by simp) _)
            have r2 : w3.cell? ⟨br, 2, none⟩ = some (.int .i64 wt) := hr3.out.cell 2
            have r3 : w3.cell? ⟨br, 3, none⟩ = some (.int .i64 lim) := hr3.out.cell 3
            have rf := hr3.out.frozen 2
            have hb4 := Lib.hid (hb3.out.set_other (p := ⟨br, 2, none⟩) (by simp; omega) (.int .i64 0))
            have hr4 := Lib.hid (show Box (w3.setCell ⟨br, 2, none⟩ (.int .i64 0)) br 34 (rcells s m 0 lim) from hr3.out.set 2 (.int .i64 0))
            clear hw3
            go_wp2
            go_quiet (first | (go_at_call 15; exact wait_quiet0 hb4.out) | (go_at_call 16; exact limit_quiet hb4.out))
            go_wp2
            go_roundw
            case rel => exact ⟨k + 1, 0, lim, by omega, by go_num, hb4.out.drewN _, hr4.out.drewN _, by omega, by omega, by omega, Below.drewN (hl3.out.setCell (p := ⟨br, 2, none⟩) (by simp; omega) _) _⟩
            case measure => simp [intOf]; omega
          · by_cases hx1 : x = 1
            · subst hx1
              have c0 : wr.cell? ⟨br, 0, none⟩ = some (.int .i64 m) := HR.out.cell 0
              have c1 : wr.cell? ⟨br, 1, none⟩ = some (.int .i64 s) := HR.out.cell 1
              have c2 : wr.cell? ⟨br, 2, none⟩ = some (.int .i64 wt) := HR.out.cell 2
              have c3 : wr.cell? ⟨br, 3, none⟩ = some (.int .i64 lim) := HR.out.cell 3
              by_cases hn : s ≤ wt + 1
              · have T1 := Lib.hid (rtick_nudge (s := s) (m := m) (wt := wt) (lim := lim) (by unfold Small; omega) (hn) wr)
                have T2 := Lib.hid (fun w h => tick_nudge (s := s) (m := m) (wt := wt) (lim := lim) (b := W.heap.size + 1) (by unfold Small; omega) (hn) w h)
                go_wp2_with fail
                refine T1.out.mono ?_
                rintro e w4 ⟨rfl, ht4⟩
                have hbt : W.heap.size + 1 < wr.heap.size := HB.out.lt
                have hbrl : br < wr.heap.size := HR.out.lt
                have HB4 := Lib.hid (HB.out.below ht4 hbt)
                have HR4 := Lib.hid (HR.out.below ht4 hbrl)
                have HL4 := Lib.hid (HBL.out.trans (ht4.mono HBL.out.size))
                have r0 : w4.cell? ⟨br, 0, none⟩ = some (.int .i64 m) := HR4.out.cell 0
                have r1 : w4.cell? ⟨br, 1, none⟩ = some (.int .i64 s) := HR4.out.cell 1
                have r2 : w4.cell? ⟨br, 2, none⟩ = some (.int .i64 wt) := HR4.out.cell 2
                have r3 : w4.cell? ⟨br, 3, none⟩ = some (.int .i64 lim) := HR4.out.cell 3
                have f0 := HR4.out.frozen 0
                have f1 := HR4.out.frozen 1
                have f2 := HR4.out.frozen 2
                have f3 := HR4.out.frozen 3
                have hbr4 : br < w4.heap.size := HR4.out.lt
                clear c0 c1 c2 c3 ht4 hbt hbrl
                unfold rv
                go_wp2_with fail
                refine after4 HB4.out HR4.out HL4.out (by omega) (by omega) ?_
                intro w5 hb5 hr5 hl5
                refine (T2.out w5 hb5).mono ?_
                rintro e w6 ⟨rfl, hb6, ht6⟩
                have hr5' : Box w5 br 34 (rcells s m 0 lim) := hr5
                have HB6 := Lib.hid hb6
                have HR6 := Lib.hid (hr5'.touch ht6 (by omega))
                have HL6 := Lib.hid (Below.touch hl5 ht6 (Nat.le_refl _) (by rintro j rfl; omega))
                clear r0 r1 r2 r3 f0 f1 f2 f3 hbr4 hb5 hr5 hl5 hr5' hb6 ht6 T1 T2 HB4 HR4 HL4 HB HR HBL
                have r2 : w6.cell? ⟨br, 2, none⟩ = some (.int .i64 0) := HR6.out.cell 2
                have r3 : w6.cell? ⟨br, 3, none⟩ = some (.int .i64 lim) := HR6.out.cell 3
                go_wp2
                go_quiet (first | (go_at_call 15; exact wait_quiet0 HB6.out) | (go_at_call 16; exact limit_quiet HB6.out))
                go_wp2
                go_roundw
                case rel => exact ⟨k + 1, 0, lim, by omega, by go_num, HB6.out.drewN _, HR6.out.drewN _, by omega, by omega, by omega, Below.drewN HL6.out _⟩
                case measure => simp [intOf]; omega
              · have T1 := Lib.hid (rtick_still (s := s) (m := m) (wt := wt) (lim := lim) (by unfold Small; omega) (by omega) wr)
                have T2 := Lib.hid (fun w h => tick_still (s := s) (m := m) (wt := wt) (lim := lim) (b := W.heap.size + 1) (by unfold Small; omega) (by omega) w h)
                go_wp2_with fail
                refine T1.out.mono ?_
                rintro e w4 ⟨rfl, ht4⟩
                have hbt : W.heap.size + 1 < wr.heap.size := HB.out.lt
                have hbrl : br < wr.heap.size := HR.out.lt
                have HB4 := Lib.hid (HB.out.below ht4 hbt)
                have HR4 := Lib.hid (HR.out.below ht4 hbrl)
                have HL4 := Lib.hid (HBL.out.trans (ht4.mono HBL.out.size))
                have r0 : w4.cell? ⟨br, 0, none⟩ = some (.int .i64 m) := HR4.out.cell 0
                have r1 : w4.cell? ⟨br, 1, none⟩ = some (.int .i64 s) := HR4.out.cell 1
                have r2 : w4.cell? ⟨br, 2, none⟩ = some (.int .i64 wt) := HR4.out.cell 2
                have r3 : w4.cell? ⟨br, 3, none⟩ = some (.int .i64 lim) := HR4.out.cell 3
                have f0 := HR4.out.frozen 0
                have f1 := HR4.out.frozen 1
                have f2 := HR4.out.frozen 2
                have f3 := HR4.out.frozen 3
                have hbr4 : br < w4.heap.size := HR4.out.lt
                clear c0 c1 c2 c3 ht4 hbt hbrl
                unfold rv
                go_wp2_with fail
                refine after4 HB4.out HR4.out HL4.out (by omega) (by omega) ?_
                intro w5 hb5 hr5 hl5
                refine (T2.out w5 hb5).mono ?_
                rintro e w6 ⟨rfl, hb6, ht6⟩
                have hr5' : Box w5 br 34 (rcells s m (wt + 1) lim) := hr5
                have HB6 := Lib.hid hb6
                have HR6 := Lib.hid (hr5'.touch ht6 (by omega))
                have HL6 := Lib.hid (Below.touch hl5 ht6 (Nat.le_refl _) (by rintro j rfl; omega))
                clear r0 r1 r2 r3 f0 f1 f2 f3 hbr4 hb5 hr5 hl5 hr5' hb6 ht6 T1 T2 HB4 HR4 HL4 HB HR HBL
                have r2 : w6.cell? ⟨br, 2, none⟩ = some (.int .i64 ((wt : Int) + 1)) := HR6.out.cell 2
                have r3 : w6.cell? ⟨br, 3, none⟩ = some (.int .i64 lim) := HR6.out.cell 3
                go_wp2
                go_quiet (first | (go_at_call 15; exact wait_quiet HB6.out) | (go_at_call 16; exact limit_quiet HB6.out))
                go_wp2
                go_roundw
                case rel => exact ⟨k + 1, (wt + 1), lim, by omega, by go_num, HB6.out.drewN _, HR6.out.drewN _, by omega, by omega, by omega, Below.drewN HL6.out _⟩
                case measure => simp [intOf]; omega
            · by_cases hx0 : x = 0
              · subst hx0
                have c0 : wr.cell? ⟨br, 0, none⟩ = some (.int .i64 m) := HR.out.cell 0
                have c1 : wr.cell? ⟨br, 1, none⟩ = some (.int .i64 s) := HR.out.cell 1
                have c2 : wr.cell? ⟨br, 2, none⟩ = some (.int .i64 wt) := HR.out.cell 2
                have c3 : wr.cell? ⟨br, 3, none⟩ = some (.int .i64 lim) := HR.out.cell 3
                by_cases hn : lim ≤ wt + 1
                · have T1 := Lib.hid (rtick_lead (s := s) (m := m) (wt := wt) (lim := lim) (by unfold Small; omega) (hn) wr)
                  have T2 := Lib.hid (fun w h => tick_lead (s := s) (m := m) (wt := wt) (lim := lim) (b := W.heap.size + 1) (by unfold Small; omega) (hn) w h)
                  have hnl := nextLim_le (s := s) (m := m) hl1
                  obtain ⟨nl, hnl'⟩ : ∃ l, l = nextLim s m lim := ⟨_, rfl⟩
                  rw [← hnl'] at T1 T2 hnl
                  clear hnl'
                  obtain ⟨hnl1, hnl2⟩ := hnl
                  go_wp2_with fail
                  refine T1.out.mono ?_
                  rintro e w4 ⟨rfl, ht4⟩
                  have hbt : W.heap.size + 1 < wr.heap.size := HB.out.lt
                  have hbrl : br < wr.heap.size := HR.out.lt
                  have HB4 := Lib.hid (HB.out.below ht4 hbt)
                  have HR4 := Lib.hid (HR.out.below ht4 hbrl)
                  have HL4 := Lib.hid (HBL.out.trans (ht4.mono HBL.out.size))
                  have r0 : w4.cell? ⟨br, 0, none⟩ = some (.int .i64 m) := HR4.out.cell 0
                  have r1 : w4.cell? ⟨br, 1, none⟩ = some (.int .i64 s) := HR4.out.cell 1
                  have r2 : w4.cell? ⟨br, 2, none⟩ = some (.int .i64 wt) := HR4.out.cell 2
                  have r3 : w4.cell? ⟨br, 3, none⟩ = some (.int .i64 lim) := HR4.out.cell 3
                  have f0 := HR4.out.frozen 0
                  have f1 := HR4.out.frozen 1
                  have f2 := HR4.out.frozen 2
                  have f3 := HR4.out.frozen 3
                  have hbr4 : br < w4.heap.size := HR4.out.lt
                  clear c0 c1 c2 c3 ht4 hbt hbrl
                  unfold rv
                  go_wp2_with fail
                  refine after4 HB4.out HR4.out HL4.out (by omega) (by omega) ?_
                  intro w5 hb5 hr5 hl5
                  refine (T2.out w5 hb5).mono ?_
                  rintro e w6 ⟨rfl, hb6, ht6⟩
                  have hr5' : Box w5 br 34 (rcells s m 0 nl) := hr5
                  have HB6 := Lib.hid hb6
                  have HR6 := Lib.hid (hr5'.touch ht6 (by omega))
                  have HL6 := Lib.hid (Below.touch hl5 ht6 (Nat.le_refl _) (by rintro j rfl; omega))
                  clear r0 r1 r2 r3 f0 f1 f2 f3 hbr4 hb5 hr5 hl5 hr5' hb6 ht6 T1 T2 HB4 HR4 HL4 HB HR HBL
                  have r2 : w6.cell? ⟨br, 2, none⟩ = some (.int .i64 0) := HR6.out.cell 2
                  have r3 : w6.cell? ⟨br, 3, none⟩ = some (.int .i64 nl) := HR6.out.cell 3
                  go_wp2
                  go_quiet (first | (go_at_call 15; exact wait_quiet0 HB6.out) | (go_at_call 16; exact limit_quiet HB6.out))
                  go_wp2
                  go_roundw
                  case rel => exact ⟨k + 1, 0, nl, by omega, by go_num, HB6.out.drewN _, HR6.out.drewN _, by omega, by omega, by omega, Below.drewN HL6.out _⟩
                  case measure => simp [intOf]; omega
                · have T1 := Lib.hid (rtick_wait (s := s) (m := m) (wt := wt) (lim := lim) (by unfold Small; omega) (by omega) wr)
                  have T2 := Lib.hid (fun w h => tick_wait (s := s) (m := m) (wt := wt) (lim := lim) (b := W.heap.size + 1) (by unfold Small; omega) (by omega) w h)
                  go_wp2_with fail
                  refine T1.out.mono ?_
                  rintro e w4 ⟨rfl, ht4⟩
                  have hbt : W.heap.size + 1 < wr.heap.size := HB.out.lt
                  have hbrl : br < wr.heap.size := HR.out.lt
                  have HB4 := Lib.hid (HB.out.below ht4 hbt)
                  have HR4 := Lib.hid (HR.out.below ht4 hbrl)
                  have HL4 := Lib.hid (HBL.out.trans (ht4.mono HBL.out.size))
                  have r0 : w4.cell? ⟨br, 0, none⟩ = some (.int .i64 m) := HR4.out.cell 0
                  have r1 : w4.cell? ⟨br, 1, none⟩ = some (.int .i64 s) := HR4.out.cell 1
                  have r2 : w4.cell? ⟨br, 2, none⟩ = some (.int .i64 wt) := HR4.out.cell 2
                  have r3 : w4.cell? ⟨br, 3, none⟩ = some (.int .i64 lim) := HR4.out.cell 3
                  have f0 := HR4.out.frozen 0
                  have f1 := HR4.out.frozen 1
                  have f2 := HR4.out.frozen 2
                  have f3 := HR4.out.frozen 3
                  have hbr4 : br < w4.heap.size := HR4.out.lt
                  clear c0 c1 c2 c3 ht4 hbt hbrl
                  unfold rv
                  go_wp2_with fail
                  refine after4 HB4.out HR4.out HL4.out (by omega) (by omega) ?_
                  intro w5 hb5 hr5 hl5
                  refine (T2.out w5 hb5).mono ?_
                  rintro e w6 ⟨rfl, hb6, ht6⟩
                  have hr5' : Box w5 br 34 (rcells s m (wt + 1) lim) := hr5
                  have HB6 := Lib.hid hb6
                  have HR6 := Lib.hid (hr5'.touch ht6 (by omega))
                  have HL6 := Lib.hid (Below.touch hl5 ht6 (Nat.le_refl _) (by rintro j rfl; omega))
                  clear r0 r1 r2 r3 f0 f1 f2 f3 hbr4 hb5 hr5 hl5 hr5' hb6 ht6 T1 T2 HB4 HR4 HL4 HB HR HBL
                  have r2 : w6.cell? ⟨br, 2, none⟩ = some (.int .i64 ((wt : Int) + 1)) := HR6.out.cell 2
                  have r3 : w6.cell? ⟨br, 3, none⟩ = some (.int .i64 lim) := HR6.out.cell 3
                  go_wp2
                  go_quiet (first | (go_at_call 15; exact wait_quiet HB6.out) | (go_at_call 16; exact limit_quiet HB6.out))
                  go_wp2
                  go_roundw
                  case rel => exact ⟨k + 1, (wt + 1), lim, by omega, by go_num, HB6.out.drewN _, HR6.out.drewN _, by omega, by omega, by omega, Below.drewN HL6.out _⟩
                  case measure => simp [intOf]; omega
              · have hE2 : (x == 2) = false := by simp; exact hx2
                have hE1 : (x == 1) = false := by simp; exact hx1
                have hE0 : (x == 0) = false := by simp; exact hx0
                clear hx0 hx1 hx2
                have r2 : wr.cell? ⟨br, 2, none⟩ = some (.int .i64 wt) := HR.out.cell 2
                have r3 : wr.cell? ⟨br, 3, none⟩ = some (.int .i64 lim) := HR.out.cell 3
                go_wp2
                go_quiet (first | (go_at_call 15; exact wait_quiet HB.out) | (go_at_call 16; exact limit_quiet HB.out))
                go_wp2
                go_roundw
                case rel => exact ⟨k + 1, wt, lim, by omega, by go_num, HB.out.drewN _, HR.out.drewN _, by omega, by omega, by omega, Below.drewN HBL.out _⟩
                case measure => simp [intOf]; omega
        · clear hb hr
          go_wp2_with fail
          refine (alive_any _).mono ?_
          rintro e w4 ⟨rfl, hb4⟩
          go_wp2_with fail
          go_ret
          exact ⟨rfl, hbel.trans (hb4.mono hbel.size)⟩
  · have C1 := Lib.hid (fun w => new_bad a b c hok w)
    have C2 := Lib.hid (fun w => rnew_bad a b c hok w)
    clear hok
    go_enter Try.func5, Try.ntmps5
    go_wp2_with fail
    refine (C1.out _).mono ?_
    rintro e w1 ⟨rfl, rfl⟩
    have x0 := hx.cell 0
    have x1 := hx.cell 1
    have x2 := hx.cell 2
    simp only [List.getElem?_toArray, List.getElem?_cons_zero, List.getElem?_cons_succ] at x0 x1 x2
    have hb0 : Below W.heap.size W (W.alloc (.cells #[.int .i64 a, .int .i64 b, .int .i64 c] 23)) := (Below.refl _ _).alloc (Nat.le_refl _) _
    go_wp2_with fail
    refine (C2.out _).mono ?_
    rintro e w2 ⟨rfl, ht2⟩
    have h2 : Below W.heap.size W w2 := hb0.trans (ht2.mono hb0.size)
    clear x0 x1 x2 ht2 hb0 hx
    unfold rv
    go_wp2_with fail
    refine (alive_any _).mono ?_
    rintro e w3 ⟨rfl, hb3⟩
    go_wp2_with fail
    go_ret
    exact ⟨rfl, (h2.alloc h2.size _).trans (hb3.mono (Nat.le_trans h2.size (by simp)))⟩

theorem electAll_walk {H : Type} {enc : TypeId × Value → H} {base : Nat} {p0 : List MemPlace} (W : World) (v0 : Value) (d0 : DataW H) (hv : Value.okWide Try.prog W .any base 23 v0)
    (h0 : DataW.Trod enc Try.prog W 0 (fun _ => true) true 23 v0 d0 p0) (_b0 : ∀ n ∈ d0.weights Try.prog 23, n ≤ 140737488351232) (a1 : Option Addr) (len1 cap1 : Nat) (z1 : List Int) (w1 : Ints .i64 W a1 len1 z1) (_c1 : len1 ≤ cap1) (_b1 : len1 * 8 ≤ 140737488351232) :
    Calls Try.prog 5 #[v0, .slice a1 len1 cap1] W fun e W' => e = .returned (.bool true) ∧ Below W.heap.size W W' := by
  obtain ⟨a, b, c, rfl, _⟩ := three_open hv h0
  exact electAll_core W a b c a1 len1 cap1 z1 w1
end Go.Proofs.Ytdnpeoangpmehaa

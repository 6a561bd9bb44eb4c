/- The walks of ElectNudges, ElectHears and ElectApart. Conditions: none. -/
import Derived.Test.YtdnpeoangpmehaaWc
import Derived.Test.YtdnpeoangpmehaaOpen
import Derived.Lib.SmallJoins
namespace Go.Proofs.Ytdnpeoangpmehaa
open Go.RowKit

theorem three_open {H : Type} {enc : TypeId × Value → H} {W : World} {base : Nat} {v : Value} {d : DataW H} {p : List MemPlace} (hv : Value.okWide Try.prog W .any base 23 v) (h : DataW.Trod enc Try.prog W 0 (fun _ => true) true 23 v d p) :
    ∃ a b c : Int, v = .agg #[.int .i64 a, .int .i64 b, .int .i64 c] ∧ (Lit.int .i64 a).wf = true ∧ (Lit.int .i64 b).wf = true ∧ (Lit.int .i64 c).wf = true := by
  obtain ⟨v0, v1, v2, y0, y1, y2, n, rfl, _, _, h0, h1, h2⟩ := Joins.open_agg3 Try.underlying23 (by kernel_rfl) (by kernel_rfl) hv h
  obtain ⟨a, e0, _, wa⟩ := DataW.trod_int Try.underlying3 h0
  obtain ⟨b, e1, _, wb⟩ := DataW.trod_int Try.underlying3 h1
  obtain ⟨c, e2, _, wc⟩ := DataW.trod_int Try.underlying3 h2
  simp at e0 e1 e2
  subst e0 e1 e2
  exact ⟨a, b, c, rfl, wa, wb, wc⟩

/-- a law whose three are no member: only alive is asked. -/
theorem box3 (W : World) (a b c : Int) : Box (W.alloc (.cells #[.int .i64 a, .int .i64 b, .int .i64 c] 23)) W.heap.size 23 #[.int .i64 a, .int .i64 b, .int .i64 c] := Box.new W 23 _

theorem mod_cast' (k s : Nat) : ((k : Int) + 1) % (s : Int) = (((k + 1) % s : Nat) : Int) := by simp
theorem mod_next (k s : Nat) (hs : 1 ≤ s) : (s ≤ k % s + 1 → (k + 1) % s = 0) ∧ (k % s + 1 < s → (k + 1) % s = k % s + 1) := by
  have h1 := Nat.div_add_mod k s
  have h2 := Nat.mod_lt k (show s > 0 by omega)
  constructor
  · intro h
    have e : k % s + 1 = s := by omega
    have : k + 1 = s * (k / s + 1) := by rw [Nat.mul_add, Nat.mul_one]; omega
    rw [this]; exact Nat.mul_mod_right _ _
  · intro h
    have : k + 1 = (k % s + 1) + s * (k / s) := by omega
    rw [this, Nat.add_mul_mod_self_left]; exact Nat.mod_eq_of_lt (by rw [← this] at *; omega)

theorem nudges_walk (W : World) (a b c : Int) (many : Int) :
    Calls Try.prog 3 #[.agg #[.int .i64 a, .int .i64 b, .int .i64 c], .int .i64 many] W fun e W' => e = .returned (.bool true) ∧ Below W.heap.size W W' := by
  by_cases hok : okMember a b c
  · obtain ⟨self, rfl⟩ := Int.eq_ofNat_of_zero_le hok.1
    obtain ⟨m, rfl⟩ := Int.eq_ofNat_of_zero_le (show 0 ≤ b by have := hok.2.1; omega)
    obtain ⟨s, rfl⟩ := Int.eq_ofNat_of_zero_le (show 0 ≤ c by have := hok.2.2.2.1; omega)
    obtain ⟨q1, q2, q3, q4, q5⟩ := hok
    have C1 := Lib.hid (fun w => new_box (self := self) (many := m) (span := s) ⟨q1, q2, q3, q4, q5⟩ w)
    have hlim : s * (self + 2) ≤ 9000 := Nat.le_trans (Nat.mul_le_mul (show s ≤ 1000 by omega) (show self + 2 ≤ 9 by omega)) (by omega)
    have hlim0 : 1 ≤ s * (self + 2) := Nat.mul_pos (by omega) (by omega)
    obtain ⟨lim, hl⟩ : ∃ l, l = s * (self + 2) := ⟨_, rfl⟩
    rw [← hl] at C1 hlim hlim0
    clear hl
    by_cases hbad : many < 0 ∨ many > 3000
    · by_cases hb0 : many < 0
      · clear hbad
        go_enter Try.func3, Try.ntmps3
        go_wp2_with fail
        refine (C1.out _).mono ?_
        rintro e w1 ⟨rfl, hb1, ht1⟩
        have HB := Lib.hid hb1; clear hb1
        go_wp2_with fail
        refine (alive_any _).mono ?_
        rintro e w2 ⟨rfl, hb2⟩
        go_wp2_with fail
        go_ret
        have h0 : Below W.heap.size W w1 := ((Below.refl _ _).alloc (Nat.le_refl _) _).trans (ht1.mono (by simp))
        exact ⟨rfl, h0.trans (hb2.mono h0.size)⟩
      · have hb1 : many > 3000 := by omega
        clear hbad
        go_enter Try.func3, Try.ntmps3
        go_wp2_with fail
        refine (C1.out _).mono ?_
        rintro e w1 ⟨rfl, hb1, ht1⟩
        have HB := Lib.hid hb1; clear hb1
        go_wp2_with fail
        refine (alive_any _).mono ?_
        rintro e w2 ⟨rfl, hb2⟩
        go_wp2_with fail
        go_ret
        have h0 : Below W.heap.size W w1 := ((Below.refl _ _).alloc (Nat.le_refl _) _).trans (ht1.mono (by simp))
        exact ⟨rfl, h0.trans (hb2.mono h0.size)⟩
    · obtain ⟨n, rfl⟩ := Int.eq_ofNat_of_zero_le (show 0 ≤ many by omega)
      have hn : n ≤ 3000 := by omega
      have hx := box3 W self m s
      clear hbad
      go_enter Try.func3, Try.ntmps3
      go_wp2_with fail
      refine (C1.out _).mono ?_
      rintro e w1 ⟨rfl, hb1, ht1⟩
      have h0 : Below W.heap.size W w1 := ((Below.refl _ _).alloc (Nat.le_refl _) _).trans (ht1.mono (by simp))
      have hx1 : Box w1 W.heap.size 23 #[.int .i64 self, .int .i64 m, .int .i64 s] := hx.below ht1 (by simp)
      have hsz : W.heap.size + 1 < w1.heap.size + 1 := by have := hb1.lt; simp at this; omega
      clear hx ht1 C1
      simp only [World.size_alloc] at hb1
      go_wp2
      go_loopw [36] (fun i wr => ∃ k : Nat, k ≤ n ∧ i = .int .i64 k ∧ Box wr (W.heap.size + 1) 46 (cells s m (k % s) lim) ∧ Below (W.heap.size + 1) w1 wr) (fun i _ => n - (intOf i).toNat)
      case atStart => exact ⟨0, Nat.zero_le _, rfl, by rw [Nat.zero_mod]; exact hb1, Below.refl _ _⟩
      case round =>
        obtain ⟨k, hk, rfl, hb, hbel⟩ := hrel
        have hxr := hx1.below hbel (by omega)
        by_cases hlt : k < n
        · have hms : k % s < s := Nat.mod_lt _ (by omega)
          have hsm : Small s m (k % s) lim := by unfold Small; omega
          have c2 : wr.cell? ⟨W.heap.size, 2, none⟩ = some (.int .i64 s) := hxr.cell 2
          by_cases hnu : s ≤ k % s + 1
          · have hE : (((k : Int) + 1) % (s : Int) == 0) = true := by
              rw [mod_cast', (mod_next k s (by omega)).1 hnu]; rfl
            have HE := Lib.hid ((mod_next k s (by omega)).1 hnu)
            have C := Lib.hid (tick_nudge hsm hnu wr hb)
            clear hb hxr hx1 hb1 h0 hsm hnu hms
            go_wp2_with (go_at_call 11; refine C.out.mono ?_; rintro e w3 ⟨rfl, hb3, ht3⟩; have c3 : w3.cell? ⟨W.heap.size, 2, none⟩ = some (.int .i64 s) := (World.cell?_of_block (ht3.block W.heap.size (World.block_lt_of_cell? _ _ c2) (by omega))).trans c2)
            go_roundw
            case rel => exact ⟨k + 1, by omega, by go_num, by rw [HE.out]; exact hb3, Below.touch hbel ht3 (by omega) (by rintro j rfl; exact Nat.le_refl _)⟩
            case measure => simp [intOf]; omega
          · have hE : (((k : Int) + 1) % (s : Int) == 0) = false := by
              rw [mod_cast', (mod_next k s (by omega)).2 (by omega)]; simp; omega
            have HE := Lib.hid ((mod_next k s (by omega)).2 (by omega))
            have C := Lib.hid (tick_still hsm (by omega) wr hb)
            clear hb hxr hx1 hb1 h0 hsm hnu hms
            go_wp2_with (go_at_call 11; refine C.out.mono ?_; rintro e w3 ⟨rfl, hb3, ht3⟩; have c3 : w3.cell? ⟨W.heap.size, 2, none⟩ = some (.int .i64 s) := (World.cell?_of_block (ht3.block W.heap.size (World.block_lt_of_cell? _ _ c2) (by omega))).trans c2)
            go_roundw
            case rel => exact ⟨k + 1, by omega, by go_num, by rw [HE.out]; exact hb3, Below.touch hbel ht3 (by omega) (by rintro j rfl; exact Nat.le_refl _)⟩
            case measure => simp [intOf]; omega
        · have h00 : Below W.heap.size W wr := h0.trans (hbel.mono (by omega))
          clear hb hxr hx1 hb1 h0 hbel
          go_wp2_with fail
          refine (alive_any _).mono ?_
          rintro e w4 ⟨rfl, hb4⟩
          go_wp2_with fail
          go_ret
          exact ⟨rfl, h00.trans (hb4.mono h00.size)⟩
  · have C1 := Lib.hid (fun w => new_bad a b c hok w)
    clear hok
    go_enter Try.func3, Try.ntmps3
    go_wp2_with fail
    refine (C1.out _).mono ?_
    rintro e w1 ⟨rfl, rfl⟩
    go_wp2_with fail
    refine (alive_any _).mono ?_
    rintro e w2 ⟨rfl, hb2⟩
    go_wp2_with fail
    go_ret
    exact ⟨rfl, ((Below.refl _ _).alloc (Nat.le_refl _) _).trans (hb2.mono (by simp))⟩
theorem electNudges_walk {H : Type} {enc : TypeId × Value → H} {base : Nat} {p0 : List MemPlace} (W : World) (v0 : Value) (d0 : DataW H) (hv : Value.okWide Try.prog W .any base 23 v0)
    (h0 : DataW.Trod enc Try.prog W 0 (fun _ => true) true 23 v0 d0 p0) (_b0 : ∀ n ∈ d0.weights Try.prog 23, n ≤ 140737488351232) (a1 : Int) (_w1 : (Lit.int .i64 a1).wf = true) :
    Calls Try.prog 3 #[v0, .int .i64 a1] W fun e W' => e = .returned (.bool true) ∧ Below W.heap.size W W' := by
  obtain ⟨a, b, c, rfl, _⟩ := three_open hv h0
  exact nudges_walk W a b c a1
end Go.Proofs.Ytdnpeoangpmehaa

/- The walk of ElectApart. Conditions: none. -/
import Derived.Test.YtdnpeoangpmehaaWd
import Derived.Deep.DeepCutAuto
namespace Go.Proofs.Ytdnpeoangpmehaa
open Go.RowKit

/-- New, whoever asks: the pointer and the error; what was there stays. -/
theorem new_any (a b c : Int) (w : World) :
    Calls Try.prog 9 #[.int .i64 a, .int .i64 b, .int .i64 c] w fun e w' => ∃ p n, e = .returned (.tuple #[.pointer p, .int .i64 n]) ∧ Below w.heap.size w w' := by
  by_cases h : okMember a b c
  · exact (new_ok a b c h w).mono fun e w' ⟨h1, h2⟩ => ⟨_, _, h1, h2 ▸ (Below.refl _ _).alloc (Nat.le_refl _) _⟩
  · exact (new_bad a b c h w).mono fun e w' ⟨h1, h2⟩ => ⟨_, _, h1, h2 ▸ Below.refl _ _⟩

theorem apart_bad (W : World) (a b c other : Int) (h : ¬ okMember a b c ∨ ¬ okMember other b c ∨ other = a) :
    Calls Try.prog 4 #[.agg #[.int .i64 a, .int .i64 b, .int .i64 c], .int .i64 other] W fun e W' => e = .returned (.bool true) ∧ Below W.heap.size W W' := by
  have hx := box3 W a b c
  by_cases h1 : okMember a b c
  · by_cases h2 : okMember other b c
    · have h3 : other = a := by
        rcases h with h | h | h
        · exact absurd h1 h
        · exact absurd h2 h
        · exact h
      subst h3
      have C1 := Lib.hid (fun w => new_ok other b c h1 w)
      clear h h1 h2
      go_enter Try.func4, Try.ntmps4
      go_wp2_with fail
      refine (C1.out _).mono ?_
      rintro e w1 ⟨rfl, rfl⟩
      go_wp2_with fail
      refine (C1.out _).mono ?_
      rintro e w2 ⟨rfl, rfl⟩
      go_wp2_with fail
      refine (alive_any _).mono ?_
      rintro e w2 ⟨rfl, hb2⟩
      go_wp2_with fail
      go_ret
      exact ⟨rfl, ((((Below.refl _ _).alloc (Nat.le_refl _) _).alloc (by simp) _).alloc (by simp; omega) _).trans (hb2.mono (by simp; omega))⟩
    · have C1 := Lib.hid (fun w => new_ok a b c h1 w)
      have C2 := Lib.hid (fun w => new_bad other b c h2 w)
      clear h h1 h2
      go_enter Try.func4, Try.ntmps4
      go_wp2_with fail
      refine (C1.out _).mono ?_
      rintro e w1 ⟨rfl, rfl⟩
      go_wp2_with fail
      refine (C2.out _).mono ?_
      rintro e w2 ⟨rfl, rfl⟩
      go_wp2_with fail
      refine (alive_any _).mono ?_
      rintro e w2 ⟨rfl, hb2⟩
      go_wp2_with fail
      go_ret
      exact ⟨rfl, (((Below.refl _ _).alloc (Nat.le_refl _) _).alloc (by simp) _).trans (hb2.mono (by simp; omega))⟩
  · have C1 := Lib.hid (fun w => new_bad a b c h1 w)
    have C2 := Lib.hid (fun w => new_any other b c w)
    clear h h1
    go_enter Try.func4, Try.ntmps4
    go_wp2_with fail
    refine (C1.out _).mono ?_
    rintro e w1 ⟨rfl, rfl⟩
    go_wp2_with fail
    refine (C2.out _).mono ?_
    rintro e w2 ⟨p, n, rfl, hb1⟩
    go_wp2_with fail
    refine (alive_any _).mono ?_
    rintro e w3 ⟨rfl, hb2⟩
    go_wp2_with fail
    go_ret
    have h0 : Below W.heap.size W w2 := ((Below.refl _ _).alloc (Nat.le_refl _) _).trans (hb1.mono (by simp))
    exact ⟨rfl, h0.trans (hb2.mono h0.size)⟩

theorem apart_ok (W : World) (self other m s : Nat) (h1 : okMember self m s) (h2 : okMember other m s) (h3 : other ≠ self) :
    Calls Try.prog 4 #[.agg #[.int .i64 self, .int .i64 m, .int .i64 s], .int .i64 other] W fun e W' => e = .returned (.bool true) ∧ Below W.heap.size W W' := by
  have hx := box3 W self m s
  have C1 := Lib.hid (fun w => new_box h1 w)
  have C2 := Lib.hid (fun w => new_box h2 w)
  obtain ⟨q1, q2, q3, q4, q5⟩ := h1
  obtain ⟨r1, r2, r3, r4, r5⟩ := h2
  obtain ⟨l1, hl1⟩ : ∃ l, l = s * (self + 2) := ⟨_, rfl⟩
  obtain ⟨l2, hl2⟩ : ∃ l, l = s * (other + 2) := ⟨_, rfl⟩
  have b1 : 1 ≤ l1 ∧ l1 ≤ 9000 := ⟨hl1 ▸ Nat.mul_pos (by omega) (by omega), hl1 ▸ Nat.le_trans (Nat.mul_le_mul (show s ≤ 1000 by omega) (show self + 2 ≤ 9 by omega)) (by omega)⟩
  have b2 : 1 ≤ l2 ∧ l2 ≤ 9000 := ⟨hl2 ▸ Nat.mul_pos (by omega) (by omega), hl2 ▸ Nat.le_trans (Nat.mul_le_mul (show s ≤ 1000 by omega) (show other + 2 ≤ 9 by omega)) (by omega)⟩
  have hne : l1 ≠ l2 := by
    intro e
    rw [hl1, hl2] at e
    have := Nat.eq_of_mul_eq_mul_left (show 0 < s by omega) e
    omega
  rw [← hl1] at C1
  rw [← hl2] at C2
  clear hl1 hl2
  obtain ⟨b10, b11⟩ := b1
  obtain ⟨b20, b21⟩ := b2
  have hse : ((other : Int) == (self : Int)) = false := by simp; omega
  have HSE := Lib.hid hse
  have HNE := Lib.hid hne
  clear hse hne h3
  go_enter Try.func4, Try.ntmps4
  go_wp2_with fail
  refine (C1.out _).mono ?_
  rintro e w1 ⟨rfl, hb1, ht1⟩
  have hz : W.heap.size + 1 < w1.heap.size := by have := hb1.lt; simpa using this
  have hx1 : Box w1 W.heap.size 23 #[.int .i64 self, .int .i64 m, .int .i64 s] := hx.below ht1 (by simp)
  have h0 : Below W.heap.size W w1 := ((Below.refl _ _).alloc (Nat.le_refl _) _).trans (ht1.mono (by simp))
  simp only [World.size_alloc] at hb1
  have c1 : w1.cell? ⟨W.heap.size, 1, none⟩ = some (.int .i64 m) := hx1.cell 1
  have c2 : w1.cell? ⟨W.heap.size, 2, none⟩ = some (.int .i64 s) := hx1.cell 2
  have HB1 := Lib.hid hb1
  have HX1 := Lib.hid hx1
  clear hx ht1 hb1 hx1
  go_wp2_with fail
  refine (C2.out _).mono ?_
  rintro e w2 ⟨rfl, hb2, ht2⟩
  have hb1 : Box w2 (W.heap.size + 1) 46 (cells s m 0 l1) := HB1.out.below ht2 hz
  have hz2 : w1.heap.size < w2.heap.size := hb2.lt
  have h02 : Below W.heap.size W w2 := h0.trans (ht2.mono h0.size)
  have c0 : w2.cell? ⟨W.heap.size, 0, none⟩ = some (.int .i64 self) := (HX1.out.below ht2 (by omega)).cell 0
  have hse := HSE.out
  have HB1' := Lib.hid hb1
  have HB2' := Lib.hid hb2
  clear hb1 hb2 c1 c2 ht2
  generalize w1.heap.size = g at *
  go_wp2
  go_loopw [53] (fun i wr => ∃ k : Nat, k < l1 ∧ k < l2 ∧ i = .int .i64 k ∧ Box wr (W.heap.size + 1) 46 (cells s m k l1) ∧ Box wr g 46 (cells s m k l2) ∧ Below W.heap.size W wr) (fun i _ => 10000 - (intOf i).toNat)
  case atStart => exact ⟨0, by omega, by omega, rfl, HB1'.out, HB2'.out, h02⟩
  case round =>
    obtain ⟨k, hk1, hk2, rfl, hb1, hb2, hbel⟩ := hrel
    have hg : W.heap.size + 1 ≠ g := by omega
    have s1 : Small s m k l1 := by unfold Small; omega
    have s2 : Small s m k l2 := by unfold Small; omega
    have hlt : (k : Int) < 10000 := by omega
    have below : ∀ {w3 w4 : World}, Touch (· = W.heap.size + 1) wr w3 → Touch (· = g) w3 w4 → Below W.heap.size W w4 := fun t1 t2 =>
      Below.touch (Below.touch hbel t1 (Nat.le_refl _) (by rintro j rfl; omega)) t2 (Nat.le_refl _) (by rintro j rfl; omega)
    have HBL := Lib.hid (fun (w3 w4 : World) => @below w3 w4)
    clear below c0 h02 h0
    by_cases h1 : k + 1 = l1
    · have h2 : k + 1 < l2 := by have := HNE.out; omega
      have T1 := Lib.hid (tick_lead s1 (by omega) wr hb1)
      have B2 := Lib.hid hb2
      clear hb1 hb2 hbel
      go_wp2_with fail
      refine T1.out.mono ?_
      rintro e w3 ⟨rfl, hb3, ht3⟩
      have T2 := Lib.hid (tick_wait s2 h2 w3 (B2.out.touch ht3 (by omega)))
      clear hb3
      go_wp2_with fail
      refine T2.out.mono ?_
      rintro e w4 ⟨rfl, hb4, ht4⟩
      have hz := HBL.out _ _ ht3 ht4
      clear hb4 ht3 ht4
      go_wp2_with fail
      refine (alive_any _).mono ?_
      rintro e w5 ⟨rfl, hb5⟩
      go_wp2_with fail
      go_ret
      exact ⟨rfl, hz.trans (hb5.mono hz.size)⟩
    · have h1' : k + 1 < l1 := by omega
      have T1 := Lib.hid (tick_wait s1 h1' wr hb1)
      have B2 := Lib.hid hb2
      clear hb1 hb2 hbel
      by_cases h2 : k + 1 = l2
      · go_wp2_with fail
        refine T1.out.mono ?_
        rintro e w3 ⟨rfl, hb3, ht3⟩
        have T2 := Lib.hid (tick_lead s2 (by omega) w3 (B2.out.touch ht3 (by omega)))
        clear hb3
        go_wp2_with fail
        refine T2.out.mono ?_
        rintro e w4 ⟨rfl, hb4, ht4⟩
        have hz := HBL.out _ _ ht3 ht4
        clear hb4 ht3 ht4
        go_wp2_with fail
        refine (alive_any _).mono ?_
        rintro e w5 ⟨rfl, hb5⟩
        go_wp2_with fail
        go_ret
        exact ⟨rfl, hz.trans (hb5.mono hz.size)⟩
      · go_wp2_with fail
        refine T1.out.mono ?_
        rintro e w3 ⟨rfl, hb3, ht3⟩
        have T2 := Lib.hid (tick_wait s2 (by omega) w3 (B2.out.touch ht3 (by omega)))
        have HB3 := Lib.hid hb3
        clear hb3
        go_wp2_with fail
        refine T2.out.mono ?_
        rintro e w4 ⟨rfl, hb4, ht4⟩
        have hz := HBL.out _ _ ht3 ht4
        have HB4 := Lib.hid hb4
        have HB5 := Lib.hid (HB3.out.touch ht4 hg)
        clear hb4 ht3 ht4
        go_wp2_with fail
        go_roundw
        case rel => exact ⟨k + 1, by omega, by omega, by go_num, HB5.out, HB4.out, hz⟩
        case measure => simp [intOf]; omega

theorem electApart_walk {H : Type} {enc : TypeId × Value → H} {base : Nat} {p0 : List MemPlace} (W : World) (v0 : Value) (d0 : DataW H) (hv : Value.okWide Try.prog W .any base 23 v0)
    (h0 : DataW.Trod enc Try.prog W 0 (fun _ => true) true 23 v0 d0 p0) (_b0 : ∀ n ∈ d0.weights Try.prog 23, n ≤ 140737488351232) (a1 : Int) (_w1 : (Lit.int .i64 a1).wf = true) :
    Calls Try.prog 4 #[v0, .int .i64 a1] W fun e W' => e = .returned (.bool true) ∧ Below W.heap.size W W' := by
  obtain ⟨a, b, c, rfl, _⟩ := three_open hv h0
  by_cases h : ¬ okMember a b c ∨ ¬ okMember a1 b c ∨ a1 = a
  · exact apart_bad W a b c a1 h
  · have h1 : okMember a b c := Classical.byContradiction fun h' => h (.inl h')
    have h2 : okMember a1 b c := Classical.byContradiction fun h' => h (.inr (.inl h'))
    have h3 : a1 ≠ a := fun h' => h (.inr (.inr h'))
    obtain ⟨self, rfl⟩ := Int.eq_ofNat_of_zero_le h1.1
    obtain ⟨other, rfl⟩ := Int.eq_ofNat_of_zero_le h2.1
    obtain ⟨m, rfl⟩ := Int.eq_ofNat_of_zero_le (show 0 ≤ b by have := h1.2.1; omega)
    obtain ⟨s, rfl⟩ := Int.eq_ofNat_of_zero_le (show 0 ≤ c by have := h1.2.2.2.1; omega)
    exact apart_ok W self other m s h1 h2 (by omega)
end Go.Proofs.Ytdnpeoangpmehaa

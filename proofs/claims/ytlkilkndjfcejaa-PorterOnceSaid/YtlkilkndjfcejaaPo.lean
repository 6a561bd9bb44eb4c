/- porter: a reply as the program's; a call that was started is done behind so many ticks, in plain words. Conditions: as in each statement. -/
import Derived.Test.YtlkilkndjfcejaaPn
namespace Go.Proofs.Ytlkilkndjfcejaa
open Go Go.RowKit
set_option linter.unusedVariables false
set_option linter.unusedSimpArgs false
variable {w w' : World} {base n : Nat} {V V' : Vs} {s s' : St}

set_option maxRecDepth 100000 in
set_option maxHeartbeats 4000000 in
theorem reply_any (r : Rp) : Calls Try.prog 16 #[.agg (rp r)] w fun e w' => e = .returned (.agg (rp r)) ∧ Below w.heap.size w w' := by
  have HR := Lib.hid (Box.new w 58 (rp r))
  have HZ := Lib.hid (Box.new (w.alloc (.cells (rp r) 58)) 75 #[.int .i64 0, .int .i64 0, .int .i64 0, .int .i64 0, .int .i64 0, .int .i64 0, .int .i64 0, .int .i64 0, .string ⟨#[]⟩, .int .i64 0, .int .i64 0, .int .i64 0, .int .i64 0, .int .i64 0, .int .i64 0, .int .i64 0, .int .i64 0, .slice none 0 0])
  have B0 := Lib.hid ((((Below.refl w.heap.size w).alloc (Nat.le_refl _) (.cells (rp r) 58)).alloc (by simp) (.cells #[.int .i64 0, .int .i64 0, .int .i64 0, .int .i64 0, .int .i64 0, .int .i64 0, .int .i64 0, .int .i64 0, .string ⟨#[]⟩, .int .i64 0, .int .i64 0, .int .i64 0, .int .i64 0, .int .i64 0, .int .i64 0, .int .i64 0, .int .i64 0, .slice none 0 0] 75)))
  have HR0 := Lib.hid (HR.out.alloc (.cells #[.int .i64 0, .int .i64 0, .int .i64 0, .int .i64 0, .int .i64 0, .int .i64 0, .int .i64 0, .int .i64 0, .string ⟨#[]⟩, .int .i64 0, .int .i64 0, .int .i64 0, .int .i64 0, .int .i64 0, .int .i64 0, .int .i64 0, .int .i64 0, .slice none 0 0] 75))
  go_enter Try.func16, Try.ntmps16
  go_wp2_with (first | (refine wpList_load_box rfl 42 (.tmp 7) rfl _ 5 rfl ((Box.new w 58 (rp r)).alloc (.cells #[.int .i64 0, .int .i64 0, .int .i64 0, .int .i64 0, .int .i64 0, .int .i64 0, .int .i64 0, .int .i64 0, .string ⟨#[]⟩, .int .i64 0, .int .i64 0, .int .i64 0, .int .i64 0, .int .i64 0, .int .i64 0, .int .i64 0, .int .i64 0, .slice none 0 0] 75)) [.int .i64 r.a.co, .int .i64 r.a.h1, .int .i64 r.a.h2, .string r.a.b, .int .i64 r.a.i1, .int .i64 r.a.i2, .int .i64 r.a.i3, .int .i64 r.a.i4, .int .i64 r.a.i5, .int .i64 r.a.i6, .int .i64 r.a.i7, .int .i64 r.a.i8, .slice r.a.na r.a.nl r.a.nc] rfl Try.underlying42 rfl (by kernel_rfl) ?_) | (refine wpList_store_box rfl 42 (.tmp 3) (.tmp 8) rfl rfl _ 0 rfl [.int .i64 r.a.co, .int .i64 r.a.h1, .int .i64 r.a.h2, .string r.a.b, .int .i64 r.a.i1, .int .i64 r.a.i2, .int .i64 r.a.i3, .int .i64 r.a.i4, .int .i64 r.a.i5, .int .i64 r.a.i6, .int .i64 r.a.i7, .int .i64 r.a.i8, .slice r.a.na r.a.nl r.a.nc] rfl (Box.new _ 42 #[.int .i64 0, .int .i64 0, .int .i64 0, .string ⟨#[]⟩, .int .i64 0, .int .i64 0, .int .i64 0, .int .i64 0, .int .i64 0, .int .i64 0, .int .i64 0, .int .i64 0, .slice none 0 0]) #[.int .i64 r.a.co, .int .i64 r.a.h1, .int .i64 r.a.h2, .string r.a.b, .int .i64 r.a.i1, .int .i64 r.a.i2, .int .i64 r.a.i3, .int .i64 r.a.i4, .int .i64 r.a.i5, .int .i64 r.a.i6, .int .i64 r.a.i7, .int .i64 r.a.i8, .slice r.a.na r.a.nl r.a.nc] rfl (by kernel_rfl) rfl rfl ?_))
  have hX := Box.new (w.alloc (.cells (rp r) 58)) 75 (rp r)
  rw [World.size_alloc] at hX
  refine ret_c Try.results16 rfl rfl ((((hX.alloc _).alloc _).alloc _).load Try.underlying75 rfl (by kernel_rfl)) ⟨rfl, ?_⟩
  exact ((((Below.refl w.heap.size w).alloc (Nat.le_refl _) _).alloc (by simp) _).alloc (by simp; omega) _ |>.alloc (by simp; omega) _).alloc (by simp; omega) _
/-- a call under way ends within k ticks; or it has ended. -/
def Within (s : St) (k : Nat) : Prop := (s.busy = false ∧ ∃ r, s.done = [r] ∧ r.nu = 1) ∨ (s.busy = true ∧ s.nu = 1 ∧ (3 * mv s - s.vain) * s.pa - s.wait ≤ (k : Int))
theorem Within.tick {k : Nat} (ho : Okay s) (h : Within s (k + 1)) : Within (tickS s) k := by
  rcases h with ⟨hb, hr⟩ | ⟨hb, hn, hk⟩
  · have ht : tickS s = s := by rw [tickS, hb]; rfl
    rw [ht]
    exact .inl ⟨hb, hr⟩
  · obtain ⟨h1, h2, h3⟩ := ho.busy hb
    rw [tickS, if_pos hb]
    split
    · rename_i hw
      rcases Int.lt_or_le (s.wait + 1) s.pa with h4 | h4
      · omega
      · have hws : s.wait + 1 = s.pa := by omega
        unfold onS
        split
        · exact .inl ⟨rfl, _, rfl, hn⟩
        · refine .inr ⟨hb, hn, ?_⟩
          show (3 * mv s - (s.vain + 1)) * s.pa - 0 ≤ (k : Int)
          have e : (3 * mv s - (s.vain + 1)) * s.pa = (3 * mv s - s.vain) * s.pa - s.pa := by
            rw [show 3 * mv s - (s.vain + 1) = (3 * mv s - s.vain) - 1 by omega, Int.sub_mul (3 * mv s - s.vain) 1 s.pa, Int.one_mul]
          omega
    · refine .inr ⟨hb, hn, ?_⟩
      show (3 * mv s - s.vain) * s.pa - (s.wait + 1) ≤ (k : Int)
      omega
theorem Within.take {k : Nat} (ho : Okay s) (h : Within s k) (r : Rp) : Within (takeS s r) k := by
  rcases h with ⟨hb, hr⟩ | ⟨hb, hn, hk⟩
  · have hm : meantB s r = false := by simp [meantB, hb]
    have ht : takeS s r = s := by rw [takeS, hm]; rfl
    rw [ht]
    exact .inl ⟨hb, hr⟩
  · obtain ⟨h1, h2, h3⟩ := ho.busy hb
    unfold takeS
    split
    · split
      · unfold onS
        split
        · exact .inl ⟨rfl, _, rfl, hn⟩
        · refine .inr ⟨hb, hn, ?_⟩
          show (3 * mv s - (s.vain + 1)) * s.pa - 0 ≤ (k : Int)
          have e : (3 * mv s - (s.vain + 1)) * s.pa = (3 * mv s - s.vain) * s.pa - s.pa := by
            rw [show 3 * mv s - (s.vain + 1) = (3 * mv s - s.vain) - 1 by omega, Int.sub_mul (3 * mv s - s.vain) 1 s.pa, Int.one_mul]
          omega
      · exact .inl ⟨rfl, _, rfl, hn⟩
    · exact .inr ⟨hb, hn, hk⟩
theorem Within.fin (ho : Okay s) (h : Within s 0) : s.busy = false ∧ ∃ r, s.done = [r] ∧ r.nu = 1 := by
  rcases h with h | ⟨hb, hn, hk⟩
  · exact h
  · exfalso
    obtain ⟨h1, h2, h3⟩ := ho.busy hb
    have h4 : 1 * s.pa ≤ (3 * mv s - s.vain) * s.pa := Int.mul_le_mul_of_nonneg_right (by omega) (by have := ho.fit.pa0; omega)
    omega
theorem Within.start (cl : Int) (zs : List Int) (P : Nat) (vol : Nat) (hn : newB cl zs P = true) (hv : vol < zs.length) (m : Nat) (hm : zs.getD vol 0 = m) : Within (startS (newS cl zs P) (vol : Int) c9) (3 * m * P) := by
  have hst : startB (newS cl zs P) (vol : Int) c9 = true := by
    rw [new_start_any, thereB]
    simp only [Bool.and_eq_true, decide_eq_true_eq]
    exact ⟨by omega, by show (vol : Int) < (zs.length : Int); omega⟩
  have hs : startS (newS cl zs P) (vol : Int) c9 = askS { newS cl zs P with nu := 1, busy := true, vol := vol, c := { c9 with cl := cl, nu := 1 }, vain := 0 } := by rw [startS, if_pos hst]; rfl
  rw [hs]
  refine .inr ⟨rfl, rfl, ?_⟩
  show (3 * zs.getD vol 0 - 0) * (P : Int) - 0 ≤ _
  rw [hm]
  simp
end Go.Proofs.Ytlkilkndjfcejaa

/- chart: the document's digits, Folder. Conditions: as in each statement. -/
import Derived.Test.YtbkjhogfpcmcbaaDoorLg
import Derived.Deep.RegionWith
namespace Go.Proofs.YtbkjhogfpcmcbaaDoor
open Go Go.RowKit Zn
open Go.Lib (decDigits)
set_option linter.unusedVariables false
set_option linter.unusedSimpArgs false
variable {w w' : World}
def Digited (n : Nat) (w : World) (e : Ending) (w' : World) : Prop := e = .returned (.string ⟨(decDigits n).toArray⟩) ∧ Below w.heap.size w w'
theorem conv1 (w : World) (g : Nat) (x : UInt8) (c : Int) (hx : c = (x.toNat : Int)) (h : w.cell? ⟨g, 0, none⟩ = some (.int .u8 c)) : (convert 68 9 (.slice (some ⟨g, 0, none⟩) 1 1)).run Tryd.prog w = .ok (.string ⟨#[x]⟩) w := by
  subst hx
  exact run_convert_bytes_back (P := Tryd.prog) w 68 9 5 ⟨g, 0, none⟩ 1 [x] Tryd.underlying68 Tryd.underlying5 Tryd.underlying9 (fun j hj => by
    obtain rfl : j = 0 := by simpa using hj
    rw [Addr.add_lit]; simpa using h)
theorem cell_new1 {w w2 : World} {v : Value} {t : TypeId} (h : Below ((w.drew).alloc (.cells #[v] t)).heap.size ((w.drew).alloc (.cells #[v] t)) w2) : w2.cell? ⟨w.heap.size, 0, none⟩ = some v := (h.cell (p := ⟨w.heap.size, 0, none⟩) (by simp)).trans (by rw [show w.heap.size = w.drew.heap.size from rfl, World.cell?_alloc_new]; rfl)
set_option maxRecDepth 100000 in
set_option maxHeartbeats 1000000 in
theorem rdigits_any : ∀ n : Nat, n ≤ 4611686018427387904 → ∀ w, Calls Tryd.prog 42 #[.int .i64 n] w (Digited n w) := by
  intro n
  induction n using Nat.strongRecOn with
  | ind n ih =>
    intro hn w
    by_cases h : n < 10
    · obtain ⟨x, hx⟩ : ∃ x, x = UInt8.ofNat (48 + n) := ⟨_, rfl⟩
      have HE := Lib.hid (show decDigits n = [x] by rw [hx]; exact dec_small h)
      have hcv := fun (w : World) (g : Nat) => conv1 w g x (48 + (n : Int)) (by rw [hx, dec_c n h]; omega)
      clear ih hn hx
      go_enter Tryd.func42, Tryd.ntmps42
      go_wp2_with fail
      go_ret
      exact ⟨by rw [HE.out]; rfl, (Below.refl _ _).alloc (Nat.le_refl _) _⟩
    · have C := ih (n / 10) (by omega) (by omega)
      obtain ⟨x, hx⟩ : ∃ x, x = UInt8.ofNat (48 + n % 10) := ⟨_, rfl⟩
      have HE := Lib.hid (show decDigits n = decDigits (n / 10) ++ [x] by rw [hx]; exact dec_big h)
      rw [show ((n / 10 : Nat) : Int) = (n : Int) / 10 by omega] at C
      have hm : n % 10 < 10 := Nat.mod_lt _ (by omega)
      obtain ⟨m, hmm⟩ : ∃ m, m = n % 10 := ⟨_, rfl⟩
      rw [← hmm] at hx hm
      have hmt : (n : Int).tmod 10 = (m : Int) := by rw [hmm, Int.tmod_eq_emod_of_nonneg (by omega)]; rfl
      have hw1 : IntKind.i64.wrap (48 + (m : Int)) = 48 + (m : Int) := by rw [IntKind.wrap_i64]; omega
      have hw2 : IntKind.u8.wrap (48 + (m : Int)) = 48 + (m : Int) := by rw [IntKind.wrap_u8]; omega
      have hcv := fun (w : World) (g : Nat) => conv1 w g x (48 + (m : Int)) (by rw [hx, dec_c _ hm]; omega)
      have HL := Lib.hid (dec_len 18 (n / 10) (by omega))
      obtain ⟨T, hT⟩ : ∃ T : ByteArray, T = ⟨(decDigits (n / 10)).toArray⟩ := ⟨_, rfl⟩
      have hTs : T.size ≤ 19 := by rw [hT]; show (decDigits (n / 10)).toArray.size ≤ 19; rw [List.size_toArray]; exact HL.out
      unfold Digited at C
      rw [← hT] at C
      have HS := Lib.hid (show T ++ ⟨#[x]⟩ = ⟨(decDigits n).toArray⟩ by rw [HE.out, hT, cat_mk])
      have C := Lib.hid C
      have hwq : IntKind.i64.wrap ((n : Int) / 10) = (n : Int) / 10 := by rw [IntKind.wrap_i64]; omega
      clear ih hT hn hx hmm
      go_enter Tryd.func42, Tryd.ntmps42
      go_wp2_with fail
      go_region_with (go_at_call 42; refine (C.out _).mono ?_; rintro e w2 ⟨rfl, b2⟩; have B2 := Lib.hid (show Below w.heap.size w w2 by first | exact ((Below.refl _ w).drew).trans (b2.mono (Nat.le_refl _)) | exact (((Below.refl _ w).drew).alloc (Nat.le_refl _) _).trans (b2.mono (by simp))); try have hc2 := cell_new1 b2)
      all_goals (go_wp2_with fail; go_ret)
      all_goals exact ⟨congrArg (fun t => Ending.returned (.string t)) HS.out, by first | exact B2.out | exact B2.out.alloc B2.out.size _⟩
end Go.Proofs.YtbkjhogfpcmcbaaDoor

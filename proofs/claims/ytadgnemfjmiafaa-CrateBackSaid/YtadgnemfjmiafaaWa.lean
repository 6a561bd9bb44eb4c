/- The walks of crate's four and Put, and of the document's. Conditions: the bytes lie in memory. -/
import Derived.Test.YtadgnemfjmiafaaTallyC
import Derived.Deep.DeepCutAuto
namespace Go.Proofs.Ytadgnemfjmiafaa
open Go.RowKit

theorem info5 : (Try.prog.info? 5).map (fun i => (i.zero, i.size, i.bytes)) = some (some (.int .u8 0), 1, 1) := by kernel_rfl

/-- a number's bytes, the lowest first. -/
def fourOf (n : Nat) : List Int := [((n % 256 : Nat) : Int), ((n / 256 % 256 : Nat) : Int), ((n / 65536 % 256 : Nat) : Int), ((n / 16777216 % 256 : Nat) : Int)]
theorem fourOf_range (n : Nat) : ∀ x ∈ fourOf n, 0 ≤ x ∧ x < 256 := by
  intro x hx
  simp [fourOf] at hx
  omega

/-- what a call hands back is a row of its own; what was there stays. -/
def Gives (w : World) (zs : List Int) (e : Ending) (w' : World) : Prop :=
  ∃ v, e = .returned v ∧ w'.ownsRow w.heap.size 5 1 v zs.length (zs.map (Value.int .u8)) ∧ Below w.heap.size w w'

theorem own_shape {w : World} {base e n : Nat} {v : Value} {zs : List Int} (h : w.ownsRow base e 1 v n (zs.map (Value.int .u8))) :
    ∃ ad c, v = .slice ad n c ∧ Src w ad n 1 (zs.map (Value.int .u8)) := by
  rcases h.2 with ⟨rfl, rfl⟩ | ⟨g, cap, cur, rfl, _⟩
  · exact ⟨none, 0, rfl, h.1, by intro u hu; have := h.1; simp at this; subst this; simp at hu, .inl rfl⟩
  · refine ⟨_, _, rfl, h.1, by intro u hu; obtain ⟨x, _, rfl⟩ := List.mem_map.1 hu; rfl, .inr ⟨_, rfl, fun j u hj => ?_⟩⟩
    have hlt : j < n * 1 := by
      have := List.getElem?_eq_some_iff.1 hj
      obtain ⟨hlt, _⟩ := this
      rw [h.1] at hlt; exact hlt
    have := h.cellAt j hlt
    by_cases e : j = 0
    · subst e; simpa [Addr.add] using this.trans hj
    · simpa [Addr.add, e] using this.trans hj

theorem four_any (n : Nat) (hn : n < 4294967296) (w : World) : Calls Try.prog 14 #[.int .u32 (n : Int)] w (Gives w (fourOf n)) := by
  have e : Hid ((fourOf n).map (Value.int .u8) = [.int .u8 ((n : Int) % 256), .int .u8 ((n : Int) / 256 % 256), .int .u8 ((n : Int) / 65536 % 256), .int .u8 ((n : Int) / 16777216)]) := by
    show _ = _
    simp [fourOf]; omega
  go_enter Try.func14, Try.ntmps14
  go_wp2
  go_ret
  refine ⟨_, rfl, ?_, (Below.refl _ _).alloc (Nat.le_refl _) _⟩
  rw [e.out]
  exact World.ownsRow_lit w _ 4 (Nat.le_refl _) (by decide) rfl

theorem own_step {n k : Nat} (hk : k < 4) : (fourOf n).take k ++ [((n / 256 ^ k % 256 : Nat) : Int)] = (fourOf n).take (k + 1) := by
  have : k = 0 ∨ k = 1 ∨ k = 2 ∨ k = 3 := by omega
  rcases this with rfl | rfl | rfl | rfl <;> simp [fourOf]

theorem rfour_any (n : Nat) (hn : n < 4294967296) (w : World) : Calls Try.prog 16 #[.int .u32 (n : Int)] w (Gives w (fourOf n)) := by
  obtain ⟨i0, hi, hz0, hz1, hz2⟩ := info_parts info5
  go_enter Try.func16, Try.ntmps16
  go_wp2
  go_loopw [0, 3, 4] (fun c v i wr => ∃ k : Nat, k ≤ 4 ∧ i = .int .i64 k ∧ c = .int .u32 ((n / 256 ^ k : Nat) : Int) ∧ wr.ownsRow w.heap.size 5 1 v k (((fourOf n).take k).map (Value.int .u8)) ∧ Below w.heap.size w wr) (fun _ _ i _ => 4 - (intOf i).toNat)
  case atStart => exact ⟨0, Nat.zero_le _, rfl, by simp, World.ownsRow_nil _ _ _ _, Below.refl _ _⟩
  case round =>
    obtain ⟨k, hk, rfl, rfl, hown, hbel⟩ := hrel
    by_cases hlt : k < 4
    · have hsz := hbel.size
      have HS := Lib.hid (own_step (n := n) hlt)
      have hq : n / 256 ^ k < 4294967296 := Nat.lt_of_le_of_lt (Nat.div_le_self _ _) hn
      have HQ : Hid (n / 256 ^ (k + 1) = n / 256 ^ k / 256) := by show _ = _; rw [Nat.pow_succ, Nat.div_div_eq_div_mul]
      obtain ⟨q, hqq⟩ : ∃ q, q = n / 256 ^ k := ⟨_, rfl⟩
      rw [← hqq] at HS hq HQ ⊢
      obtain ⟨L, hL⟩ : ∃ L, L = (fourOf n).take k := ⟨_, rfl⟩
      rw [← hL] at HS hown
      have HO := Lib.hid hown
      clear hqq hown hL
      go_wp2_with (at_builtin; refine wpList_append_src rfl (.tmp 9) (.tmp 13) 22 rfl w.heap.size 5 i0 (.int .u8 0) 1 1 Try.underlying22 hi hz0 hz1 hz2 rfl (by decide) _ _ _ rfl (HO.out.alloc _) _ 1 1 [.int .u8 ((q % 256 : Nat) : Int)] rfl ?c1 ?c2 ?c3 ?c4 ?_)
      case c1 => exact ⟨rfl, by simp [Value.oneCell'], .inr ⟨_, rfl, fun j u hj => by
        match j, hj with
        | 0, hj => simp at hj; subst hj; simp [Addr.add]⟩⟩
      case c2 => unfold maxLen; omega
      case c3 => omega
      case c4 => simp; omega
      intro v' w' own' g'
      have hb' : Below w.heap.size w w' := (hbel.alloc hsz _).grown g' (by simp; omega) (own_ge HO.out)
      have own2 : w'.ownsRow w.heap.size 5 1 v' (k + 1) (((fourOf n).take (k + 1)).map (Value.int .u8)) := by
        rw [← HS.out, List.map_append]; simpa using own'
      have HO' := Lib.hid own2
      clear own2
      clear own' g'
      go_wp2
      go_roundw
      case rel => exact ⟨k + 1, by omega, by go_num, by rw [HQ.out]; go_num, HO'.out, hb'⟩
      case measure => simp [intOf]; omega
    · obtain rfl : k = 4 := by omega
      have HO := Lib.hid hown
      clear hown
      go_wp2
      go_ret
      exact ⟨_, rfl, HO.out, hbel⟩
end Go.Proofs.Ytadgnemfjmiafaa

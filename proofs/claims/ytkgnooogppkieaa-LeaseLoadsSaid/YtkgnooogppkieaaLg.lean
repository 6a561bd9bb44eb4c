/- lease: Clone, All. Conditions: the table lies in the call's own memory. -/
import Derived.Test.YtkgnooogppkieaaLf
namespace Go.Proofs.Ytkgnooogppkieaa
open Go.RowKit
set_option linter.unusedVariables false
set_option linter.unusedSimpArgs false
variable {w w' : World} {base n : Nat} {v : Value} {L : List Lz}

theorem own_src {e size n c : Nat} {ad : Option Addr} {xs : List Value} (h : w.ownsRow base e size (.slice ad n c) n xs) (h1 : ∀ u ∈ xs, u.oneCell' = true) : Src w ad n size xs := by
  refine ⟨h.1, h1, ?_⟩
  have hC := fun (g : Nat) (hg : (Value.slice ad n c).ownBlock = some g) => h.cells hg
  rcases h.2 with ⟨_, h0⟩ | ⟨g, cap, cur, he, _⟩
  · exact .inl h0
  · obtain ⟨rfl, rfl⟩ : ad = some ⟨g, 0, none⟩ ∧ c = cap := by simpa using he
    exact .inr ⟨_, rfl, hC g rfl⟩
theorem nil_eq (w : World) : (binOp .eql 27 (.slice none 0 0) (.slice none 0 0)).run Try.prog w = .ok (.bool true) w := by kernel_rfl
theorem some_ne (a : Addr) (n c : Nat) (w : World) : (binOp .eql 27 (.slice (some a) n c) (.slice none 0 0)).run Try.prog w = .ok (.bool false) w := by kernel_rfl
set_option maxHeartbeats 1000000 in
theorem clone_row (ad : Option Addr) (c : Nat) (h : w.ownsRow base 37 3 (.slice ad L.length c) L.length (cellsOf L)) (hl : L.length ≤ 1000) :
    Calls Try.prog 29 #[.slice ad L.length c] w fun e w' => ∃ v', e = .returned v' ∧ w'.ownsRow w.heap.size 37 3 v' L.length (cellsOf L) ∧ Below w.heap.size w w' := by
  cases ad with
  | none =>
    have h0 : L.length = 0 ∧ c = 0 := by
      rcases h.2 with ⟨h0, h1⟩ | ⟨g, cap, cur, h0, _⟩
      · exact ⟨h1, by injection h0⟩
      · cases h0
    obtain rfl : L = [] := List.length_eq_zero_iff.1 h0.1
    rw [h0.2]
    have s1 := nil_eq
    clear h h0
    go_enter Try.func29, Try.ntmps29
    go_wp2
    go_ret
    exact ⟨_, rfl, World.ownsRow_nil _ _ _ _, Below.refl _ _⟩
  | some ad =>
    have HO1 := Lib.hid (World.ownsRow_lit (base := w.heap.size) (e := 37) (size := 3) w #[] 0 (Nat.le_refl _) (by decide) rfl)
    have HS1 := Lib.hid (own_src (own_stays h (w' := w.alloc (.cells #[] 37)) (fun k hk => Below.heap_alloc w _ k (own_lt h k hk))) (cells_one L))
    obtain ⟨i0, hi, hz0, hz1, hz2⟩ := info_parts row37
    have HI := Lib.hid hi
    have HZZ := Lib.hid hz0
    have HSZ := Lib.hid (show w.heap.size ≤ (w.alloc (.cells #[] 37)).heap.size by simp)
    have BB := Lib.hid ((Below.refl w.heap.size w).alloc (Nat.le_refl _) (.cells #[] 37))
    have s1 := some_ne
    clear h hi hz0
    go_enter Try.func29, Try.ntmps29
    go_wp2_with (at_builtin; refine wpList_append_at rfl (.tmp 5) (.tmp 6) 27 rfl w.heap.size 37 i0 _ 3 24 Try.underlying27 HI.out HZZ.out hz1 hz2 rfl (by decide) _ _ _ rfl HO1.out _ _ _ _ rfl HS1.out (by unfold maxLen; omega) (by omega) HSZ.out ?_; intro v2 w2 own2 g2 at2)
    go_ret
    exact ⟨_, rfl, by simpa using own2, BB.out.grown g2 HSZ.out (own_ge HO1.out)⟩
theorem all_any (h : Tab w base n v L) (hl : L.length ≤ 1000) :
    Calls Try.prog 12 #[.pointer (some ⟨n, 0, none⟩)] w fun e w' => ∃ v', e = .returned v' ∧ w'.ownsRow w.heap.size 37 3 v' L.length (cellsOf L) ∧ Below w.heap.size w w' := by
  obtain ⟨ad, c, rfl, _⟩ := own_shape h.row
  have c0 : w.cell? ⟨n, 0, none⟩ = some (.slice ad L.length c) := h.box.cell 0
  have hn := h.box.lt
  have C1 := Lib.hid (clone_row ad c h.row hl)
  clear h
  go_enter Try.func12, Try.ntmps12
  go_wp2_with fail
  refine C1.out.mono ?_
  rintro e w1 ⟨v1, rfl, own1, b1⟩
  obtain ⟨ad1, c1, rfl, _⟩ := own_shape own1
  go_wp2
  go_ret
  exact ⟨_, rfl, own1, b1⟩
theorem clone_any (h : Tab w base n v L) (hl : L.length ≤ 1000) :
    Calls Try.prog 18 #[.pointer (some ⟨n, 0, none⟩)] w fun e w' => ∃ m v', e = .returned (.pointer (some ⟨m, 0, none⟩)) ∧ Tab w' w.heap.size m v' L ∧ Below w.heap.size w w' := by
  obtain ⟨ad, c, rfl, _⟩ := own_shape h.row
  have c0 : w.cell? ⟨n, 0, none⟩ = some (.slice ad L.length c) := h.box.cell 0
  have hn := h.box.lt
  have C1 := Lib.hid (clone_row ad c h.row hl)
  clear h
  go_enter Try.func18, Try.ntmps18
  go_wp2_with fail
  refine C1.out.mono ?_
  rintro e w1 ⟨v1, rfl, own1, b1⟩
  obtain ⟨ad1, c1, rfl, _⟩ := own_shape own1
  have HO := Lib.hid own1
  have HB := Lib.hid b1
  clear own1 b1 C1
  go_wp2
  go_ret
  exact ⟨_, _, rfl, ⟨Box.new w1 56 #[_], own_stays HO.out (fun k hk => Below.heap_alloc w1 _ k (own_lt HO.out k hk)), HB.out.size⟩, HB.out.alloc HB.out.size _⟩
end Go.Proofs.Ytkgnooogppkieaa

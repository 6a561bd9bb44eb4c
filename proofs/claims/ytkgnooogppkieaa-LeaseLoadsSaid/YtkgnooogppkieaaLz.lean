/- The walk of LeaseApart. Conditions: the scripts lie in memory. -/
import Derived.Test.YtkgnooogppkieaaLy
namespace Go.Proofs.Ytkgnooogppkieaa
open Go.ChangeShapes Go.WideShapes Go.ChangeAt Go.RowKit Go.Deep
set_option linter.unusedVariables false
set_option linter.unusedSimpArgs false
variable {w w' : World} {base : Nat} {L : List Lz}

/-- a row of three cells each that was made by the call itself, whatever is in it. -/
theorem own_any {m c : Nat} {ad : Option Addr} {xs : List Value} (h : w.ownsRow base 37 3 (.slice ad m c) m xs) (k : Nat) (hk : k < m) :
    ∃ g, ad = some ⟨g, 0, none⟩ ∧ base ≤ g ∧ g < w.heap.size ∧ ∃ x y z, w.cell? ⟨g, k * 3, none⟩ = some x ∧ w.cell? ⟨g, k * 3 + 1, none⟩ = some y ∧ w.cell? ⟨g, k * 3 + 2, none⟩ = some z ∧ w.frozen? ⟨g, k * 3, none⟩ = false ∧ w.frozen? ⟨g, k * 3 + 1, none⟩ = false ∧ w.frozen? ⟨g, k * 3 + 2, none⟩ = false := by
  rcases h.2 with ⟨_, h1⟩ | ⟨g, cap, cur, he, hb, hg, hc, hm, hcs, ht⟩
  · omega
  obtain ⟨rfl, rfl⟩ : ad = some ⟨g, 0, none⟩ ∧ c = cap := by simpa using he
  have hl := h.1
  have hC := h.cells (g := g) rfl
  have hq : ∀ j, j < m * 3 → ∃ x, w.cell? ⟨g, j, none⟩ = some x := fun j hj => by
    obtain ⟨x, hx⟩ : ∃ x, xs[j]? = some x := ⟨_, List.getElem?_eq_getElem (by omega)⟩
    have := hC _ _ hx
    rw [Addr.add_lit, Nat.zero_add] at this
    exact ⟨x, this⟩
  obtain ⟨x, hx⟩ := hq (k * 3) (by omega)
  obtain ⟨y, hy⟩ := hq (k * 3 + 1) (by omega)
  obtain ⟨z, hz⟩ := hq (k * 3 + 2) (by omega)
  exact ⟨g, rfl, hb, own_lt h g rfl, x, y, z, hx, hy, hz, frozen_of_row w g _ cur 37 hg, frozen_of_row w g _ cur 37 hg, frozen_of_row w g _ cur 37 hg⟩
set_option maxRecDepth 100000 in
set_option maxHeartbeats 4000000 in
theorem apart_core (W : World) (pa : Option Addr) (len cap : Nat) (os : List Op10) (hO : OpsAt W pa len os) (pb : Option Addr) (len' cap' : Nat) (os' : List Op10) (hO' : OpsAt W pb len' os') :
    Calls Try.prog 6 #[.slice pa len cap, .slice pb len' cap'] W fun e W' => e = .returned (.bool true) ∧ Below W.heap.size W W' := by
  have C0 := Lib.hid (new_any W)
  have HO := Lib.hid hO
  have HO' := Lib.hid hO'
  clear hO hO'
  by_cases hbig : 200 < len
  · go_enter Try.func6, Try.ntmps6
    go_wp2_with fail
    refine C0.out.mono ?_
    rintro e w1 ⟨rfl, hT1, b1⟩
    go_wp2_with fail
    refine (alive_any _).mono ?_
    rintro e w2 ⟨rfl, b2⟩
    go_wp2_with fail
    go_ret
    exact ⟨rfl, b1.trans (b2.mono b1.size)⟩
  by_cases hbig' : 200 < len'
  · go_enter Try.func6, Try.ntmps6
    go_wp2_with fail
    refine C0.out.mono ?_
    rintro e w1 ⟨rfl, hT1, b1⟩
    go_wp2_with fail
    refine (alive_any _).mono ?_
    rintro e w2 ⟨rfl, b2⟩
    go_wp2_with fail
    go_ret
    exact ⟨rfl, b1.trans (b2.mono b1.size)⟩
  go_enter Try.func6, Try.ntmps6
  go_wp2_with fail
  refine C0.out.mono ?_
  rintro e w1 ⟨rfl, hT1, b1⟩
  have B1 := Lib.hid b1
  have C1 := Lib.hid (plays_new w1 W.heap.size pa len cap os (HO.out.below b1 (Nat.le_refl _)) (by omega) (ops_in HO.out) hT1 b1.size)
  have HT1 := Lib.hid hT1
  clear C0 hT1 b1
  go_wp2_with fail
  refine C1.out.mono ?_
  rintro e w2 ⟨ad2, c2, v2, rfl, hc2, hT2, g2, hS2⟩
  have HG2 := Lib.hid (good_play os good_nil)
  obtain ⟨M, hM⟩ : ∃ M, M = playL os [] := ⟨_, rfl⟩
  rw [← hM] at hT2 hc2 HG2 hS2 ⊢
  have B2 := Lib.hid (g2.below B1.out (Nat.le_refl _) HT1.out.of_ge)
  have hml : M.length ≤ 1000 := Nat.le_trans HG2.out.many (by omega)
  have HT2 := Lib.hid hT2
  have HS2 := Lib.hid (hS2.mono (bad' := fun k => Of W.heap.size v2 k ∨ w2.heap.size ≤ k) (fun k hk h => h.elim id (fun h => by omega)))
  have HC2 := Lib.hid hc2
  have C2 := Lib.hid (clone_any hT2 hml)
  clear hT2 hS2 g2 C1 HT1 hM B1 hc2
  go_wp2_with fail
  refine C2.out.mono ?_
  rintro e w3 ⟨m, v3, rfl, hU3, b3⟩
  have HT3 := Lib.hid (HT2.out.below b3 (Nat.le_refl _))
  have HU3 := Lib.hid hU3
  have HTL := Lib.hid HT2.out.of_lt
  have HS3 := Lib.hid ((HS2.out.below b3).mono (bad' := Of m v3) (fun k hk h => .inr (hU3.of_ge k h)))
  have B3 := Lib.hid (B2.out.trans (b3.mono B2.out.size))
  have C3 := Lib.hid (plays_any (w := w3) (base := w2.heap.size) (n := m) (v := v3) (L := M) ad2 c2 pb len' cap' os' (HO'.out.below B3.out (Nat.le_refl _)) (by omega) (fun g o s e h => Nat.lt_of_lt_of_le (ops_in HO'.out g o s e h) B2.out.size) hU3 b3.size HG2.out HS3.out HC2.out)
  have HG4 := Lib.hid (good_play os' HG2.out)
  clear b3 hU3 C2 HT2 HS2 HC2
  go_wp2_with fail
  refine C3.out.mono ?_
  rintro e w4 ⟨ad4, c4, v4, rfl, hc4, hU4, g4, hR4⟩
  obtain ⟨N, hN⟩ : ∃ N, N = playL os' M := ⟨_, rfl⟩
  rw [← hN] at hU4 hc4 HG4 hR4 ⊢
  have hnl : N.length ≤ 1000 := Nat.le_trans HG4.out.many (by omega)
  have HT4 := Lib.hid (HT3.out.touch g4.touch (fun k hk h => by have h1 := HU3.out.of_ge k hk; have h2 := HTL.out k h; omega))
  have HS4 := Lib.hid (HS3.out.goes g4)
  have HR4 := Lib.hid hR4
  have HU4 := Lib.hid hU4
  have B4 := Lib.hid (g4.below B3.out (Nat.le_refl _) (fun k hk => Nat.le_trans B2.out.size (HU3.out.of_ge k hk)))
  have C4 := Lib.hid (all_any HT4.out hml)
  clear hU4 hR4 g4 C3 HT3 HS3 HU3 HTL hN hc4 B2 B3
  go_wp2_with fail
  refine C4.out.mono ?_
  rintro e w5 ⟨l5, rfl, own5, b5⟩
  obtain ⟨ad5, c5, rfl, _⟩ := own_shape own5
  have HO5 := Lib.hid own5
  have HB5 := Lib.hid b5
  clear b5 own5 C4
  go_wp2
  go_loopw [52] (fun i wr => ∃ k : Nat, k ≤ M.length ∧ i = .int .i64 k ∧ (∃ xs, wr.ownsRow w4.heap.size 37 3 (.slice ad5 M.length c5) M.length xs) ∧ Below w4.heap.size w4 wr) (fun i _ => M.length - (intOf i).toNat)
  case atStart => exact ⟨0, Nat.zero_le _, rfl, ⟨_, HO5.out⟩, HB5.out⟩
  case round =>
    obtain ⟨k, hk, rfl, ⟨xs, hR⟩, hbel⟩ := hrel
    have HR := Lib.hid hR
    have HB := Lib.hid hbel
    clear hbel hR
    by_cases hlt : k < M.length
    · obtain ⟨g, rfl, hbg, hg, x, y, z, d0, d1, d2, f0, f1, f2⟩ := own_any HR.out k hlt
      go_wp2
      go_roundw
      case rel => exact ⟨k + 1, by omega, by go_num, ⟨_, own_set (own_set (own_set HR.out (k * 3) (by omega) _) (k * 3 + 1) (by omega) _) (k * 3 + 2) (by omega) _⟩, ((HB.out.setCell (p := ⟨g, k * 3, none⟩) hbg _).setCell (p := ⟨g, k * 3 + 1, none⟩) hbg _).setCell (p := ⟨g, k * 3 + 2, none⟩) hbg _⟩
      case measure => simp [intOf]; omega
    · obtain rfl : k = M.length := by omega
      have HT6 := Lib.hid (HT4.out.below HB.out (Nat.le_refl _))
      have HU6 := Lib.hid (HU4.out.below HB.out (Nat.le_refl _))
      have HS6 := Lib.hid (HS4.out.below HB.out)
      have HR6 := Lib.hid (HR4.out.below HB.out)
      have B6 := Lib.hid (B4.out.trans (HB.out.mono B4.out.size))
      clear HT4 HU4 HS4 HR4 B4 HB HR
      go_wp2_with fail
      refine (alive_any _).mono ?_
      rintro e w7 ⟨rfl, b7⟩
      have HT7 := Lib.hid (HT6.out.below b7 (Nat.le_refl _))
      have HU7 := Lib.hid (HU6.out.below b7 (Nat.le_refl _))
      have HS7 := Lib.hid (HS6.out.below b7)
      have HR7 := Lib.hid (HR6.out.below b7)
      have B7 := Lib.hid (B6.out.trans (b7.mono B6.out.size))
      have C7 := Lib.hid (all_any HT7.out hml)
      clear b7 HT6 HU6 HS6 HR6 B6
      go_wp2_with fail
      refine C7.out.mono ?_
      rintro e w8 ⟨l8, rfl, own8, b8⟩
      obtain ⟨ad8, c8, rfl, _⟩ := own_shape own8
      have HU8 := Lib.hid (HU7.out.below b8 (Nat.le_refl _))
      have HS8 := Lib.hid (HS7.out.below b8)
      have HR8 := Lib.hid (HR7.out.below b8)
      have B8 := Lib.hid (B7.out.trans (b8.mono B7.out.size))
      have C8 := Lib.hid (plain_any ad8 c8 (Sees.of_own (bad := fun _ => False) own8 (fun _ _ _ h => h)) hml)
      clear b8 own8 HT7 HU7 HS7 HR7 B7 C7
      go_wp2_with fail
      refine C8.out.mono ?_
      rintro e w9 ⟨l9, rfl, own9, b9⟩
      obtain ⟨ad9, c9, rfl, _⟩ := own_shape own9
      have HU9 := Lib.hid (HU8.out.below b9 (Nat.le_refl _))
      have HR9 := Lib.hid (HR8.out.below b9)
      have B9 := Lib.hid (B8.out.trans (b9.mono B8.out.size))
      have C9 := Lib.hid (same_any ad9 c9 ad2 c2 (Sees.of_own (bad := fun _ => False) own9 (fun _ _ _ h => h)) (HS8.out.below b9) hml)
      clear b9 own9 HU8 HS8 HR8 B8 C8
      go_wp2_with fail
      refine C9.out.mono ?_
      rintro e wa ⟨rfl, ba⟩
      have HUa := Lib.hid (HU9.out.below ba (Nat.le_refl _))
      have HRa := Lib.hid (HR9.out.below ba)
      have Ba := Lib.hid (B9.out.trans (ba.mono B9.out.size))
      have Ca := Lib.hid (all_any HUa.out hnl)
      clear ba HU9 HR9 B9 C9
      go_wp2_with fail
      refine Ca.out.mono ?_
      rintro e wb ⟨lb, rfl, ownb, bb⟩
      obtain ⟨adb, cb, rfl, _⟩ := own_shape ownb
      have HRb := Lib.hid (HRa.out.below bb)
      have Bb := Lib.hid (Ba.out.trans (bb.mono Ba.out.size))
      have Cb := Lib.hid (plain_any adb cb (Sees.of_own (bad := fun _ => False) ownb (fun _ _ _ h => h)) hnl)
      clear bb ownb HUa HRa Ba Ca
      go_wp2_with fail
      refine Cb.out.mono ?_
      rintro e wc ⟨lc, rfl, ownc, bc⟩
      obtain ⟨adc, cc, rfl, _⟩ := own_shape ownc
      have Bc := Lib.hid (Bb.out.trans (bc.mono Bb.out.size))
      have Cc := Lib.hid (same_any adc cc ad4 c4 (Sees.of_own (bad := fun _ => False) ownc (fun _ _ _ h => h)) (HRb.out.below bc) hnl)
      clear bc ownc HRb Bb Cb
      go_wp2_with fail
      refine Cc.out.mono ?_
      rintro e wd ⟨rfl, bd⟩
      have Bd := Lib.hid (Bc.out.trans (bd.mono Bc.out.size))
      clear bd
      go_wp2
      go_ret
      exact ⟨rfl, Bd.out⟩
theorem leaseApart_walk {H : Type} {enc : TypeId × Value → H} {base : Nat} {p0 p1 : List MemPlace} (W : World) (v0 : Value) (d0 : DataW H) (hv : Value.okWide Try.prog W .any base 30 v0) (h : DataW.Trod enc Try.prog W 0 (fun _ => true) true 30 v0 d0 p0) (_b : ∀ n ∈ d0.weights Try.prog 30, n ≤ 140737488351232)
    (v1 : Value) (d1 : DataW H) (hv1 : Value.okWide Try.prog W .any base 30 v1) (h1 : DataW.Trod enc Try.prog W 0 (fun _ => true) true 30 v1 d1 p1) (_b1 : ∀ n ∈ d1.weights Try.prog 30, n ≤ 140737488351232) :
    Calls Try.prog 6 #[v0, v1] W fun e W' => e = .returned (.bool true) ∧ Below W.heap.size W W' := by
  obtain ⟨a, len, cap, os, rfl, hP, _, _⟩ := open_ops hv h
  obtain ⟨a', len', cap', os', rfl, hP', _, _⟩ := open_ops hv1 h1
  exact apart_core W a len cap os hP a' len' cap' os' hP'
end Go.Proofs.Ytkgnooogppkieaa

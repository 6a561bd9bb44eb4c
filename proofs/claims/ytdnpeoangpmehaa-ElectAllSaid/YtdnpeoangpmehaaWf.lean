/- The walk of ElectHears. Conditions: the gaps lie in memory. -/
import Derived.Test.YtdnpeoangpmehaaWe
namespace Go.Proofs.Ytdnpeoangpmehaa
open Go.RowKit

/-- an element of a slice of integers. -/
theorem Ints.get {k : IntKind} {w : World} {a : Option Addr} {len : Nat} {zs : List Int} (hB : Ints k w a len zs) (i : Nat) (h : i < len) :
    ∃ b off x, a = some ⟨b, off, none⟩ ∧ w.cell? ⟨b, off + i, none⟩ = some (.int k x) ∧ (Lit.int k x).wf = true ∧ x = zs.getD i 0 ∧ b < w.heap.size := by
  obtain ⟨hl, hr, hm, hB⟩ := hB
  obtain ⟨b, off, rfl, hc⟩ := hB.resolve_left (by omega)
  have hlt : i < zs.length := by omega
  have : zs.getD i 0 = zs[i] := by simp [hlt]
  exact ⟨b, off, _, rfl, hc i h, by rw [this]; exact hr _ (List.getElem_mem hlt), rfl, World.block_lt_of_cell? _ _ (hc i h)⟩

theorem electHears_core (W : World) (a b c : Int) (p : Option Addr) (len cap : Nat) (zs : List Int) (hz : Ints .i64 W p len zs) :
    Calls Try.prog 6 #[.agg #[.int .i64 a, .int .i64 b, .int .i64 c], .slice p len cap] W fun e W' => e = .returned (.bool true) ∧ Below W.heap.size W W' := by
  have hlen := hz.2.2.1
  unfold maxLen at hlen
  by_cases hok : okMember a b c
  · obtain ⟨self, rfl⟩ := Int.eq_ofNat_of_zero_le hok.1
    obtain ⟨m, rfl⟩ := Int.eq_ofNat_of_zero_le (show 0 ≤ b by have := hok.2.1; omega)
    obtain ⟨s, rfl⟩ := Int.eq_ofNat_of_zero_le (show 0 ≤ c by have := hok.2.2.2.1; omega)
    obtain ⟨q1, q2, q3, q4, q5⟩ := hok
    have C1 := Lib.hid (fun w => new_box (self := self) (many := m) (span := s) ⟨q1, q2, q3, q4, q5⟩ w)
    have hlim : s * (self + 2) ≤ 9000 := Nat.le_trans (Nat.mul_le_mul (show s ≤ 1000 by omega) (show self + 2 ≤ 9 by omega)) (by omega)
    have hlim0 : 1 ≤ s * (self + 2) := Nat.mul_pos (by omega) (by omega)
    obtain ⟨lim, hl⟩ : ∃ l, l = s * (self + 2) := ⟨_, rfl⟩
    rw [← hl] at C1 hlim hlim0
    clear hl
    have hx := box3 W self m s
    by_cases hbig : len > 100
    · clear hx
      go_enter Try.func6, Try.ntmps6
      go_wp2_with fail
      refine (C1.out _).mono ?_
      rintro e w1 ⟨rfl, hb1, ht1⟩
      have HB := Lib.hid hb1; clear hb1
      go_wp2_with fail
      refine (alive_any _).mono ?_
      rintro e w2 ⟨rfl, hb2⟩
      go_wp2_with fail
      go_ret
      have h0 : Below W.heap.size W w1 := ((Below.refl _ _).alloc (Nat.le_refl _) _).trans (ht1.mono (by simp))
      exact ⟨rfl, h0.trans (hb2.mono h0.size)⟩
    · go_enter Try.func6, Try.ntmps6
      go_wp2_with fail
      refine (C1.out _).mono ?_
      rintro e w1 ⟨rfl, hb1, ht1⟩
      have h0 : Below W.heap.size W w1 := ((Below.refl _ _).alloc (Nat.le_refl _) _).trans (ht1.mono (by simp))
      simp only [World.size_alloc] at hb1
      clear hx ht1 C1
      go_wp2
      go_loopw [35] (fun i wr => ∃ k : Nat, k ≤ len ∧ i = .int .i64 k ∧ Box wr (W.heap.size + 1) 46 (cells s m 0 lim) ∧ Below W.heap.size W wr) (fun i _ => len - (intOf i).toNat)
      case atStart => exact ⟨0, Nat.zero_le _, rfl, hb1, h0⟩
      case round =>
        obtain ⟨k, hk, rfl, hb, hbel⟩ := hrel
        by_cases hlt : k < len
        · obtain ⟨pb, po, x, rfl, hck, hxw, ex, hpb⟩ := hz.get k hlt
          clear ex
          rw [← hbel.cell (by exact hpb)] at hck
          have HB := Lib.hid hb
          have C := Lib.hid (limit_any wr hb)
          have HX := Lib.hid hxw
          clear hb hz hb1 h0 hxw
          go_upto_region 7 with fail
          go_cut [44, 45] (fun v i w' => w' = wr ∧ i = .int .i64 0 ∧ ∃ q : Nat, v = .int .i64 q ∧ q + 1 ≤ lim ∧ q ≤ 500)
          case first =>
            by_cases hneg : x < 0
            · go_wp2_with (go_at_call 16; refine C.out.mono ?_; rintro e w' ⟨rfl, rfl⟩)
              all_goals (go_meet; refine ⟨rfl, rfl, 0, ?_, by omega, by omega⟩; first | rfl | (congr 1; omega))
            · obtain ⟨y, rfl⟩ := Int.eq_ofNat_of_zero_le (show 0 ≤ x by omega)
              obtain ⟨l, rfl⟩ : ∃ l, lim = l + 1 := ⟨lim - 1, by omega⟩
              have e1 : ((l + 1 : Nat) : Int) - 1 = (l : Int) := by omega
              go_wp2_with (go_at_call 16; refine C.out.mono ?_; rintro e w' ⟨rfl, rfl⟩)
              all_goals (go_meet; refine ⟨rfl, rfl, ?_⟩)
              all_goals first | exact ⟨y, by go_num, by omega, by omega⟩ | exact ⟨l, by go_num, by omega, by omega⟩ | exact ⟨500, by go_num, by omega, by omega⟩
          case rest =>
            obtain ⟨rfl, rfl, q, rfl, hq1, hq2⟩ := hcut
            go_wp2
            go_loopw [45] (fun i wr => ∃ j : Nat, j ≤ q ∧ i = .int .i64 j ∧ Box wr (W.heap.size + 1) 46 (cells s m j lim) ∧ Below W.heap.size W wr) (fun i _ => q - (intOf i).toNat)
            case atStart => exact ⟨0, Nat.zero_le _, rfl, HB.out, hbel⟩
            case round =>
              obtain ⟨j, hj, rfl, hb, hbel2⟩ := hrel
              clear hck hbel
              by_cases hlt2 : j < q
              · have T := Lib.hid (tick_wait (s := s) (m := m) (wt := j) (lim := lim) (by unfold Small; omega) (by omega) _ hb)
                clear hb
                go_wp2_with (go_at_call 11; refine T.out.mono ?_; rintro e w3 ⟨rfl, hb3, ht3⟩)
                go_roundw
                case rel => exact ⟨j + 1, by omega, by go_num, hb3, Below.touch hbel2 ht3 (Nat.le_refl _) (by rintro i rfl; omega)⟩
                case measure => simp [intOf]; omega
              · have T := Lib.hid (heard_any _ hb)
                have HB2 := Lib.hid hb
                clear hb
                go_wp2_with (go_at_call 13; refine T.out.mono ?_; rintro e w3 ⟨rfl, rfl⟩)
                go_roundw
                case rel => exact ⟨k + 1, by omega, by go_num, HB2.out.set 2 _, hbel2.setCell (by simp) _⟩
                case measure => simp [intOf]; omega
        · clear hb hz hb1 h0
          go_wp2_with fail
          refine (alive_any _).mono ?_
          rintro e w4 ⟨rfl, hb4⟩
          go_wp2_with fail
          go_ret
          exact ⟨rfl, hbel.trans (hb4.mono hbel.size)⟩
  · have C1 := Lib.hid (fun w => new_bad a b c hok w)
    clear hok
    go_enter Try.func6, Try.ntmps6
    go_wp2_with fail
    refine (C1.out _).mono ?_
    rintro e w1 ⟨rfl, rfl⟩
    go_wp2_with fail
    refine (alive_any _).mono ?_
    rintro e w2 ⟨rfl, hb2⟩
    go_wp2_with fail
    go_ret
    exact ⟨rfl, ((Below.refl _ _).alloc (Nat.le_refl _) _).trans (hb2.mono (by simp))⟩

theorem electHears_walk {H : Type} {enc : TypeId × Value → H} {base : Nat} {p0 : List MemPlace} (W : World) (v0 : Value) (d0 : DataW H) (hv : Value.okWide Try.prog W .any base 23 v0)
    (h0 : DataW.Trod enc Try.prog W 0 (fun _ => true) true 23 v0 d0 p0) (_b0 : ∀ n ∈ d0.weights Try.prog 23, n ≤ 140737488351232) (a1 : Option Addr) (len1 cap1 : Nat) (z1 : List Int) (w1 : Ints .i64 W a1 len1 z1) (_c1 : len1 ≤ cap1) (_b1 : len1 * 8 ≤ 140737488351232) :
    Calls Try.prog 6 #[v0, .slice a1 len1 cap1] W fun e W' => e = .returned (.bool true) ∧ Below W.heap.size W W' := by
  obtain ⟨a, b, c, rfl, _⟩ := three_open hv h0
  exact electHears_core W a b c a1 len1 cap1 z1 w1
end Go.Proofs.Ytdnpeoangpmehaa

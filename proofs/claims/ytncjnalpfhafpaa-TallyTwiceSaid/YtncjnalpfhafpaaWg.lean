/- The walk of TallyBursts. Conditions: the bytes lie in memory. -/
import Derived.Test.YtncjnalpfhafpaaWf
import Derived.Test.YtncjnalpfhafpaaMb
namespace Go.Proofs.Ytncjnalpfhafpaa
open Go.RowKit

theorem bit_val (T : BitVec 32) (k : Nat) : bits .and .u32 ((T.toNat : Int) / 2 ^ k) 1 = if T.getLsbD k then 1 else 0 := by
  rw [and32]
  have e : BitVec.ofInt 32 ((T.toNat : Int) / 2 ^ k) = T >>> k := by
    rw [show ((T.toNat : Int) / 2 ^ k) = ((T.toNat / 2 ^ k : Nat) : Int) by simp, BitVec.ofInt_natCast]
    apply BitVec.eq_of_toNat_eq
    have := T.isLt
    rw [BitVec.toNat_ofNat, BitVec.toNat_ushiftRight, Nat.shiftRight_eq_div_pow]
    exact Nat.mod_eq_of_lt (Nat.lt_of_le_of_lt (Nat.div_le_self _ _) this)
  rw [e, BitVec.toNat_and, BitVec.toNat_ushiftRight, BitVec.getLsbD, Nat.testBit]
  rw [show (BitVec.ofInt 32 1).toNat = 1 by rfl, Nat.and_one_is_mod, Nat.and_comm, Nat.and_one_is_mod]
  rcases Nat.mod_two_eq_zero_or_one (T.toNat >>> k) with h | h <;> simp [h]

theorem turn_val (x : Int) (j : Nat) (h0 : 0 ≤ x) (h1 : x < 256) (hj : j < 8) : bits .xor .u8 x (2 ^ j % 256) = ((x.toNat ^^^ 2 ^ j : Nat) : Int) := by
  have h2 : (2 : Nat) ^ j < 2 ^ 8 := Nat.pow_lt_pow_right (by omega) hj
  have e : ((2 : Int) ^ j % 256) = ((2 ^ j : Nat) : Int) := by
    rw [Int.natCast_pow]
    exact Int.emod_eq_of_lt (Int.pow_nonneg (by decide)) (by have : ((2 ^ j : Nat) : Int) < 256 := by omega
                                                             simpa using this)
  rw [e, u8_xor _ _ h0 h1 (Int.natCast_nonneg _) (by omega), Int.toNat_natCast]

theorem rel_turn {W wr : World} {g cap lb k p : Nat} {T : BitVec 32} {zb : List Int} {x v : Int} (hown : wr.ownsRow W.heap.size 5 1 (.slice (some ⟨g, 0, none⟩) lb cap) lb ((Tally.turnedText T zb p k).map (Value.int .u8)))
    (hbel : Below W.heap.size W wr) (hg : W.heap.size ≤ g) (hx : x = (Tally.turnedText T zb p k).getD ((p + k) / 8) 0) (hv : v = ((x.toNat ^^^ 2 ^ ((p + k) % 8) : Nat) : Int)) (hh : Tally.hits T (8 * zb.length) p k = true) :
    (wr.setCell ⟨g, (p + k) / 8, none⟩ (.int .u8 v)).drew.ownsRow W.heap.size 5 1 (.slice (some ⟨g, 0, none⟩) lb cap) lb ((Tally.turnedText T zb p (k + 1)).map (Value.int .u8)) ∧ Below W.heap.size W (wr.setCell ⟨g, (p + k) / 8, none⟩ (.int .u8 v)).drew := by
  have h := (hown.stored ((p + k) / 8) (.int .u8 v)).1
  have e : (Tally.turnedText T zb p (k + 1)).map (Value.int .u8) = ((Tally.turnedText T zb p k).map (Value.int .u8)).set ((p + k) / 8) (.int .u8 v) := by
    rw [Tally.turnedText, if_pos hh, hv, hx, List.map_set]
  rw [e]
  exact ⟨h.drew, (hbel.setCell hg _).drew⟩

theorem tallyBursts_walk (W : World) (b : Option Addr) (lb cb : Nat) (zb : List Int) (hb : Ints .u8 W b lb zb) (_hcb : lb ≤ cb) (hrb : lb * 1 ≤ 140737488351232) (at' : Int) (_wat : (Lit.int .i64 at').wf = true) (tn : Int) (wtn : (Lit.int .u32 tn).wf = true) :
    Calls Try.prog 6 #[.slice b lb cb, .int .i64 at', .int .u32 tn] W fun e W' => e = .returned (.bool true) ∧ Below W.heap.size W W' := by
  obtain ⟨i0, hi, hz0, hz1, hz2⟩ := info_parts info5
  obtain ⟨T, rfl⟩ := bv_of_wf wtn
  have qb := Bytes.of_ints hb
  clear hb wtn
  by_cases h0 : at' < 0
  · go_enter Try.func6, Try.ntmps6
    go_wp2_with (go_at_call 10; refine (alive_any _).mono ?_; rintro e w1 ⟨rfl, hb1⟩)
    go_ret
    exact ⟨rfl, hb1⟩
  by_cases h1 : at' ≥ 8 * lb
  · go_enter Try.func6, Try.ntmps6
    go_wp2_with (go_at_call 10; refine (alive_any _).mono ?_; rintro e w1 ⟨rfl, hb1⟩)
    go_ret
    exact ⟨rfl, hb1⟩
  obtain ⟨p, rfl⟩ := Int.eq_ofNat_of_zero_le (show 0 ≤ at' by omega)
  have h2 : p < 8 * lb := by omega
  have h3 : ¬ (8 * (lb : Int) ≤ (p : Int)) := by omega
  go_enter Try.func6, Try.ntmps6
  go_wp2_with (at_builtin; refine wpList_append_src rfl (.tmp 21) (.tmp 22) 22 rfl W.heap.size 5 i0 (.int .u8 0) 1 1 Try.underlying22 hi hz0 hz1 hz2 rfl (by decide) _ 0 [] rfl ?c1 b lb cb (zb.map (Value.int .u8)) rfl ?c2 ?c3 ?c4 (by simp) ?_)
  case c1 => exact World.ownsRow_lit W #[] 0 (Nat.le_refl _) (Nat.zero_le _) rfl
  case c2 => exact (qb.alloc _).src
  case c3 => unfold maxLen; omega
  case c4 => omega
  intro v2 w2 own2 g2
  have hb2 : Below W.heap.size W w2 := ((Below.refl _ _).alloc (Nat.le_refl _) _).grown g2 (by simp) (by intro k hk; cases hk; exact Nat.le_refl _)
  obtain ⟨g, cap, hv2⟩ : ∃ g cap, v2 = .slice (some ⟨g, 0, none⟩) lb cap := by
    rcases own2.2 with ⟨_, h⟩ | ⟨g, cap, cur, h, _⟩
    · omega
    · exact ⟨g, cap, h⟩
  rw [hv2] at own2 ⊢
  have hg : W.heap.size ≤ g := own_ge own2 g rfl
  clear g2 hv2
  go_wp2
  go_loopw [8, 24] (fun t i wr => ∃ k : Nat, k ≤ 32 ∧ i = .int .i64 k ∧ t = .bool (Tally.anyHit T (8 * lb) p k) ∧ wr.ownsRow W.heap.size 5 1 (.slice (some ⟨g, 0, none⟩) lb cap) lb ((Tally.turnedText T zb p k).map (Value.int .u8)) ∧ Below W.heap.size W wr) (fun _ i _ => 32 - (intOf i).toNat)
  case atStart => exact ⟨0, Nat.zero_le _, rfl, rfl, own2, hb2⟩
  case round =>
    obtain ⟨k, hk, rfl, rfl, hown, hbel⟩ := hrel
    by_cases hlt : k < 32
    · have hbit := bit_val T k
      by_cases hT : T.getLsbD k = true
      · rw [if_pos hT] at hbit
        by_cases hin : p + k < 8 * lb
        · have hj : (p + k) / 8 < lb := by omega
          have hlen : (Tally.turnedText T zb p k).length = lb := by rw [Tally.turned_length]; exact qb.1
          have hfz := hown.frozenAt ((p + k) / 8)
          have hck := hown.cellAt ((p + k) / 8) (by omega)
          obtain ⟨x, hx⟩ : ∃ x, x = (Tally.turnedText T zb p k).getD ((p + k) / 8) 0 := ⟨_, rfl⟩
          have hxr := getD_range _ _ (Tally.turned_range T zb qb.2.1 p k) ((p + k) / 8) (by omega)
          rw [← hx] at hxr
          rw [show ((Tally.turnedText T zb p k).map (Value.int .u8))[(p + k) / 8]? = some (.int .u8 x) by rw [hx]; simp [hlen, hj]] at hck
          have HX := Lib.hid hx
          have HO := Lib.hid hown
          obtain ⟨x0, x1⟩ := hxr
          clear hx hown own2 hb2
          go_upto_region 10 with fail
          go_region
          have hh : Tally.hits T (8 * zb.length) p k = true := by
            simp only [Tally.hits, hT, Bool.true_and, decide_eq_true_eq, qb.1]; omega
          have R := rel_turn HO.out hbel hg HX.out (turn_val x ((p + k) % 8) x0 x1 (Nat.mod_lt _ (by decide))) hh
          have HA : Hid (Tally.anyHit T (8 * lb) p (k + 1) = true) := by
            rw [qb.1] at hh
            show Tally.anyHit T (8 * lb) p (k + 1) = true
            rw [Tally.anyHit, hh]; simp
          clear HO hbel HX hck hfz hbit hh hlen
          go_wp2
          go_roundw
          case rel => exact ⟨k + 1, by omega, by go_num, by rw [HA.out], R⟩
          case measure => simp [intOf]; omega
        · have hh : Tally.hits T (8 * lb) p k = false := by simp [Tally.hits, hin]
          have HA : Hid (Tally.anyHit T (8 * lb) p (k + 1) = Tally.anyHit T (8 * lb) p k ∧ Tally.turnedText T zb p (k + 1) = Tally.turnedText T zb p k) := by
            refine ⟨by rw [Tally.anyHit, hh, Bool.or_false], ?_⟩
            rw [← qb.1] at hh
            rw [Tally.turnedText, hh]; simp
          have HO := Lib.hid hown
          clear hown hh own2 hb2
          go_wp2
          go_roundw
          case rel => exact ⟨k + 1, by omega, by go_num, by rw [HA.out.1], by rw [HA.out.2]; exact HO.out, hbel⟩
          case measure => simp [intOf]; omega
      · rw [if_neg hT] at hbit
        have hh : Tally.hits T (8 * lb) p k = false := by simp [Tally.hits, hT]
        have HA : Hid (Tally.anyHit T (8 * lb) p (k + 1) = Tally.anyHit T (8 * lb) p k ∧ Tally.turnedText T zb p (k + 1) = Tally.turnedText T zb p k) := by
          refine ⟨by rw [Tally.anyHit, hh, Bool.or_false], ?_⟩
          rw [← qb.1] at hh
          rw [Tally.turnedText, hh]; simp
        have HO := Lib.hid hown
        clear hown hh own2 hb2
        go_wp2
        go_roundw
        case rel => exact ⟨k + 1, by omega, by go_num, by rw [HA.out.1], by rw [HA.out.2]; exact HO.out, hbel⟩
        case measure => simp [intOf]; omega
    · obtain rfl : k = 32 := by omega
      have HB := Lib.hid (Tally.bursts T zb qb.2.1 p)
      rw [qb.1] at HB
      have CX := Lib.hid (fun w => sum_own (w := w) (base := W.heap.size) (e := 5) (n := lb) (v := .slice (some ⟨g, 0, none⟩) lb cap) (zs := Tally.turnedText T zb p 32))
      have HO := Lib.hid hown
      have hr := Lib.hid (Tally.turned_range T zb qb.2.1 p 32)
      have hmx := qb.2.2.1
      clear hown own2 hb2
      by_cases hA : Tally.anyHit T (8 * lb) p 32 = true
      · have hne : (((Tally.sum (Tally.turnedText T zb p 32)).toNat : Int) != ((Tally.sum zb).toNat : Int)) = true := by
          have := HB.out hA
          rw [bne_iff_ne]
          intro he
          exact this (BitVec.eq_of_toNat_eq (by omega))
        have HNE := Lib.hid hne
        clear hne
        rw [hA]
        go_wp2_with fail
        refine (alive_any _).mono ?_
        rintro e w3 ⟨rfl, hb3⟩
        have HQ3 := Lib.hid (((Bytes.of_own HO.out hr.out hmx)).below hb3)
        have qb3 := Lib.hid ((qb.below hbel).below hb3)
        go_wp2_with fail
        refine (sum_any _ _ _ _ _ HQ3.out).mono ?_
        rintro e w4 ⟨rfl, rfl⟩
        go_wp2_with fail
        refine (sum_any _ _ _ _ _ qb3.out).mono ?_
        rintro e w4 ⟨rfl, rfl⟩
        have hne := HNE.out
        go_wp2_with fail
        go_ret
        exact ⟨rfl, hbel.trans (hb3.mono hbel.size)⟩
      · have hA' : Tally.anyHit T (8 * lb) p 32 = false := by simpa using hA
        rw [hA']
        go_wp2_with fail
        refine (alive_any _).mono ?_
        rintro e w3 ⟨rfl, hb3⟩
        go_wp2_with fail
        go_ret
        exact ⟨rfl, hbel.trans (hb3.mono hbel.size)⟩
end Go.Proofs.Ytncjnalpfhafpaa

/- The walks of the rows: times, double, and Zeros. Conditions: none. -/
import Derived.Test.YtncjnalpfhafpaaWg
import Derived.Test.YtncjnalpfhafpaaTouch
namespace Go.Proofs.Ytncjnalpfhafpaa
open Go.RowKit

/-- thirty-two rows in memory. -/
def rowsOf (g : Nat → BitVec 32) : Array Value := ((List.range 32).map fun i => Value.int .u32 ((g i).toNat : Int)).toArray
theorem rowsOf_get (g : Nat → BitVec 32) (i : Nat) (h : i < 32) : (rowsOf g)[i]? = some (.int .u32 ((g i).toNat : Int)) := by
  simp [rowsOf, h]
theorem rowsOf_size (g : Nat → BitVec 32) : (rowsOf g).size = 32 := by simp [rowsOf]
theorem rowsOf_congr (g h : Nat → BitVec 32) (e : ∀ i, i < 32 → g i = h i) : rowsOf g = rowsOf h := by
  unfold rowsOf
  congr 1
  apply List.map_congr_left
  intro i hi
  rw [e i (List.mem_range.1 hi)]
/-- the first k rows are those of h, the others those of g. -/
def part (k : Nat) (h g : Nat → BitVec 32) (i : Nat) : BitVec 32 := if i < k then h i else g i
theorem rowsOf_set (g h : Nat → BitVec 32) (k : Nat) (hk : k < 32) : (rowsOf (part k h g)).setIfInBounds k (.int .u32 ((h k).toNat : Int)) = rowsOf (part (k + 1) h g) := by
  unfold rowsOf
  apply Array.ext_getElem?
  intro i
  simp only [List.setIfInBounds_toArray, List.getElem?_toArray, List.getElem?_set, List.getElem?_map]
  by_cases e : k = i
  · subst e; simp [hk, part]
  · by_cases hi : i < 32
    · have : (i < k) ↔ (i < k + 1) := by omega
      simp [e, hi, part, this]
    · simp [e, hi]

def bx (a b : BitVec 32) : BitVec 32 := a ^^^ b
theorem bx_val (a b : BitVec 32) : bits .xor .u32 a.toNat b.toNat = ((bx a b).toNat : Int) := by
  rw [xor32, ofInt_toNat, ofInt_toNat]; rfl

theorem times_any (g : Nat → BitVec 32) (c : BitVec 32) (rb : Nat) (w : World) (hbox : Box w rb 38 (rowsOf g)) :
    Calls Try.prog 19 #[.pointer (some ⟨rb, 0, none⟩), .int .u32 c.toNat] w fun e w' => e = .returned (.int .u32 (Tally.comb g c 32).toNat) ∧ w = w' := by
  go_enter Try.func19, Try.ntmps19
  go_wp2
  go_loop [5, 7] (fun t i => ∃ k : Nat, k ≤ 32 ∧ i = .int .i64 k ∧ t = .int .u32 (Tally.comb g c k).toNat) (fun _ i => 32 - (intOf i).toNat)
  case atStart => exact ⟨0, Nat.zero_le _, rfl, rfl⟩
  case round =>
    obtain ⟨k, hk, rfl, rfl⟩ := hrel
    by_cases hlt : k < 32
    · have hbit := bit_val c k
      have hck := hbox.cell k
      rw [rowsOf_get g k hlt] at hck
      by_cases hT : c.getLsbD k = true
      · rw [if_pos hT] at hbit
        have HR : Hid (Tally.comb g c (k + 1) = bx (Tally.comb g c k) (g k)) := by
          show Tally.comb g c (k + 1) = _
          rw [Tally.comb, if_pos hT]; rfl
        obtain ⟨d, hd⟩ : ∃ d, d = Tally.comb g c k := ⟨_, rfl⟩
        obtain ⟨gk, hgk⟩ : ∃ d, d = g k := ⟨_, rfl⟩
        rw [← hgk] at HR hck
        rw [← hd] at HR ⊢
        have hbx := bx_val d gk
        clear hd hgk hbox
        go_wp2
        go_round
        case rel => exact ⟨k + 1, by omega, by go_num, by rw [HR.out]⟩
        case measure => simp [intOf]; omega
      · rw [if_neg hT] at hbit
        have HR : Hid (Tally.comb g c (k + 1) = Tally.comb g c k) := by
          show Tally.comb g c (k + 1) = _
          rw [Tally.comb, if_neg hT]; simp
        go_wp2
        go_round
        case rel => exact ⟨k + 1, by omega, by go_num, by rw [HR.out]⟩
        case measure => simp [intOf]; omega
    · obtain rfl : k = 32 := by omega
      go_wp2
      go_ret
      exact ⟨rfl, rfl⟩

/-- the rows doubled. -/
def dbl (g : Nat → BitVec 32) (i : Nat) : BitVec 32 := Tally.comb g (g i) 32

theorem zero_rows : rowsOf (part 0 (fun _ => 0#32) (fun _ => 0#32)) = rowsOf (fun _ => 0#32) := rfl

theorem double_any (g : Nat → BitVec 32) (rb : Nat) (w : World) (hbox : Box w rb 38 (rowsOf g)) :
    Calls Try.prog 18 #[.pointer (some ⟨rb, 0, none⟩)] w fun e w' => e = .returned (.tuple #[]) ∧ Box w' rb 38 (rowsOf (dbl g)) ∧ Touch (· = rb) w w' := by
  have hlt0 := hbox.lt
  have hn : Box (w.alloc (.cells (rowsOf (part 0 (dbl g) (fun _ => 0#32))) 38)) w.heap.size 38 (rowsOf (part 0 (dbl g) (fun _ => 0#32))) := Box.new w 38 _
  go_enter Try.func18, Try.ntmps18
  go_wp2
  go_loopw [3] (fun i wr => ∃ k : Nat, k ≤ 32 ∧ i = .int .i64 k ∧ Box wr w.heap.size 38 (rowsOf (part k (dbl g) (fun _ => 0#32))) ∧ Below w.heap.size w wr) (fun i _ => 32 - (intOf i).toNat)
  case atStart => exact ⟨0, Nat.zero_le _, rfl, hn, (Below.refl _ _).alloc (Nat.le_refl _) _⟩
  case round =>
    obtain ⟨k, hk, rfl, hbt, hbel⟩ := hrel
    by_cases hlt : k < 32
    · have hbr := hbox.below hbel hlt0
      have hck := hbr.cell k
      rw [rowsOf_get g k hlt] at hck
      have hct := hbt.cell k
      rw [rowsOf_get _ k hlt] at hct
      have hfz := hbt.frozen k
      have R : Hid (Box (wr.setCell ⟨w.heap.size, k, none⟩ (.int .u32 ((dbl g k).toNat : Int))) w.heap.size 38 (rowsOf (part (k + 1) (dbl g) (fun _ => 0#32))) ∧ Below w.heap.size w (wr.setCell ⟨w.heap.size, k, none⟩ (.int .u32 ((dbl g k).toNat : Int)))) := by
        have := hbt.set k (.int .u32 ((dbl g k).toNat : Int))
        rw [rowsOf_set _ _ k hlt] at this
        exact ⟨this, hbel.setCell (Nat.le_refl _) _⟩
      have C := Lib.hid (times_any g (g k) rb wr hbr)
      generalize part k (dbl g) (fun _ => 0#32) k = old at hct
      have HD : Hid (Tally.comb g (g k) 32 = dbl g k) := rfl
      generalize dbl g k = dk at R HD
      generalize g k = gk at hck C HD
      clear hbt hbel hbr hbox hn
      go_wp2_with (go_at_call 19; refine C.out.mono ?_; rintro e w' ⟨rfl, rfl⟩; rw [HD.out])
      go_roundw
      case rel => exact ⟨k + 1, by omega, by go_num, R.out⟩
      case measure => simp [intOf]; omega
    · obtain rfl : k = 32 := by omega
      have hbr := hbox.below hbel hlt0
      go_wp2_with (first
        | (refine wpList_load_row rfl 38 _ rfl w.heap.size rfl 38 _ (0, 0) _ hbt Try.underlying38 rfl ?c1 ?_)
        | (refine wpList_store_row rfl 38 _ _ rfl rb _ rfl rfl 38 _ hbr ?d1 ?d2 ?d3 ?_))
      case c1 => rw [rowsOf_size]; kernel_rfl
      case d1 => rw [rowsOf_size]; kernel_rfl
      case d2 => rw [rowsOf_size, rowsOf_size]
      case d3 => simp [rowsOf]; intro x _; rfl
      go_end0
      rw [rowsOf_congr (part 32 (dbl g) fun _ => 0#32) (dbl g) (fun i hi => if_pos hi)]
      exact ⟨rfl, Box.setRow hbr _, Touch.setRow (S := (· = rb)) (Touch.of_below hbel) (.inl rfl) _⟩
/-- a number with one bit. -/
def one (k : Nat) : BitVec 32 := 1#32 <<< k
theorem one_val (k : Nat) (_hk : k < 32) : (2 : Int) ^ k % 4294967296 = ((one k).toNat : Int) := by
  unfold one
  rw [BitVec.toNat_shiftLeft, Nat.shiftLeft_eq]
  simp
/-- the rows of so many steps. -/
def powRows (n : Nat) (i : Nat) : BitVec 32 := Tally.stn n (one i)
theorem dbl_pow (n : Nat) : dbl (powRows n) = powRows (n + n) := by
  funext i
  unfold dbl
  show Tally.comb (fun i => Tally.stn n (1#32 <<< i)) (Tally.stn n (one i)) 32 = _
  rw [Tally.comb_lin (Tally.stn n) (Tally.stn_xor n), ← Tally.stn_add]
  rfl
theorem comb_pow (n : Nat) (c : BitVec 32) : Tally.comb (powRows n) c 32 = Tally.stn n c := Tally.comb_lin (Tally.stn n) (Tally.stn_xor n) c

theorem zeros_any (c : BitVec 32) (n : Int) (hwf : (Lit.int .i64 n).wf = true) (w : World) :
    Calls Try.prog 15 #[.int .u32 c.toNat, .int .i64 n] w fun e w' => e = .returned (.int .u32 (com (Tally.stn (8 * n.toNat) (com c))).toNat) ∧ Below w.heap.size w w' := by
  have hn : Box (w.alloc (.cells (rowsOf (part 0 (powRows 8) (fun _ => 0#32))) 38)) w.heap.size 38 (rowsOf (part 0 (powRows 8) (fun _ => 0#32))) := Box.new w 38 _
  obtain ⟨N, hN, hm, hcase⟩ : ∃ N : Nat, Hid (n.toNat = N) ∧ N ≤ maxLen ∧ ((n < 0 ∧ Hid (N = 0)) ∨ n = (N : Int)) := by
    refine ⟨n.toNat, rfl, ?_, ?_⟩
    · simp [Lit.wf, IntKind.min, IntKind.max, IntKind.signed, IntKind.bits] at hwf
      unfold maxLen
      omega
    · by_cases h : n < 0
      · exact .inl ⟨h, show n.toNat = 0 by omega⟩
      · exact .inr (by omega)
  clear hwf
  unfold maxLen at hm
  have HC := Lib.hid hcase
  clear hcase
  go_enter Try.func15, Try.ntmps15
  go_wp2
  go_loopw [9] (fun i wr => ∃ k : Nat, k ≤ 32 ∧ i = .int .i64 k ∧ Box wr w.heap.size 38 (rowsOf (part k (powRows 8) (fun _ => 0#32))) ∧ Below w.heap.size w wr) (fun i _ => 32 - (intOf i).toNat)
  case atStart => exact ⟨0, Nat.zero_le _, rfl, hn, (Below.refl _ _).alloc (Nat.le_refl _) _⟩
  case round =>
    obtain ⟨k, hk, rfl, hbt, hbel⟩ := hrel
    by_cases hlt : k < 32
    · have hone := one_val k hlt
      have hct := hbt.cell k
      rw [rowsOf_get _ k hlt] at hct
      have hfz := hbt.frozen k
      have R : Hid (Box (wr.setCell ⟨w.heap.size, k, none⟩ (.int .u32 ((powRows 8 k).toNat : Int))) w.heap.size 38 (rowsOf (part (k + 1) (powRows 8) (fun _ => 0#32))) ∧ Below w.heap.size w (wr.setCell ⟨w.heap.size, k, none⟩ (.int .u32 ((powRows 8 k).toNat : Int)))) := by
        have := hbt.set k (.int .u32 ((powRows 8 k).toNat : Int))
        rw [rowsOf_set _ _ k hlt] at this
        exact ⟨this, hbel.setCell (Nat.le_refl _) _⟩
      generalize part k (powRows 8) (fun _ => 0#32) k = old at hct
      have HD : Hid (Tally.q4 (Tally.q4 (one k)) = powRows 8 k) := Tally.q4_q4 _
      generalize powRows 8 k = pk at R HD
      have hq1 := q4_val (one k)
      have hq2 := q4_val (Tally.q4 (one k))
      generalize one k = o at hone HD hq1 hq2
      clear hbt hbel hn
      go_wp2_with (go_at_call 16; refine (quarter_any _ _).mono ?_; rintro e w' ⟨rfl, rfl⟩)
      go_roundw
      case rel => exact ⟨k + 1, by omega, by go_num, by rw [HD.out]; exact R.out.1, by rw [HD.out]; exact R.out.2⟩
      case measure => simp [intOf]; omega
    · obtain rfl : k = 32 := by omega
      rw [show ((32 : Nat) : Int) = 32 from rfl]
      rw [rowsOf_congr (part 32 (powRows 8) fun _ => 0#32) (powRows 8) (fun i hi => if_pos hi)] at hbt
      have hx := com_xor
      have hs : IntKind.u32.signed = false := rfl
      clear hn
      go_upto_region 11 with fail
      go_cut [1] (fun v w' => w' = wr ∧ v = .int .i64 (N : Int))
      case first =>
        rcases HC.out with ⟨h0, h1⟩ | h0
        · go_wp2
          all_goals (go_meet; exact ⟨rfl, by rw [h1.out]; rfl⟩)
        · subst h0
          go_wp2
          all_goals (go_meet; exact ⟨rfl, rfl⟩)
      case rest =>
        obtain ⟨rfl, rfl⟩ := hcut
        clear hx hs
        go_wp2
        go_loopw [0, 1] (fun c' n' wr => ∃ (m e : Nat) (d : BitVec 32), m ≤ N ∧ n' = .int .i64 m ∧ c' = .int .u32 d.toNat ∧ Box wr w.heap.size 38 (rowsOf (powRows (8 * e))) ∧ Below w.heap.size w wr ∧ Hid (Tally.stn (8 * (e * m)) d = Tally.stn (8 * N) (com c))) (fun _ n' _ => (intOf n').toNat)
        case atStart => exact ⟨N, 1, com c, Nat.le_refl _, rfl, rfl, hbt, hbel, by rw [Nat.one_mul]; exact rfl⟩
        case round =>
          obtain ⟨m, e, d, hmN, rfl, rfl, hb, hbl, hE⟩ := hrel
          have HB := Lib.hid hb
          have HL := Lib.hid hbl
          have hsz := hbl.size
          clear hbt hbel hb hbl
          by_cases h0 : 0 < m
          · by_cases h1 : m % 2 = 1
            · have h2 : ((m : Int) % 2 == 1) = true := by simp; omega
              have HR : Hid (Tally.stn (8 * ((e + e) * (m / 2))) (Tally.comb (powRows (8 * e)) d 32) = Tally.stn (8 * N) (com c)) := by
                rw [comb_pow, ← Tally.stn_add, ← hE.out]
                show _ = _
                congr 1
                have : m = 2 * (m / 2) + 1 := by omega
                generalize m / 2 = q at this
                subst this
                rw [Nat.mul_add, Nat.mul_one, Nat.add_mul, ← Nat.mul_assoc, Nat.mul_comm e 2, Nat.two_mul, Nat.add_mul]
                omega
              go_wp2_with (first
                | (go_at_call 19; refine (times_any _ d w.heap.size _ HB.out).mono ?_; rintro e' w' ⟨rfl, rfl⟩)
                | (go_at_call 18; refine (double_any _ w.heap.size _ HB.out).mono ?_; rintro e' w' ⟨rfl, hb2, ht2⟩))
              go_roundw
              case rel =>
                refine ⟨m / 2, e + e, _, by omega, by go_num, rfl, ?_, Below.touch HL.out ht2 (Nat.le_refl _) (by rintro k rfl; exact Nat.le_refl _), HR⟩
                rw [dbl_pow] at hb2
                rw [show 8 * (e + e) = 8 * e + 8 * e by omega]
                exact hb2
              case measure => simp [intOf]; omega
            · have h2 : ((m : Int) % 2 == 1) = false := by simp; omega
              have HR : Hid (Tally.stn (8 * ((e + e) * (m / 2))) d = Tally.stn (8 * N) (com c)) := by
                rw [← hE.out]
                show _ = _
                congr 1
                have : m = 2 * (m / 2) := by omega
                generalize m / 2 = q at this
                subst this
                rw [← Nat.mul_assoc e 2 q, Nat.mul_comm e 2, Nat.two_mul]
              go_wp2_with (go_at_call 18; refine (double_any _ w.heap.size _ HB.out).mono ?_; rintro e' w' ⟨rfl, hb2, ht2⟩)
              go_roundw
              case rel =>
                refine ⟨m / 2, e + e, _, by omega, by go_num, rfl, ?_, Below.touch HL.out ht2 (Nat.le_refl _) (by rintro k rfl; exact Nat.le_refl _), HR⟩
                rw [dbl_pow] at hb2
                rw [show 8 * (e + e) = 8 * e + 8 * e by omega]
                exact hb2
              case measure => simp [intOf]; omega
          · obtain rfl : m = 0 := by omega
            have HR : Hid (com d = com (Tally.stn (8 * n.toNat) (com c))) := by
              rw [hN.out, ← hE.out, Nat.mul_zero, Nat.mul_zero]
              exact rfl
            have hx := com_xor d
            have hs : IntKind.u32.signed = false := rfl
            go_wp2
            go_ret
            exact ⟨by rw [← HR.out]; rfl, HL.out⟩
end Go.Proofs.Ytncjnalpfhafpaa

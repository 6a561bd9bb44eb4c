/- ledger: the document's Same, Need, Sure, Long. Conditions: the texts lie in memory. -/
import Derived.Test.YtdiboicllolcnaaLr
import Derived.Deep.QuietTactic
import Derived.BigQuiet
import Derived.WideShapes
namespace Go.Proofs.Ytdiboicllolcnaa
open Go Go.RowKit
set_option linter.unusedVariables false
set_option linter.unusedSimpArgs false
variable {w w' : World} {base n nd b0 : Nat} {V V' : Vl} {VD VD' : Vs} {D D' : Dk} {G G' : Lg}
theorem Txs.get {ad : Option Addr} {len : Nat} {xs : List ByteArray} (h : Txs w ad len xs) (k : Nat) (hk : k < len) : ∃ g off s, ad = some ⟨g, off, none⟩ ∧ xs[k]? = some s ∧ g < w.heap.size ∧ w.cell? ⟨g, off + k, none⟩ = some (.string s) := by
  obtain ⟨h1, _, h2⟩ := h
  obtain ⟨g, off, rfl, hg, hc⟩ := h2.resolve_left (by omega)
  have hp : xs[k]? = some (xs[k]'(by omega)) := List.getElem?_eq_getElem (by omega)
  exact ⟨g, off, _, rfl, hp, hg, hc k _ hp⟩
theorem ba_eq (x y : ByteArray) {i : BEq (List UInt8)} [@LawfulBEq _ i] : @BEq.beq _ i x.toList y.toList = decide (x = y) := by
  rw [Bool.eq_iff_iff, beq_iff_eq, decide_eq_true_iff]
  constructor
  · intro h
    rw [ByteArray.toList_eq, ByteArray.toList_eq] at h
    exact Go.WideShapes.bytes_inj h
  · rintro rfl; rfl
set_option maxRecDepth 100000 in
set_option maxHeartbeats 8000000 in
theorem same_any (a b : Option Addr) (la lb ca cb : Nat) (xs ys : List ByteArray) (hx : Txs w a la xs) (hy : Txs w b lb ys) : Calls Try.prog 19 #[.slice a la ca, .slice b lb cb] w fun e w' => e = .returned (.bool (decide (xs = ys))) ∧ Below w.heap.size w w' := by
  have hm := hx.2.1
  unfold maxLen at hm
  have HX := Lib.hid hx
  have HY := Lib.hid hy
  have HLX := Lib.hid hx.1
  have HLY := Lib.hid hy.1
  clear hx hy
  by_cases hl : la = lb
  · subst hl
    go_enter Try.func19, Try.ntmps19
    go_wp2_with fail
    go_loopw [5] (fun i wr => ∃ k : Nat, k ≤ la ∧ i = .int .i64 k ∧ xs.take k = ys.take k ∧ Below w.heap.size w wr) (fun i _ => la - (intOf i).toNat)
    case atStart => exact ⟨0, Nat.zero_le _, rfl, rfl, Below.refl _ _⟩
    case round =>
      obtain ⟨k, hk, rfl, he, hB⟩ := hrel
      have HB := Lib.hid hB
      have HE := Lib.hid he
      clear he
      by_cases hlt : k < la
      · obtain ⟨g, off, s, rfl, hs, hg, hc⟩ := HX.out.get k hlt
        obtain ⟨g', off', s', rfl, hs', hg', hc'⟩ := HY.out.get k hlt
        have hc := (hB.cell (p := ⟨g, off + k, none⟩) hg).trans hc
        have hc' := (hB.cell (p := ⟨g', off' + k, none⟩) hg').trans hc'
        have hgl : g < wr.heap.size := Nat.lt_of_lt_of_le hg hB.size
        have hgl' : g' < wr.heap.size := Nat.lt_of_lt_of_le hg' hB.size
        have HT := Lib.hid (show xs.take (k + 1) = xs.take k ++ [s] ∧ ys.take (k + 1) = ys.take k ++ [s'] by rw [List.take_add_one, hs, List.take_add_one, hs']; exact ⟨rfl, rfl⟩)
        have HS := Lib.hid (And.intro hs hs')
        clear hs hs' hB
        by_cases heq : s = s'
        · subst heq
          go_upto_region 6 with (fail)
          go_quiet (fail)
          go_wp2_with fail
          go_roundw
          case rel => exact ⟨k + 1, by omega, by go_num, by rw [HT.out.1, HT.out.2, HE.out], Below.drewN HB.out nq⟩
          case measure => simp [intOf]; omega
        · have hne : (s.toList == s'.toList) = false := by rw [ba_eq]; simpa using heq
          have HN := Lib.hid (show decide (xs = ys) = false by
            rw [decide_eq_false_iff_not]
            intro e
            rw [e] at HS
            exact heq (Option.some.inj (HS.out.1.symm.trans HS.out.2)))
          clear heq
          go_upto_region 6 with (fail)
          go_quiet (fail)
          go_wp2_with fail
          go_ret
          exact ⟨by rw [HN.out]; rfl, Below.drewN HB.out nq⟩
      · obtain rfl : k = la := by omega
        have HN := Lib.hid (show decide (xs = ys) = true by
          rw [decide_eq_true_iff]
          have := HE.out
          rwa [List.take_of_length_le (by rw [HLX.out]; exact Nat.le_refl _), List.take_of_length_le (by rw [HLY.out]; exact Nat.le_refl _)] at this)
        go_wp2_with fail
        go_ret
        exact ⟨by rw [HN.out]; rfl, HB.out⟩
  · have hl' : ¬ (la : Int) = (lb : Int) := by omega
    have hl2 : ((la : Int) != (lb : Int)) = true := by simpa using hl'
    have HN := Lib.hid (show decide (xs = ys) = false by
      rw [decide_eq_false_iff_not]
      rintro rfl
      exact hl (HLX.out.symm.trans HLY.out))
    clear hl hl'
    go_enter Try.func19, Try.ntmps19
    go_wp2_with fail
    go_ret
    exact ⟨by rw [HN.out]; rfl, Below.refl _ _⟩
/-- how many bytes records need. -/
def needL (xs : List ByteArray) : Nat := (encL xs).length
theorem needL_snoc (xs : List ByteArray) (s : ByteArray) : needL (xs ++ [s]) = needL xs + s.size + 4 := by unfold needL; rw [encL_snoc, List.length_append, frame_len]; omega
theorem take_at {xs : List ByteArray} {k : Nat} {s : ByteArray} (h : xs[k]? = some s) : xs.take (k + 1) = xs.take k ++ [s] := by rw [List.take_add_one, h]; rfl
theorem longB_take {xs : List ByteArray} {k : Nat} (h : longB xs = false) : longB (xs.take k) = false := by
  unfold longB at h ⊢
  rw [List.any_eq_false] at h ⊢
  exact fun x hx => h x (List.mem_of_mem_take hx)
theorem need_any (a : Option Addr) (la ca : Nat) (xs : List ByteArray) (hx : Txs w a la xs) (hl : la ≤ 100000) (hs : longB xs = false) : Calls Try.prog 28 #[.slice a la ca] w fun e w' => e = .returned (.int .i64 (needL xs : Nat)) ∧ w = w' := by
  have HX := Lib.hid hx
  have HLX := Lib.hid hx.1
  have HSH := Lib.hid hs
  clear hx hs
  go_enter Try.func28, Try.ntmps28
  go_wp2_with fail
  go_loop [3, 4] (fun t i => ∃ k : Nat, k ≤ la ∧ i = .int .i64 k ∧ t = .int .i64 (needL (xs.take k) : Nat)) (fun _ i => la - (intOf i).toNat)
  case atStart => exact ⟨0, Nat.zero_le _, rfl, rfl⟩
  case round =>
    obtain ⟨k, hk, rfl, rfl⟩ := hrel
    by_cases hlt : k < la
    · obtain ⟨g, off, s, rfl, hs, hg, hc⟩ := HX.out.get k hlt
      have hb := encL_len _ (longB_take (k := k) HSH.out)
      have hb2 : (xs.take k).length ≤ k := List.length_take_le _ _
      have HT := Lib.hid (show needL (xs.take (k + 1)) = needL (xs.take k) + s.size + 4 by rw [take_at hs, needL_snoc])
      have hs4 : s.size ≤ 4096 := by
        rcases Nat.lt_or_ge 4096 s.size with h4 | h4
        · have := longB_at hs h4; rw [HSH.out] at this; cases this
        · exact h4
      obtain ⟨M, hM⟩ : ∃ M, M = needL (xs.take k) := ⟨_, rfl⟩
      have hMb : M ≤ 410000000 := by rw [hM]; unfold needL; omega
      rw [← hM] at HT ⊢
      clear hs hb hb2 hM
      go_wp2_with fail
      go_round
      case rel => exact ⟨k + 1, by omega, by go_num, by rw [HT.out]; go_num⟩
      case measure => simp [intOf]; omega
    · obtain rfl : k = la := by omega
      have HN := Lib.hid (show needL (xs.take k) = needL xs by rw [List.take_of_length_le (by rw [HLX.out]; exact Nat.le_refl _)])
      go_wp2_with fail
      go_ret
      exact ⟨by rw [← HN.out]; rfl, rfl⟩
theorem long_any (a : Option Addr) (la ca : Nat) (xs : List ByteArray) (hx : Txs w a la xs) : Calls Try.prog 44 #[.slice a la ca] w fun e w' => e = .returned (.bool (longB xs)) ∧ w = w' := by
  have hm := hx.2.1
  unfold maxLen at hm
  have HX := Lib.hid hx
  have HLX := Lib.hid hx.1
  clear hx
  go_enter Try.func44, Try.ntmps44
  go_wp2_with fail
  go_loop [3] (fun i => ∃ k : Nat, k ≤ la ∧ i = .int .i64 k ∧ longB (xs.take k) = false) (fun i => la - (intOf i).toNat)
  case atStart => exact ⟨0, Nat.zero_le _, rfl, rfl⟩
  case round =>
    obtain ⟨k, hk, rfl, he⟩ := hrel
    have HE := Lib.hid he
    clear he
    by_cases hlt : k < la
    · obtain ⟨g, off, s, rfl, hs, hg, hc⟩ := HX.out.get k hlt
      by_cases h4 : 4096 < s.size
      · have HN := Lib.hid (longB_at hs h4)
        have h4' : (4096 : Int) < (s.size : Int) := by omega
        clear hs h4
        go_wp2_with fail
        go_ret
        exact ⟨by rw [HN.out]; rfl, rfl⟩
      · have HT := Lib.hid (show longB (xs.take (k + 1)) = false by rw [take_at hs, longB_app, HE.out]; simp [longB]; omega)
        have h4' : ¬ (4096 : Int) < (s.size : Int) := by omega
        clear hs h4
        go_wp2_with fail
        go_round
        case rel => exact ⟨k + 1, by omega, by go_num, HT.out⟩
        case measure => simp [intOf]; omega
    · obtain rfl : k = la := by omega
      have HN := Lib.hid (show longB xs = false by have := HE.out; rwa [List.take_of_length_le (by rw [HLX.out]; exact Nat.le_refl _)] at this)
      go_wp2_with fail
      go_ret
      exact ⟨by rw [HN.out]; rfl, rfl⟩
theorem sure_any (m : Int) (h0 : -1000000 ≤ m) (h1 : m ≤ 1000000) : Calls Try.prog 12 #[.int .i64 m] w fun e w' => e = .returned (.int .i64 (32 * (m - 2) - 128)) ∧ w = w' := by
  go_enter Try.func12, Try.ntmps12
  go_wp2
  go_ret
  exact ⟨rfl, rfl⟩
/-- are there so few calls, of so few records? -/
def fewB (xs : List In5) : Bool := decide (xs.length ≤ 120) && xs.all fun x => decide (x.o.all.length ≤ 60)
theorem few_any (a : Option Addr) (len cap : Nat) (xs : List In5) (hx : OpsAt w a len xs) (hm : len ≤ maxLen) : Calls Try.prog 21 #[.slice a len cap] w fun e w' => e = .returned (.bool (fewB xs)) ∧ Below w.heap.size w w' := by
  unfold maxLen at hm
  have HX := Lib.hid hx
  have HLX := Lib.hid hx.len
  clear hx
  by_cases h1 : 120 < len
  · have HN := Lib.hid (show fewB xs = false by unfold fewB; rw [HLX.out, decide_eq_false (by omega)]; rfl)
    have h1' : (120 : Int) < (len : Int) := by omega
    go_enter Try.func21, Try.ntmps21
    go_wp2_with fail
    go_ret
    exact ⟨by rw [HN.out]; rfl, Below.refl _ _⟩
  · have h1' : ¬ (120 : Int) < (len : Int) := by omega
    have hlen : len ≤ 120 := by omega
    clear h1 hm
    go_enter Try.func21, Try.ntmps21
    go_wp2_with fail
    go_loopw [10] (fun i wr => ∃ k : Nat, k ≤ len ∧ i = .int .i64 k ∧ ((xs.take k).all fun x => decide (x.o.all.length ≤ 60)) = true ∧ Below w.heap.size w wr) (fun i _ => len - (intOf i).toNat)
    case atStart => exact ⟨0, Nat.zero_le _, rfl, rfl, Below.refl _ _⟩
    case round =>
      obtain ⟨k, hk, rfl, he, hB⟩ := hrel
      have HE := Lib.hid he
      have HB := Lib.hid hB
      clear he
      by_cases hlt : k < len
      · obtain ⟨b, off, x, rfl, hp, hb, hTx, c0, c1, c2⟩ := HX.out.get k hlt
        have c0 := (hB.cell (p := ⟨b, off + k * 3, none⟩) hb).trans c0
        have c1 := (hB.cell (p := ⟨b, off + k * 3 + 1, none⟩) hb).trans c1
        have c2 := (hB.cell (p := ⟨b, off + k * 3 + 2, none⟩) hb).trans c2
        have hbl : b < wr.heap.size := Nat.lt_of_lt_of_le hb hB.size
        have HB1 := Lib.hid (hB.alloc hB.size (.cells #[.int .i64 x.o.kd, .string x.o.s, .slice x.ad x.o.all.length x.cap] 49))
        have HP := Lib.hid hp
        clear hB hp hTx
        by_cases h6 : 60 < x.o.all.length
        · have h6' : (60 : Int) < (x.o.all.length : Int) := by omega
          have HN := Lib.hid (show fewB xs = false by
            unfold fewB
            rw [Bool.and_eq_false_iff]
            right
            rw [List.all_eq_false]
            exact ⟨x, List.mem_of_getElem? HP.out, by simpa using h6⟩)
          obtain ⟨L, hL⟩ : ∃ L, L = x.o.all.length := ⟨_, rfl⟩
          rw [← hL] at c2 h6' HB1
          clear h6 hL
          go_wp2_with fail
          go_ret
          exact ⟨by rw [HN.out]; rfl, HB1.out⟩
        · have h6' : ¬ (60 : Int) < (x.o.all.length : Int) := by omega
          have HT := Lib.hid (show ((xs.take (k + 1)).all fun x => decide (x.o.all.length ≤ 60)) = true by rw [List.take_add_one, HP.out, List.all_append, HE.out]; simp; omega)
          obtain ⟨L, hL⟩ : ∃ L, L = x.o.all.length := ⟨_, rfl⟩
          rw [← hL] at c2 h6' HB1
          clear h6 hL
          go_wp2_with fail
          go_roundw
          case rel => exact ⟨k + 1, by omega, by go_num, HT.out, HB1.out⟩
          case measure => simp [intOf]; omega
      · obtain rfl : k = len := by omega
        have HN := Lib.hid (show fewB xs = true by
          have := HE.out
          rw [List.take_of_length_le (by rw [HLX.out]; exact Nat.le_refl _)] at this
          unfold fewB
          rw [this, HLX.out, decide_eq_true hlen]; rfl)
        go_wp2_with fail
        go_ret
        exact ⟨by rw [HN.out]; rfl, HB.out⟩
end Go.Proofs.Ytdiboicllolcnaa

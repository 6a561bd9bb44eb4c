/- chart: Winner. Conditions: the names lie in memory; texts have at most 4000000 bytes. -/
import Derived.Test.YtbkjhogfpcmcbaaDoorKi
namespace Go.Proofs.YtbkjhogfpcmcbaaDoor
open Go Go.RowKit Zn
set_option linter.unusedVariables false
set_option linter.unusedSimpArgs false
variable {w w' : World}
structure Wn where
  b : Nm
  k : Int
  n : Int
def winC (a : Wn) (s : Nm) : Bool := candB s && (decide (a.b = []) || decide (candN s < a.n) || (decide (candN s = a.n) && Op.bytesLess s a.b))
def winStep (a : Wn) (s : Nm) : Wn := if winC a s then ⟨s, candK s, candN s⟩ else a
/-- who leads next. -/
def winL (L : List Nm) : Wn := L.foldl winStep ⟨[], 0, 0⟩
theorem winL_snoc (L : List Nm) (s : Nm) : winL (L ++ [s]) = winStep (winL L) s := by unfold winL; rw [List.foldl_append]; rfl
def Won (w : World) (L : List Nm) (e : Ending) (w' : World) : Prop := e = .returned (.tuple #[.string ⟨(winL L).b.toArray⟩, .int .i64 (winL L).k, .bool (!(winL L).b.isEmpty)]) ∧ Below w.heap.size w w'
set_option maxHeartbeats 2000000 in
theorem winner_any (ad : Option Addr) (cap : Nat) (L : List Nm) (w : World) (hS : Strs w ad L) (hs : ∀ x ∈ L, x.length ≤ 4000000) (hm : Mx w) (hl : L.length ≤ 1000000) :
    Calls Tryd.prog 23 #[.slice ad L.length cap] w (Won w L) := by
  obtain ⟨len, hlen⟩ : ∃ n, n = L.length := ⟨_, rfl⟩
  have HS := Lib.hid hS
  have HX := Lib.hid hs
  have HM := Lib.hid hm
  have HL := Lib.hid hlen
  rw [← hlen]
  have hl2 : len ≤ 1000000 := by omega
  clear hS hs hm hlen hl
  go_enter Tryd.func23, Tryd.ntmps23
  go_wp2_with fail
  go_loopw [5, 6, 7, 15] (fun b kk nn i wr => ∃ (k : Nat) (S : Wn), k ≤ len ∧ b = .string ⟨S.b.toArray⟩ ∧ kk = .int .i64 S.k ∧ nn = .int .i64 S.n ∧ i = .int .i64 k ∧ S = winL (L.take k) ∧ Below w.heap.size w wr) (fun _ _ _ i _ => len - (intOf i).toNat)
  case atStart => exact ⟨0, ⟨[], 0, 0⟩, Nat.zero_le _, rfl, rfl, rfl, rfl, rfl, Below.refl _ _⟩
  case round =>
    obtain ⟨k, S, hk, rfl, rfl, rfl, rfl, hSw, hb⟩ := hrel
    have HB := Lib.hid hb
    have HSW := Lib.hid hSw
    obtain ⟨B, hBB⟩ : ∃ B : ByteArray, B = ⟨S.b.toArray⟩ := ⟨_, rfl⟩
    have hBl : B.toList = S.b := by rw [Lib.toList_data, hBB]
    have HBB := Lib.hid hBB
    rw [← hBB]
    clear hSw hBB
    by_cases hlt : k < len
    · obtain ⟨x, hx⟩ : ∃ x, L[k]? = some x := ⟨_, List.getElem?_eq_getElem (by rw [← HL.out]; exact hlt)⟩
      obtain ⟨g, off, rfl, hg, hc⟩ := HS.out.get k x hx
      have c0 := (hb.cell (p := ⟨g, off + k, none⟩) hg).trans hc
      have hgl : g < wr.heap.size := Nat.lt_of_lt_of_le hg hb.size
      have C := cand_any ⟨x.toArray⟩ wr (by show x.toArray.size ≤ _; rw [List.size_toArray]; exact HX.out x (List.mem_of_getElem? hx)) (HM.out.below hb)
      unfold Canded at C
      rw [show (⟨x.toArray⟩ : ByteArray).data.toList = x from rfl] at C
      have HNX := Lib.hid (show winL (L.take (k + 1)) = winStep S x by rw [List.take_add_one, hx, HSW.out]; exact winL_snoc _ _)
      obtain ⟨X, hXX⟩ : ∃ X : ByteArray, X = ⟨x.toArray⟩ := ⟨_, rfl⟩
      have hXl : X.toList = x := by rw [Lib.toList_data, hXX]
      have HXX := Lib.hid hXX
      rw [← hXX] at C c0
      obtain ⟨K, hK⟩ : ∃ K, K = candK x := ⟨_, rfl⟩
      obtain ⟨N, hN⟩ : ∃ N, N = candN x := ⟨_, rfl⟩
      rw [← hK, ← hN] at C
      have HK := Lib.hid hK
      have HN := Lib.hid hN
      have HWC := Lib.hid (show winC S x = (candB x && (decide (S.b = []) || decide (N < S.n) || (decide (N = S.n) && Op.bytesLess x S.b))) by rw [hN]; rfl)
      clear hK hN hx hb hc hg hXX
      cases hcb : candB x with
      | false =>
        rw [hcb] at C
        have C := Lib.hid C
        have HS := Lib.hid (show S = winL (L.take (k + 1)) by rw [HNX.out]; unfold winStep; rw [HWC.out, hcb]; rfl)
        clear hcb hBl hXl
        go_wp2_with fail
        refine C.out.mono ?_
        rintro e w5 ⟨rfl, b5⟩
        have HB5 := Lib.hid (HB.out.trans (b5.mono HB.out.size))
        clear b5 C
        go_wp2_with fail
        go_roundw
        case rel => exact ⟨k + 1, S, by omega, by rw [HBB.out], rfl, rfl, by go_num, HS.out, HB5.out⟩
        case measure => simp [intOf]; omega
      | true =>
        rw [hcb] at C
        have C := Lib.hid C
        have HWC := Lib.hid (show winC S x = (decide (S.b = []) || decide (N < S.n) || (decide (N = S.n) && Op.bytesLess x S.b)) by rw [HWC.out, hcb]; rfl)
        clear hcb
        have HTAKE := Lib.hid (show winC S x = true → ∃ S' : Wn, S'.b = x ∧ S'.k = K ∧ S'.n = N ∧ S' = winL (L.take (k + 1)) from fun h => ⟨⟨x, K, N⟩, rfl, rfl, rfl, by rw [HNX.out]; unfold winStep; rw [h, HK.out, HN.out]; rfl⟩)
        have HKEEP := Lib.hid (show winC S x = false → S = winL (L.take (k + 1)) from fun h => by rw [HNX.out]; unfold winStep; rw [h]; rfl)
        by_cases he : S.b = []
        · have hE : B.toList.isEmpty = true := by rw [hBl, he]; rfl
          obtain ⟨S', hb', hk', hn', hs'⟩ := HTAKE.out (by rw [HWC.out, decide_eq_true he]; rfl)
          have HEX := Lib.hid (show Value.string X = .string ⟨S'.b.toArray⟩ ∧ Value.int .i64 K = .int .i64 S'.k ∧ Value.int .i64 N = .int .i64 S'.n ∧ S' = winL (L.take (k + 1)) from ⟨by rw [hb', HXX.out], by rw [hk'], by rw [hn'], hs'⟩)
          clear he hBl hXl hb' hk' hn' hs'
          go_wp2_with fail
          refine C.out.mono ?_
          rintro e w5 ⟨rfl, b5⟩
          have HB5 := Lib.hid (HB.out.trans (b5.mono HB.out.size))
          clear b5 C
          go_wp2_with fail
          go_roundw
          case rel => exact ⟨k + 1, S', by omega, HEX.out.1, HEX.out.2.1, HEX.out.2.2.1, by go_num, HEX.out.2.2.2, HB5.out⟩
          case measure => simp [intOf]; omega
        · have hE : B.toList.isEmpty = false := by rw [hBl]; exact isEmpty_no he
          by_cases hlt2 : N < S.n
          · obtain ⟨S', hb', hk', hn', hs'⟩ := HTAKE.out (by rw [HWC.out, decide_eq_true hlt2]; simp)
            have HEX := Lib.hid (show Value.string X = .string ⟨S'.b.toArray⟩ ∧ Value.int .i64 K = .int .i64 S'.k ∧ Value.int .i64 N = .int .i64 S'.n ∧ S' = winL (L.take (k + 1)) from ⟨by rw [hb', HXX.out], by rw [hk'], by rw [hn'], hs'⟩)
            clear he hBl hXl hb' hk' hn' hs'
            go_wp2_with fail
            refine C.out.mono ?_
            rintro e w5 ⟨rfl, b5⟩
            have HB5 := Lib.hid (HB.out.trans (b5.mono HB.out.size))
            clear b5 C
            go_wp2_with fail
            go_roundw
            case rel => exact ⟨k + 1, S', by omega, HEX.out.1, HEX.out.2.1, HEX.out.2.2.1, by go_num, HEX.out.2.2.2, HB5.out⟩
            case measure => simp [intOf]; omega
          · have hltb : decide (N < S.n) = false := decide_eq_false hlt2
            by_cases heq : N = S.n
            · have heqb : (N == S.n) = true := beq_iff_eq.2 heq
              cases hbl : Op.bytesLess x S.b with
              | true =>
                obtain ⟨S', hb', hk', hn', hs'⟩ := HTAKE.out (by rw [HWC.out, decide_eq_true heq, hbl]; simp)
                have HEX := Lib.hid (show Value.string X = .string ⟨S'.b.toArray⟩ ∧ Value.int .i64 K = .int .i64 S'.k ∧ Value.int .i64 N = .int .i64 S'.n ∧ S' = winL (L.take (k + 1)) from ⟨by rw [hb', HXX.out], by rw [hk'], by rw [hn'], hs'⟩)
                have hbl2 : Op.bytesLess X.toList B.toList = true := by rw [hXl, hBl]; exact hbl
                clear he hBl hXl hb' hk' hn' hs' hbl
                go_wp2_with fail
                refine C.out.mono ?_
                rintro e w5 ⟨rfl, b5⟩
                have HB5 := Lib.hid (HB.out.trans (b5.mono HB.out.size))
                clear b5 C
                go_wp2_with fail
                go_roundw
                case rel => exact ⟨k + 1, S', by omega, HEX.out.1, HEX.out.2.1, (by rw [← heq]; exact HEX.out.2.2.1), by go_num, HEX.out.2.2.2, HB5.out⟩
                case measure => simp [intOf]; omega
              | false =>
                have HS := Lib.hid (HKEEP.out (by rw [HWC.out, decide_eq_false he, decide_eq_false hlt2, hbl]; simp))
                have hbl2 : Op.bytesLess X.toList B.toList = false := by rw [hXl, hBl]; exact hbl
                clear he hBl hXl hbl
                go_wp2_with fail
                refine C.out.mono ?_
                rintro e w5 ⟨rfl, b5⟩
                have HB5 := Lib.hid (HB.out.trans (b5.mono HB.out.size))
                clear b5 C
                go_wp2_with fail
                go_roundw
                case rel => exact ⟨k + 1, S, by omega, by rw [HBB.out], rfl, rfl, by go_num, HS.out, HB5.out⟩
                case measure => simp [intOf]; omega
            · have heqb : (N == S.n) = false := beq_eq_false_iff_ne.2 heq
              have HS := Lib.hid (HKEEP.out (by rw [HWC.out, decide_eq_false he, decide_eq_false hlt2, decide_eq_false heq]; rfl))
              clear he hBl hXl
              go_wp2_with fail
              refine C.out.mono ?_
              rintro e w5 ⟨rfl, b5⟩
              have HB5 := Lib.hid (HB.out.trans (b5.mono HB.out.size))
              clear b5 C
              go_wp2_with fail
              go_roundw
              case rel => exact ⟨k + 1, S, by omega, by rw [HBB.out], rfl, rfl, by go_num, HS.out, HB5.out⟩
              case measure => simp [intOf]; omega
    · obtain rfl : k = len := by omega
      have HE := Lib.hid (show S = winL L by have := HSW.out; rwa [List.take_of_length_le (by rw [HL.out]; exact Nat.le_refl _)] at this)
      by_cases he : S.b = []
      · have hE : B.toList.isEmpty = true := by rw [hBl, he]; rfl
        have HEE := Lib.hid (show S.b.isEmpty = true by rw [he]; rfl)
        clear he hBl hb
        go_wp2_with fail
        exact ret_three (t := 2) (u := 3) (v := 4) (by kernel_rfl) rfl rfl rfl rfl ⟨by rw [← HE.out, HEE.out, HBB.out]; rfl, HB.out⟩
      · have hE : B.toList.isEmpty = false := by rw [hBl]; exact isEmpty_no he
        have HEE := Lib.hid (isEmpty_no he)
        clear he hBl hb
        go_wp2_with fail
        exact ret_three (t := 2) (u := 3) (v := 4) (by kernel_rfl) rfl rfl rfl rfl ⟨by rw [← HE.out, HEE.out, HBB.out]; rfl, HB.out⟩
end Go.Proofs.YtbkjhogfpcmcbaaDoor

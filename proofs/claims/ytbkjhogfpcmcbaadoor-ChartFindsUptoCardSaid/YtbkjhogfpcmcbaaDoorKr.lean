/- chart: the document's Winner. Conditions: the names lie in memory; texts have at most 1900000 bytes. -/
import Derived.Test.YtbkjhogfpcmcbaaDoorKq
import Derived.Test.YtbkjhogfpcmcbaaDoorKj
namespace Go.Proofs.YtbkjhogfpcmcbaaDoor
open Go Go.RowKit Zn
set_option linter.unusedVariables false
set_option linter.unusedSimpArgs false
variable {w w' : World}
/-- does a name come ahead of another one? -/
def beatsB (s t : Nm) : Bool := candB s && (decide (candN s < candN t) || (decide (candN s = candN t) && Op.bytesLess s t))
def noneB (L : List Nm) (t : Nm) : Bool := L.all fun s => !beatsB s t
def firstB (L : List Nm) (t : Nm) : Bool := candB t && noneB L t
theorem noneB_snoc (L : List Nm) (s t : Nm) : noneB (L ++ [s]) t = (noneB L t && !beatsB s t) := by simp [noneB]
theorem noneB_take {L : List Nm} {k : Nat} {t : Nm} (h : noneB (L.take k) t = false) : noneB L t = false := by
  unfold noneB at h ⊢
  rw [List.all_eq_false] at h ⊢
  obtain ⟨x, hx, h⟩ := h
  exact ⟨x, List.mem_of_mem_take hx, h⟩
def rwin (L : List Nm) : Option Nm := L.find? (firstB L)
theorem rcK_sign (s : Nm) : decide (0 ≤ rcK s) = candB s := by
  unfold rcK candK
  cases h : candB s with
  | false => rfl
  | true =>
    rw [if_pos rfl, if_pos rfl, decide_eq_true_iff]
    unfold candB at h
    simp only [Bool.and_eq_true] at h
    have h2 := h.2
    unfold formB at h2
    split at h2
    · rename_i a b c d e
      rw [e]
      simp at h2
      show (0 : Int) ≤ (c.toNat : Int) - 48
      omega
    · cases h2
def RWon (w : World) (L : List Nm) (e : Ending) (w' : World) : Prop := (match rwin L with
  | some x => e = .returned (.tuple #[.string ⟨x.toArray⟩, .int .i64 (rcK x), .bool true])
  | none => e = .returned (.tuple #[.string ⟨#[]⟩, .int .i64 0, .bool false])) ∧ Below w.heap.size w w'
theorem RWon.no {L : List Nm} (h : rwin L = none) (hb : Below w.heap.size w w') : RWon w L (.returned (.tuple #[.string ⟨#[]⟩, .int .i64 0, .bool false])) w' := by unfold RWon; rw [h]; exact ⟨rfl, hb⟩
theorem RWon.yes {L : List Nm} {x : Nm} {X : ByteArray} {k : Int} (h : rwin L = some x) (hX : X = ⟨x.toArray⟩) (hk : k = rcK x) (hb : Below w.heap.size w w') : RWon w L (.returned (.tuple #[.string X, .int .i64 k, .bool true])) w' := by unfold RWon; rw [h, hX, hk]; exact ⟨rfl, hb⟩
set_option maxHeartbeats 4000000 in
theorem rwinner_any (ad : Option Addr) (cap : Nat) (L : List Nm) (w : World) (hS : Strs w ad L) (hs : ∀ x ∈ L, x.length ≤ 1900000) (hl : L.length ≤ 1000000) :
    Calls Tryd.prog 24 #[.slice ad L.length cap] w (RWon w L) := by
  obtain ⟨len, hlen⟩ : ∃ n, n = L.length := ⟨_, rfl⟩
  have HS := Lib.hid hS
  have HX := Lib.hid hs
  have HL := Lib.hid hlen
  rw [← hlen]
  have hl2 : len ≤ 1000000 := by omega
  clear hS hs hlen hl
  go_enter Tryd.func24, Tryd.ntmps24
  go_wp2_with fail
  go_loopw [5, 6, 7, 8, 9, 10, 11] (fun i _ _ _ _ _ _ wr => ∃ k : Nat, k ≤ len ∧ i = .int .i64 k ∧ (L.take k).find? (firstB L) = none ∧ Below w.heap.size w wr) (fun i _ _ _ _ _ _ _ => len - (intOf i).toNat)
  case atStart => exact ⟨0, Nat.zero_le _, rfl, rfl, Below.refl _ _⟩
  case round =>
    obtain ⟨i, hi, rfl, hno, hb⟩ := hrel
    have HNO := Lib.hid hno
    have HB := Lib.hid hb
    clear hno
    by_cases hlt : i < len
    · obtain ⟨x, hx⟩ : ∃ x, L[i]? = some x := ⟨_, List.getElem?_eq_getElem (by rw [← HL.out]; exact hlt)⟩
      have HXI := Lib.hid hx
      obtain ⟨g, off, rfl, hg, hc⟩ := HS.out.get i x hx
      have c0 := (hb.cell (p := ⟨g, off + i, none⟩) hg).trans hc
      have hgl : g < wr.heap.size := Nat.lt_of_lt_of_le hg hb.size
      obtain ⟨X, hXX⟩ : ∃ X : ByteArray, X = ⟨x.toArray⟩ := ⟨_, rfl⟩
      have hXl : X.toList = x := by rw [Lib.toList_data, hXX]
      have HXL := Lib.hid hXl
      have HXX := Lib.hid hXX
      have C := rcand_any X wr (by rw [hXX]; show x.toArray.size ≤ _; rw [List.size_toArray]; exact HX.out x (List.mem_of_getElem? hx))
      unfold RCanded at C
      rw [show X.data.toList = x by rw [hXX]] at C
      rw [← hXX] at c0
      have HC0 := Lib.hid (show w.cell? ⟨g, off + i, none⟩ = some (.string X) by rw [hXX]; exact hc)
      have HG := Lib.hid hg
      obtain ⟨K, hK⟩ : ∃ K, K = rcK x := ⟨_, rfl⟩
      obtain ⟨N, hN⟩ : ∃ N, N = candN x := ⟨_, rfl⟩
      rw [← hK, ← hN] at C
      have HK := Lib.hid hK
      have HN := Lib.hid hN
      have HKS := Lib.hid (show decide (0 ≤ K) = candB x by rw [hK]; exact rcK_sign x)
      have C := Lib.hid C
      have HNEXT := Lib.hid (show firstB L x = false → (L.take (i + 1)).find? (firstB L) = none from fun h => by rw [List.take_add_one, hx, List.find?_append, HNO.out]; simp [h])
      have HWIN := Lib.hid (show firstB L x = true → rwin L = some x from fun h => by
        unfold rwin
        have e : L = L.take i ++ x :: L.drop (i + 1) := by
          rw [List.getElem?_eq_getElem (by rw [← HL.out]; exact hlt)] at hx
          have hx := Option.some.inj hx
          rw [← hx, ← List.drop_eq_getElem_cons, List.take_append_drop]
        have h2 : L.find? (firstB L) = (L.take i ++ x :: L.drop (i + 1)).find? (firstB L) := congrArg (List.find? (firstB L)) e
        rw [h2, List.find?_append, HNO.out, List.find?_cons, h]; rfl)
      clear hK hN hx hb hc hg hXX hXl
      go_wp2_with fail
      refine C.out.mono ?_
      rintro e w1 ⟨rfl, b1⟩
      have HB1 := Lib.hid (HB.out.trans (b1.mono HB.out.size))
      clear b1 C c0 hgl
      have hks := HKS.out
      go_upto_region 6 with (fail)

      clear hks
      go_wp2_with fail
      go_loopw [8, 9, 10, 11] (fun f kk _ _ wr2 => ∃ k : Nat, k ≤ len ∧ kk = .int .i64 k ∧ f = .bool (candB x && noneB (L.take k) x) ∧ Below w.heap.size w wr2) (fun _ kk _ _ _ => len - (intOf kk).toNat)
      case atStart => exact ⟨0, Nat.zero_le _, rfl, by rw [show noneB (L.take 0) x = true from rfl, Bool.and_true], HB1.out⟩
      case round =>
        obtain ⟨k, hk, rfl, rfl, hb2⟩ := hrel
        have HB2 := Lib.hid hb2
        have c0 := (hb2.cell (p := ⟨g, off + i, none⟩) HG.out).trans HC0.out
        have hgl : g < wr.heap.size := Nat.lt_of_lt_of_le HG.out hb2.size
        cases hf : (candB x && noneB (L.take k) x) with
        | false =>
          have HNX := Lib.hid (HNEXT.out (by
            unfold firstB
            cases hcx : candB x with
            | false => rfl
            | true => rw [hcx, Bool.true_and] at hf; rw [noneB_take hf]; rfl))
          clear hf hb2 c0 hgl
          by_cases hkl : k < len
          · go_wp2_with fail
            go_roundw
            case rel => exact ⟨i + 1, by omega, by go_num, HNX.out, HB2.out⟩
            case measure => simp [intOf]; omega
          · go_wp2_with fail
            go_roundw
            case rel => exact ⟨i + 1, by omega, by go_num, HNX.out, HB2.out⟩
            case measure => simp [intOf]; omega
        | true =>
          by_cases hkl : k < len
          · obtain ⟨y, hy⟩ : ∃ y, L[k]? = some y := ⟨_, List.getElem?_eq_getElem (by rw [← HL.out]; exact hkl)⟩
            obtain ⟨g', off', e1, hg', hc'⟩ := HS.out.get k y hy
            injection e1 with e1
            injection e1 with e11 e12
            subst e11 e12
            have c1 := (hb2.cell (p := ⟨g, off + k, none⟩) hg').trans hc'
            have HCY := Lib.hid hc'
            obtain ⟨Y, hYY⟩ : ∃ Y : ByteArray, Y = ⟨y.toArray⟩ := ⟨_, rfl⟩
            have hYl : Y.toList = y := by rw [Lib.toList_data, hYY]
            have HYL := Lib.hid hYl
            have C := rcand_any Y wr (by rw [hYY]; show y.toArray.size ≤ _; rw [List.size_toArray]; exact HX.out y (List.mem_of_getElem? hy))
            unfold RCanded at C
            rw [show Y.data.toList = y by rw [hYY]] at C
            rw [← hYY] at c1
            have HCY := Lib.hid (show w.cell? ⟨g, off + k, none⟩ = some (.string Y) by rw [hYY]; exact hc')
            have HNX := Lib.hid (show (candB x && noneB (L.take (k + 1)) x) = !beatsB y x by
              rw [List.take_add_one, hy]
              show (candB x && noneB (L.take k ++ [y]) x) = _
              rw [noneB_snoc, ← Bool.and_assoc, hf, Bool.true_and])
            obtain ⟨KY, hKY⟩ : ∃ K, K = rcK y := ⟨_, rfl⟩
            obtain ⟨M, hM⟩ : ∃ M, M = candN y := ⟨_, rfl⟩
            rw [← hKY, ← hM] at C
            have C := Lib.hid C
            have HBE := Lib.hid (show beatsB y x = (decide (0 ≤ KY) && (decide (M < N) || (decide (M = N) && Op.bytesLess Y.toList X.toList))) by
              unfold beatsB
              rw [hKY, rcK_sign, hM, HN.out, HYL.out, HXL.out])
            clear hf hy hb2 hc' hYY hYl hKY hM c0
            go_wp2_with fail
            refine C.out.mono ?_
            rintro e w3 ⟨rfl, b3⟩
            have HB3 := Lib.hid (HB2.out.trans (b3.mono HB2.out.size))
            have c0 := (HB3.out.cell (p := ⟨g, off + i, none⟩) HG.out).trans HC0.out
            have c1 := (HB3.out.cell (p := ⟨g, off + k, none⟩) HG.out).trans HCY.out
            have hgl : g < w3.heap.size := Nat.lt_of_lt_of_le HG.out HB3.out.size
            clear b3 C
            cases d0 : decide (0 ≤ KY) with
            | false =>
              have HNX := Lib.hid (show (candB x && noneB (L.take (k + 1)) x) = true by rw [HNX.out, HBE.out, d0]; rfl)
              go_upto_region 10 with (fail)
              go_quiet (fail)
              go_wp2_with fail
              go_roundw
              case rel => exact ⟨k + 1, by omega, by go_num, by rw [HNX.out], Below.drewN HB3.out nq⟩
              case measure => simp [intOf]; omega
            | true =>
              cases d1 : decide (M < N) with
              | true =>
                have HNX := Lib.hid (show (candB x && noneB (L.take (k + 1)) x) = false by rw [HNX.out, HBE.out, d0, d1]; rfl)
                go_upto_region 10 with (fail)
                go_quiet (fail)
                go_wp2_with fail
                go_roundw
                case rel => exact ⟨k + 1, by omega, by go_num, by rw [HNX.out], Below.drewN HB3.out nq⟩
                case measure => simp [intOf]; omega
              | false =>
                by_cases d2 : M = N
                · have d2b : (M == N) = true := beq_iff_eq.2 d2
                  cases d3 : Op.bytesLess Y.toList X.toList with
                  | true =>
                    have HNX := Lib.hid (show (candB x && noneB (L.take (k + 1)) x) = false by rw [HNX.out, HBE.out, d0, d1, d3, decide_eq_true d2]; rfl)
                    go_upto_region 10 with (fail)
                    go_quiet (fail)
                    go_wp2_with fail
                    go_roundw
                    case rel => exact ⟨k + 1, by omega, by go_num, by rw [HNX.out], Below.drewN HB3.out nq⟩
                    case measure => simp [intOf]; omega
                  | false =>
                    have HNX := Lib.hid (show (candB x && noneB (L.take (k + 1)) x) = true by rw [HNX.out, HBE.out, d0, d1, d3]; simp)
                    go_upto_region 10 with (fail)
                    go_quiet (fail)
                    go_wp2_with fail
                    go_roundw
                    case rel => exact ⟨k + 1, by omega, by go_num, by rw [HNX.out], Below.drewN HB3.out nq⟩
                    case measure => simp [intOf]; omega
                · have d2b : (M == N) = false := beq_eq_false_iff_ne.2 d2
                  have HNX := Lib.hid (show (candB x && noneB (L.take (k + 1)) x) = true by rw [HNX.out, HBE.out, d0, d1, decide_eq_false d2]; rfl)
                  go_upto_region 10 with (fail)
                  go_quiet (fail)
                  go_wp2_with fail
                  go_roundw
                  case rel => exact ⟨k + 1, by omega, by go_num, by rw [HNX.out], Below.drewN HB3.out nq⟩
                  case measure => simp [intOf]; omega
          · obtain rfl : k = len := by omega
            have HW := Lib.hid (HWIN.out (by
              unfold firstB
              rwa [List.take_of_length_le (by rw [HL.out]; exact Nat.le_refl _)] at hf))
            clear hf hb2
            go_wp2_with fail
            exact ret_three (t := 2) (u := 3) (v := 4) (by kernel_rfl) rfl rfl rfl rfl (RWon.yes HW.out HXX.out HK.out HB2.out)
    · obtain rfl : i = len := by omega
      have HE := Lib.hid (show rwin L = none by have := HNO.out; rwa [List.take_of_length_le (by rw [HL.out]; exact Nat.le_refl _)] at this)
      clear hb
      go_wp2_with fail
      exact ret_three (t := 2) (u := 3) (v := 4) (by kernel_rfl) rfl rfl rfl rfl (RWon.no HE.out HB.out)
end Go.Proofs.YtbkjhogfpcmcbaaDoor

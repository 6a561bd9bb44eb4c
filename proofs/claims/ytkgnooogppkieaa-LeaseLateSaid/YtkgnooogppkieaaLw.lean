/- The walk of LeaseLate. Conditions: the script lies in memory. -/
import Derived.Test.YtkgnooogppkieaaLv
namespace Go.Proofs.Ytkgnooogppkieaa
open Go.ChangeShapes Go.WideShapes Go.ChangeAt Go.RowKit Go.Deep
set_option linter.unusedVariables false
set_option linter.unusedSimpArgs false

theorem late_later {L : List Lz} (hg : Good L) {now later : Int} (h0 : now ≤ later) (h1 : later ≤ 1099511627776) {p : Lz} (hp : p ∈ endL L now) :
    p ∈ endL L later ∧ getL L p.1 = some p ∧ isIn L p.1 = true ∧ p.2.1 < now - p.2.2 ∧ 0 ≤ now := by
  obtain ⟨hm, hl, hc⟩ := endL_sub hp
  unfold clockB at hc
  simp only [Bool.and_eq_true, decide_eq_true_eq] at hc
  rw [isLate, decide_eq_true_eq] at hl
  have hi : isIn L p.1 = true := by unfold isIn; rw [List.any_eq_true]; exact ⟨p, hm, by simp⟩
  obtain ⟨q, hq, hqid⟩ := isIn_get hg.rises p.1 hi
  have hqm : q ∈ L := List.mem_of_getElem? hq
  have he := rises_eq hg.rises hqm hm hqid
  refine ⟨?_, by unfold getL; rw [if_pos hi, hq, he], hi, hl, hc.1⟩
  unfold endL
  rw [if_pos (by unfold clockB; simp; omega), lateL, List.take_length, List.mem_filter]
  exact ⟨hm, by rw [isLate, decide_eq_true_eq]; omega⟩

theorem get_mem {L : List Lz} {id : Int} {p : Lz} (h : getL L id = some p) : p ∈ L := by
  unfold getL at h
  split at h
  · exact List.mem_of_getElem? h
  · cases h
theorem any_mem {F : List Lz} {p : Lz} (h : p ∈ F) : anyId F p.1 = true := by
  unfold anyId; rw [List.any_eq_true]; exact ⟨p, h, by simp⟩
set_option maxRecDepth 100000 in
set_option maxHeartbeats 4000000 in
theorem late_core (W : World) (pa : Option Addr) (len cap : Nat) (os : List Op10) (hO : OpsAt W pa len os) (now later : Int) (hw1 : (Lit.int .i64 now).wf = true) :
    Calls Try.prog 4 #[.slice pa len cap, .int .i64 now, .int .i64 later] W fun e W' => e = .returned (.bool true) ∧ Below W.heap.size W W' := by
  have C0 := Lib.hid (new_any W)
  have HO := Lib.hid hO
  clear hO
  by_cases hbig : 400 < len
  · go_enter Try.func4, Try.ntmps4
    go_wp2_with fail
    refine C0.out.mono ?_
    rintro e w1 ⟨rfl, hT1, b1⟩
    go_wp2_with fail
    refine (alive_any _).mono ?_
    rintro e w2 ⟨rfl, b2⟩
    go_wp2_with fail
    go_ret
    exact ⟨rfl, b1.trans (b2.mono b1.size)⟩
  by_cases hlt : later < now
  · go_enter Try.func4, Try.ntmps4
    go_wp2_with fail
    refine C0.out.mono ?_
    rintro e w1 ⟨rfl, hT1, b1⟩
    go_wp2_with fail
    refine (alive_any _).mono ?_
    rintro e w2 ⟨rfl, b2⟩
    go_wp2_with fail
    go_ret
    exact ⟨rfl, b1.trans (b2.mono b1.size)⟩
  by_cases hgt : 1099511627776 < later
  · go_enter Try.func4, Try.ntmps4
    go_wp2_with fail
    refine C0.out.mono ?_
    rintro e w1 ⟨rfl, hT1, b1⟩
    go_wp2_with fail
    refine (alive_any _).mono ?_
    rintro e w2 ⟨rfl, b2⟩
    go_wp2_with fail
    go_ret
    exact ⟨rfl, b1.trans (b2.mono b1.size)⟩
  go_enter Try.func4, Try.ntmps4
  go_wp2_with fail
  refine C0.out.mono ?_
  rintro e w1 ⟨rfl, hT1, b1⟩
  have B1 := Lib.hid b1
  have C1 := Lib.hid (plays_new w1 W.heap.size pa len cap os (HO.out.below b1 (Nat.le_refl _)) (by omega) (ops_in HO.out) hT1 b1.size)
  have HT1 := Lib.hid hT1
  clear C0 hT1 b1
  go_wp2_with fail
  refine C1.out.mono ?_
  rintro e w2 ⟨ad2, c2, v2, rfl, hc2, hT2, g2, _⟩
  have HG2 := Lib.hid (good_play os good_nil)
  obtain ⟨M, hM⟩ : ∃ M, M = playL os [] := ⟨_, rfl⟩
  rw [← hM] at hT2 hc2 HG2 ⊢
  have B2 := Lib.hid (g2.below B1.out (Nat.le_refl _) HT1.out.of_ge)
  have hml : M.length ≤ 1000 := Nat.le_trans HG2.out.many (by omega)
  have HT2 := Lib.hid hT2
  have C2 := Lib.hid (ended_any now hT2 B2.out.size hml HG2.out.right)
  obtain ⟨E, hE⟩ : ∃ E, E = endL M now := ⟨_, rfl⟩
  obtain ⟨F, hF⟩ : ∃ F, F = endL M later := ⟨_, rfl⟩
  have HL : Hid (∀ p ∈ E, p ∈ F ∧ getL M p.1 = some p ∧ isIn M p.1 = true ∧ p.2.1 < now - p.2.2 ∧ 0 ≤ now) := fun p hp => by
    rw [hE] at hp; rw [hF]; exact late_later HG2.out (by omega) (by omega) hp
  have hEl : E.length ≤ 1000 := by
    have := lateL_len M now M.length
    rw [hE]; unfold endL; split
    · omega
    · simp
  have hFl : F.length ≤ 1000 := by
    have := lateL_len M later M.length
    rw [hF]; unfold endL; split
    · omega
    · simp
  rw [← hE] at C2
  clear hT2 g2 C1 HT1 hM B1
  go_wp2_with fail
  refine C2.out.mono ?_
  rintro e w3 ⟨l3, rfl, own3, b3⟩
  have HT3 := Lib.hid (HT2.out.below b3 (Nat.le_refl _))
  have B3 := Lib.hid (B2.out.trans (b3.mono B2.out.size))
  have C3 := Lib.hid (ended_any later HT3.out B3.out.size hml HG2.out.right)
  rw [← hF] at C3
  obtain ⟨ad3, c3, rfl, _⟩ := own_shape own3
  have HE3 := Lib.hid own3
  clear own3 b3 hE hF C2 HT2 B2
  go_wp2_with fail
  refine C3.out.mono ?_
  rintro e w4 ⟨l4, rfl, own4, b4⟩
  have HT4 := Lib.hid (HT3.out.below b4 (Nat.le_refl _))
  have B4 := Lib.hid (B3.out.trans (b4.mono B3.out.size))
  obtain ⟨ad4, c4, rfl, _⟩ := own_shape own4
  have HF4 := Lib.hid own4
  have HE4 := Lib.hid (own_stays HE3.out (fun k hk => b4.block k (own_lt HE3.out k hk)))
  clear own4 b4 C3 HT3 B3 HE3
  go_wp2
  go_loopw [50] (fun i wr => ∃ k : Nat, k ≤ E.length ∧ i = .int .i64 k ∧ Below w4.heap.size w4 wr) (fun i _ => E.length - (intOf i).toNat)
  case atStart => exact ⟨0, Nat.zero_le _, rfl, Below.refl _ _⟩
  case round =>
    obtain ⟨k, hk, rfl, hbel⟩ := hrel
    have HB := Lib.hid hbel
    have BW := Lib.hid (B4.out.trans (hbel.mono B4.out.size))
    have HTr := Lib.hid (HT4.out.below hbel (Nat.le_refl _))
    have HFr := Lib.hid (own_stays HF4.out (fun k hk => hbel.block k (own_lt HF4.out k hk)))
    have HEr := Lib.hid (own_stays HE4.out (fun k hk => hbel.block k (own_lt HE4.out k hk)))
    clear hbel
    by_cases hke : k < E.length
    · obtain ⟨p, hp⟩ : ∃ p, E[k]? = some p := ⟨_, List.getElem?_eq_getElem hke⟩
      obtain ⟨g, cp, he, hg, d0⟩ := int_cells HEr.out k p hp
      obtain ⟨rfl, rfl⟩ : ad3 = some ⟨g, 0, none⟩ ∧ c3 = cp := by injection he with e1 e2 e3; exact ⟨e1, e3⟩
      obtain ⟨l1, l2, l3, l4, l5⟩ := HL.out p (List.mem_of_getElem? hp)
      have C5 := get_any p.1 HTr.out HG2.out.rises hml
      rw [l2, l3] at C5
      simp only [Option.getD_some] at C5
      have C5 := Lib.hid C5
      have hR := HG2.out.right p (get_mem l2)
      simp only [rightB, decide_eq_true_eq] at hR
      have L1 := Lib.hid l1
      clear he hp l1 l2 l3
      go_wp2_with fail
      refine C5.out.mono ?_
      rintro e w5 ⟨rfl, b5⟩
      obtain ⟨r1, r2, r3, r4, r5, r6⟩ := hR
      have hn1 : now ≤ 1099511627776 := by omega
      have HX6 := Lib.hid (Box.new w5 37 #[.int .i64 p.1, .int .i64 p.2.1, .int .i64 p.2.2])
      have B6 := Lib.hid (b5.alloc b5.size (.cells #[.int .i64 p.1, .int .i64 p.2.1, .int .i64 p.2.2] 37))
      have HF6 := Lib.hid (own_stays HFr.out (fun k hk => B6.out.block k (own_lt HFr.out k hk)))
      unfold tv
      clear b5 C5 d0
      go_wp2
      generalize w5.alloc (.cells #[.int .i64 p.1, .int .i64 p.2.1, .int .i64 p.2.2] 37) = w6 at HX6 B6 HF6 ⊢
      go_loopw [14, 62] (fun kn i wq => ∃ j : Nat, j ≤ F.length ∧ i = .int .i64 j ∧ kn = .bool (anyId (F.take j) p.1) ∧ wq = w6) (fun _ i _ => F.length - (intOf i).toNat)
      case atStart => exact ⟨0, Nat.zero_le _, rfl, rfl, rfl⟩
      case round =>
        obtain ⟨j, hj, rfl, rfl, rfl⟩ := hrel
        by_cases hjf : j < F.length
        · obtain ⟨q, hq⟩ : ∃ q, F[j]? = some q := ⟨_, List.getElem?_eq_getElem hjf⟩
          obtain ⟨g4, cp4, he4, hg4, d4⟩ := int_cells HF6.out j q hq
          obtain ⟨rfl, rfl⟩ : ad4 = some ⟨g4, 0, none⟩ ∧ c4 = cp4 := by injection he4 with e1 e2 e3; exact ⟨e1, e3⟩
          have HN := Lib.hid (anyId_next (id := p.1) hq)
          obtain ⟨bk, hbk⟩ : ∃ b, b = anyId (F.take j) p.1 := ⟨_, rfl⟩
          rw [← hbk] at HN ⊢
          clear he4 hq hbk
          cases bk
          · go_wp2
            go_roundw
            case rel => exact ⟨j + 1, by omega, by go_num, by rw [HN.out]; rfl, trivial⟩
            case measure => simp [intOf]; omega
          · go_wp2
            go_roundw
            case rel => exact ⟨j + 1, by omega, by go_num, by rw [HN.out]; rfl, trivial⟩
            case measure => simp [intOf]; omega
        · obtain rfl : j = F.length := by omega
          rw [List.take_length, any_mem L1.out]
          have x1 := (HX6.out.cell 1).trans (show _ = some (Value.int .i64 p.2.1) from rfl)
          have x2 := (HX6.out.cell 2).trans (show _ = some (Value.int .i64 p.2.2) from rfl)
          have hle : ¬ now - p.2.2 ≤ p.2.1 := by omega
          go_wp2
          go_roundw
          case rel => exact ⟨k + 1, by omega, by go_num, HB.out.trans (B6.out.mono HB.out.size)⟩
          case measure => simp [intOf]; omega
    · obtain rfl : k = E.length := by omega
      go_wp2_with fail
      refine (alive_any _).mono ?_
      rintro e w9 ⟨rfl, b9⟩
      go_wp2_with fail
      go_ret
      exact ⟨rfl, BW.out.trans (b9.mono BW.out.size)⟩
theorem leaseLate_walk {H : Type} {enc : TypeId × Value → H} {base : Nat} {p0 : List MemPlace} (W : World) (v0 : Value) (d0 : DataW H) (hv : Value.okWide Try.prog W .any base 30 v0) (h : DataW.Trod enc Try.prog W 0 (fun _ => true) true 30 v0 d0 p0) (_b : ∀ n ∈ d0.weights Try.prog 30, n ≤ 140737488351232)
    (a1 : Int) (_w1 : (Lit.int .i64 a1).wf = true) (a2 : Int) (_w2 : (Lit.int .i64 a2).wf = true) :
    Calls Try.prog 4 #[v0, .int .i64 a1, .int .i64 a2] W fun e W' => e = .returned (.bool true) ∧ Below W.heap.size W W' := by
  obtain ⟨a, len, cap, os, rfl, hP, h1, h2⟩ := open_ops hv h
  exact late_core W a len cap os hP a1 a2 _w1
end Go.Proofs.Ytkgnooogppkieaa

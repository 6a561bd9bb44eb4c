/- The walk of LeaseRenews. Conditions: the script lies in memory. -/
import Derived.Test.YtkgnooogppkieaaLu
namespace Go.Proofs.Ytkgnooogppkieaa
open Go.ChangeShapes Go.WideShapes Go.ChangeAt Go.RowKit Go.Deep
set_option linter.unusedVariables false
set_option linter.unusedSimpArgs false

theorem isIn_del {L : List Lz} (hs : Rises L) (id : Int) : isIn (if isIn L id then delL L id else L) id = false := by
  cases h : isIn L id with
  | false => simpa using h
  | true =>
    simp only [if_true]
    rw [← out_del hs id h]
    unfold isIn outL
    rw [List.any_eq_false]
    intro p hp
    have := (List.mem_filter.1 hp).2
    simpa using this
/-- whether an id has ended. -/
def anyId (E : List Lz) (id : Int) : Bool := E.any fun p => p.1 == id
theorem anyId_next {E : List Lz} {id : Int} {k : Nat} {p : Lz} (h : E[k]? = some p) : anyId (E.take (k + 1)) id = (anyId (E.take k) id || p.1 == id) := by
  unfold anyId; rw [List.take_add_one, h, List.any_append]; simp
theorem endL_sub {L : List Lz} {now : Int} {p : Lz} (h : p ∈ endL L now) : p ∈ L ∧ isLate now p = true ∧ clockB now = true := by
  unfold endL at h
  cases hc : clockB now with
  | false => rw [hc] at h; simp at h
  | true =>
    rw [hc] at h
    simp only [if_true, lateL, List.take_length] at h
    exact ⟨(List.mem_filter.1 h).1, (List.mem_filter.1 h).2, rfl⟩
theorem rises_eq {L : List Lz} (hs : Rises L) {p q : Lz} (hp : p ∈ L) (hq : q ∈ L) (h : p.1 = q.1) : p = q := by
  induction L with
  | nil => simp at hp
  | cons r L ih =>
    have h1 := List.pairwise_cons.1 hs
    rcases List.mem_cons.1 hp with rfl | hp' <;> rcases List.mem_cons.1 hq with rfl | hq'
    · rfl
    · have := h1.1 q hq'; omega
    · have := h1.1 p hp'; omega
    · exact ih h1.2 hp' hq'
theorem not_ended {L : List Lz} (hg : Good L) (id now : Int) (h : (clockB now && isIn L id) = true) : anyId (endL (renL L id now) now) id = false := by
  simp only [Bool.and_eq_true] at h
  have hg' := good_ren hg id now h.1
  unfold anyId
  rw [List.any_eq_false]
  intro p hp hpid
  obtain ⟨hm, hl, _⟩ := endL_sub hp
  obtain ⟨q, hq, hqid⟩ := isIn_get hg.rises id h.2
  have e : getL L id = some q := by unfold getL; rw [if_pos h.2, hq]
  have hr : renL L id now = L.set (kOf L id) (q.1, q.2.1, max q.2.2 now) := by unfold renL; rw [e]
  have hm2 : ((q.1, q.2.1, max q.2.2 now) : Lz) ∈ renL L id now := by
    rw [hr]
    exact List.mem_of_getElem? (i := kOf L id) (by rw [List.getElem?_set_self (List.getElem?_eq_some_iff.1 hq).1])
  have he := rises_eq hg'.rises hm hm2 (by show p.1 = q.1; have : p.1 = id := by simpa using hpid
                                           omega)
  have hR := hg'.right p hm
  simp only [rightB, decide_eq_true_eq] at hR
  rw [isLate, decide_eq_true_eq] at hl
  rw [he] at hl hR
  simp only at hl hR
  omega
theorem ops_in {W : World} {pa : Option Addr} {len : Nat} {os : List Op10} (h : OpsAt W pa len os) : ∀ g o s, pa = some ⟨g, o, s⟩ → 0 < len → g < W.heap.size := by
  intro g o s e h0
  obtain ⟨b, off, _, e', _, hb, _⟩ := h.get 0 h0
  rw [e] at e'
  injection e' with e'
  injection e' with e1
  omega
theorem OpsAt.below {w w' : World} {a : Option Addr} {len : Nat} {os : List Op10} {B : Nat} (h : OpsAt w a len os) (hb : Below B w w') (hB : w.heap.size ≤ B) : OpsAt w' a len os := RowsAt.below h hb hB
/-- plays from a new table. -/
theorem plays_new (w : World) (n : Nat) (pa : Option Addr) (len cap : Nat) (os : List Op10) (hO : OpsAt w pa len os) (hlen : len ≤ 1000) (hpa : ∀ g o s, pa = some ⟨g, o, s⟩ → 0 < len → g < n) (h : Tab w n n (.slice none 0 0) []) (hb : n ≤ w.heap.size) :
    Calls Try.prog 13 #[.pointer (some ⟨n, 0, none⟩), .slice none 0 0, .slice pa len cap] w (Played w n n (.slice none 0 0) (playL os [])) :=
  plays_any (base := n) (n := n) (L := []) none 0 pa len cap os hO hlen hpa h hb good_nil (.inl rfl) (Nat.le_refl _)

set_option maxRecDepth 100000 in
set_option maxHeartbeats 4000000 in
theorem renews_core (W : World) (pa : Option Addr) (len cap : Nat) (os : List Op10) (hO : OpsAt W pa len os) (id now : Int) :
    Calls Try.prog 5 #[.slice pa len cap, .int .i64 id, .int .i64 now] W fun e W' => e = .returned (.bool true) ∧ Below W.heap.size W W' := by
  have C0 := Lib.hid (new_any W)
  have HO := Lib.hid hO
  clear hO
  by_cases hbig : 400 < len
  · go_enter Try.func5, Try.ntmps5
    go_wp2_with fail
    refine C0.out.mono ?_
    rintro e w1 ⟨rfl, hT1, b1⟩
    go_wp2_with fail
    refine (alive_any _).mono ?_
    rintro e w2 ⟨rfl, b2⟩
    go_wp2_with fail
    go_ret
    exact ⟨rfl, b1.trans (b2.mono b1.size)⟩
  go_enter Try.func5, Try.ntmps5
  go_wp2_with fail
  refine C0.out.mono ?_
  rintro e w1 ⟨rfl, hT1, b1⟩
  have B1 := Lib.hid b1
  have C1 := Lib.hid (plays_new w1 W.heap.size pa len cap os (HO.out.below b1 (Nat.le_refl _)) (by omega) (ops_in HO.out) hT1 b1.size)
  have HT1 := Lib.hid hT1
  clear C0 hT1 b1
  go_wp2_with fail
  refine C1.out.mono ?_
  rintro e w2 ⟨ad2, c2, v2, rfl, hc2, hT2, g2, _⟩
  have HG2 := Lib.hid (good_play os good_nil)
  obtain ⟨M, hM⟩ : ∃ M, M = playL os [] := ⟨_, rfl⟩
  rw [← hM] at hT2 hc2 HG2 ⊢
  have B2 := Lib.hid (g2.below B1.out (Nat.le_refl _) HT1.out.of_ge)
  have hml : M.length ≤ 1000 := Nat.le_trans HG2.out.many (by omega)
  have HT2 := Lib.hid hT2
  have C2 := Lib.hid (renew_all id now hT2 B2.out.size HG2.out.rises hml)
  clear hT2 g2 C1 HT1 hM B1
  obtain ⟨cb, hcb⟩ : ∃ cb, cb = (clockB now && isIn M id) := ⟨_, rfl⟩
  obtain ⟨er, her⟩ : ∃ er : Int, er = (if clockB now then (if isIn M id then 0 else 100) else 1) := ⟨_, rfl⟩
  obtain ⟨M1, hM1⟩ : ∃ M1, M1 = (if clockB now && isIn M id then renL M id now else M) := ⟨_, rfl⟩
  have HG3 : Hid (Good M1) := by
    rw [hM1]
    cases hq : (clockB now && isIn M id) with
    | false => exact HG2.out
    | true => exact good_ren HG2.out id now (by simp only [Bool.and_eq_true] at hq; exact hq.1)
  have HE3 : Hid (er = 0 → anyId (endL M1 now) id = false) := fun h => by
    rw [hM1]
    cases hc : clockB now with
    | false => rw [her, hc] at h; simp at h
    | true =>
      cases hi : isIn M id with
      | false => rw [her, hc, hi] at h; simp at h
      | true =>
        have := not_ended HG2.out id now (by rw [hc, hi]; rfl)
        simpa using this
  rw [← her, ← hM1] at C2
  have hm1 : M1.length ≤ 1000 := Nat.le_trans HG3.out.many (by omega)
  clear her hM1 hcb hml
  go_wp2_with fail
  refine C2.out.mono ?_
  rintro e w3 ⟨rfl, v3, hT3, g3⟩
  have B3 := Lib.hid (g3.below B2.out (by have := B2.out.size; omega) HT2.out.of_ge)
  have HT3 := Lib.hid hT3
  have C3 := Lib.hid (ended_any now hT3 B3.out.size hm1 HG3.out.right)
  obtain ⟨E, hE⟩ : ∃ E, E = endL M1 now := ⟨_, rfl⟩
  rw [← hE] at C3 HE3
  clear hT3 g3 C2 HT2 B2
  go_wp2_with fail
  refine C3.out.mono ?_
  rintro e w4 ⟨l4, rfl, own4, b4⟩
  have HT4 := Lib.hid (HT3.out.below b4 (Nat.le_refl _))
  have B4 := Lib.hid (B3.out.trans (b4.mono B3.out.size))
  obtain ⟨ad4, c4, rfl, _⟩ := own_shape own4
  have HO4 := Lib.hid own4
  have C4 := Lib.hid (close_all id HT4.out B4.out.size HG3.out.rises hm1)
  obtain ⟨M2, hM2⟩ : ∃ M2, M2 = (if isIn M1 id then delL M1 id else M1) := ⟨_, rfl⟩
  obtain ⟨er2, her2⟩ : ∃ er : Int, er = (if isIn M1 id then 0 else 100) := ⟨_, rfl⟩
  have HI5 : Hid (isIn M2 id = false) := by rw [hM2]; exact isIn_del HG3.out.rises id
  have HG5 : Hid (Good M2) := by
    rw [hM2]
    cases isIn M1 id with
    | false => exact HG3.out
    | true => exact good_del HG3.out id
  rw [← hM2, ← her2] at C4
  have hm2 : M2.length ≤ 1000 := Nat.le_trans HG5.out.many (by omega)
  have hEl : E.length ≤ 1000 := by
    have := lateL_len M1 now M1.length
    rw [hE]; unfold endL; split
    · omega
    · simp
  clear own4 b4 hE hM2 her2 C3 HT3 B3
  go_wp2
  go_loopw [9, 40] (fun en i wr => ∃ k : Nat, k ≤ E.length ∧ i = .int .i64 k ∧ en = .bool (anyId (E.take k) id) ∧ wr = w4) (fun _ i _ => E.length - (intOf i).toNat)
  case atStart => exact ⟨0, Nat.zero_le _, rfl, rfl, rfl⟩
  case round =>
    obtain ⟨k, hk, rfl, rfl, rfl⟩ := hrel
    by_cases hlt : k < E.length
    · obtain ⟨p, hp⟩ : ∃ p, E[k]? = some p := ⟨_, List.getElem?_eq_getElem hlt⟩
      obtain ⟨g, cp, he, hg, d0⟩ := int_cells HO4.out k p hp
      obtain ⟨rfl, rfl⟩ : ad4 = some ⟨g, 0, none⟩ ∧ c4 = cp := by injection he with e1 e2 e3; exact ⟨e1, e3⟩
      have HN := Lib.hid (anyId_next (id := id) hp)
      obtain ⟨bk, hbk⟩ : ∃ b, b = anyId (E.take k) id := ⟨_, rfl⟩
      rw [← hbk] at HN ⊢
      clear he hp hbk
      cases bk
      · go_wp2
        go_roundw
        case rel => exact ⟨k + 1, by omega, by go_num, by rw [HN.out]; rfl, trivial⟩
        case measure => simp [intOf]; omega
      · go_wp2
        go_roundw
        case rel => exact ⟨k + 1, by omega, by go_num, by rw [HN.out]; rfl, trivial⟩
        case measure => simp [intOf]; omega
    · obtain rfl : k = E.length := by omega
      rw [List.take_length]
      have HE4 : er = 0 → anyId E id = false := HE3.out
      have C4' := C4
      obtain ⟨bE, hbE⟩ : ∃ b, b = anyId E id := ⟨_, rfl⟩
      rw [← hbE] at HE4 ⊢
      clear hbE HE3 HO4 C4
      have key : (er == 0 && bE) = false := by
        by_cases h : er = 0
        · rw [HE4 h]; simp
        · simp [h]
      have KEY := Lib.hid key
      have hS4 := B4.out.size
      have fin : ∀ (w5 : World) (v5 : Value), Tab w5 W.heap.size W.heap.size v5 M2 → Below W.heap.size W w5 → Calls Try.prog 15 #[.pointer (some ⟨W.heap.size, 0, none⟩), .int .i64 id] w5 fun e w6 => ∃ q : Lz, e = .returned (.tuple #[tv q, .bool false]) ∧ Tab w6 W.heap.size W.heap.size v5 M2 ∧ Below W.heap.size W w6 := fun w5 v5 hT5 hB5 =>
        (get_any id hT5 HG5.out.rises hm2).mono fun e w6 ⟨he, hb⟩ => ⟨(getL M2 id).getD zl, by rw [he, HI5.out], hT5.below hb (Nat.le_refl _), hB5.trans (hb.mono hB5.size)⟩
      have FIN := Lib.hid fin
      clear fin key HE4
      cases he0 : (er == 0)
      · clear KEY
        go_wp2_with fail
        refine C4'.mono ?_
        rintro e w5 ⟨rfl, v5, hT5, g5⟩
        have B5 := Lib.hid (g5.below B4.out (by omega) HT4.out.of_ge)
        have C5 := Lib.hid (FIN.out w5 v5 hT5 B5.out)
        clear hT5 g5
        go_wp2_with fail
        refine C5.out.mono ?_
        rintro e w6 ⟨q, rfl, hT6, hB6⟩
        have B7 := Lib.hid (hB6.alloc hB6.size (.cells #[.int .i64 q.1, .int .i64 q.2.1, .int .i64 q.2.2] 37))
        have HT7 := Lib.hid (hT6.alloc (.cells #[.int .i64 q.1, .int .i64 q.2.1, .int .i64 q.2.2] 37))
        have C6 := Lib.hid (ended_any 1099511627776 HT7.out B7.out.size hm2 HG5.out.right)
        obtain ⟨F, hF⟩ : ∃ F, F = endL M2 1099511627776 := ⟨_, rfl⟩
        have HF : Hid (∀ p ∈ F, (p.1 == id) = false) := fun p hp => by
          rw [hF] at hp
          have h1 := HI5.out
          unfold isIn at h1
          rw [List.any_eq_false] at h1
          simpa using h1 p (endL_sub hp).1
        have hFl : F.length ≤ 1000 := by
          have := lateL_len M2 1099511627776 M2.length
          rw [hF]; unfold endL; split
          · omega
          · simp
        rw [← hF] at C6
        unfold tv
        clear hT6 hB6 hF C5
        go_wp2_with fail
        refine C6.out.mono ?_
        rintro e w8 ⟨l8, rfl, own8, b8⟩
        have B8 := Lib.hid (B7.out.trans (b8.mono B7.out.size))
        have HT8 := Lib.hid (HT7.out.below b8 (Nat.le_refl _))
        obtain ⟨ad8, c8, rfl, _⟩ := own_shape own8
        have HO8 := Lib.hid own8
        clear own8 b8 C6 HT7 B7
        go_wp2
        go_loopw [68] (fun i wr => ∃ k : Nat, k ≤ F.length ∧ i = .int .i64 k ∧ wr = w8) (fun i _ => F.length - (intOf i).toNat)
        case atStart => exact ⟨0, Nat.zero_le _, rfl, rfl⟩
        case round =>
          obtain ⟨k, hk, rfl, rfl⟩ := hrel
          by_cases hlt : k < F.length
          · obtain ⟨p, hp⟩ : ∃ p, F[k]? = some p := ⟨_, List.getElem?_eq_getElem hlt⟩
            obtain ⟨g, cp, he, hg, d0⟩ := int_cells HO8.out k p hp
            obtain ⟨rfl, rfl⟩ : ad8 = some ⟨g, 0, none⟩ ∧ c8 = cp := by injection he with e1 e2 e3; exact ⟨e1, e3⟩
            have hne := HF.out p (List.mem_of_getElem? hp)
            clear he hp
            go_wp2
            go_roundw
            case rel => exact ⟨k + 1, by omega, by go_num, trivial⟩
            case measure => simp [intOf]; omega
          · obtain rfl : k = F.length := by omega
            go_wp2_with fail
            refine (alive_any _).mono ?_
            rintro e w9 ⟨rfl, b9⟩
            have B9 := Lib.hid (B8.out.trans (b9.mono B8.out.size))
            have HT9 := Lib.hid (HT8.out.below b9 (Nat.le_refl _))
            have C9 := Lib.hid (renew_all id 0 HT9.out B9.out.size HG5.out.rises hm2)
            rw [HI5.out, show clockB 0 = true by decide] at C9
            simp only [Bool.true_and, Bool.false_eq_true, if_false, if_true] at C9
            clear b9
            go_wp2_with fail
            refine C9.out.mono ?_
            rintro e w10 ⟨rfl, v10, hT10, g10⟩
            have B10 := Lib.hid (g10.below B9.out (Nat.le_refl _) HT9.out.of_ge)
            clear hT10 g10
            go_wp2_with fail
            go_ret
            exact ⟨rfl, B10.out⟩
      · have hbE : bE = false := by have := KEY.out; rw [he0] at this; simpa using this
        subst hbE
        clear KEY
        go_wp2_with fail
        refine C4'.mono ?_
        rintro e w5 ⟨rfl, v5, hT5, g5⟩
        have B5 := Lib.hid (g5.below B4.out (by omega) HT4.out.of_ge)
        have C5 := Lib.hid (FIN.out w5 v5 hT5 B5.out)
        clear hT5 g5
        go_wp2_with fail
        refine C5.out.mono ?_
        rintro e w6 ⟨q, rfl, hT6, hB6⟩
        have B7 := Lib.hid (hB6.alloc hB6.size (.cells #[.int .i64 q.1, .int .i64 q.2.1, .int .i64 q.2.2] 37))
        have HT7 := Lib.hid (hT6.alloc (.cells #[.int .i64 q.1, .int .i64 q.2.1, .int .i64 q.2.2] 37))
        have C6 := Lib.hid (ended_any 1099511627776 HT7.out B7.out.size hm2 HG5.out.right)
        obtain ⟨F, hF⟩ : ∃ F, F = endL M2 1099511627776 := ⟨_, rfl⟩
        have HF : Hid (∀ p ∈ F, (p.1 == id) = false) := fun p hp => by
          rw [hF] at hp
          have h1 := HI5.out
          unfold isIn at h1
          rw [List.any_eq_false] at h1
          simpa using h1 p (endL_sub hp).1
        have hFl : F.length ≤ 1000 := by
          have := lateL_len M2 1099511627776 M2.length
          rw [hF]; unfold endL; split
          · omega
          · simp
        rw [← hF] at C6
        unfold tv
        clear hT6 hB6 hF C5
        go_wp2_with fail
        refine C6.out.mono ?_
        rintro e w8 ⟨l8, rfl, own8, b8⟩
        have B8 := Lib.hid (B7.out.trans (b8.mono B7.out.size))
        have HT8 := Lib.hid (HT7.out.below b8 (Nat.le_refl _))
        obtain ⟨ad8, c8, rfl, _⟩ := own_shape own8
        have HO8 := Lib.hid own8
        clear own8 b8 C6 HT7 B7
        go_wp2
        go_loopw [68] (fun i wr => ∃ k : Nat, k ≤ F.length ∧ i = .int .i64 k ∧ wr = w8) (fun i _ => F.length - (intOf i).toNat)
        case atStart => exact ⟨0, Nat.zero_le _, rfl, rfl⟩
        case round =>
          obtain ⟨k, hk, rfl, rfl⟩ := hrel
          by_cases hlt : k < F.length
          · obtain ⟨p, hp⟩ : ∃ p, F[k]? = some p := ⟨_, List.getElem?_eq_getElem hlt⟩
            obtain ⟨g, cp, he, hg, d0⟩ := int_cells HO8.out k p hp
            obtain ⟨rfl, rfl⟩ : ad8 = some ⟨g, 0, none⟩ ∧ c8 = cp := by injection he with e1 e2 e3; exact ⟨e1, e3⟩
            have hne := HF.out p (List.mem_of_getElem? hp)
            clear he hp
            go_wp2
            go_roundw
            case rel => exact ⟨k + 1, by omega, by go_num, trivial⟩
            case measure => simp [intOf]; omega
          · obtain rfl : k = F.length := by omega
            go_wp2_with fail
            refine (alive_any _).mono ?_
            rintro e w9 ⟨rfl, b9⟩
            have B9 := Lib.hid (B8.out.trans (b9.mono B8.out.size))
            have HT9 := Lib.hid (HT8.out.below b9 (Nat.le_refl _))
            have C9 := Lib.hid (renew_all id 0 HT9.out B9.out.size HG5.out.rises hm2)
            rw [HI5.out, show clockB 0 = true by decide] at C9
            simp only [Bool.true_and, Bool.false_eq_true, if_false, if_true] at C9
            clear b9
            go_wp2_with fail
            refine C9.out.mono ?_
            rintro e w10 ⟨rfl, v10, hT10, g10⟩
            have B10 := Lib.hid (g10.below B9.out (Nat.le_refl _) HT9.out.of_ge)
            clear hT10 g10
            go_wp2_with fail
            go_ret
            exact ⟨rfl, B10.out⟩
theorem leaseRenews_walk {H : Type} {enc : TypeId × Value → H} {base : Nat} {p0 : List MemPlace} (W : World) (v0 : Value) (d0 : DataW H) (hv : Value.okWide Try.prog W .any base 30 v0) (h : DataW.Trod enc Try.prog W 0 (fun _ => true) true 30 v0 d0 p0) (_b : ∀ n ∈ d0.weights Try.prog 30, n ≤ 140737488351232)
    (a1 : Int) (_w1 : (Lit.int .i64 a1).wf = true) (a2 : Int) (_w2 : (Lit.int .i64 a2).wf = true) :
    Calls Try.prog 5 #[v0, .int .i64 a1, .int .i64 a2] W fun e W' => e = .returned (.bool true) ∧ Below W.heap.size W W' := by
  obtain ⟨a, len, cap, os, rfl, hP, h1, h2⟩ := open_ops hv h
  exact renews_core W a len cap os hP a1 a2
end Go.Proofs.Ytkgnooogppkieaa

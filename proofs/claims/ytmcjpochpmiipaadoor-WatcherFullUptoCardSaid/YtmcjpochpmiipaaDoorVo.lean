/- watcher: the walk of WatcherFull. Conditions: the library's variable is there; the path is not longer than 1 MiB. -/
import Derived.Test.YtmcjpochpmiipaaDoorVn
namespace Go.Proofs.YtmcjpochpmiipaaDoor
open Go Go.RowKit Zn
set_option linter.unusedVariables false
set_option linter.unusedSimpArgs false
variable {w w' : World} {base n : Nat} {v : Value} {L : List Wt}

def wl (s : ByteArray) (m : Nat) : List Wt := (List.range m).map fun (i : Nat) => (((i : Int) + 1), s, false)
theorem wl_len (s : ByteArray) (m : Nat) : (wl s m).length = m := by simp [wl]
theorem wl_succ (s : ByteArray) (m : Nat) : wl s (m + 1) = wl s m ++ [((m : Int) + 1, s, false)] := by simp [wl, List.range_succ]
theorem wl_mem {s : ByteArray} {m : Nat} {p : Wt} (h : p ∈ wl s m) : ∃ i : Nat, i < m ∧ p = ((i : Int) + 1, s, false) := by
  obtain ⟨i, hi, rfl⟩ := List.mem_map.1 h
  exact ⟨i, by simpa using hi, rfl⟩
theorem wl_rises (s : ByteArray) : ∀ m, Rises (wl s m)
  | 0 => List.Pairwise.nil
  | m + 1 => by
    rw [wl_succ]
    show List.Pairwise Lt _
    rw [List.pairwise_append]
    refine ⟨wl_rises s m, by simp, fun a ha b hb => ?_⟩
    obtain ⟨i, hi, rfl⟩ := wl_mem ha
    obtain rfl : b = _ := by simpa using hb
    exact .inl (by simp only; omega)
theorem wl_in (s : ByteArray) (m : Nat) (h : 0 < m) : isIn (wl s m) (1, s, false) = true := by
  rw [isIn_iff]
  exact List.mem_map.2 ⟨0, by simpa using h, rfl⟩
theorem wl_not (s : ByteArray) (m k : Nat) (h : m ≤ k) : isIn (wl s m) ((k : Int) + 1, s, false) = false := by
  rw [← Bool.not_eq_true, isIn_iff]
  intro hm
  obtain ⟨i, hi, e⟩ := wl_mem hm
  simp only [Prod.mk.injEq] at e
  omega
theorem wl_add (s : ByteArray) (m : Nat) : insL (wl s m) ((m : Int) + 1, s, false) = wl s (m + 1) := by
  have hk : kOf (wl s m) ((m : Int) + 1, s, false) = m := by
    refine kOf_is _ _ m (by rw [wl_len]; omega) (fun j p hj hp => ?_) (fun j p hj hp => ?_)
    · obtain ⟨i, hi, rfl⟩ := wl_mem (List.mem_of_getElem? hp)
      exact .inl (by simp only; omega)
    · have := (List.getElem?_eq_some_iff.1 hp).1
      rw [wl_len] at this
      omega
  rw [insL, hk, wl_succ, List.take_of_length_le (by rw [wl_len]; omega), List.drop_eq_nil_of_le (by rw [wl_len]; omega)]
def cntV (V : Bool) (k : Nat) : Nat := if V then min k 500 else 0
theorem full_step (s : ByteArray) (V : Bool) (hV : V = validZ s.data.toList) (k : Nat) :
    addB (wl s (cntV V k)) ((k : Int) + 1, s, false) = (V && decide ((k : Int) < 500)) ∧ addL (wl s (cntV V k)) ((k : Int) + 1, s, false) = wl s (cntV V (k + 1)) := by
  have hok : okW ((k : Int) + 1, s, false) = V := by simp [okW, hV]; intro _; omega
  cases V
  · exact ⟨by simp [addB, hok], by rw [addL_bad hok]; rfl⟩
  · have hin := wl_not s (min k 500) k (by omega)
    have hc : cntV true k = min k 500 := rfl
    have hc2 : cntV true (k + 1) = min (k + 1) 500 := rfl
    by_cases hk : k < 500
    · have hm : min k 500 = k := by omega
      have hm2 : min (k + 1) 500 = k + 1 := by omega
      rw [hc, hc2, hm, hm2]
      rw [hm] at hin
      refine ⟨by simp [addB, hok, hin, wl_len]; omega, ?_⟩
      unfold addL
      rw [hok, hin, wl_len]
      simp only [Bool.not_false, Bool.and_true, Bool.true_and, hk, decide_true, if_true]
      exact wl_add s k
    · have hm : min k 500 = 500 := by omega
      have hm2 : min (k + 1) 500 = 500 := by omega
      rw [hc, hc2, hm, hm2]
      rw [hm] at hin
      exact ⟨by simp [addB, hok, hin, wl_len]; omega, addL_full (by rw [wl_len]; omega)⟩
theorem full_first (s : ByteArray) (V : Bool) (hV : V = validZ s.data.toList) : addB [] (1, s, false) = V := by
  have := (full_step s V hV 0).1
  have e : wl s (cntV V 0) = [] := by cases V <;> rfl
  rw [e] at this
  simpa using this
theorem full_again (s : ByteArray) (V : Bool) (hV : V = validZ s.data.toList) (k : Nat) (hk : 0 < k) (hv : V = true) :
    addB (wl s (cntV V k)) (1, s, false) = true ∧ addL (wl s (cntV V k)) (1, s, false) = wl s (cntV V k) := by
  subst hv
  have hin := wl_in s (min k 500) (by omega)
  have hok : okW (1, s, false) = true := by simp [okW, ← hV]
  exact ⟨by simp [addB, hok, cntV, hin], addL_in hin⟩
theorem alive_out (W : World) (hx : Mx W) (x : Int) (s : ByteArray) (h : x < 0 ∨ 600 < x) : Calls Tryd.prog 3 #[.int .i64 x, .string s] W fun e W' => e = .returned (.bool true) ∧ Below W.heap.size W W' := by
  have C0 := Lib.hid (new_any W)
  by_cases h1 : x < 0
  · have hd : decide (x < 0) = true := decide_eq_true h1
    go_enter Tryd.func3, Tryd.ntmps3
    go_wp2_with fail
    refine C0.out.mono ?_
    rintro e w1 ⟨rfl, t1, b1⟩
    have HB1 := Lib.hid b1
    have C1 := Lib.hid (alive_any w1 (hx.below b1))
    clear t1 b1 C0
    go_wp2_with fail
    refine C1.out.mono ?_
    rintro e w2 ⟨rfl, b2⟩
    go_wp2
    go_ret
    exact ⟨rfl, HB1.out.trans (b2.mono HB1.out.size)⟩
  · have hd : decide (x < 0) = false := decide_eq_false h1
    have h2 : 600 < x := h.resolve_left h1
    have hd2 : decide (600 < x) = true := decide_eq_true h2
    go_enter Tryd.func3, Tryd.ntmps3
    go_wp2_with fail
    refine C0.out.mono ?_
    rintro e w1 ⟨rfl, t1, b1⟩
    have HB1 := Lib.hid b1
    have C1 := Lib.hid (alive_any w1 (hx.below b1))
    clear t1 b1 C0
    go_wp2_with fail
    refine C1.out.mono ?_
    rintro e w2 ⟨rfl, b2⟩
    go_wp2
    go_ret
    exact ⟨rfl, HB1.out.trans (b2.mono HB1.out.size)⟩
set_option maxRecDepth 8000 in
set_option maxHeartbeats 2000000 in
theorem full_core (W : World) (hx : Mx W) (N : Nat) (hN : N ≤ 600) (s : ByteArray) (hs : s.size ≤ 1048576) : Calls Tryd.prog 3 #[.int .i64 N, .string s] W fun e W' => e = .returned (.bool true) ∧ Below W.heap.size W W' := by
  have C0 := Lib.hid (new_any W)
  have HMX := Lib.hid hx
  obtain ⟨V, hV⟩ : ∃ V, V = validZ s.data.toList := ⟨_, rfl⟩
  have HST := Lib.hid (full_step s V hV)
  have HF := Lib.hid (full_first s V hV)
  have HAG := Lib.hid (full_again s V hV)
  have h0 := hx.lt
  have hd0 : decide ((N : Int) < 0) = false := decide_eq_false (by omega)
  have hd1 : decide (600 < (N : Int)) = false := decide_eq_false (by omega)
  clear hx hV
  go_enter Tryd.func3, Tryd.ntmps3
  go_wp2_with fail
  refine C0.out.mono ?_
  rintro e w1 ⟨rfl, t1, b1⟩
  have C1 := Lib.hid (radd_any (base := w1.heap.size) (L := []) (1, s, false) none 0 (World.ownsRow_nil _ _ _ _) (Nat.le_refl _) good_nil.1 (by simp) (by simp only; omega))
  rw [HF.out] at C1
  have HT1 := Lib.hid t1
  have HB1 := Lib.hid b1
  unfold tv at C1
  simp only [List.length_nil] at C1
  clear t1 b1 C0
  go_wp2_with fail
  refine C1.out.mono ?_
  rintro e w2 ⟨vx, rfl, own2, b2⟩
  have HT2 := Lib.hid (HT1.out.below b2 (Nat.le_refl _))
  have HB2 := Lib.hid (HB1.out.trans (b2.mono HB1.out.size))
  obtain ⟨adx, cx, rfl, _⟩ := own_shape own2
  clear own2 b2 C1
  go_wp2
  go_loopw [32] (fun i wr => ∃ (k : Nat) (v' : Value), k ≤ N ∧ i = .int .i64 k ∧ Tab wr W.heap.size W.heap.size v' (wl s (cntV V k)) ∧ Below W.heap.size W wr) (fun i _ => N - (intOf i).toNat)
  case atStart => exact ⟨0, _, Nat.zero_le _, rfl, by have e : wl s (cntV V 0) = [] := by cases V <;> rfl
                                                      rw [e]; exact HT2.out, HB2.out⟩
  case round =>
    obtain ⟨k, v', hk, rfl, ht, hb⟩ := hrel
    have HT := Lib.hid ht
    have HB := Lib.hid hb
    have hcl : (wl s (cntV V k)).length ≤ 500 := by rw [wl_len]; unfold cntV; split <;> omega
    by_cases hlt : k < N
    · have C2 := Lib.hid (add_any ((k : Int) + 1, s, false) ht hb.size (wl_rises _ _) (by omega) (HMX.out.below hb) (by simp only; omega))
      rw [show Added wr W.heap.size W.heap.size v' (wl s (cntV V k)) ((k : Int) + 1, s, false) = fun e w' => e = .returned (.bool (addB (wl s (cntV V k)) ((k : Int) + 1, s, false))) ∧ ∃ v2, Tab w' W.heap.size W.heap.size v2 (addL (wl s (cntV V k)) ((k : Int) + 1, s, false)) ∧ Goes wr w' W.heap.size v' v2 from rfl, (HST.out k).1, (HST.out k).2] at C2
      unfold tv at C2
      simp only at C2
      have hwr : IntKind.i64.wrap ((k : Int) + 1) = (k : Int) + 1 := IntWalk.i64_in _ (by omega)
      clear ht hb
      go_wp2_with fail
      refine C2.out.mono ?_
      rintro e w3 ⟨rfl, v3, t3, g3⟩
      have HT3 := Lib.hid t3
      have HB3 := Lib.hid (g3.below HB.out (Nat.le_refl _) HT.out.of_ge)
      clear t3 g3 C2
      cases V
      · go_wp2
        go_roundw
        case rel => exact ⟨k + 1, v3, by omega, by go_num, HT3.out, HB3.out⟩
        case measure => simp [intOf]; omega
      · go_wp2
        go_roundw
        case rel => exact ⟨k + 1, v3, by omega, by go_num, HT3.out, HB3.out⟩
        case measure => simp [intOf]; omega
    · obtain rfl : k = N := by omega
      cases V
      · have C3 := Lib.hid (alive_any wr (HMX.out.below hb))
        clear ht hb
        go_wp2_with fail
        refine C3.out.mono ?_
        rintro e w4 ⟨rfl, b4⟩
        have HT4 := Lib.hid (HT.out.below b4 (Nat.le_refl _))
        have HB4 := Lib.hid (HB.out.trans (b4.mono HB.out.size))
        have C4 := Lib.hid (len_any HT4.out (by omega))
        rw [show (wl s (cntV false k)).length = 0 from rfl] at C4
        clear b4 C3
        go_wp2_with fail
        refine C4.out.mono ?_
        rintro e w5 ⟨rfl, rfl⟩
        go_wp2
        go_ret
        exact ⟨rfl, HB4.out⟩
      · have hlen : (wl s (cntV true k)).length = min k 500 := by rw [wl_len]; rfl
        obtain ⟨K, hK⟩ : ∃ K : Int, (if (k : Int) < 500 then (k : Int) else 500) = K := ⟨_, rfl⟩
        have hKn : ((min k 500 : Nat) : Int) = K := by rw [← hK]; split <;> omega
        by_cases hk0 : 0 < k
        · have hdk : decide (0 < (k : Int)) = true := decide_eq_true (by omega)
          have C5 := Lib.hid (add_any (1, s, false) ht hb.size (wl_rises _ _) (by omega) (HMX.out.below hb) (by simp only; omega))
          rw [show Added wr W.heap.size W.heap.size v' (wl s (cntV true k)) (1, s, false) = fun e w' => e = .returned (.bool (addB (wl s (cntV true k)) (1, s, false))) ∧ ∃ v2, Tab w' W.heap.size W.heap.size v2 (addL (wl s (cntV true k)) (1, s, false)) ∧ Goes wr w' W.heap.size v' v2 from rfl, (HAG.out k hk0 rfl).1, (HAG.out k hk0 rfl).2] at C5
          unfold tv at C5
          simp only at C5
          clear ht hb
          go_wp2_with fail
          refine C5.out.mono ?_
          rintro e w3 ⟨rfl, v3, t3, g3⟩
          have HT3 := Lib.hid t3
          have HB3 := Lib.hid (g3.below HB.out (Nat.le_refl _) HT.out.of_ge)
          have C3 := Lib.hid (alive_any w3 (HMX.out.below HB3.out))
          clear t3 g3 C5
          go_wp2_with fail
          refine C3.out.mono ?_
          rintro e w4 ⟨rfl, b4⟩
          have HT4 := Lib.hid (HT3.out.below b4 (Nat.le_refl _))
          have HB4 := Lib.hid (HB3.out.trans (b4.mono HB3.out.size))
          have C4 := Lib.hid (len_any HT4.out (by omega))
          rw [hlen, hKn] at C4
          clear b4 C3
          go_wp2_with fail
          refine C4.out.mono ?_
          rintro e w5 ⟨rfl, rfl⟩
          go_wp2
          go_ret
          exact ⟨rfl, HB4.out⟩
        · have hdk : decide (0 < (k : Int)) = false := decide_eq_false (by omega)
          have C3 := Lib.hid (alive_any wr (HMX.out.below hb))
          clear ht hb
          go_wp2_with fail
          refine C3.out.mono ?_
          rintro e w4 ⟨rfl, b4⟩
          have HT4 := Lib.hid (HT.out.below b4 (Nat.le_refl _))
          have HB4 := Lib.hid (HB.out.trans (b4.mono HB.out.size))
          have C4 := Lib.hid (len_any HT4.out (by omega))
          rw [hlen, hKn] at C4
          clear b4 C3
          go_wp2_with fail
          refine C4.out.mono ?_
          rintro e w5 ⟨rfl, rfl⟩
          go_wp2
          go_ret
          exact ⟨rfl, HB4.out⟩
theorem watcherFull_walk (W : World) (hm : Mx W) (x : Int) (_w : (Lit.int .i64 x).wf = true) (s : ByteArray) (hw : s.size ≤ maxLen) (hs : s.size ≤ 1048576) :
    Calls Tryd.prog 3 #[.int .i64 x, .string s] W fun e W' => e = .returned (.bool true) ∧ Below W.heap.size W W' := by
  by_cases h : x < 0 ∨ 600 < x
  · exact alive_out W hm x s h
  · obtain ⟨N, rfl⟩ : ∃ N : Nat, x = (N : Int) := ⟨x.toNat, by omega⟩
    exact full_core W hm N (by omega) s hs
end Go.Proofs.YtmcjpochpmiipaaDoor

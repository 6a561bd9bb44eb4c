/- The iterator over crates. Conditions: the bytes lie below the loop's own boxes. -/
import Derived.RangeFuncNested
import Derived.RangeFuncBound
import Derived.RangeFuncCalls
import Derived.RangeFuncLeaves
import Derived.RangeFuncBox
import Derived.Shelf.Abstract
import Derived.Shelf.RegionOpen
import Derived.WalkKit
import Derived.OwnWalkIn
import Derived.TacticsInMore
import Derived.LoopNIn
import Derived.LoopIn
import Derived.Maps.AppendAt
import Derived.Test.YtadgnemfjmiafaaWk
import Derived.Test.YtadgnemfjmiafaaRange
import Derived.Test.YtadgnemfjmiafaaPhase
namespace Go.Proofs.Ytadgnemfjmiafaa
open Go.RowKit Go.Shelf
set_option linter.unusedVariables false
set_option linter.unusedSimpArgs false
attribute [local go_sem] Oper.semAt_some

/-- a body that is handed over. -/
structure Yld where
  ad : Option Addr
  c : Nat
  zs : List Int
def yv (x : Yld) : Value := .slice x.ad x.zs.length x.c
/-- where a slice's bytes lie. -/
def In0 (a : Option Addr) (len m : Nat) : Prop := 0 < len → ∀ g o s, a = some ⟨g, o, s⟩ → g < m
theorem Bytes.in0 {w : World} {a : Option Addr} {len : Nat} {zs : List Int} (h : Bytes w a len zs) : In0 a len w.heap.size := fun h0 g o s e => by
  obtain ⟨b, off, rfl, hc⟩ := h.2.2.2.resolve_left (by omega)
  injection e with e
  injection e with e1
  exact e1 ▸ World.block_lt_of_cell? w _ (hc 0 h0)
theorem Bytes.old {X : Nat → Prop} {w w' : World} {a : Option Addr} {len : Nat} {zs : List Int} (h : Bytes w a len zs) (ho : Old X w w') (hx : 0 < len → ∀ g o s, a = some ⟨g, o, s⟩ → ¬ X g) : Bytes w' a len zs := by
  obtain ⟨h1, h2, h3, h4⟩ := h
  refine ⟨h1, h2, h3, ?_⟩
  by_cases h0 : len = 0
  · exact .inl h0
  · obtain ⟨b, off, rfl, hc⟩ := h4.resolve_left h0
    have hlt : b < w.heap.size := World.block_lt_of_cell? w _ (hc 0 (by omega))
    exact .inr ⟨b, off, rfl, fun i hi => (World.cell?_of_block (a := ⟨b, off + i, none⟩) (ho.same b hlt (hx (by omega) b off none rfl))).trans (hc i hi)⟩
theorem Box.old {X : Nat → Prop} {w w' : World} {b : Nat} {T : TypeId} {cs : Array Value} (h : Box w b T cs) (ho : Old X w w') (hx : ¬ X b) : Box w' b T cs := (ho.same b h.lt hx).trans h
theorem run_past (a : Option Addr) (len cap k : Nat) (h : k ≤ len) (hc : len ≤ cap) (h0 : 0 < len) (m : Nat) (ha : In0 a len m) (zs : List Int) (w0 : World) (hB : Bytes w0 a len zs) :
    ∃ a', (∀ w : World, (Instr.sliceAt 22 (.slice a len cap) (some (.int .i64 (k : Int))) none none).run Try.prog w = .ok (.slice a' (len - k) (cap - k)) w) ∧ In0 a' (len - k) m ∧ Bytes w0 a' (len - k) (zs.drop k) := by
  obtain ⟨b, off, rfl⟩ := hB.ptr h0
  by_cases hk : k < cap
  · exact ⟨_, fun w => run_from b off len cap k h hk w, fun _ g o s e => by injection e with e; injection e with e1; exact ha h0 b off none rfl |> fun h => e1 ▸ h, hB.drop k h⟩
  · obtain rfl : k = cap := by omega
    obtain rfl : len = k := by omega
    refine ⟨some ⟨b, off, none⟩, fun w => ?_, fun h => by omega, ?_⟩
    · have e : (sizeOf (Try.prog.elem 22)).run Try.prog w = .ok 1 w := by kernel_rfl
      rw [run_sliceAt_slice w 22 _ _ _ _ Try.underlying22, run_slice_l w 22 _ len len Try.underlying22 .i64 len (by omega) (by have := hB.2.2.1; unfold maxLen at this; omega), e]
      simp only [Result.andThen, sliced, Int.toNat_natCast, Nat.mul_one, Option.map_some, addr_add, if_true]
    · rw [Nat.sub_self, List.drop_of_length_le (by rw [hB.1]; exact Nat.le_refl _)]
      exact ⟨rfl, by simp, Nat.zero_le _, .inl rfl⟩

/-- what is handed over lies in memory of its own. -/
def YFact (n0 : Nat) (x : Yld) (A : World) : Prop := A.ownsRow (n0 + 2) 5 1 (yv x) x.zs.length (x.zs.map (Value.int .u8)) ∧ (∀ z ∈ x.zs, 0 ≤ z ∧ z < 256) ∧ x.zs.length ≤ 4096
/-- how much is left of the bytes. -/
def leftIn (m : Nat) (w : World) : Nat := match w.cell? ⟨m, 0, none⟩ with | some (.slice _ n _) => n | _ => 0
theorem leftIn_box {w : World} {m : Nat} {T : TypeId} {a : Option Addr} {n c : Nat} (h : Box w m T #[.slice a n c]) : leftIn m w = n := by
  unfold leftIn; rw [h.cell 0]; rfl

set_option maxRecDepth 100000 in
set_option maxHeartbeats 4000000 in
theorem each_hands (n : Nat) (hn : 1 ≤ n) (m : Nat) (a : Option Addr) (len cap : Nat) (zs : List Int) (w : World) (hs : w.heap.size = m + 6) (hB : Bytes w a len zs) (hc : len ≤ cap) (hin : In0 a len m)
    (u1 u2 : Value) (b1 : Box w (m + 1) 3 #[u1]) (b2 : Box w (m + 2) 23 #[u2]) (b3 : Box w (m + 3) 22 #[.slice a len cap])
    (b4 : Box w (m + 4) 42 #[.pointer (some ⟨m + 1, 0, none⟩)]) (b5 : Box w (m + 5) 43 #[.pointer (some ⟨m + 2, 0, none⟩)]) :
    Hands Fence.wide n Try.prog 23 #[.pointer (some ⟨m + 3, 0, none⟩), .pointer (some ⟨m + 4, 0, none⟩), .pointer (some ⟨m + 5, 0, none⟩)] (fun x => #[yv x])
      (fun k => k = m + 1 ∨ k = m + 2 ∨ k = m + 3) m (fun _ x A => YFact w.heap.size x A) (zs.length + 1)
      (fun xs B => xs.map Yld.zs = (splitAll zs).1 ∧ Box B (m + 1) 3 #[.int .i64 ((splitAll zs).2.1 : Nat)] ∧ Box B (m + 2) 23 #[.int .i64 ((splitAll zs).2.2 : Nat)]) w := by
  intro l J W hW hW2 hJ hY h0
  have HJ := Lib.hid hJ
  have HY := Lib.hid hY
  have oW : Old (fun _ => False) w W := Old.of_below hW
  have hBW := Lib.hid (hB.old oW (fun _ _ _ _ _ => id))
  have c1 := Lib.hid (b1.old oW id)
  have c2 := Lib.hid (b2.old oW id)
  have c3 := b3.old oW id
  have c4 := Lib.hid (b4.old oW id)
  have c5 := Lib.hid (b5.old oW id)
  have hlz := hB.1
  clear hJ hY oW hB b1 b2 b3 b4 b5 hW
  refine callsIn_of_wp Try.func23 rfl trivial ?_ rfl
  simp only [Try.ntmps23, List.size_toArray, List.length_cons, List.length_nil, Nat.reduceAdd, Nat.reduceSub, Array.replicate_succ, Array.replicate_zero, List.push_toArray, List.append_toArray, List.nil_append, List.cons_append]
  gi_wp2
  gi_loopw [] (fun wr => ∃ (pre : List Yld) (a' : Option Addr) (len' cap' : Nat) (rest : List Int), Box wr (m + 3) 22 #[.slice a' len' cap'] ∧ Bytes wr a' len' rest ∧ len' ≤ cap' ∧ In0 a' len' m ∧
      splitAll zs = (pre.map Yld.zs ++ (splitAll rest).1, (splitAll rest).2) ∧ J pre wr ∧ (∃ u1 u2, Box wr (m + 1) 3 #[u1] ∧ Box wr (m + 2) 23 #[u2]) ∧
      Box wr (m + 4) 42 #[.pointer (some ⟨m + 1, 0, none⟩)] ∧ Box wr (m + 5) 43 #[.pointer (some ⟨m + 2, 0, none⟩)] ∧ m + 8 ≤ wr.heap.size ∧ 12 * pre.length + len' ≤ zs.length)
    (fun wr => leftIn (m + 3) wr)
  case atStart => exact ⟨[], a, len, cap, zs, c3, hBW.out, hc, hin, rfl, h0, ⟨u1, u2, c1.out, c2.out⟩, c4.out, c5.out, by omega, by simp [hlz]⟩
  case round =>
    obtain ⟨pre, a', len', cap', rest, d3, hBr, hcr, hinr, hsp, hJr, ⟨v1, v2, d1, d2⟩, d4, d5, hsz, hpl⟩ := hrel
    have k3 := d3.cell 0
    have CG := Lib.hid (get_own a' len' cap' rest wr hBr hcr)
    clear c1 c2 c3 c4 c5 hBW h0
    have HB := Lib.hid hBr
    have HD1 := Lib.hid d1
    have HD2 := Lib.hid d2
    have HD3 := Lib.hid d3
    have FB0 := Lib.hid d3
    have HD4 := Lib.hid d4
    have HD5 := Lib.hid d5
    have HJR := Lib.hid hJr
    have HSP := Lib.hid hsp
    clear hBr d1 d2 d3 d4 d5 hJr hsp
    gi_wp2_with (first
      | (refine ⟨trivial, ?_⟩; gi_at_call 11; refine (callsIn_wide.2 CG.out).mono ?_; rintro e w1 ⟨ad, c, rfl, hcc, hbb, hbel, hown⟩)
      | (gi_at_call 11; refine (callsIn_wide.2 CG.out).mono ?_; rintro e w1 ⟨ad, c, rfl, hcc, hbb, hbel, hown⟩))
    have E1 := Lib.hid (HD1.out.below hbel (by omega))
    have E2 := Lib.hid (HD2.out.below hbel (by omega))
    have E3 := Lib.hid (HD3.out.below hbel (by omega))
    have E4 := Lib.hid (HD4.out.below hbel (by omega))
    have E5 := Lib.hid (HD5.out.below hbel (by omega))
    have EB := Lib.hid (HB.out.below hbel)
    have EJ := Lib.hid (HJ.out _ _ _ HJR.out (Old.of_below hbel))
    have EO := Lib.hid hown
    have EBB := Lib.hid hbb
    have hsz1 := hbel.size
    have k1 := E1.out.cell 0
    have k2 := E2.out.cell 0
    have f1 := E1.out.frozen 0
    have f2 := E2.out.frozen 0
    clear k3 CG HB HD1 HD2 HD3 HD4 HD5 HJR hbel hown hbb
    refine wpIn_wide.2 ?_
    refine wp_region_phase (fun w' => Box w' (m + 3) 22 #[.slice a' len' cap'] ∧ Box w' (m + 4) 42 #[.pointer (some ⟨m + 1, 0, none⟩)] ∧ Box w' (m + 5) 43 #[.pointer (some ⟨m + 2, 0, none⟩)]) [true, true, true, true, true, true, false, false, false] 8 _ _ _ (by kernel_rfl) rfl rfl (by kernel_rfl) rfl rfl (fun _ _ _ _ _ h => h) (⟨E3.out.drew, E4.out.drew, E5.out.drew⟩) ?_
    intro S HS
    simp only [taken, leftOut]
    go_big_quiet_want; apply quiet_value; (· (intro w' hw; have g4 := ((HS.out _).1 hw).2.1.cell 0; go_simp; try rfl)); simp only [Act.put, List.setIfInBounds_toArray, List.set_cons_succ, List.set_cons_zero]; go_big_quiet_on
    go_big_quiet_want; apply quiet_value; (· (intro w' hw; have g4 := ((HS.out _).1 hw).2.2.cell 0; go_simp; try rfl)); simp only [Act.put, List.setIfInBounds_toArray, List.set_cons_succ, List.set_cons_zero]; go_big_quiet_on
    go_big_quiet_want; apply quiet_value; (· (intro w' hw; have g4 := ((HS.out _).1 hw).1.cell 0; go_simp; try rfl)); simp only [Act.put, List.setIfInBounds_toArray, List.set_cons_succ, List.set_cons_zero]; go_big_quiet_on
    go_big_quiet_want; apply quiet_value; (· (intro w' hw; go_simp; try rfl)); simp only [Act.put, List.setIfInBounds_toArray, List.set_cons_succ, List.set_cons_zero]; go_big_quiet_on
    go_big_quiet_want; go_big_quiet_op; go_big_quiet_on
    go_big_quiet_want; apply quiet_value; (· (intro w' hw; go_simp; try rfl)); simp only [Act.put, List.setIfInBounds_toArray, List.set_cons_succ, List.set_cons_zero]; go_big_quiet_on
    refine wpQuiet_nil ?_
    refine wpTail_more ?_
    go_wp2_with fail
    have m1 : m + 3 ≠ m + 1 ∧ m + 4 ≠ m + 1 ∧ m + 5 ≠ m + 1 ∧ m + 2 ≠ m + 1 := by omega
    have m2 : m + 3 ≠ m + 2 ∧ m + 4 ≠ m + 2 ∧ m + 5 ≠ m + 2 ∧ m + 1 ≠ m + 2 := by omega
    have HS3 : Hid (S (w1.setCell ⟨m + 1, 0, none⟩ (.int .i64 len')).drew) := (HS.out _).2 ⟨(E3.out.set_other m1.1 _).drew, (E4.out.set_other m1.2.1 _).drew, (E5.out.set_other m1.2.2.1 _).drew⟩
    have k2' := (E2.out.set_other (p := ⟨m + 1, 0, none⟩) m1.2.2.2 (.int .i64 len')).cell 0
    refine ThenS.mk HS3.out ?_
    refine wpTail_more ?_
    go_wp2_with fail
    refine ThenS.mk HS3.out ?_
    refine wpTail_last ?_
    go_wp2_with fail
    have o5 : Old (fun k => k = m + 1 ∨ k = m + 2 ∨ k = m + 3) w1 ((w1.setCell ⟨m + 1, 0, none⟩ (.int .i64 len')).setCell ⟨m + 2, 0, none⟩ (.int .i64 (getOf rest).2.2)).drew :=
      ((Old.setCell (.inl rfl)).trans (Old.setCell (.inr (.inl rfl)))).trans (Old.drewN _ _ 1)
    have F1 := ((E1.out.set 0 (.int .i64 len')).set_other (p := ⟨m + 2, 0, none⟩) m2.2.2.2 (.int .i64 (getOf rest).2.2)).drew
    have F2 := ((E2.out.set_other (p := ⟨m + 1, 0, none⟩) m1.2.2.2 (.int .i64 len')).set 0 (.int .i64 (getOf rest).2.2)).drew
    have F3 := ((E3.out.set_other (p := ⟨m + 1, 0, none⟩) m1.1 (.int .i64 len')).set_other (p := ⟨m + 2, 0, none⟩) m2.1 (.int .i64 (getOf rest).2.2)).drew
    simp only [List.setIfInBounds_toArray, List.set_cons_zero] at F1 F2
    generalize ((w1.setCell ⟨m + 1, 0, none⟩ (.int .i64 len')).setCell ⟨m + 2, 0, none⟩ (.int .i64 (getOf rest).2.2)).drew = w5 at o5 F1 F2 F3 ⊢
    have F4 := Lib.hid (E4.out.old o5 (by omega))
    have F5 := Lib.hid (E5.out.old o5 (by omega))
    have FB := Lib.hid (EB.out.old o5 (fun h g o s e => by have := hinr h g o s e; omega))
    have FJ := HJ.out _ _ _ EJ.out o5
    have FO := own_stays EO.out (fun k hk => o5.same k (own_lt EO.out k hk) (by have := own_ge EO.out k hk; omega))
    have HF1 := Lib.hid F1
    have HF2 := Lib.hid F2
    have hsz5 : m + 8 ≤ w5.heap.size := by have := o5.size; omega
    clear o5 F1 F2 E1 E2 E3 E4 E5 EB EJ EO k1 k2 k2' f1 f2 HS HS3 m1 m2
    by_cases hok : (getOf rest).2.2 = 0
    · obtain ⟨q1, q2, q3, _, q5, _⟩ := getOf_ok hok
      have e0 : (((getOf rest).2.2 : Nat) : Int) = 0 := by omega
      have HSA := Lib.hid (splitAll_ok hok)
      have hlr := FB.out.1
      obtain ⟨body, hbody⟩ : ∃ b, b = (getOf rest).1 := ⟨_, rfl⟩
      obtain ⟨N, hN⟩ : ∃ N, N = (getOf rest).2.1 := ⟨_, rfl⟩
      rw [← hbody] at hcc EBB FO HSA q5
      rw [← hN] at q1 HSA
      rw [e0, ← hbody, ← hN]
      rw [e0] at HF2
      have hNl : 12 ≤ N ∧ N ≤ len' := by omega
      have hbl : body.length ≤ 4096 := by omega
      obtain ⟨a2, hrun, hin2, hB2⟩ := run_past a' len' cap' N (by omega) hcr (by omega) m hinr rest w5 FB.out
      have HB2 := Lib.hid hB2
      have hbl := Lib.hid hbl
      clear q1 q2 q3 q5 hlr hN hbody hok e0 hB2
      obtain ⟨fn, tmps, assign, bd, hy, hR⟩ := HY.out pre ⟨ad, c, body⟩ w5 FJ (by omega) ⟨own_base FO (fun k hk => by have := own_ge FO k hk; omega), EBB.out.2.1, hbl.out⟩
      unfold yv at hy
      have k3 := F3.cell 0
      have f3 := F3.frozen 0
      have HF3 := Lib.hid F3
      clear FJ FO F3
      gi_wp2
      refine hR.mono ?_
      rintro e w6 ⟨rfl, hJ6, o6⟩
      have hsz6 := o6.size
      have G1 := Lib.hid (HF1.out.old o6 (by omega))
      have G2 := Lib.hid (HF2.out.old o6 (by omega))
      have G3 := HF3.out.old o6 (by omega)
      have G4 := Lib.hid (F4.out.old o6 (by omega))
      have G5 := Lib.hid (F5.out.old o6 (by omega))
      have GB := Lib.hid (HB2.out.old o6 (fun h g o s e => by have := hin2 h g o s e; omega))
      have k6 := G3.cell 0
      have f6 := G3.frozen 0
      have GJ := Lib.hid hJ6
      have HG3 := Lib.hid G3
      clear o6 k3 f3 HF1 HF2 HF3 F4 F5 HB2 hJ6 hy hR G3
      gi_wp2
      have o7 : Old (fun k => k = m + 1 ∨ k = m + 2 ∨ k = m + 3) w6 (w6.setCell ⟨m + 3, 0, none⟩ (.slice a2 (len' - N) (cap' - N))) := Old.setCell (.inr (.inr rfl))
      have H3 := HG3.out.set 0 (.slice a2 (len' - N) (cap' - N))
      simp only [List.setIfInBounds_toArray, List.set_cons_zero] at H3
      go_roundw
      case rel =>
        refine ⟨pre ++ [⟨ad, c, body⟩], a2, len' - N, cap' - N, rest.drop N, H3, GB.out.old (X := fun k => k = m + 3) (Old.setCell rfl) (fun h g o s e => by have := hin2 h g o s e; omega), by omega, hin2, ?_, HJ.out _ _ _ GJ.out o7,
          ⟨_, _, G1.out.set_other (by show m + 1 ≠ m + 3; omega) _, G2.out.set_other (by show m + 2 ≠ m + 3; omega) _⟩, G4.out.set_other (by show m + 4 ≠ m + 3; omega) _, G5.out.set_other (by show m + 5 ≠ m + 3; omega) _, by have := o7.size; omega, by rw [List.length_append]; simp only [List.length_cons, List.length_nil]; omega⟩
        rw [HSP.out, HSA.out, List.map_append, List.append_assoc]
        rfl
      case measure => rw [leftIn_box H3, leftIn_box FB0.out]; omega
    · have hb1 : (((((getOf rest).2.2 : Nat) : Int)) != 0) = true := by simp; omega
      have HSA := Lib.hid (splitAll_bad hok)
      have hlr := FB.out.1
      clear FO F3
      gi_wp2
      refine ⟨fun _ h => (by cases h), ?_⟩
      gi_wp2
      refine bodyPost_ret (results_none rfl _ _ _) rfl ?_
      refine ⟨⟨_, rfl⟩, pre, ⟨?_, ?_, ?_⟩, FJ⟩
      · rw [HSP.out, HSA.out]; simp
      · rw [HSP.out, HSA.out, hlr]; exact HF1.out
      · rw [HSP.out, HSA.out]; exact HF2.out
end Go.Proofs.Ytadgnemfjmiafaa

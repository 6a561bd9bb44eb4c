/- The walk of LeaseAll. Conditions: the script lies in memory. -/
import Derived.Test.YtkgnooogppkieaaLx
namespace Go.Proofs.Ytkgnooogppkieaa
open Go.ChangeShapes Go.WideShapes Go.ChangeAt Go.RowKit Go.Deep
set_option linter.unusedVariables false
set_option linter.unusedSimpArgs false
variable {w w' : World} {base : Nat} {L : List Lz}

theorem endL_len (L : List Lz) (now : Int) : (endL L now).length ≤ L.length := by
  unfold endL; split
  · have := lateL_len L now L.length; omega
  · simp
theorem Box.bel {b : Nat} {T : TypeId} {xs : Array Value} (h : Box w b T xs) (hb : Below w.heap.size w w') : Box w' b T xs := h.below hb h.lt
set_option maxRecDepth 100000 in
set_option maxHeartbeats 4000000 in
theorem all_core (W : World) (pa : Option Addr) (len cap : Nat) (os : List Op10) (hO : OpsAt W pa len os) (now id : Int) :
    Calls Try.prog 7 #[.slice pa len cap, .int .i64 now, .int .i64 id] W fun e W' => e = .returned (.bool true) ∧ Below W.heap.size W W' := by
  have C0 := Lib.hid (new_any W)
  have HO := Lib.hid hO
  clear hO
  by_cases hbig : 400 < len
  · go_enter Try.func7, Try.ntmps7
    go_wp2_with fail
    refine C0.out.mono ?_
    rintro e w1 ⟨rfl, hT1, b1⟩
    go_wp2_with fail
    refine (alive_any _).mono ?_
    rintro e w2 ⟨rfl, b2⟩
    go_wp2_with fail
    go_ret
    exact ⟨rfl, b1.trans (b2.mono b1.size)⟩
  go_enter Try.func7, Try.ntmps7
  go_wp2_with fail
  refine C0.out.mono ?_
  rintro e w1 ⟨rfl, hT1, b1⟩
  have B1 := Lib.hid b1
  have C1 := Lib.hid (plays_new w1 W.heap.size pa len cap os (HO.out.below b1 (Nat.le_refl _)) (by omega) (ops_in HO.out) hT1 b1.size)
  have HT1 := Lib.hid hT1
  clear C0 hT1 b1
  go_wp2_with fail
  refine C1.out.mono ?_
  rintro e w2 ⟨ad2, c2, v2, rfl, hc2, hT2, g2, hS2⟩
  have HG2 := Lib.hid (good_play os good_nil)
  obtain ⟨M, hM⟩ : ∃ M, M = playL os [] := ⟨_, rfl⟩
  rw [← hM] at hT2 hc2 HG2 hS2 ⊢
  have B2 := Lib.hid (g2.below B1.out (Nat.le_refl _) HT1.out.of_ge)
  have hml : M.length ≤ 1000 := Nat.le_trans HG2.out.many (by omega)
  have HT2 := Lib.hid hT2
  have HS2 := Lib.hid hS2
  obtain ⟨p, hp⟩ : ∃ p, p = (getL M id).getD zl := ⟨_, rfl⟩
  obtain ⟨bi, hbi⟩ : ∃ b, b = isIn M id := ⟨_, rfl⟩
  have C2 := Lib.hid (get_any id hT2 HG2.out.rises hml)
  have HF := Lib.hid (show (findL M id).getD zl = p by rw [hp, find_get HG2.out.rises])
  rw [← hp, ← hbi] at C2
  have HBI := Lib.hid hbi.symm
  clear hT2 hS2 g2 C1 HT1 hM B1 hp hbi
  go_wp2_with fail
  refine C2.out.mono ?_
  rintro e w3 ⟨rfl, b3⟩
  unfold tv
  have HX3 := Lib.hid (Box.new w3 37 #[.int .i64 p.1, .int .i64 p.2.1, .int .i64 p.2.2])
  have b3' := b3.alloc b3.size (.cells #[.int .i64 p.1, .int .i64 p.2.1, .int .i64 p.2.2] 37)
  have HT3 := Lib.hid (HT2.out.below b3' (Nat.le_refl _))
  have HS3 := Lib.hid (HS2.out.below b3')
  have B3 := Lib.hid (B2.out.trans (b3'.mono B2.out.size))
  have C3 := rget_any ad2 c2 id HS3.out hml
  rw [HF.out, HBI.out] at C3
  have C3 := Lib.hid C3
  clear b3 b3' C2 HT2 HS2 B2 HF HBI
  go_wp2_with fail
  refine C3.out.mono ?_
  rintro e w4 ⟨rfl, b4⟩
  unfold tv
  have HX4 := Lib.hid (Box.new w4 46 #[.int .i64 p.1, .int .i64 p.2.1, .int .i64 p.2.2])
  have b4' := b4.alloc b4.size (.cells #[.int .i64 p.1, .int .i64 p.2.1, .int .i64 p.2.2] 46)
  have HT4 := Lib.hid (HT3.out.below b4' (Nat.le_refl _))
  have HS4 := Lib.hid (HS3.out.below b4')
  have HY4 := Lib.hid (HX3.out.bel b4')
  have B4 := Lib.hid (B3.out.trans (b4'.mono B3.out.size))
  clear b4 b4' C3 HT3 HS3 B3 HX3
  go_wp2_with fail
  refine (alive_any _).mono ?_
  rintro e w5 ⟨rfl, b5⟩
  have HT5 := Lib.hid (HT4.out.below b5 (Nat.le_refl _))
  have HS5 := Lib.hid (HS4.out.below b5)
  have HY5 := Lib.hid (HY4.out.bel b5)
  have HX5 := Lib.hid (HX4.out.bel b5)
  have B5 := Lib.hid (B4.out.trans (b5.mono B4.out.size))
  have C5 := Lib.hid (all_any HT5.out hml)
  clear b5 HT4 HS4 HY4 HX4 B4
  go_wp2_with fail
  refine C5.out.mono ?_
  rintro e w6 ⟨l6, rfl, own6, b6⟩
  obtain ⟨ad6, c6, rfl, _⟩ := own_shape own6
  have HT6 := Lib.hid (HT5.out.below b6 (Nat.le_refl _))
  have HS6 := Lib.hid (HS5.out.below b6)
  have HY6 := Lib.hid (HY5.out.bel b6)
  have HX6 := Lib.hid (HX5.out.bel b6)
  have B6 := Lib.hid (B5.out.trans (b6.mono B5.out.size))
  have C6 := Lib.hid (plain_any ad6 c6 (Sees.of_own (bad := fun _ => False) own6 (fun _ _ _ h => h)) hml)
  clear b6 own6 C5 HT5 HS5 HY5 HX5 B5
  go_wp2_with fail
  refine C6.out.mono ?_
  rintro e w7 ⟨l7, rfl, own7, b7⟩
  obtain ⟨ad7, c7, rfl, _⟩ := own_shape own7
  have HT7 := Lib.hid (HT6.out.below b7 (Nat.le_refl _))
  have HS7 := Lib.hid (HS6.out.below b7)
  have HY7 := Lib.hid (HY6.out.bel b7)
  have HX7 := Lib.hid (HX6.out.bel b7)
  have B7 := Lib.hid (B6.out.trans (b7.mono B6.out.size))
  have C7 := Lib.hid (same_any ad7 c7 ad2 c2 (Sees.of_own (bad := fun _ => False) own7 (fun _ _ _ h => h)) HS7.out hml)
  clear b7 own7 C6 HT6 HS6 HY6 HX6 B6
  go_wp2_with fail
  refine C7.out.mono ?_
  rintro e w8 ⟨rfl, b8⟩
  have HT8 := Lib.hid (HT7.out.below b8 (Nat.le_refl _))
  have HS8 := Lib.hid (HS7.out.below b8)
  have HY8 := Lib.hid (HY7.out.bel b8)
  have HX8 := Lib.hid (HX7.out.bel b8)
  have B8 := Lib.hid (B7.out.trans (b8.mono B7.out.size))
  have C8 := Lib.hid (ended_any now HT8.out B8.out.size hml HG2.out.right)
  clear b8 C7 HT7 HS7 HY7 HX7 B7
  go_wp2_with fail
  refine C8.out.mono ?_
  rintro e w9 ⟨l9, rfl, own9, b9⟩
  obtain ⟨ad9, c9, rfl, _⟩ := own_shape own9
  have HS9 := Lib.hid (HS8.out.below b9)
  have HY9 := Lib.hid (HY8.out.bel b9)
  have HX9 := Lib.hid (HX8.out.bel b9)
  have B9 := Lib.hid (B8.out.trans (b9.mono B8.out.size))
  have HO9 := Lib.hid own9
  have C9 := Lib.hid (rended_any ad2 c2 now HS9.out hml HG2.out.right)
  clear b9 own9 C8 HT8 HS8 HY8 HX8 B8
  go_wp2_with fail
  refine C9.out.mono ?_
  rintro e wa ⟨la, rfl, owna, ba⟩
  obtain ⟨ada, ca, rfl, _⟩ := own_shape owna
  have HYa := Lib.hid (HY9.out.bel ba)
  have HXa := Lib.hid (HX9.out.bel ba)
  have Ba := Lib.hid (B9.out.trans (ba.mono B9.out.size))
  have Ca := Lib.hid (sameIds_any ad9 c9 ada ca (own_stays HO9.out (fun k hk => ba.block k (own_lt HO9.out k hk))) owna (by have := endL_len M now; omega))
  clear ba owna C9 HS9 HY9 HX9 B9 HO9
  go_wp2_with fail
  refine Ca.out.mono ?_
  rintro e wb ⟨rfl, bb⟩
  have HYb := HYa.out.bel bb
  have HXb := HXa.out.bel bb
  have Bb := Lib.hid (Ba.out.trans (bb.mono Ba.out.size))
  have y0 : wb.cell? ⟨w3.heap.size, 0, none⟩ = some (.int .i64 p.1) := HYb.cell 0
  have y1 : wb.cell? ⟨w3.heap.size, 1, none⟩ = some (.int .i64 p.2.1) := HYb.cell 1
  have y2 : wb.cell? ⟨w3.heap.size, 2, none⟩ = some (.int .i64 p.2.2) := HYb.cell 2
  have x0 : wb.cell? ⟨w4.heap.size, 0, none⟩ = some (.int .i64 p.1) := HXb.cell 0
  have x1 : wb.cell? ⟨w4.heap.size, 1, none⟩ = some (.int .i64 p.2.1) := HXb.cell 1
  have x2 : wb.cell? ⟨w4.heap.size, 2, none⟩ = some (.int .i64 p.2.2) := HXb.cell 2
  have hy := HYb.lt
  have hx := HXb.lt
  cases bi <;>
  · clear bb HYb HXb
    go_wp2
    go_ret
    exact ⟨rfl, Bb.out⟩
theorem leaseAll_walk {H : Type} {enc : TypeId × Value → H} {base : Nat} {p0 : List MemPlace} (W : World) (v0 : Value) (d0 : DataW H) (hv : Value.okWide Try.prog W .any base 30 v0) (h : DataW.Trod enc Try.prog W 0 (fun _ => true) true 30 v0 d0 p0) (_b : ∀ n ∈ d0.weights Try.prog 30, n ≤ 140737488351232)
    (a1 : Int) (_w1 : (Lit.int .i64 a1).wf = true) (a2 : Int) (_w2 : (Lit.int .i64 a2).wf = true) :
    Calls Try.prog 7 #[v0, .int .i64 a1, .int .i64 a2] W fun e W' => e = .returned (.bool true) ∧ Below W.heap.size W W' := by
  obtain ⟨a, len, cap, os, rfl, hP, h1, h2⟩ := open_ops hv h
  exact all_core W a len cap os hP a1 a2
end Go.Proofs.Ytkgnooogppkieaa

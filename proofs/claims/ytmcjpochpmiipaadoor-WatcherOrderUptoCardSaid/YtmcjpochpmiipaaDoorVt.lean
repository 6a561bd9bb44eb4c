/- watcher: the walk of WatcherDrops. Conditions: the script lies in memory, its paths are not longer than 1 MiB; the library's variable is there. -/
import Derived.Test.YtmcjpochpmiipaaDoorVs
namespace Go.Proofs.YtmcjpochpmiipaaDoor
open Go Go.RowKit Go.ChangeShapes Go.WideShapes Go.ChangeAt
set_option linter.unusedVariables false
set_option linter.unusedSimpArgs false

theorem Two.drew {w : World} {base n m : Nat} {vt vu : Value} {L U : List Wt} (h : Two w base n m vt vu L U) : Two w.drew base n m vt vu L U := ⟨h.t.drew, h.u.drew, h.dis⟩
theorem Two.start {w1 w2 : World} {b : Nat} (t1 : Tab w1 b b (.slice none 0 0) []) (b2 : Below w1.heap.size w1 w2) (t2 : Tab w2 w1.heap.size w1.heap.size (.slice none 0 0) []) : Two w2 b b w1.heap.size (.slice none 0 0) (.slice none 0 0) [] [] := by
  have hlt := t1.box.lt
  refine ⟨t1.below b2 (Nat.le_refl _), ⟨t2.box, World.ownsRow_nil _ _ _ _, by omega⟩, ?_⟩
  rintro k (rfl | h1) (h2 | h2)
  · omega
  · cases h2
  · cases h1
  · cases h1
theorem drops_big (W : World) (hx : Mx W) (a0 : Option Addr) (len cap : Nat) (s : Int) (q : Ev) (hm : len ≤ maxLen) (hb : 300 < len) :
    Calls Tryd.prog 5 #[.slice a0 len cap, .int .i64 s, ev q] W fun e W' => e = .returned (.bool true) ∧ Below W.heap.size W W' := by
  unfold maxLen at hm
  have B0 := Lib.hid ((Below.refl W.heap.size W).alloc (Nat.le_refl _) (.cells #[.int .i64 q.1, .int .i64 q.2.1, .string q.2.2] 36))
  have C0 := Lib.hid (new_any (W.alloc (.cells #[.int .i64 q.1, .int .i64 q.2.1, .string q.2.2] 36)))
  have HX := Lib.hid hx
  clear hx
  unfold ev
  go_enter Tryd.func5, Tryd.ntmps5
  go_wp2_with fail
  refine C0.out.mono ?_
  rintro e w1 ⟨rfl, t1, b1⟩
  have HB1 := Lib.hid (B0.out.trans (b1.mono B0.out.size))
  have C1 := Lib.hid (new_any w1)
  clear t1 b1 C0
  go_wp2_with fail
  refine C1.out.mono ?_
  rintro e w2 ⟨rfl, t2, b2⟩
  have HB2 := Lib.hid (HB1.out.trans (b2.mono HB1.out.size))
  have C2 := Lib.hid (alive_any w2 (HX.out.below HB2.out))
  clear t2 b2 C1
  go_wp2_with fail
  refine C2.out.mono ?_
  rintro e w3 ⟨rfl, b3⟩
  go_wp2
  go_ret
  exact ⟨rfl, HB2.out.trans (b3.mono HB2.out.size)⟩
set_option maxRecDepth 100000 in
set_option maxHeartbeats 8000000 in
theorem drops_core (W : World) (hx : Mx W) (a0 : Option Addr) (len cap : Nat) (os : List Op9) (hP : OpsAt W a0 len os) (s : Int) (q : Ev) (hm : len ≤ 300) :
    Calls Tryd.prog 5 #[.slice a0 len cap, .int .i64 s, ev q] W fun e W' => e = .returned (.bool true) ∧ Below W.heap.size W W' := by
  have B0 := Lib.hid ((Below.refl W.heap.size W).alloc (Nat.le_refl _) (.cells #[.int .i64 q.1, .int .i64 q.2.1, .string q.2.2] 36))
  have HX0 := Lib.hid (Box.new W 36 #[.int .i64 q.1, .int .i64 q.2.1, .string q.2.2])
  have C0 := new_any (W.alloc (.cells #[.int .i64 q.1, .int .i64 q.2.1, .string q.2.2] 36))
  simp only [World.size_alloc] at C0
  replace C0 := Lib.hid C0
  have HP := Lib.hid hP
  have HMX := Lib.hid hx
  have h0 : 0 < W.heap.size := by have := hx.lt; omega
  clear hP hx
  unfold ev
  go_enter Tryd.func5, Tryd.ntmps5
  go_wp2_with fail
  refine C0.out.mono ?_
  rintro e w1 ⟨rfl, t1, b1⟩
  have HT1 := Lib.hid t1
  have HX1 := Lib.hid (HX0.out.below b1 (Nat.lt_succ_self _))
  have HB1 := Lib.hid (B0.out.trans (b1.mono (Nat.le_succ _)))
  have C1 := Lib.hid (new_any w1)
  clear t1 b1 C0 HX0 B0
  go_wp2_with fail
  refine C1.out.mono ?_
  rintro e w2 ⟨rfl, t2, b2⟩
  have HTW1 := Lib.hid (Two.start HT1.out b2 t2)
  have HX2 := Lib.hid (HX1.out.below b2 HX1.out.lt)
  have HB2 := Lib.hid (HB1.out.trans (b2.mono HB1.out.size))
  have hm1 := HT1.out.box.lt
  clear t2 b2 C1 HT1 HX1 HB1
  go_wp2
  go_loopw [39] (fun i wr => ∃ (k : Nat) (vt vu : Value), k ≤ len ∧ i = .int .i64 k ∧ Two wr (W.heap.size + 1) (W.heap.size + 1) w1.heap.size vt vu (playL (os.take k) []) (dropL s (playL (os.take k) [])) ∧ Box wr W.heap.size 36 #[.int .i64 q.1, .int .i64 q.2.1, .string q.2.2] ∧ Below W.heap.size W wr) (fun i _ => len - (intOf i).toNat)
  case atStart => exact ⟨0, _, _, Nat.zero_le _, rfl, HTW1.out, HX2.out, HB2.out⟩
  case round =>
    rename World => w5
    clear HTW1 HX2 HB2
    obtain ⟨k, vt, vu, hk, rfl, htw, hbx, hb⟩ := hrel
    have hle := play_len (os.take k) []
    rw [List.length_nil, List.length_take] at hle
    obtain ⟨L, hLe⟩ : ∃ L, L = playL (os.take k) [] := ⟨_, rfl⟩
    have hg : Good L := by rw [hLe]; exact good_play _ good_nil
    rw [← hLe] at htw hle
    have hnext := fun o h => play_next (os := os) (k := k) (o := o) h []
    rw [← hLe] at hnext
    have HNX := Lib.hid hnext
    have HG := Lib.hid hg
    have HGU := Lib.hid (good_drop s hg)
    have hll : L.length ≤ 300 := by omega
    clear hLe hnext hg
    have h36 := hbx.lt
    have hwb := hb.size
    obtain ⟨U, hU⟩ : ∃ U, U = dropL s L := ⟨_, rfl⟩
    have HU := Lib.hid hU
    have hul : U.length ≤ 300 := by rw [hU]; exact Nat.le_trans (List.length_filter_le _ _) hll
    rw [← hU] at htw HGU
    clear hU hle
    by_cases hlt : k < len
    · obtain ⟨bb, off, o, rfl, ho, hbb, hz, d0, d1, d2, d3, d4, d5, d6, d7⟩ := HP.out.get k hlt
      rw [← hb.cell (p := ⟨bb, _, none⟩) hbb] at d0 d1 d2 d3 d4 d5 d6 d7
      have hbr : bb < w5.heap.size := Nat.lt_of_lt_of_le hbb hb.size
      have B1 := Lib.hid ((Below.refl w5.heap.size w5).alloc (Nat.le_refl _) (.cells #[.int .i64 o.1, .int .i64 o.2.1, .int .i64 o.2.2.1.1, .string o.2.2.1.2.1, .bool o.2.2.1.2.2, .int .i64 o.2.2.2.1, .int .i64 o.2.2.2.2.1, .string o.2.2.2.2.2] 38))
      have C1 := does_any (bm := 0) (M := []) o none 0 (htw.t.alloc (.cells #[.int .i64 o.1, .int .i64 o.2.1, .int .i64 o.2.2.1.1, .string o.2.2.1.2.1, .bool o.2.2.1.2.2, .int .i64 o.2.2.2.1, .int .i64 o.2.2.2.2.1, .string o.2.2.2.2.2] 38)) (World.ownsRow_nil _ _ _ _) (by rw [World.size_alloc]; omega) (Nat.zero_le _) (by omega) HG.out good_nil ((HMX.out.below hb).below B1.out) (by omega)
      have HZ := Lib.hid hz
      have HLE := Lib.hid (HNX.out o ho)
      have HTW := Lib.hid (htw.alloc (.cells #[.int .i64 o.1, .int .i64 o.2.1, .int .i64 o.2.2.1.1, .string o.2.2.1.2.1, .bool o.2.2.1.2.2, .int .i64 o.2.2.2.1, .int .i64 o.2.2.2.2.1, .string o.2.2.2.2.2] 38))
      have HTL := Lib.hid htw.t.of_lt
      have HBO := Lib.hid (Box.new w5 38 #[.int .i64 o.1, .int .i64 o.2.1, .int .i64 o.2.2.1.1, .string o.2.2.1.2.1, .bool o.2.2.1.2.2, .int .i64 o.2.2.2.1, .int .i64 o.2.2.2.2.1, .string o.2.2.2.2.2])
      have HB := Lib.hid (hb.alloc hb.size (.cells #[.int .i64 o.1, .int .i64 o.2.1, .int .i64 o.2.2.1.1, .string o.2.2.1.2.1, .bool o.2.2.1.2.2, .int .i64 o.2.2.2.1, .int .i64 o.2.2.2.2.1, .string o.2.2.2.2.2] 38))
      have HBX := Lib.hid (hbx.alloc (.cells #[.int .i64 o.1, .int .i64 o.2.1, .int .i64 o.2.2.1.1, .string o.2.2.1.2.1, .bool o.2.2.1.2.2, .int .i64 o.2.2.2.1, .int .i64 o.2.2.2.2.1, .string o.2.2.2.2.2] 38))
      have hds := drops_step s o HG.out (by omega)
      unfold opv at C1
      obtain ⟨L2, hL2⟩ : ∃ L2, L2 = stepL L o := ⟨_, rfl⟩
      unfold Stepped at C1
      rw [← hL2] at C1 HLE hds
      rw [← HU.out] at hds
      simp only [List.length_nil] at C1
      replace C1 := Lib.hid C1
      have HDS := Lib.hid hds
      clear htw hb ho hz hL2 HNX hbx hds
      go_wp2_with fail
      refine C1.out.mono ?_
      rintro e w2 ⟨v2, vm2, b, rfl, t2, g2, _, _⟩
      have HTW2 := Lib.hid (HTW.out.left t2 g2)
      have HB2 := Lib.hid (g2.below HB.out (Nat.le_refl _) (fun i hi => by have := HTW.out.t.of_ge i hi; omega))
      have HBX2 := Lib.hid (HBX.out.touch g2.touch (fun h => by have := HTW.out.t.of_ge _ h; omega))
      have HBO2 := Lib.hid (HBO.out.touch g2.touch (fun h => by have := HTL.out _ h; omega))
      have hbl := HBO2.out.lt
      have b0 : w2.cell? ⟨w5.heap.size, 0, none⟩ = some (.int .i64 o.1) := HBO2.out.cell 0
      have b1 : w2.cell? ⟨w5.heap.size, 1, none⟩ = some (.int .i64 o.2.1) := HBO2.out.cell 1
      have b2 : w2.cell? ⟨w5.heap.size, 2, none⟩ = some (.int .i64 o.2.2.1.1) := HBO2.out.cell 2
      have b3 : w2.cell? ⟨w5.heap.size, 3, none⟩ = some (.string o.2.2.1.2.1) := HBO2.out.cell 3
      have b4 : w2.cell? ⟨w5.heap.size, 4, none⟩ = some (.bool o.2.2.1.2.2) := HBO2.out.cell 4
      have b5 : w2.cell? ⟨w5.heap.size, 5, none⟩ = some (.int .i64 o.2.2.2.1) := HBO2.out.cell 5
      have b6 : w2.cell? ⟨w5.heap.size, 6, none⟩ = some (.int .i64 o.2.2.2.2.1) := HBO2.out.cell 6
      have b7 : w2.cell? ⟨w5.heap.size, 7, none⟩ = some (.string o.2.2.2.2.2) := HBO2.out.cell 7
      clear t2 g2 C1 d0 d1 d2 d3 d4 d5 d6 d7
      have hw2 := HB2.out.size
      have C2 := does_any (bm := 0) (M := []) o none 0 HTW2.out.u (World.ownsRow_nil _ _ _ _) (by have := HBX2.out.lt; omega) (Nat.zero_le _) (by omega) HGU.out good_nil (HMX.out.below HB2.out) (by have := HZ.out; omega)
      obtain ⟨U2, hU2⟩ : ∃ U2, U2 = stepL U o := ⟨_, rfl⟩
      unfold opv at C2
      unfold Stepped at C2
      have hds := HDS.out
      rw [← hU2] at C2 hds
      simp only [List.length_nil] at C2
      replace C2 := Lib.hid C2
      replace HDS := Lib.hid hds
      clear hds hU2
      by_cases hk0 : o.1 = 0
      · have q0 : (o.1 != 0) = false := by simp [hk0]
        by_cases hs : o.2.2.1.1 = s
        · have q1 : (o.2.2.1.1 != s) = false := by simp [hs]
          have HE := Lib.hid (show dropL s L2 = U by have := HDS.out; simpa [keepB, hk0, hs] using this)
          clear hk0 hs
          go_wp2
          go_roundw
          case rel => exact ⟨k + 1, v2, vu, by omega, by go_num, by rw [HLE.out, HE.out]; exact HTW2.out, HBX2.out, HB2.out⟩
          case measure => simp [intOf]; omega
        · have q1 : (o.2.2.1.1 != s) = true := by simp [hs]
          have HE := Lib.hid (show dropL s L2 = U2 by have := HDS.out; simpa [keepB, hk0, hs] using this)
          clear hk0 hs
          go_wp2_with fail
          refine C2.out.mono ?_
          rintro e w3 ⟨v3, vm3, b, rfl, t3, g3, _, _⟩
          have HTW3 := Lib.hid (HTW2.out.right t3 g3)
          have HB3 := Lib.hid (g3.below HB2.out (Nat.le_refl _) (fun i hi => by have := HTW2.out.u.of_ge i hi; omega))
          have HBX3 := Lib.hid (HBX2.out.touch g3.touch (fun h => by have := HTW2.out.u.of_ge _ h; omega))
          clear t3 g3 C2 b0 b1 b2 b3 b4 b5 b6 b7
          go_wp2
          go_roundw
          case rel => exact ⟨k + 1, v2, v3, by omega, by go_num, by rw [HLE.out, HE.out]; exact HTW3.out, HBX3.out, HB3.out⟩
          case measure => simp [intOf]; omega
      · have q0 : (o.1 != 0) = true := by simp [hk0]
        have HE := Lib.hid (show dropL s L2 = U2 by have := HDS.out; simpa [keepB, hk0] using this)
        clear hk0
        go_wp2_with fail
        refine C2.out.mono ?_
        rintro e w3 ⟨v3, vm3, b, rfl, t3, g3, _, _⟩
        have HTW3 := Lib.hid (HTW2.out.right t3 g3)
        have HB3 := Lib.hid (g3.below HB2.out (Nat.le_refl _) (fun i hi => by have := HTW2.out.u.of_ge i hi; omega))
        have HBX3 := Lib.hid (HBX2.out.touch g3.touch (fun h => by have := HTW2.out.u.of_ge _ h; omega))
        clear t3 g3 C2 b0 b1 b2 b3 b4 b5 b6 b7
        go_wp2
        go_roundw
        case rel => exact ⟨k + 1, v2, v3, by omega, by go_num, by rw [HLE.out, HE.out]; exact HTW3.out, HBX3.out, HB3.out⟩
        case measure => simp [intOf]; omega
    · have C3 := drop_any s htw.t (by omega) (by omega)
      rw [← HU.out] at C3
      replace C3 := Lib.hid C3
      have HTW := Lib.hid htw
      have HBX := Lib.hid hbx
      have HB := Lib.hid hb
      have HUU := Lib.hid (show dropL s U = U by rw [HU.out]; exact drop_twice s L)
      have HNS := Lib.hid (show ∀ p ∈ U, p.1 ≠ s by rw [HU.out]; exact fun p hp => (mem_drop.1 hp).2)
      clear htw hb hbx HNX HG HGU HU
      go_wp2_with fail
      refine C3.out.mono ?_
      rintro e w6 ⟨rfl, v6, t6, g6⟩
      have HTW6 := Lib.hid (HTW.out.left t6 g6)
      have HB6 := Lib.hid (g6.below HB.out (Nat.le_refl _) (fun i hi => by have := HTW.out.t.of_ge i hi; omega))
      have HX6 := Lib.hid (HBX.out.touch g6.touch (fun h => by have := HTW.out.t.of_ge _ h; omega))
      have hx6 := HX6.out.lt
      have C4 := drop_any s HTW6.out.u (by omega) (by omega)
      rw [HUU.out] at C4
      replace C4 := Lib.hid C4
      clear t6 g6 C3 HTW HBX HB
      go_wp2_with fail
      refine C4.out.mono ?_
      rintro e w7 ⟨rfl, v7, t7, g7⟩
      have HTW7 := Lib.hid (HTW6.out.right t7 g7)
      have HB7 := Lib.hid (g7.below HB6.out (Nat.le_refl _) (fun i hi => by have := HTW6.out.u.of_ge i hi; omega))
      have HX7 := Lib.hid (HX6.out.touch g7.touch (fun h => by have := HTW6.out.u.of_ge _ h; omega))
      have hx7 := HX7.out.lt
      clear t7 g7 C4 HTW6 HB6 HX6
      obtain ⟨FE, hFE⟩ : ∃ FE, FE = firedE q.2.1 q.2.2 U := ⟨_, rfl⟩
      obtain ⟨FU, hFU⟩ : ∃ FU, FU = fireL q.2.1 q.2.2 U := ⟨_, rfl⟩
      have hfl : FE.length ≤ 300 := by rw [hFE]; exact Nat.le_trans (firedE_len _ _ _) hul
      have HNE := Lib.hid (show ∀ e ∈ FE, e.1 ≠ s by rw [hFE]; intro e he hes; obtain ⟨p, hp, hpe⟩ := firedE_from he; exact HNS.out p hp (hpe.trans hes))
      have C5 := fire_any q HTW7.out.drew.t (by show _ ≤ w7.heap.size; omega) (by omega)
      rw [← hFE, ← hFU] at C5
      unfold ev at C5
      replace C5 := Lib.hid C5
      have CU := Lib.hid (fun (w : World) (v : Value) (h : Tab w (W.heap.size + 1) w1.heap.size v U) (hw : W.heap.size + 1 ≤ w.heap.size) => show Calls Tryd.prog 15 #[.pointer (some ⟨w1.heap.size, 0, none⟩), .agg #[.int .i64 q.1, .int .i64 q.2.1, .string q.2.2]] w fun r w' => ∃ vt, r = .returned vt ∧ w'.ownsRow w.heap.size 36 3 vt FE.length (eCells FE) ∧ ∃ v', Tab w' (W.heap.size + 1) w1.heap.size v' FU ∧ Goes w w' w1.heap.size v v' by
        have := fire_any q h hw (by omega)
        rw [← hFE, ← hFU] at this
        exact this)
      clear hFE hFU
      go_wp2
      refine wp_region_phase (fun w' => Box w' W.heap.size 36 #[.int .i64 q.1, .int .i64 q.2.1, .string q.2.2]) [true, true, false, true, true, false, false, false] 7 _ _ _ (by kernel_rfl) rfl rfl (by kernel_rfl) rfl rfl (fun _ _ _ _ _ h => h) (HX7.out.drew) ?_
      intro S HS
      simp only [taken, leftOut]
      go_big_quiet_want; go_big_quiet_op; go_big_quiet_on
      go_big_quiet_want; apply quiet_value; (· (intro w' hw; have x0 : w'.cell? ⟨W.heap.size, 0, none⟩ = some (.int .i64 q.1) := ((HS.out _).1 hw).cell 0; have x1 : w'.cell? ⟨W.heap.size, 1, none⟩ = some (.int .i64 q.2.1) := ((HS.out _).1 hw).cell 1; have x2 : w'.cell? ⟨W.heap.size, 2, none⟩ = some (.string q.2.2) := ((HS.out _).1 hw).cell 2; have xl := ((HS.out _).1 hw).lt; go_simp; try rfl)); simp only [Act.put, List.setIfInBounds_toArray, List.set_cons_succ, List.set_cons_zero]; go_big_quiet_on
      go_big_quiet_want; go_big_quiet_op; go_big_quiet_on
      go_big_quiet_want; apply quiet_value; (· (intro w' hw; have x0 : w'.cell? ⟨W.heap.size, 0, none⟩ = some (.int .i64 q.1) := ((HS.out _).1 hw).cell 0; have x1 : w'.cell? ⟨W.heap.size, 1, none⟩ = some (.int .i64 q.2.1) := ((HS.out _).1 hw).cell 1; have x2 : w'.cell? ⟨W.heap.size, 2, none⟩ = some (.string q.2.2) := ((HS.out _).1 hw).cell 2; have xl := ((HS.out _).1 hw).lt; go_simp; try rfl)); simp only [Act.put, List.setIfInBounds_toArray, List.set_cons_succ, List.set_cons_zero]; go_big_quiet_on
      refine wpQuiet_nil ?_
      refine wpTail_more ?_
      go_wp2_with fail
      refine C5.out.mono ?_
      rintro e w8 ⟨va, rfl, o8, v8, t8, g8⟩
      obtain ⟨ada, ca, rfl, _⟩ := own_shape o8
      have HTW8 := Lib.hid (HTW7.out.drew.left t8 g8)
      have HB8 := Lib.hid (g8.below HB7.out.drew (Nat.le_refl _) (fun i hi => by have := HTW7.out.t.of_ge i hi; omega))
      have HX8 := Lib.hid (HX7.out.drew.touch g8.touch (fun h => by have := HTW7.out.t.of_ge _ h; omega))
      have HO8 := Lib.hid o8
      have HLT8 := Lib.hid HTW7.out.u.of_lt
      have hx8 := HX8.out.lt
      clear o8 t8 g8 C5
      go_wp2_with fail
      refine ThenS.mk ((HS.out _).2 HX8.out) ?_
      refine wpTail_more ?_
      have C6 := Lib.hid (CU.out w8 _ HTW8.out.u (by omega))
      go_wp2_with fail
      refine C6.out.mono ?_
      rintro e w9 ⟨vb, rfl, o9, v9, t9, g9⟩
      obtain ⟨adb, cb, rfl, _⟩ := own_shape o9
      have HB9 := Lib.hid (g9.below HB8.out (Nat.le_refl _) (fun i hi => by have := HTW8.out.u.of_ge i hi; omega))
      have HX9 := Lib.hid (HX8.out.touch g9.touch (fun h => by have := HTW8.out.u.of_ge _ h; omega))
      have HOA := Lib.hid (own_stays HO8.out (w' := w9) (fun i hi => g9.touch.block i (own_lt HO8.out i hi) (fun ho => by
        have h1 := own_ge HO8.out i hi
        have h2 := HLT8.out i ho
        rw [show w7.drew.heap.size = w7.heap.size from rfl] at h1
        omega)))
      have HOB := Lib.hid o9
      clear o9 t9 g9 C6 HO8
      go_wp2_with fail
      refine ThenS.mk ((HS.out _).2 HX9.out) ?_
      refine wpTail_more ?_
      go_wp2_with fail
      refine ThenS.mk ((HS.out _).2 HX9.out) ?_
      refine wpTail_last ?_
      go_wp2
      go_loopw [74] (fun i wr => ∃ k : Nat, k ≤ FE.length ∧ i = .int .i64 k ∧ Below w9.heap.size w9 wr) (fun i _ => FE.length - (intOf i).toNat)
      case atStart => exact ⟨0, Nat.zero_le _, rfl, Below.refl _ _⟩
      case round =>
        rename World => wr
        obtain ⟨t, htl, rfl, hbel⟩ := hrel
        have HW := Lib.hid hbel
        have HOr := Lib.hid (own_below HOA.out hbel (Nat.le_refl _))
        clear hbel
        by_cases hlt2 : t < FE.length
        · obtain ⟨f, hf⟩ : ∃ f, FE[t]? = some f := ⟨_, List.getElem?_eq_getElem hlt2⟩
          obtain ⟨g, cap2, he, hgl, c0, c1, c2⟩ := eown_cells HOr.out t f hf
          obtain ⟨rfl, rfl⟩ : ada = some ⟨g, 0, none⟩ ∧ ca = cap2 := by simpa using he
          have hne : (f.1 == s) = false := by have := HNE.out f (List.mem_of_getElem? hf); simpa using this
          have HW2 := Lib.hid (HW.out.alloc HW.out.size (.cells #[.int .i64 f.1, .int .i64 f.2.1, .string f.2.2] 36))
          clear he hf
          go_wp2
          go_roundw
          case rel => exact ⟨t + 1, by omega, by go_num, HW2.out⟩
          case measure => simp [intOf]; omega
        · have HBr := Lib.hid (HB9.out.trans (HW.out.mono HB9.out.size))
          have C7 := Lib.hid (alive_any wr (HMX.out.below HBr.out))
          go_wp2_with fail
          refine C7.out.mono ?_
          rintro e wa ⟨rfl, ba⟩
          have HBa := Lib.hid (HBr.out.trans (ba.mono HBr.out.size))
          have C8 := Lib.hid (sameEv_any ada adb ca cb (own_below HOr.out ba (Nat.le_refl _)) (own_below (own_below HOB.out HW.out (Nat.le_refl _)) ba (Nat.le_refl _)) (by omega))
          clear ba C7
          go_wp2_with fail
          refine C8.out.mono ?_
          rintro e wb ⟨b, rfl, hbq, bb⟩
          obtain rfl := hbq (by first | rfl | trivial)
          go_wp2
          go_ret
          exact ⟨rfl, HBa.out.trans (bb.mono HBa.out.size)⟩
theorem watcherDrops_walk {H : Type} {enc : TypeId × Value → H} {base0 base1 : Nat} {p0 p1 : List MemPlace} (W : World) (hm : Mx W) (v0 : Value) (d0 : DataW H) (hv0 : Value.okWide Tryd.prog W .any base0 34 v0) (h0 : DataW.Trod enc Tryd.prog W 0 (fun _ => true) true 34 v0 d0 p0) (b0 : Rows.uptoBulk d0 ≤ 1048576)
    (a1 : Int) (_w1 : (Lit.int .i64 a1).wf = true)
    (v1 : Value) (d1 : DataW H) (hv1 : Value.okWide Tryd.prog W .any base1 36 v1) (h1 : DataW.Trod enc Tryd.prog W 0 (fun _ => true) true 36 v1 d1 p1) (b1 : Rows.uptoBulk d1 ≤ 1048576) :
    Calls Tryd.prog 5 #[v0, .int .i64 a1, v1] W fun e W' => e = .returned (.bool true) ∧ Below W.heap.size W W' := by
  obtain ⟨a, len, cap, os, rfl, hP, h1', h2'⟩ := open_ops hv0 h0 b0
  obtain ⟨q, rfl⟩ := open_ev hv1 h1
  by_cases hb : 300 < len
  · exact drops_big W hm a len cap a1 q (by omega) hb
  · exact drops_core W hm a len cap os hP a1 q (by omega)
end Go.Proofs.YtmcjpochpmiipaaDoor

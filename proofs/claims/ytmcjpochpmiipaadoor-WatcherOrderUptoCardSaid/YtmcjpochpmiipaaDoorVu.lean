/- watcher: the walk of WatcherOrder. Conditions: the list lies in memory, its paths are not longer than 1 MiB; the library's variable is there. -/
import Derived.Test.YtmcjpochpmiipaaDoorVt
import Derived.Test.YtmcjpochpmiipaaDoorSteps
namespace Go.Proofs.YtmcjpochpmiipaaDoor
open Go Go.RowKit Go.ChangeShapes Go.WideShapes Go.ChangeAt
set_option linter.unusedVariables false
set_option linter.unusedSimpArgs false

theorem order_big (W : World) (hx : Mx W) (a0 : Option Addr) (len cap : Nat) (q : Ev) (hm : len ≤ maxLen) (hb : 400 < len) :
    Calls Tryd.prog 6 #[.slice a0 len cap, ev q] W fun e W' => e = .returned (.bool true) ∧ Below W.heap.size W W' := by
  unfold maxLen at hm
  have B0 := Lib.hid ((Below.refl W.heap.size W).alloc (Nat.le_refl _) (.cells #[.int .i64 q.1, .int .i64 q.2.1, .string q.2.2] 36))
  have C0 := Lib.hid (new_any (W.alloc (.cells #[.int .i64 q.1, .int .i64 q.2.1, .string q.2.2] 36)))
  have HX := Lib.hid hx
  clear hx
  unfold ev
  go_enter Tryd.func6, Tryd.ntmps6
  go_wp2_with fail
  refine C0.out.mono ?_
  rintro e w1 ⟨rfl, t1, b1⟩
  have HB1 := Lib.hid (B0.out.trans (b1.mono B0.out.size))
  have C1 := Lib.hid (new_any w1)
  clear t1 b1 C0
  go_wp2_with fail
  refine C1.out.mono ?_
  rintro e w2 ⟨rfl, t2, b2⟩
  have HB2 := Lib.hid (HB1.out.trans (b2.mono HB1.out.size))
  have C2 := Lib.hid (alive_any w2 (HX.out.below HB2.out))
  clear t2 b2 C1
  go_wp2_with fail
  refine C2.out.mono ?_
  rintro e w3 ⟨rfl, b3⟩
  go_wp2
  go_ret
  exact ⟨rfl, HB2.out.trans (b3.mono HB2.out.size)⟩
set_option maxRecDepth 100000 in
set_option maxHeartbeats 8000000 in
theorem order_core (W : World) (hx : Mx W) (a0 : Option Addr) (len cap : Nat) (xs : List Wt) (hP : WsAt W a0 len xs) (q : Ev) (hm : len ≤ 400) :
    Calls Tryd.prog 6 #[.slice a0 len cap, ev q] W fun e W' => e = .returned (.bool true) ∧ Below W.heap.size W W' := by
  have B0 := Lib.hid ((Below.refl W.heap.size W).alloc (Nat.le_refl _) (.cells #[.int .i64 q.1, .int .i64 q.2.1, .string q.2.2] 36))
  have HX0 := Lib.hid (Box.new W 36 #[.int .i64 q.1, .int .i64 q.2.1, .string q.2.2])
  have C0 := new_any (W.alloc (.cells #[.int .i64 q.1, .int .i64 q.2.1, .string q.2.2] 36))
  simp only [World.size_alloc] at C0
  replace C0 := Lib.hid C0
  have HP := Lib.hid hP
  have HMX := Lib.hid hx
  have h0 : 0 < W.heap.size := by have := hx.lt; omega
  have HXL := Lib.hid hP.len
  clear hP hx
  unfold ev
  go_enter Tryd.func6, Tryd.ntmps6
  go_wp2_with fail
  refine C0.out.mono ?_
  rintro e w1 ⟨rfl, t1, b1⟩
  have HT1 := Lib.hid t1
  have HX1 := Lib.hid (HX0.out.below b1 (Nat.lt_succ_self _))
  have HB1 := Lib.hid (B0.out.trans (b1.mono (Nat.le_succ _)))
  have C1 := Lib.hid (new_any w1)
  clear t1 b1 C0 HX0 B0
  go_wp2_with fail
  refine C1.out.mono ?_
  rintro e w2 ⟨rfl, t2, b2⟩
  have HTW1 := Lib.hid (Two.start HT1.out b2 t2)
  have HX2 := Lib.hid (HX1.out.below b2 HX1.out.lt)
  have HB2 := Lib.hid (HB1.out.trans (b2.mono HB1.out.size))
  have hm1 := HT1.out.box.lt
  clear t2 b2 C1 HT1 HX1 HB1
  go_wp2
  go_loopw [35] (fun i wr => ∃ (k : Nat) (vt vu : Value), k ≤ len ∧ i = .int .i64 k ∧ Two wr (W.heap.size + 1) (W.heap.size + 1) w1.heap.size vt vu (addsL (xs.take k) []) (addsL (xs.reverse.take k) []) ∧ Box wr W.heap.size 36 #[.int .i64 q.1, .int .i64 q.2.1, .string q.2.2] ∧ Below W.heap.size W wr) (fun i _ => len - (intOf i).toNat)
  case atStart => exact ⟨0, _, _, Nat.zero_le _, rfl, HTW1.out, HX2.out, HB2.out⟩
  case round =>
    rename World => w5
    clear HTW1 HX2 HB2
    obtain ⟨k, vt, vu, hk, rfl, htw, hbx, hb⟩ := hrel
    by_cases hlt : k < len
    · obtain ⟨L, hLe⟩ : ∃ L, L = addsL (xs.take k) [] := ⟨_, rfl⟩
      obtain ⟨U, hUe⟩ : ∃ U, U = addsL (xs.reverse.take k) [] := ⟨_, rfl⟩
      have HGL := Lib.hid (show Good L by rw [hLe]; exact good_adds _ good_nil)
      have HGU := Lib.hid (show Good U by rw [hUe]; exact good_adds _ good_nil)
      rw [← hLe, ← hUe] at htw
      have HNL := Lib.hid (show ∀ x, xs[k]? = some x → addsL (xs.take (k + 1)) [] = addL L x by rw [hLe]; exact fun x h => adds_next h [])
      have HNU := Lib.hid (show ∀ x, xs.reverse[k]? = some x → addsL (xs.reverse.take (k + 1)) [] = addL U x by rw [hUe]; exact fun x h => adds_next h [])
      have hll : L.length ≤ 500 := HGL.out.2
      have hul : U.length ≤ 500 := HGU.out.2
      clear hLe hUe
      have h36 := hbx.lt
      have hwb := hb.size
      obtain ⟨bb, off, x, rfl, hxk, hbb, hz, d0, d1, d2⟩ := HP.out.get k hlt
      obtain ⟨j, hj⟩ : ∃ j, j = len - 1 - k := ⟨_, rfl⟩
      have hjl : j < len := by omega
      obtain ⟨bb', off', y, hab, hyk, hbb', hzy, f0, f1, f2⟩ := HP.out.get j hjl
      obtain ⟨rfl, rfl⟩ : bb = bb' ∧ off = off' := by simpa using hab
      have HEL := Lib.hid (HNL.out x hxk)
      have HEU := Lib.hid (HNU.out y (by rw [rev_at (by rw [HXL.out]; exact hlt), HXL.out, ← hj]; exact hyk))
      rw [← hb.cell (p := ⟨bb, _, none⟩) hbb] at d0 d1 d2
      have hbr : bb < w5.heap.size := Nat.lt_of_lt_of_le hbb hb.size
      have C1 := add_any x htw.t (by omega) HGL.out.1 (by omega) (HMX.out.below hb) (by omega)
      obtain ⟨L2, hL2⟩ : ∃ L2, L2 = addL L x := ⟨_, rfl⟩
      obtain ⟨U2, hU2⟩ : ∃ U2, U2 = addL U y := ⟨_, rfl⟩
      have HU2 := Lib.hid hU2
      unfold Added tv at C1
      rw [← hL2] at C1 HEL
      rw [← hU2] at HEU
      replace C1 := Lib.hid C1
      have HTW := Lib.hid htw
      have HBX := Lib.hid hbx
      have HB := Lib.hid hb
      have hw1 : IntKind.i64.wrap ((len : Int) - 1) = (len : Int) - 1 := IntWalk.i64_in _ (by omega)
      have hw2 : IntKind.i64.wrap ((len : Int) - 1 - (k : Int)) = (j : Int) := by rw [IntWalk.i64_in _ (by omega)]; omega
      have HZY := Lib.hid hzy
      clear htw hbx hb hab hxk hyk hz hzy hL2 hU2 HNL HNU hj
      go_wp2_with fail
      refine C1.out.mono ?_
      rintro e w2 ⟨rfl, v2, t2, g2⟩
      have HTW2 := Lib.hid (HTW.out.left t2 g2)
      have HB2 := Lib.hid (g2.below HB.out (Nat.le_refl _) (fun i hi => by have := HTW.out.t.of_ge i hi; omega))
      have HBX2 := Lib.hid (HBX.out.touch g2.touch (fun h => by have := HTW.out.t.of_ge _ h; omega))
      rw [← HB2.out.cell (p := ⟨bb, _, none⟩) hbb] at f0 f1 f2
      have hx2 := HBX2.out.lt
      have hbr2 : bb < w2.heap.size := by omega
      have C2 := add_any y HTW2.out.u (by omega) HGU.out.1 (by omega) (HMX.out.below HB2.out) (by have := HZY.out; omega)
      unfold Added tv at C2
      rw [← HU2.out] at C2
      replace C2 := Lib.hid C2
      clear t2 g2 C1 d0 d1 d2
      go_wp2_with fail
      refine C2.out.mono ?_
      rintro e w3 ⟨rfl, v3, t3, g3⟩
      have HTW3 := Lib.hid (HTW2.out.right t3 g3)
      have HB3 := Lib.hid (g3.below HB2.out (Nat.le_refl _) (fun i hi => by have := HTW2.out.u.of_ge i hi; omega))
      have HBX3 := Lib.hid (HBX2.out.touch g3.touch (fun h => by have := HTW2.out.u.of_ge _ h; omega))
      clear t3 g3 C2 f0 f1 f2
      go_wp2
      go_roundw
      case rel => exact ⟨k + 1, v2, v3, by omega, by go_num, by rw [HEL.out, HEU.out]; exact HTW3.out, HBX3.out, HB3.out⟩
      case measure => simp [intOf]; omega
    · obtain rfl : k = len := by omega
      obtain ⟨L, hLe⟩ : ∃ L, L = addsL xs [] := ⟨_, rfl⟩
      have e1 : addsL (xs.take k) [] = L := by rw [List.take_of_length_le (by rw [HXL.out]; omega), hLe]
      have e2 : addsL (xs.reverse.take k) [] = L := by rw [List.take_of_length_le (by rw [List.length_reverse, HXL.out]; omega), hLe]; exact (adds_rev xs (by rw [HXL.out]; omega)).symm
      rw [e1, e2] at htw
      have hll : L.length ≤ 500 := by rw [hLe]; exact (good_adds _ good_nil).2
      have HTW := Lib.hid htw
      have HBX := Lib.hid hbx
      have HB := Lib.hid hb
      have hxl := hbx.lt
      have C1 := Lib.hid (all_any htw.t (by omega))
      clear e1 e2 hLe htw hbx hb
      go_wp2_with fail
      refine C1.out.mono ?_
      rintro e w6 ⟨va, rfl, o6, b6⟩
      obtain ⟨ada, ca, rfl, _⟩ := own_shape o6
      have HTW6 := Lib.hid (HTW.out.below b6 (Nat.le_refl _))
      have HB6 := Lib.hid (HB.out.trans (b6.mono HB.out.size))
      have HX6 := Lib.hid (HBX.out.below b6 hxl)
      have hx6 := HX6.out.lt
      have HA6 := Lib.hid o6
      have C2 := Lib.hid (all_any HTW6.out.u (by omega))
      clear o6 b6 C1 HTW HB HBX
      go_wp2_with fail
      refine C2.out.mono ?_
      rintro e w7 ⟨vb, rfl, o7, b7⟩
      obtain ⟨adb, cb, rfl, _⟩ := own_shape o7
      have HTW7 := Lib.hid (HTW6.out.below b7 (Nat.le_refl _))
      have HB7 := Lib.hid (HB6.out.trans (b7.mono HB6.out.size))
      have HX7 := Lib.hid (HX6.out.below b7 hx6)
      have hx7 := HX7.out.lt
      have HA7 := Lib.hid (own_below HA6.out b7 (Nat.le_refl _))
      have HO7 := Lib.hid o7
      clear o7 b7 C2 HTW6 HB6 HX6 HA6
      go_wp2
      go_loopw [66] (fun i wr => ∃ k : Nat, k ≤ L.length ∧ i = .int .i64 k ∧ Below w7.heap.size w7 wr) (fun i _ => L.length - (intOf i).toNat)
      case atStart => exact ⟨0, Nat.zero_le _, rfl, Below.refl _ _⟩
      case round =>
        rename World => wr
        obtain ⟨t, htl, rfl, hbel⟩ := hrel
        have HW := Lib.hid hbel
        have HAr := Lib.hid (own_below HA7.out hbel (Nat.le_refl _))
        have HBr := Lib.hid (own_below HO7.out hbel (Nat.le_refl _))
        clear hbel
        by_cases hlt2 : t < L.length
        · obtain ⟨p, hp⟩ : ∃ p, L[t]? = some p := ⟨_, List.getElem?_eq_getElem hlt2⟩
          obtain ⟨g, cap1, he, hg, _⟩ := own_cells HAr.out t p hp
          obtain ⟨g2, cap2, he2, hg2, _⟩ := own_cells HBr.out t p hp
          obtain ⟨rfl, rfl⟩ : ada = some ⟨g, 0, none⟩ ∧ ca = cap1 := by simpa using he
          obtain ⟨rfl, rfl⟩ : adb = some ⟨g2, 0, none⟩ ∧ cb = cap2 := by simpa using he2
          have HPP := Lib.hid hp
          have HQ := Lib.hid (show (!decide (p = p)) = false by simp)
          clear he he2 hp hg hg2
          go_wp2
          refine wp_region_below (w0 := wr) (B := wr.heap.size) (by kernel_rfl) (by kernel_rfl) (Below.refl _ _) ?_
          go_big_quiet_want; go_big_quiet_op; go_big_quiet_on
          go_big_quiet_want; go_big_quiet_op; go_big_quiet_on
          go_big_quiet_want; apply quiet_value; (· (intro w hw; go_simp; try rfl)); simp only [Act.put, List.setIfInBounds_toArray, List.set_cons_succ, List.set_cons_zero]; go_big_quiet_on
          go_big_quiet_want; apply quiet_value; (· (intro w hw; obtain ⟨c0, c1, c2⟩ := own_at (own_below HAr.out hw (Nat.le_refl _)) t p HPP.out; go_simp; try rfl)); simp only [Act.put, List.setIfInBounds_toArray, List.set_cons_succ, List.set_cons_zero]; go_big_quiet_on
          go_big_quiet_want; go_big_quiet_op; go_big_quiet_on
          go_big_quiet_want; go_big_quiet_op; go_big_quiet_on
          go_big_quiet_want; apply quiet_value; (· (intro w hw; go_simp; try rfl)); simp only [Act.put, List.setIfInBounds_toArray, List.set_cons_succ, List.set_cons_zero]; go_big_quiet_on
          go_big_quiet_want; apply quiet_value; (· (intro w hw; obtain ⟨z0, z1, z2⟩ := own_at (own_below HBr.out hw (Nat.le_refl _)) t p HPP.out; go_simp; try rfl)); simp only [Act.put, List.setIfInBounds_toArray, List.set_cons_succ, List.set_cons_zero]; go_big_quiet_on
          go_big_quiet_want; apply quiet_value (v := .bool false); (· (intro w hw; (go_simp <;> first | rfl | exact new_end HQ.out w))); simp only [Act.put, List.setIfInBounds_toArray, List.set_cons_succ, List.set_cons_zero]; go_big_quiet_on
          refine wpQuiet_nil ?_
          intro w8 b8
          have HW8 := Lib.hid (HW.out.trans (b8.mono HW.out.size))
          clear b8
          go_wp2
          go_roundw
          case rel => exact ⟨t + 1, by omega, by go_num, HW8.out⟩
          case measure => simp [intOf]; omega
        · have HBr2 := Lib.hid (HB7.out.trans (HW.out.mono HB7.out.size))
          have HTWr := Lib.hid (HTW7.out.below HW.out (Nat.le_refl _))
          have HXr := Lib.hid (HX7.out.below HW.out hx7)
          have hxr := HXr.out.lt
          have C3 := Lib.hid (alive_any wr.drew (HMX.out.below HBr2.out.drew))
          obtain ⟨FE, hFE⟩ : ∃ FE, FE = firedE q.2.1 q.2.2 L := ⟨_, rfl⟩
          obtain ⟨FU, hFU⟩ : ∃ FU, FU = fireL q.2.1 q.2.2 L := ⟨_, rfl⟩
          have hfl : FE.length ≤ 500 := by rw [hFE]; exact Nat.le_trans (firedE_len _ _ _) hll
          have CU := Lib.hid (fun (w : World) (n : Nat) (v : Value) (h : Tab w (W.heap.size + 1) n v L) (hw : W.heap.size + 1 ≤ w.heap.size) => show Calls Tryd.prog 15 #[.pointer (some ⟨n, 0, none⟩), .agg #[.int .i64 q.1, .int .i64 q.2.1, .string q.2.2]] w fun r w' => ∃ vt, r = .returned vt ∧ w'.ownsRow w.heap.size 36 3 vt FE.length (eCells FE) ∧ ∃ v', Tab w' (W.heap.size + 1) n v' FU ∧ Goes w w' n v v' by
            have := fire_any q h hw (by omega)
            rw [← hFE, ← hFU] at this
            exact this)
          clear hFE hFU HAr HBr HW
          go_wp2
          refine wp_region_steps (fun w' => Box w' W.heap.size 36 #[.int .i64 q.1, .int .i64 q.2.1, .string q.2.2]) [(false, 0), (true, 1), (true, 2), (true, 3), (true, 5), (true, 6), (false, 4), (false, 7), (false, 8), (false, 9), (false, 10)] 10 _ _ (by kernel_rfl) rfl (by kernel_rfl) (by kernel_rfl) rfl (fun _ _ _ _ _ h => h) HXr.out.drew ?_
          intro S HS
          simp only [pickS, List.getElem?_cons_zero, List.getElem?_cons_succ]
          refine wpSteps_more ?_
          go_wp2_with fail
          refine C3.out.mono ?_
          rintro e w8 ⟨rfl, b8⟩
          have HB8 := Lib.hid (HBr2.out.drew.trans (b8.mono HBr2.out.drew.size))
          have HTW8 := Lib.hid (HTWr.out.drew.below b8 (Nat.le_refl _))
          have HX8 := Lib.hid (HXr.out.drew.below b8 hxr)
          have hx8 := HX8.out.lt
          clear b8 C3
          go_wp2_with fail
          refine ThenS.mk ((HS.out _).2 HX8.out) ?_
          refine wpSteps_head ?_
          go_big_quiet_want; go_big_quiet_op; go_big_quiet_on
          refine wpQuiet_nil ?_
          refine wpSteps_head ?_
          go_big_quiet_want; go_big_quiet_op; go_big_quiet_on
          refine wpQuiet_nil ?_
          refine wpSteps_head ?_
          go_big_quiet_want; apply quiet_value; (· (intro w' hw; have x0 : w'.cell? ⟨W.heap.size, 0, none⟩ = some (.int .i64 q.1) := ((HS.out _).1 hw).cell 0; have x1 : w'.cell? ⟨W.heap.size, 1, none⟩ = some (.int .i64 q.2.1) := ((HS.out _).1 hw).cell 1; have x2 : w'.cell? ⟨W.heap.size, 2, none⟩ = some (.string q.2.2) := ((HS.out _).1 hw).cell 2; have xl := ((HS.out _).1 hw).lt; go_simp; try rfl)); simp only [Act.put, List.setIfInBounds_toArray, List.set_cons_succ, List.set_cons_zero]; go_big_quiet_on
          refine wpQuiet_nil ?_
          refine wpSteps_head ?_
          go_big_quiet_want; go_big_quiet_op; go_big_quiet_on
          refine wpQuiet_nil ?_
          refine wpSteps_head ?_
          go_big_quiet_want; apply quiet_value; (· (intro w' hw; have x0 : w'.cell? ⟨W.heap.size, 0, none⟩ = some (.int .i64 q.1) := ((HS.out _).1 hw).cell 0; have x1 : w'.cell? ⟨W.heap.size, 1, none⟩ = some (.int .i64 q.2.1) := ((HS.out _).1 hw).cell 1; have x2 : w'.cell? ⟨W.heap.size, 2, none⟩ = some (.string q.2.2) := ((HS.out _).1 hw).cell 2; have xl := ((HS.out _).1 hw).lt; go_simp; try rfl)); simp only [Act.put, List.setIfInBounds_toArray, List.set_cons_succ, List.set_cons_zero]; go_big_quiet_on
          refine wpQuiet_nil ?_
          refine wpSteps_more ?_
          have C4 := Lib.hid (CU.out w8 _ _ HTW8.out.t (by omega))
          go_wp2_with fail
          refine C4.out.mono ?_
          rintro e w9 ⟨va, rfl, o9, v9, t9, g9⟩
          obtain ⟨ad9, c9, rfl, _⟩ := own_shape o9
          have HTW9 := Lib.hid (HTW8.out.left t9 g9)
          have HB9 := Lib.hid (g9.below HB8.out (Nat.le_refl _) (fun i hi => by have := HTW8.out.t.of_ge i hi; omega))
          have HX9 := Lib.hid (HX8.out.touch g9.touch (fun h => by have := HTW8.out.t.of_ge _ h; omega))
          have HO9 := Lib.hid o9
          have HLT9 := Lib.hid HTW8.out.u.of_lt
          have hx9 := HX9.out.lt
          clear o9 t9 g9 C4
          go_wp2_with fail
          refine ThenS.mk ((HS.out _).2 HX9.out) ?_
          refine wpSteps_more ?_
          have C5 := Lib.hid (CU.out w9 _ _ HTW9.out.u (by omega))
          go_wp2_with fail
          refine C5.out.mono ?_
          rintro e wa ⟨vb, rfl, oa, v10, ta, ga⟩
          obtain ⟨adb2, cb2, rfl, _⟩ := own_shape oa
          have HBa := Lib.hid (ga.below HB9.out (Nat.le_refl _) (fun i hi => by have := HTW9.out.u.of_ge i hi; omega))
          have HXa := Lib.hid (HX9.out.touch ga.touch (fun h => by have := HTW9.out.u.of_ge _ h; omega))
          have HOA := Lib.hid (own_stays HO9.out (w' := wa) (fun i hi => ga.touch.block i (own_lt HO9.out i hi) (fun ho => by
            have h1 := own_ge HO9.out i hi
            have h2 := HLT9.out i ho
            omega)))
          have C6 := Lib.hid (sameEv_any ad9 adb2 c9 cb2 HOA.out oa (by omega))
          have hxa := HXa.out.lt
          clear oa ta ga C5
          go_wp2_with fail
          refine ThenS.mk ((HS.out _).2 HXa.out) ?_
          refine wpSteps_more ?_
          go_wp2_with fail
          refine C6.out.mono ?_
          rintro e wb ⟨b, rfl, hbq, bb⟩
          obtain rfl := hbq (by first | rfl | trivial)
          have HBb := Lib.hid (HBa.out.trans (bb.mono HBa.out.size))
          have HXb := Lib.hid (HXa.out.below bb hxa)
          clear bb hbq C6
          go_wp2_with fail
          refine ThenS.mk ((HS.out _).2 HXb.out) ?_
          refine wpSteps_more ?_
          go_wp2_with fail
          refine ThenS.mk ((HS.out _).2 HXb.out) ?_
          refine wpSteps_last ?_
          go_wp2
          go_ret
          exact ⟨rfl, HBb.out⟩
theorem watcherOrder_walk {H : Type} {enc : TypeId × Value → H} {base0 base1 : Nat} {p0 p1 : List MemPlace} (W : World) (hm : Mx W) (v0 : Value) (d0 : DataW H) (hv0 : Value.okWide Tryd.prog W .any base0 25 v0) (h0 : DataW.Trod enc Tryd.prog W 0 (fun _ => true) true 25 v0 d0 p0) (b0 : Rows.uptoBulk d0 ≤ 1048576)
    (v1 : Value) (d1 : DataW H) (hv1 : Value.okWide Tryd.prog W .any base1 36 v1) (h1 : DataW.Trod enc Tryd.prog W 0 (fun _ => true) true 36 v1 d1 p1) (b1 : Rows.uptoBulk d1 ≤ 1048576) :
    Calls Tryd.prog 6 #[v0, v1] W fun e W' => e = .returned (.bool true) ∧ Below W.heap.size W W' := by
  obtain ⟨a, len, cap, xs, rfl, hP, h1', h2'⟩ := open_ws hv0 h0 b0
  obtain ⟨q, rfl⟩ := open_ev hv1 h1
  by_cases hb : 400 < len
  · exact order_big W hm a len cap q (by omega) hb
  · exact order_core W hm a len cap xs hP q (by omega)
end Go.Proofs.YtmcjpochpmiipaaDoor

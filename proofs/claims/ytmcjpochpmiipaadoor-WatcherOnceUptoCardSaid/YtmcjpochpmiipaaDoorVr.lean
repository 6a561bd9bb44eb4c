/- watcher: the walk of WatcherOnce. Conditions: the script lies in memory, its paths are not longer than 1 MiB; the library's variable is there. -/
import Derived.Test.YtmcjpochpmiipaaDoorVp
namespace Go.Proofs.YtmcjpochpmiipaaDoor
open Go Go.RowKit Go.ChangeShapes Go.WideShapes Go.ChangeAt
set_option linter.unusedVariables false
set_option linter.unusedSimpArgs false

theorem once_big (W : World) (hx : Mx W) (a0 : Option Addr) (len cap : Nat) (q : Ev) (hm : len ≤ maxLen) (hb : 400 < len) :
    Calls Tryd.prog 4 #[.slice a0 len cap, ev q] W fun e W' => e = .returned (.bool true) ∧ Below W.heap.size W W' := by
  unfold maxLen at hm
  have B0 := Lib.hid ((Below.refl W.heap.size W).alloc (Nat.le_refl _) (.cells #[.int .i64 q.1, .int .i64 q.2.1, .string q.2.2] 36))
  have C0 := Lib.hid (new_any (W.alloc (.cells #[.int .i64 q.1, .int .i64 q.2.1, .string q.2.2] 36)))
  have HX := Lib.hid hx
  clear hx
  unfold ev
  go_enter Tryd.func4, Tryd.ntmps4
  go_wp2_with fail
  refine C0.out.mono ?_
  rintro e w1 ⟨rfl, t1, b1⟩
  have HB1 := Lib.hid (B0.out.trans (b1.mono B0.out.size))
  have C1 := Lib.hid (alive_any w1 (HX.out.below HB1.out))
  clear t1 b1 C0
  go_wp2_with fail
  refine C1.out.mono ?_
  rintro e w2 ⟨rfl, b2⟩
  go_wp2
  go_ret
  exact ⟨rfl, HB1.out.trans (b2.mono HB1.out.size)⟩
set_option maxRecDepth 100000 in
set_option maxHeartbeats 4000000 in
theorem once_core (W : World) (hx : Mx W) (a0 : Option Addr) (len cap : Nat) (os : List Op9) (hP : OpsAt W a0 len os) (q : Ev) (hm : len ≤ 400) :
    Calls Tryd.prog 4 #[.slice a0 len cap, ev q] W fun e W' => e = .returned (.bool true) ∧ Below W.heap.size W W' := by
  have B0 := Lib.hid ((Below.refl W.heap.size W).alloc (Nat.le_refl _) (.cells #[.int .i64 q.1, .int .i64 q.2.1, .string q.2.2] 36))
  have HX0 := Lib.hid (Box.new W 36 #[.int .i64 q.1, .int .i64 q.2.1, .string q.2.2])
  have C0 := new_any (W.alloc (.cells #[.int .i64 q.1, .int .i64 q.2.1, .string q.2.2] 36))
  simp only [World.size_alloc] at C0
  replace C0 := Lib.hid C0
  have HP := Lib.hid hP
  have HMX := Lib.hid hx
  have h0 : 0 < W.heap.size := by have := hx.lt; omega
  clear hP hx
  unfold ev
  go_enter Tryd.func4, Tryd.ntmps4
  go_wp2_with fail
  refine C0.out.mono ?_
  rintro e w1 ⟨rfl, t1, b1⟩
  have HT1 := Lib.hid t1
  have HX1 := Lib.hid (HX0.out.below b1 (Nat.lt_succ_self _))
  have HB1 := Lib.hid (B0.out.trans (b1.mono (Nat.le_succ _)))
  clear t1 b1 C0 HX0 B0
  go_wp2
  go_loopw [25] (fun i wr => ∃ (k : Nat) (v' : Value), k ≤ len ∧ i = .int .i64 k ∧ Tab wr (W.heap.size + 1) (W.heap.size + 1) v' (playL (os.take k) []) ∧ Box wr W.heap.size 36 #[.int .i64 q.1, .int .i64 q.2.1, .string q.2.2] ∧ Below W.heap.size W wr) (fun i _ => len - (intOf i).toNat)
  case atStart => exact ⟨0, _, Nat.zero_le _, rfl, HT1.out, HX1.out, HB1.out⟩
  case round =>
    rename World => w5
    obtain ⟨k, v', hk, rfl, ht, hbx, hb⟩ := hrel
    obtain ⟨L, hLe⟩ : ∃ L, L = playL (os.take k) [] := ⟨_, rfl⟩
    have hg : Good L := by rw [hLe]; exact good_play _ good_nil
    rw [← hLe] at ht
    have hnext := fun o h => play_next (os := os) (k := k) (o := o) h []
    rw [← hLe] at hnext
    have HNX := Lib.hid hnext
    have HG := Lib.hid hg
    have hll : L.length ≤ 500 := hg.2
    clear hLe hnext hg
    have h36 := hbx.lt
    have hwb := hb.size
    by_cases hlt : k < len
    · obtain ⟨bb, off, o, rfl, ho, hbb, hz, d0, d1, d2, d3, d4, d5, d6, d7⟩ := HP.out.get k hlt
      rw [← hb.cell (p := ⟨bb, _, none⟩) hbb] at d0 d1 d2 d3 d4 d5 d6 d7
      have hbr : bb < w5.heap.size := Nat.lt_of_lt_of_le hbb hb.size
      have B1 := Lib.hid ((Below.refl w5.heap.size w5).alloc (Nat.le_refl _) (.cells #[.int .i64 o.1, .int .i64 o.2.1, .int .i64 o.2.2.1.1, .string o.2.2.1.2.1, .bool o.2.2.1.2.2, .int .i64 o.2.2.2.1, .int .i64 o.2.2.2.2.1, .string o.2.2.2.2.2] 38))
      have C1 := does_any (bm := 0) (M := []) o none 0 (ht.alloc (.cells #[.int .i64 o.1, .int .i64 o.2.1, .int .i64 o.2.2.1.1, .string o.2.2.1.2.1, .bool o.2.2.1.2.2, .int .i64 o.2.2.2.1, .int .i64 o.2.2.2.2.1, .string o.2.2.2.2.2] 38)) (World.ownsRow_nil _ _ _ _) (by rw [World.size_alloc]; omega) (Nat.zero_le _) (by omega) HG.out good_nil ((HMX.out.below hb).below B1.out) (by omega)
      have HLE := Lib.hid (HNX.out o ho)
      have HT := Lib.hid ht
      have HB := Lib.hid (hb.alloc hb.size (.cells #[.int .i64 o.1, .int .i64 o.2.1, .int .i64 o.2.2.1.1, .string o.2.2.1.2.1, .bool o.2.2.1.2.2, .int .i64 o.2.2.2.1, .int .i64 o.2.2.2.2.1, .string o.2.2.2.2.2] 38))
      have HBX := Lib.hid (hbx.alloc (.cells #[.int .i64 o.1, .int .i64 o.2.1, .int .i64 o.2.2.1.1, .string o.2.2.1.2.1, .bool o.2.2.1.2.2, .int .i64 o.2.2.2.1, .int .i64 o.2.2.2.2.1, .string o.2.2.2.2.2] 38))
      unfold opv at C1
      obtain ⟨L2, hL2⟩ : ∃ L2, L2 = stepL L o := ⟨_, rfl⟩
      unfold Stepped at C1
      rw [← hL2] at C1 HLE
      simp only [List.length_nil] at C1
      replace C1 := Lib.hid C1
      clear ht hb ho hz hL2 HNX hbx
      go_wp2_with fail
      refine C1.out.mono ?_
      rintro e w2 ⟨v2, vm2, b, rfl, t2, g2, _, _⟩
      have HT2 := Lib.hid t2
      have HB2 := Lib.hid (g2.below HB.out (Nat.le_refl _) (fun i hi => by have := HT.out.of_ge i hi; omega))
      have HBX2 := Lib.hid (HBX.out.touch g2.touch (fun h => by have := HT.out.of_ge _ h; omega))
      clear t2 g2 C1 d0 d1 d2 d3 d4 d5 d6 d7
      go_wp2
      go_roundw
      case rel => exact ⟨k + 1, v2, by omega, by go_num, by rw [HLE.out]; exact HT2.out, HBX2.out, HB2.out⟩
      case measure => simp [intOf]; omega
    · have C3 := fire_any q ht (by omega) (by omega)
      obtain ⟨FE, hFE⟩ : ∃ FE, FE = firedE q.2.1 q.2.2 L := ⟨_, rfl⟩
      obtain ⟨FL, hFL⟩ : ∃ FL, FL = fireL q.2.1 q.2.2 L := ⟨_, rfl⟩
      have hfl : FE.length ≤ 500 := by rw [hFE]; exact Nat.le_trans (firedE_len _ _ _) hll
      have hfll : FL.length ≤ 500 := by rw [hFL]; exact Nat.le_trans (List.length_filter_le _ _) hll
      have HAT := Lib.hid (show ∀ e ∈ FE, e.2.1 = q.2.1 ∧ e.2.2 = q.2.2 by rw [hFE]; exact fun e he => firedE_at he)
      have HLT := Lib.hid (show ∀ j e f, FE[j]? = some e → FE[j + 1]? = some f → e.1 < f.1 by rw [hFE]; exact fun j e f he hf => firedE_lt HG.out.1 he hf)
      have HAG := Lib.hid (show firedE q.2.1 q.2.2 FL = [] by rw [hFL]; exact fired_again _ _ _)
      rw [← hFE, ← hFL] at C3
      replace C3 := Lib.hid C3
      have HT := Lib.hid ht
      have HBX := Lib.hid hbx
      have HB := Lib.hid hb
      have e0 : w5.cell? ⟨W.heap.size, 0, none⟩ = some (.int .i64 q.1) := hbx.cell 0
      have e1 : w5.cell? ⟨W.heap.size, 1, none⟩ = some (.int .i64 q.2.1) := hbx.cell 1
      have e2 : w5.cell? ⟨W.heap.size, 2, none⟩ = some (.string q.2.2) := hbx.cell 2
      unfold ev at C3
      clear ht hb hbx hFE hFL HNX HG
      go_wp2_with fail
      refine C3.out.mono ?_
      rintro e w6 ⟨vt, rfl, o6, v6, t6, g6⟩
      obtain ⟨ad, c, rfl, _⟩ := own_shape o6
      have HO6 := Lib.hid o6
      have HT6 := Lib.hid t6
      have HB6 := Lib.hid (g6.below HB.out (Nat.le_refl _) (fun i hi => by have := HT.out.of_ge i hi; omega))
      have HX6 := Lib.hid (HBX.out.touch g6.touch (fun h => by have := HT.out.of_ge _ h; omega))
      clear o6 t6 g6 C3 e0 e1 e2 HT HBX HB
      go_wp2
      go_loopw [38] (fun i wr => ∃ k : Nat, k ≤ FE.length ∧ i = .int .i64 k ∧ Below w6.heap.size w6 wr) (fun i _ => FE.length - (intOf i).toNat)
      case atStart => exact ⟨0, Nat.zero_le _, rfl, Below.refl _ _⟩
      case round =>
        rename World => wr
        obtain ⟨t, htl, rfl, hbel⟩ := hrel
        have HW := Lib.hid hbel
        have HOr := Lib.hid (own_below HO6.out hbel (Nat.le_refl _))
        have HXr := Lib.hid (HX6.out.below hbel HX6.out.lt)
        have hxl := HXr.out.lt
        clear hbel
        by_cases hlt2 : t < FE.length
        · obtain ⟨f, hf⟩ : ∃ f, FE[t]? = some f := ⟨_, List.getElem?_eq_getElem hlt2⟩
          obtain ⟨g, cap2, he, hgl, _⟩ := eown_cells HOr.out t f hf
          obtain ⟨rfl, rfl⟩ : ad = some ⟨g, 0, none⟩ ∧ c = cap2 := by simpa using he
          obtain ⟨f0, rfl⟩ : ∃ f0 : Int, f = (f0, q.2.1, q.2.2) := ⟨f.1, by obtain ⟨h1, h2⟩ := HAT.out f (List.mem_of_getElem? hf); rw [← h1, ← h2]⟩
          have HF := Lib.hid hf
          clear he hf
          by_cases ht0 : 0 < t
          · obtain ⟨j, rfl⟩ : ∃ j, t = j + 1 := ⟨t - 1, by omega⟩
            obtain ⟨p, hp⟩ : ∃ p, FE[j]? = some p := ⟨_, List.getElem?_eq_getElem (by omega)⟩
            have hpf := HLT.out j p _ hp HF.out
            simp only at hpf
            have HPJ := Lib.hid hp
            have hj : j < FE.length := by omega
            have hd : decide ((0 : Int) < (((j + 1 : Nat)) : Int)) = true := decide_eq_true (by omega)
            have hwr : IntKind.i64.wrap ((j : Nat) : Int) = (j : Int) := IntWalk.i64_in _ (by omega)
            have hge : decide (f0 ≤ p.1) = false := decide_eq_false (by omega)
            clear hp
            go_wp2
            refine wp_region_below (w0 := wr) (B := wr.heap.size) (by kernel_rfl) (by kernel_rfl) (Below.refl _ _) ?_
            go_big_quiet_want; go_big_quiet_op; go_big_quiet_on
            go_big_quiet_want; go_big_quiet_op; go_big_quiet_on
            go_big_quiet_want; apply quiet_value; (· (intro w hw; go_simp; try rfl)); simp only [Act.put, List.setIfInBounds_toArray, List.set_cons_succ, List.set_cons_zero]; go_big_quiet_on
            go_big_quiet_want; apply quiet_value; (· (intro w hw; go_simp; try rfl)); simp only [Act.put, List.setIfInBounds_toArray, List.set_cons_succ, List.set_cons_zero]; go_big_quiet_on
            go_big_quiet_want; apply quiet_value; (· (intro w hw; obtain ⟨c0, c1, c2⟩ := eown_at (own_below HOr.out hw (Nat.le_refl _)) (j + 1) _ HF.out; go_simp; try rfl)); simp only [Act.put, List.setIfInBounds_toArray, List.set_cons_succ, List.set_cons_zero]; go_big_quiet_on
            go_big_quiet_want; apply quiet_value; (· (intro w hw; go_simp; try rfl)); simp only [Act.put, List.setIfInBounds_toArray, List.set_cons_succ, List.set_cons_zero]; go_big_quiet_on
            go_big_quiet_want; apply quiet_value; (· (intro w hw; have x1 : w.cell? ⟨W.heap.size, 1, none⟩ = some (.int .i64 q.2.1) := (HXr.out.below hw HXr.out.lt).cell 1; have x2 : w.cell? ⟨W.heap.size, 2, none⟩ = some (.string q.2.2) := (HXr.out.below hw HXr.out.lt).cell 2; go_simp; try rfl)); simp only [Act.put, List.setIfInBounds_toArray, List.set_cons_succ, List.set_cons_zero]; go_big_quiet_on
            go_big_quiet_want; apply quiet_value (v := .bool false); (· (intro w hw; go_simp; try rfl)); simp only [Act.put, List.setIfInBounds_toArray, List.set_cons_succ, List.set_cons_zero]; go_big_quiet_on
            go_big_quiet_want; go_big_quiet_op; go_big_quiet_on
            go_big_quiet_want; go_big_quiet_op; go_big_quiet_on
            go_big_quiet_want; go_big_quiet_op; go_big_quiet_on
            go_big_quiet_want; apply quiet_value; (· (intro w hw; go_simp; try rfl)); simp only [Act.put, List.setIfInBounds_toArray, List.set_cons_succ, List.set_cons_zero]; go_big_quiet_on
            go_big_quiet_want; apply quiet_value; (· (intro w hw; go_simp; try rfl)); simp only [Act.put, List.setIfInBounds_toArray, List.set_cons_succ, List.set_cons_zero]; go_big_quiet_on
            go_big_quiet_want; apply quiet_value; (· (intro w hw; obtain ⟨c0, c1, c2⟩ := eown_at (own_below HOr.out hw (Nat.le_refl _)) (j + 1) _ HF.out; go_simp; try rfl)); simp only [Act.put, List.setIfInBounds_toArray, List.set_cons_succ, List.set_cons_zero]; go_big_quiet_on
            go_big_quiet_want; apply quiet_value; (· (intro w hw; go_simp; try rfl)); simp only [Act.put, List.setIfInBounds_toArray, List.set_cons_succ, List.set_cons_zero]; go_big_quiet_on
            go_big_quiet_want; apply quiet_value; (· (intro w hw; have x1 : w.cell? ⟨W.heap.size, 1, none⟩ = some (.int .i64 q.2.1) := (HXr.out.below hw HXr.out.lt).cell 1; have x2 : w.cell? ⟨W.heap.size, 2, none⟩ = some (.string q.2.2) := (HXr.out.below hw HXr.out.lt).cell 2; go_simp; try rfl)); simp only [Act.put, List.setIfInBounds_toArray, List.set_cons_succ, List.set_cons_zero]; go_big_quiet_on
            go_big_quiet_want; apply quiet_value (v := .bool false); (· (intro w hw; go_simp; try rfl)); simp only [Act.put, List.setIfInBounds_toArray, List.set_cons_succ, List.set_cons_zero]; go_big_quiet_on
            go_big_quiet_want; apply quiet_value (v := .bool false); (· (intro w hw; go_simp; try rfl)); simp only [Act.put, List.setIfInBounds_toArray, List.set_cons_succ, List.set_cons_zero]; go_big_quiet_on
            go_big_quiet_want; go_big_quiet_op; go_big_quiet_on
            go_big_quiet_want; go_big_quiet_op; go_big_quiet_on
            go_big_quiet_want; apply quiet_value (v := .bool true); (· (intro w hw; go_simp; try rfl)); simp only [Act.put, List.setIfInBounds_toArray, List.set_cons_succ, List.set_cons_zero]; go_big_quiet_on
            go_big_quiet_want; go_big_quiet_op; go_big_quiet_on
            go_big_quiet_want; go_big_quiet_op; go_big_quiet_on
            go_big_quiet_want; go_big_quiet_op; go_big_quiet_on
            go_big_quiet_want; apply quiet_value (v := .int .i64 (j : Int)); (· (intro w hw; go_simp; try rfl)); simp only [Act.put, List.setIfInBounds_toArray, List.set_cons_succ, List.set_cons_zero]; go_big_quiet_on
            go_big_quiet_want; apply quiet_value; (· (intro w hw; go_simp; try rfl)); simp only [Act.put, List.setIfInBounds_toArray, List.set_cons_succ, List.set_cons_zero]; go_big_quiet_on
            go_big_quiet_want; apply quiet_value; (· (intro w hw; go_simp; try rfl)); simp only [Act.put, List.setIfInBounds_toArray, List.set_cons_succ, List.set_cons_zero]; go_big_quiet_on
            go_big_quiet_want; apply quiet_value; (· (intro w hw; obtain ⟨c0, c1, c2⟩ := eown_at (own_below HOr.out hw (Nat.le_refl _)) (j) _ HPJ.out; go_simp; try rfl)); simp only [Act.put, List.setIfInBounds_toArray, List.set_cons_succ, List.set_cons_zero]; go_big_quiet_on
            go_big_quiet_want; go_big_quiet_op; go_big_quiet_on
            go_big_quiet_want; go_big_quiet_op; go_big_quiet_on
            go_big_quiet_want; apply quiet_value; (· (intro w hw; go_simp; try rfl)); simp only [Act.put, List.setIfInBounds_toArray, List.set_cons_succ, List.set_cons_zero]; go_big_quiet_on
            go_big_quiet_want; apply quiet_value; (· (intro w hw; go_simp; try rfl)); simp only [Act.put, List.setIfInBounds_toArray, List.set_cons_succ, List.set_cons_zero]; go_big_quiet_on
            go_big_quiet_want; apply quiet_value; (· (intro w hw; obtain ⟨c0, c1, c2⟩ := eown_at (own_below HOr.out hw (Nat.le_refl _)) (j + 1) _ HF.out; go_simp; try rfl)); simp only [Act.put, List.setIfInBounds_toArray, List.set_cons_succ, List.set_cons_zero]; go_big_quiet_on
            go_big_quiet_want; apply quiet_value (v := .bool false); (· (intro w hw; go_simp; try rfl)); simp only [Act.put, List.setIfInBounds_toArray, List.set_cons_succ, List.set_cons_zero]; go_big_quiet_on
            go_big_quiet_want; apply quiet_value (v := .bool false); (· (intro w hw; go_simp; try rfl)); simp only [Act.put, List.setIfInBounds_toArray, List.set_cons_succ, List.set_cons_zero]; go_big_quiet_on
            go_big_quiet_want; apply quiet_value (v := .bool false); (· (intro w hw; go_simp; try rfl)); simp only [Act.put, List.setIfInBounds_toArray, List.set_cons_succ, List.set_cons_zero]; go_big_quiet_on
            refine wpQuiet_nil ?_
            intro w3 b3
            have HW3 := Lib.hid (HW.out.trans (b3.mono HW.out.size))
            clear b3
            go_wp2
            go_roundw
            case rel => exact ⟨j + 1 + 1, by omega, by go_num, HW3.out⟩
            case measure => simp [intOf]; omega
          · have hd : decide ((0 : Int) < (t : Int)) = false := decide_eq_false (by omega)
            go_wp2
            refine wp_region_below (w0 := wr) (B := wr.heap.size) (by kernel_rfl) (by kernel_rfl) (Below.refl _ _) ?_
            go_big_quiet_want; go_big_quiet_op; go_big_quiet_on
            go_big_quiet_want; go_big_quiet_op; go_big_quiet_on
            go_big_quiet_want; apply quiet_value; (· (intro w hw; go_simp; try rfl)); simp only [Act.put, List.setIfInBounds_toArray, List.set_cons_succ, List.set_cons_zero]; go_big_quiet_on
            go_big_quiet_want; apply quiet_value; (· (intro w hw; go_simp; try rfl)); simp only [Act.put, List.setIfInBounds_toArray, List.set_cons_succ, List.set_cons_zero]; go_big_quiet_on
            go_big_quiet_want; apply quiet_value; (· (intro w hw; obtain ⟨c0, c1, c2⟩ := eown_at (own_below HOr.out hw (Nat.le_refl _)) (t) _ HF.out; go_simp; try rfl)); simp only [Act.put, List.setIfInBounds_toArray, List.set_cons_succ, List.set_cons_zero]; go_big_quiet_on
            go_big_quiet_want; apply quiet_value; (· (intro w hw; go_simp; try rfl)); simp only [Act.put, List.setIfInBounds_toArray, List.set_cons_succ, List.set_cons_zero]; go_big_quiet_on
            go_big_quiet_want; apply quiet_value; (· (intro w hw; have x1 : w.cell? ⟨W.heap.size, 1, none⟩ = some (.int .i64 q.2.1) := (HXr.out.below hw HXr.out.lt).cell 1; have x2 : w.cell? ⟨W.heap.size, 2, none⟩ = some (.string q.2.2) := (HXr.out.below hw HXr.out.lt).cell 2; go_simp; try rfl)); simp only [Act.put, List.setIfInBounds_toArray, List.set_cons_succ, List.set_cons_zero]; go_big_quiet_on
            go_big_quiet_want; apply quiet_value (v := .bool false); (· (intro w hw; go_simp; try rfl)); simp only [Act.put, List.setIfInBounds_toArray, List.set_cons_succ, List.set_cons_zero]; go_big_quiet_on
            go_big_quiet_want; go_big_quiet_op; go_big_quiet_on
            go_big_quiet_want; go_big_quiet_op; go_big_quiet_on
            go_big_quiet_want; go_big_quiet_op; go_big_quiet_on
            go_big_quiet_want; apply quiet_value; (· (intro w hw; go_simp; try rfl)); simp only [Act.put, List.setIfInBounds_toArray, List.set_cons_succ, List.set_cons_zero]; go_big_quiet_on
            go_big_quiet_want; apply quiet_value; (· (intro w hw; go_simp; try rfl)); simp only [Act.put, List.setIfInBounds_toArray, List.set_cons_succ, List.set_cons_zero]; go_big_quiet_on
            go_big_quiet_want; apply quiet_value; (· (intro w hw; obtain ⟨c0, c1, c2⟩ := eown_at (own_below HOr.out hw (Nat.le_refl _)) (t) _ HF.out; go_simp; try rfl)); simp only [Act.put, List.setIfInBounds_toArray, List.set_cons_succ, List.set_cons_zero]; go_big_quiet_on
            go_big_quiet_want; apply quiet_value; (· (intro w hw; go_simp; try rfl)); simp only [Act.put, List.setIfInBounds_toArray, List.set_cons_succ, List.set_cons_zero]; go_big_quiet_on
            go_big_quiet_want; apply quiet_value; (· (intro w hw; have x1 : w.cell? ⟨W.heap.size, 1, none⟩ = some (.int .i64 q.2.1) := (HXr.out.below hw HXr.out.lt).cell 1; have x2 : w.cell? ⟨W.heap.size, 2, none⟩ = some (.string q.2.2) := (HXr.out.below hw HXr.out.lt).cell 2; go_simp; try rfl)); simp only [Act.put, List.setIfInBounds_toArray, List.set_cons_succ, List.set_cons_zero]; go_big_quiet_on
            go_big_quiet_want; apply quiet_value (v := .bool false); (· (intro w hw; go_simp; try rfl)); simp only [Act.put, List.setIfInBounds_toArray, List.set_cons_succ, List.set_cons_zero]; go_big_quiet_on
            go_big_quiet_want; apply quiet_value (v := .bool false); (· (intro w hw; go_simp; try rfl)); simp only [Act.put, List.setIfInBounds_toArray, List.set_cons_succ, List.set_cons_zero]; go_big_quiet_on
            go_big_quiet_want; go_big_quiet_op; go_big_quiet_on
            go_big_quiet_want; go_big_quiet_op; go_big_quiet_on
            go_big_quiet_want; apply quiet_value (v := .bool false); (· (intro w hw; go_simp; try rfl)); simp only [Act.put, List.setIfInBounds_toArray, List.set_cons_succ, List.set_cons_zero]; go_big_quiet_on
            go_big_quiet_want; go_big_quiet_op; go_big_quiet_on
            go_big_quiet_skip
            go_big_quiet_skip
            go_big_quiet_skip
            go_big_quiet_skip
            go_big_quiet_skip
            go_big_quiet_skip
            go_big_quiet_skip
            go_big_quiet_skip
            go_big_quiet_skip
            go_big_quiet_skip
            go_big_quiet_skip
            go_big_quiet_skip
            go_big_quiet_want; apply quiet_value (v := .bool false); (· (intro w hw; go_simp; try rfl)); simp only [Act.put, List.setIfInBounds_toArray, List.set_cons_succ, List.set_cons_zero]; go_big_quiet_on
            go_big_quiet_want; apply quiet_value (v := .bool false); (· (intro w hw; go_simp; try rfl)); simp only [Act.put, List.setIfInBounds_toArray, List.set_cons_succ, List.set_cons_zero]; go_big_quiet_on
            refine wpQuiet_nil ?_
            intro w3 b3
            have HW3 := Lib.hid (HW.out.trans (b3.mono HW.out.size))
            clear b3
            go_wp2
            go_roundw
            case rel => exact ⟨t + 1, by omega, by go_num, HW3.out⟩
            case measure => simp [intOf]; omega
        · have HBr := Lib.hid (HB6.out.trans (HW.out.mono HB6.out.size))
          have HTr := Lib.hid (HT6.out.below HW.out (Nat.le_refl _))
          have C4 := Lib.hid (alive_any wr (HMX.out.below HBr.out))
          go_wp2_with fail
          refine C4.out.mono ?_
          rintro e w7 ⟨rfl, b7⟩
          have HB7 := Lib.hid (HBr.out.trans (b7.mono HBr.out.size))
          have HT7 := Lib.hid (HTr.out.below b7 (Nat.le_refl _))
          have HX7 := Lib.hid (HXr.out.below b7 HXr.out.lt)
          have C5 := fire_any q HT7.out (by have := HX7.out.lt; omega) (by omega)
          rw [HAG.out] at C5
          simp only [List.length_nil] at C5
          unfold ev at C5
          replace C5 := Lib.hid C5
          have e0 : w7.cell? ⟨W.heap.size, 0, none⟩ = some (.int .i64 q.1) := HX7.out.cell 0
          have e1 : w7.cell? ⟨W.heap.size, 1, none⟩ = some (.int .i64 q.2.1) := HX7.out.cell 1
          have e2 : w7.cell? ⟨W.heap.size, 2, none⟩ = some (.string q.2.2) := HX7.out.cell 2
          have hx7 := HX7.out.lt
          clear b7 C4
          go_wp2_with fail
          refine C5.out.mono ?_
          rintro e w8 ⟨vt, rfl, o8, v8, t8, g8⟩
          obtain ⟨ad8, c8, rfl, _⟩ := own_shape o8
          have HB8 := Lib.hid (g8.below HB7.out (Nat.le_refl _) (fun i hi => by have := HT7.out.of_ge i hi; omega))
          clear o8 t8 g8 C5 e0 e1 e2
          go_wp2
          go_ret
          exact ⟨rfl, HB8.out⟩
theorem watcherOnce_walk {H : Type} {enc : TypeId × Value → H} {base0 base1 : Nat} {p0 p1 : List MemPlace} (W : World) (hm : Mx W) (v0 : Value) (d0 : DataW H) (hv0 : Value.okWide Tryd.prog W .any base0 34 v0) (h0 : DataW.Trod enc Tryd.prog W 0 (fun _ => true) true 34 v0 d0 p0) (b0 : Rows.uptoBulk d0 ≤ 1048576)
    (v1 : Value) (d1 : DataW H) (hv1 : Value.okWide Tryd.prog W .any base1 36 v1) (h1 : DataW.Trod enc Tryd.prog W 0 (fun _ => true) true 36 v1 d1 p1) (b1 : Rows.uptoBulk d1 ≤ 1048576) :
    Calls Tryd.prog 4 #[v0, v1] W fun e W' => e = .returned (.bool true) ∧ Below W.heap.size W W' := by
  obtain ⟨a, len, cap, os, rfl, hP, h1', h2'⟩ := open_ops hv0 h0 b0
  obtain ⟨q, rfl⟩ := open_ev hv1 h1
  by_cases hb : 400 < len
  · exact once_big W hm a len cap q (by omega) hb
  · exact once_core W hm a len cap os hP q (by omega)
end Go.Proofs.YtmcjpochpmiipaaDoor

/- watcher: the walk of WatcherAll. Conditions: the script lies in memory, its paths are not longer than 1 MiB; the library's variable is there. -/
import Derived.Test.YtmcjpochpmiipaaDoorVp
namespace Go.Proofs.YtmcjpochpmiipaaDoor
open Go Go.RowKit Go.ChangeShapes Go.WideShapes Go.ChangeAt
set_option linter.unusedVariables false
set_option linter.unusedSimpArgs false

theorem all_big (W : World) (hx : Mx W) (a0 : Option Addr) (len cap : Nat) (hm : len ≤ maxLen) (hb : 400 < len) :
    Calls Tryd.prog 7 #[.slice a0 len cap] W fun e W' => e = .returned (.bool true) ∧ Below W.heap.size W W' := by
  unfold maxLen at hm
  have C0 := Lib.hid (new_any W)
  go_enter Tryd.func7, Tryd.ntmps7
  go_wp2_with fail
  refine C0.out.mono ?_
  rintro e w1 ⟨rfl, t1, b1⟩
  have HB1 := Lib.hid b1
  have C1 := Lib.hid (alive_any w1 (hx.below b1))
  clear t1 b1 C0
  go_wp2_with fail
  refine C1.out.mono ?_
  rintro e w2 ⟨rfl, b2⟩
  go_wp2
  go_ret
  exact ⟨rfl, HB1.out.trans (b2.mono HB1.out.size)⟩
set_option maxRecDepth 100000 in
set_option maxHeartbeats 2000000 in
theorem all_core (W : World) (hx : Mx W) (a0 : Option Addr) (len cap : Nat) (os : List Op9) (hP : OpsAt W a0 len os) (hm : len ≤ 400) :
    Calls Tryd.prog 7 #[.slice a0 len cap] W fun e W' => e = .returned (.bool true) ∧ Below W.heap.size W W' := by
  have C0 := Lib.hid (new_any W)
  have HP := Lib.hid hP
  have HMX := Lib.hid hx
  have h0 : 0 < W.heap.size := by have := hx.lt; omega
  clear hP hx
  go_enter Tryd.func7, Tryd.ntmps7
  go_wp2_with fail
  refine C0.out.mono ?_
  rintro e w1 ⟨rfl, t1, b1⟩
  have HT1 := Lib.hid t1
  have HB1 := Lib.hid b1
  clear t1 b1 C0
  go_wp2
  go_loopw [4, 24] (fun lv i wr => ∃ (k : Nat) (v' vm : Value), k ≤ len ∧ lv = vm ∧ i = .int .i64 k ∧ Tab wr W.heap.size W.heap.size v' (playL (os.take k) []) ∧ wr.ownsRow W.heap.size 29 3 vm (playL (os.take k) []).length (cellsOf (playL (os.take k) [])) ∧ Below W.heap.size W wr) (fun _ i _ => len - (intOf i).toNat)
  case atStart => exact ⟨0, _, _, Nat.zero_le _, rfl, rfl, HT1.out, World.ownsRow_nil _ _ _ _, HB1.out⟩
  case round =>
    rename World => w5
    obtain ⟨k, v', vm, hk, rfl, rfl, ht, hd, hb⟩ := hrel
    obtain ⟨L, hLe⟩ : ∃ L, L = playL (os.take k) [] := ⟨_, rfl⟩
    have hg : Good L := by rw [hLe]; exact good_play _ good_nil
    rw [← hLe] at ht hd
    have hnext := fun o h => play_next (os := os) (k := k) (o := o) h []
    rw [← hLe] at hnext
    have HNX := Lib.hid hnext
    have HG := Lib.hid hg
    have hll : L.length ≤ 500 := hg.2
    clear hLe hnext hg
    obtain ⟨ad, c, rfl, _⟩ := own_shape hd
    by_cases hlt : k < len
    · obtain ⟨bb, off, o, rfl, ho, hbb, hz, d0, d1, d2, d3, d4, d5, d6, d7⟩ := HP.out.get k hlt
      rw [← hb.cell (p := ⟨bb, _, none⟩) hbb] at d0 d1 d2 d3 d4 d5 d6 d7
      have hbr : bb < w5.heap.size := Nat.lt_of_lt_of_le hbb hb.size
      have B1 := Lib.hid ((Below.refl w5.heap.size w5).alloc (Nat.le_refl _) (.cells #[.int .i64 o.1, .int .i64 o.2.1, .int .i64 o.2.2.1.1, .string o.2.2.1.2.1, .bool o.2.2.1.2.2, .int .i64 o.2.2.2.1, .int .i64 o.2.2.2.2.1, .string o.2.2.2.2.2] 38))
      have hq := hb.size
      have C1 := Lib.hid (does_any o ad c (ht.alloc (.cells #[.int .i64 o.1, .int .i64 o.2.1, .int .i64 o.2.2.1.1, .string o.2.2.1.2.1, .bool o.2.2.1.2.2, .int .i64 o.2.2.2.1, .int .i64 o.2.2.2.2.1, .string o.2.2.2.2.2] 38)) (own_below hd B1.out (Nat.le_refl _)) (by rw [World.size_alloc]; omega) (by rw [World.size_alloc]; omega) h0 HG.out HG.out ((HMX.out.below hb).below B1.out) (by omega))
      have HLE := Lib.hid (HNX.out o ho)
      have hsl := step_len L o
      have HT := Lib.hid ht
      have HB := Lib.hid (hb.alloc hb.size (.cells #[.int .i64 o.1, .int .i64 o.2.1, .int .i64 o.2.2.1.1, .string o.2.2.1.2.1, .bool o.2.2.1.2.2, .int .i64 o.2.2.2.1, .int .i64 o.2.2.2.2.1, .string o.2.2.2.2.2] 38))
      have HG2 := Lib.hid (HG.out.step o)
      unfold opv at C1
      obtain ⟨L2, hL2⟩ : ∃ L2, L2 = stepL L o := ⟨_, rfl⟩
      unfold Stepped at C1
      rw [← hL2] at C1 HLE HG2 hsl
      clear ht hd hb ho hz hq hL2 HNX
      go_wp2_with fail
      refine C1.out.mono ?_
      rintro e w2 ⟨v2, vm2, b, rfl, t2, g2, o2, hbq⟩
      obtain rfl := hbq (by first | rfl | trivial)
      obtain ⟨ad2, c2, rfl, _⟩ := own_shape o2
      have HT2 := Lib.hid t2
      have HO2 := Lib.hid o2
      have HB2 := Lib.hid (g2.below HB.out (Nat.le_refl _) HT.out.of_ge)
      have CL := Lib.hid (len_any t2 (by omega))
      clear t2 o2 g2 C1 d0 d1 d2 d3 d4 d5 d6 d7 hbq
      go_wp2_with fail
      refine CL.out.mono ?_
      rintro e w3 ⟨rfl, rfl⟩
      go_wp2
      go_roundw
      case rel => exact ⟨k + 1, v2, _, by omega, rfl, by go_num, by rw [HLE.out]; exact HT2.out, by rw [HLE.out]; exact HO2.out, HB2.out⟩
      case measure => simp [intOf]; omega
    · have C3 := Lib.hid (alive_any w5 (HMX.out.below hb))
      have HT := Lib.hid ht
      have HD := Lib.hid hd
      have HB := Lib.hid hb
      clear ht hd hb
      go_wp2_with fail
      refine C3.out.mono ?_
      rintro e w6 ⟨rfl, b6⟩
      have HT6 := Lib.hid (HT.out.below b6 (Nat.le_refl _))
      have HD6 := Lib.hid (own_below HD.out b6 (Nat.le_refl _))
      have HB6 := Lib.hid (HB.out.trans (b6.mono HB.out.size))
      have C4 := Lib.hid (all_any HT6.out (by omega))
      clear b6 C3
      go_wp2_with fail
      refine C4.out.mono ?_
      rintro e w7 ⟨va, rfl, o7, b7⟩
      obtain ⟨ada, ca, rfl, _⟩ := own_shape o7
      have C5 := Lib.hid (sameW_any ada ad ca c o7 (own_below HD6.out b7 (Nat.le_refl _)) (by omega))
      have HB7 := Lib.hid (HB6.out.trans (b7.mono HB6.out.size))
      clear o7 b7 C4
      go_wp2_with fail
      refine C5.out.mono ?_
      rintro e w8 ⟨b, rfl, hbq, b8⟩
      obtain rfl := hbq (by first | rfl | trivial)
      go_wp2
      go_ret
      exact ⟨rfl, HB7.out.trans (b8.mono HB7.out.size)⟩
theorem watcherAll_walk {H : Type} {enc : TypeId × Value → H} {base : Nat} {p : List MemPlace} (W : World) (hm : Mx W) (v : Value) (d : DataW H) (hv : Value.okWide Tryd.prog W .any base 34 v) (h : DataW.Trod enc Tryd.prog W 0 (fun _ => true) true 34 v d p) (hd : Rows.uptoBulk d ≤ 1048576) :
    Calls Tryd.prog 7 #[v] W fun e W' => e = .returned (.bool true) ∧ Below W.heap.size W W' := by
  obtain ⟨a, len, cap, os, rfl, hP, h1, h2⟩ := open_ops hv h hd
  by_cases hb : 400 < len
  · exact all_big W hm a len cap (by omega) hb
  · exact all_core W hm a len cap os hP (by omega)
end Go.Proofs.YtmcjpochpmiipaaDoor

/- watcher: the walk of WatcherApart. Conditions: the scripts lie in memory, their paths are not longer than 1 MiB; the library's variable is there. -/
import Derived.Test.YtmcjpochpmiipaaDoorVp
namespace Go.Proofs.YtmcjpochpmiipaaDoor
open Go Go.RowKit Go.ChangeShapes Go.WideShapes Go.ChangeAt
set_option linter.unusedVariables false
set_option linter.unusedSimpArgs false

theorem apart_big (W : World) (hx : Mx W) (a0 a1 : Option Addr) (len cap len1 cap1 : Nat) (hm : len ≤ maxLen) (hm1 : len1 ≤ maxLen) (hb : 300 < len) :
    Calls Tryd.prog 8 #[.slice a0 len cap, .slice a1 len1 cap1] W fun e W' => e = .returned (.bool true) ∧ Below W.heap.size W W' := by
  unfold maxLen at hm hm1
  have C0 := Lib.hid (new_any W)
  go_enter Tryd.func8, Tryd.ntmps8
  go_wp2_with fail
  refine C0.out.mono ?_
  rintro e w1 ⟨rfl, t1, b1⟩
  have HB1 := Lib.hid b1
  have C1 := Lib.hid (alive_any w1 (hx.below b1))
  clear t1 b1 C0
  go_wp2_with fail
  refine C1.out.mono ?_
  rintro e w2 ⟨rfl, b2⟩
  go_wp2
  go_ret
  exact ⟨rfl, HB1.out.trans (b2.mono HB1.out.size)⟩
theorem apart_big1 (W : World) (hx : Mx W) (a0 a1 : Option Addr) (len cap len1 cap1 : Nat) (hm : ¬ 300 < len) (hm1 : len1 ≤ maxLen) (hb : 300 < len1) :
    Calls Tryd.prog 8 #[.slice a0 len cap, .slice a1 len1 cap1] W fun e W' => e = .returned (.bool true) ∧ Below W.heap.size W W' := by
  unfold maxLen at hm1
  have C0 := Lib.hid (new_any W)
  go_enter Tryd.func8, Tryd.ntmps8
  go_wp2_with fail
  refine C0.out.mono ?_
  rintro e w1 ⟨rfl, t1, b1⟩
  have HB1 := Lib.hid b1
  have C1 := Lib.hid (alive_any w1 (hx.below b1))
  clear t1 b1 C0
  go_wp2_with fail
  refine C1.out.mono ?_
  rintro e w2 ⟨rfl, b2⟩
  go_wp2
  go_ret
  exact ⟨rfl, HB1.out.trans (b2.mono HB1.out.size)⟩
set_option maxRecDepth 100000 in
set_option maxHeartbeats 8000000 in
theorem apart_core (W : World) (hx : Mx W) (a0 a1 : Option Addr) (len cap len1 cap1 : Nat) (os ps : List Op9) (hP : OpsAt W a0 len os) (hP1 : OpsAt W a1 len1 ps) (hm : len ≤ 300) (hm1 : len1 ≤ 300) :
    Calls Tryd.prog 8 #[.slice a0 len cap, .slice a1 len1 cap1] W fun e W' => e = .returned (.bool true) ∧ Below W.heap.size W W' := by
  have C0 := Lib.hid (new_any W)
  have HP := Lib.hid hP
  have HP1 := Lib.hid hP1
  have HMX := Lib.hid hx
  have h0 : 0 < W.heap.size := by have := hx.lt; omega
  clear hP hP1 hx
  go_enter Tryd.func8, Tryd.ntmps8
  go_wp2_with fail
  refine C0.out.mono ?_
  rintro e w1 ⟨rfl, t1, b1⟩
  have HT1 := Lib.hid t1
  have HB1 := Lib.hid b1
  clear t1 b1 C0
  go_wp2
  go_loopw [6, 39] (fun lv i wr => ∃ (k : Nat) (v' vm : Value), k ≤ len ∧ lv = vm ∧ i = .int .i64 k ∧ Tab wr W.heap.size W.heap.size v' (playL (os.take k) []) ∧ wr.ownsRow W.heap.size 29 3 vm (playL (os.take k) []).length (cellsOf (playL (os.take k) [])) ∧ Below W.heap.size W wr) (fun _ i _ => len - (intOf i).toNat)
  case atStart => exact ⟨0, _, _, Nat.zero_le _, rfl, rfl, HT1.out, World.ownsRow_nil _ _ _ _, HB1.out⟩
  case round =>
    rename World => w5
    obtain ⟨k, v', vm, hk, rfl, rfl, ht, hd, hb⟩ := hrel
    obtain ⟨L, hLe⟩ : ∃ L, L = playL (os.take k) [] := ⟨_, rfl⟩
    have hg : Good L := by rw [hLe]; exact good_play _ good_nil
    rw [← hLe] at ht hd
    have hnext := fun o h => play_next (os := os) (k := k) (o := o) h []
    rw [← hLe] at hnext
    have HNX := Lib.hid hnext
    have HG := Lib.hid hg
    have hll : L.length ≤ 500 := hg.2
    clear hLe hnext hg HB1 HT1
    obtain ⟨ad, c, rfl, _⟩ := own_shape hd
    by_cases hlt : k < len
    · obtain ⟨bb, off, o, rfl, ho, hbb, hz, d0, d1, d2, d3, d4, d5, d6, d7⟩ := HP.out.get k hlt
      rw [← hb.cell (p := ⟨bb, _, none⟩) hbb] at d0 d1 d2 d3 d4 d5 d6 d7
      have hbr : bb < w5.heap.size := Nat.lt_of_lt_of_le hbb hb.size
      have B1 := Lib.hid ((Below.refl w5.heap.size w5).alloc (Nat.le_refl _) (.cells #[.int .i64 o.1, .int .i64 o.2.1, .int .i64 o.2.2.1.1, .string o.2.2.1.2.1, .bool o.2.2.1.2.2, .int .i64 o.2.2.2.1, .int .i64 o.2.2.2.2.1, .string o.2.2.2.2.2] 38))
      have hq := hb.size
      have C1 := Lib.hid (does_any o ad c (ht.alloc (.cells #[.int .i64 o.1, .int .i64 o.2.1, .int .i64 o.2.2.1.1, .string o.2.2.1.2.1, .bool o.2.2.1.2.2, .int .i64 o.2.2.2.1, .int .i64 o.2.2.2.2.1, .string o.2.2.2.2.2] 38)) (own_below hd B1.out (Nat.le_refl _)) (by rw [World.size_alloc]; omega) (by rw [World.size_alloc]; omega) h0 HG.out HG.out ((HMX.out.below hb).below B1.out) (by omega))
      have HLE := Lib.hid (HNX.out o ho)
      have HT := Lib.hid ht
      have HB := Lib.hid (hb.alloc hb.size (.cells #[.int .i64 o.1, .int .i64 o.2.1, .int .i64 o.2.2.1.1, .string o.2.2.1.2.1, .bool o.2.2.1.2.2, .int .i64 o.2.2.2.1, .int .i64 o.2.2.2.2.1, .string o.2.2.2.2.2] 38))
      unfold opv at C1
      obtain ⟨L2, hL2⟩ : ∃ L2, L2 = stepL L o := ⟨_, rfl⟩
      unfold Stepped at C1
      rw [← hL2] at C1 HLE
      clear ht hd hb ho hz hq hL2 HNX
      go_wp2_with fail
      refine C1.out.mono ?_
      rintro e w2 ⟨v2, vm2, b, rfl, t2, g2, o2, hbq⟩
      obtain rfl := hbq (by first | rfl | trivial)
      obtain ⟨ad2, c2, rfl, _⟩ := own_shape o2
      have HT2 := Lib.hid t2
      have HO2 := Lib.hid o2
      have HB2 := Lib.hid (g2.below HB.out (Nat.le_refl _) HT.out.of_ge)
      clear t2 o2 g2 C1 d0 d1 d2 d3 d4 d5 d6 d7 hbq
      go_wp2
      go_roundw
      case rel => exact ⟨k + 1, v2, _, by omega, rfl, by go_num, by rw [HLE.out]; exact HT2.out, by rw [HLE.out]; exact HO2.out, HB2.out⟩
      case measure => simp [intOf]; omega
    · have CC := Lib.hid (clone_any ht (by omega))
      have HT := Lib.hid ht
      have HD := Lib.hid hd
      have HB := Lib.hid hb
      have hwb := hb.size
      obtain ⟨b0, hb0⟩ : ∃ b0, b0 = w5.heap.size := ⟨_, rfl⟩
      rw [← hb0] at CC hwb
      have HE := Lib.hid hb0
      clear ht hd hb HNX hb0
      go_wp2_with fail
      refine CC.out.mono ?_
      rintro e w6 ⟨mu, vu, rfl, tu, b6⟩
      have HU6 := Lib.hid tu
      have HB6 := Lib.hid b6
      have HD6 := Lib.hid (own_below HD.out b6 (by have := HE.out; omega))
      clear tu b6 CC
      go_wp2
      go_loopw [12, 59] (fun lv i wr => ∃ (t : Nat) (v' vm : Value), t ≤ len1 ∧ lv = vm ∧ i = .int .i64 t ∧ Tab wr b0 mu v' (playL (ps.take t) L) ∧ wr.ownsRow W.heap.size 29 3 vm (playL (ps.take t) L).length (cellsOf (playL (ps.take t) L)) ∧ Below b0 w5 wr) (fun _ i _ => len1 - (intOf i).toNat)
      case atStart => exact ⟨0, _, _, Nat.zero_le _, rfl, rfl, HU6.out, HD6.out, HB6.out⟩
      case round =>
        rename World => w7
        obtain ⟨t, v7, vm7, htl, rfl, rfl, ht, hd, hb⟩ := hrel
        obtain ⟨U, hUe⟩ : ∃ U, U = playL (ps.take t) L := ⟨_, rfl⟩
        have hg : Good U := by rw [hUe]; exact good_play _ HG.out
        rw [← hUe] at ht hd
        have hnext := fun o h => play_next (os := ps) (k := t) (o := o) h L
        rw [← hUe] at hnext
        have HNX := Lib.hid hnext
        have HGU := Lib.hid hg
        have hul : U.length ≤ 500 := hg.2
        clear hUe hnext hg HU6 HB6 HD6
        obtain ⟨ad7, c7, rfl, _⟩ := own_shape hd
        have HB7 := Lib.hid hb
        have HBW7 := Lib.hid (HB.out.trans (hb.mono hwb))
        have hs7 := hb.size
        rw [← HE.out] at hs7
        by_cases hlt2 : t < len1
        · obtain ⟨bb, off, o, rfl, ho, hbb, hz, d0, d1, d2, d3, d4, d5, d6, d7⟩ := HP1.out.get t hlt2
          rw [← HBW7.out.cell (p := ⟨bb, _, none⟩) hbb] at d0 d1 d2 d3 d4 d5 d6 d7
          have hbr : bb < w7.heap.size := by omega
          have B1 := Lib.hid ((Below.refl w7.heap.size w7).alloc (Nat.le_refl _) (.cells #[.int .i64 o.1, .int .i64 o.2.1, .int .i64 o.2.2.1.1, .string o.2.2.1.2.1, .bool o.2.2.1.2.2, .int .i64 o.2.2.2.1, .int .i64 o.2.2.2.2.1, .string o.2.2.2.2.2] 38))
          have C1 := Lib.hid (does_any o ad7 c7 (ht.alloc (.cells #[.int .i64 o.1, .int .i64 o.2.1, .int .i64 o.2.2.1.1, .string o.2.2.1.2.1, .bool o.2.2.1.2.2, .int .i64 o.2.2.2.1, .int .i64 o.2.2.2.2.1, .string o.2.2.2.2.2] 38)) (own_below hd B1.out (Nat.le_refl _)) (by rw [World.size_alloc]; omega) (by rw [World.size_alloc]; omega) (by omega) HGU.out HGU.out ((HMX.out.below HBW7.out).below B1.out) (by omega))
          have HLE := Lib.hid (HNX.out o ho)
          have HT7 := Lib.hid ht
          have HB8 := Lib.hid (hb.alloc hs7 (.cells #[.int .i64 o.1, .int .i64 o.2.1, .int .i64 o.2.2.1.1, .string o.2.2.1.2.1, .bool o.2.2.1.2.2, .int .i64 o.2.2.2.1, .int .i64 o.2.2.2.2.1, .string o.2.2.2.2.2] 38))
          unfold opv at C1
          obtain ⟨L2, hL2⟩ : ∃ L2, L2 = stepL U o := ⟨_, rfl⟩
          unfold Stepped at C1
          rw [← hL2] at C1 HLE
          clear ht hd hb ho hz hL2 HNX
          go_wp2_with fail
          refine C1.out.mono ?_
          rintro e w2 ⟨v2, vm2, b, rfl, t2, g2, o2, hbq⟩
          obtain rfl := hbq (by first | rfl | trivial)
          obtain ⟨ad2, c2, rfl, _⟩ := own_shape o2
          have HT2 := Lib.hid t2
          have HO2 := Lib.hid o2
          have HB2 := Lib.hid (g2.below HB8.out (Nat.le_of_eq HE.out) HT7.out.of_ge)
          clear t2 o2 g2 C1 d0 d1 d2 d3 d4 d5 d6 d7 hbq
          go_wp2
          go_roundw
          case rel => exact ⟨t + 1, v2, _, by omega, rfl, by go_num, by rw [HLE.out]; exact HT2.out, by rw [HLE.out]; exact HO2.out, HB2.out⟩
          case measure => simp [intOf]; omega
        · have HT7 := Lib.hid (HT.out.below hb (Nat.le_of_eq HE.out.symm))
          have HU7 := Lib.hid ht
          have HDL7 := Lib.hid (own_below HD.out hb (Nat.le_of_eq HE.out.symm))
          have HDM7 := Lib.hid hd
          have CA := Lib.hid (all_any HT7.out (by omega))
          obtain ⟨b7, hb7⟩ : ∃ b7, b7 = w7.heap.size := ⟨_, rfl⟩
          rw [← hb7] at CA
          have HE7 := Lib.hid hb7
          clear ht hd hb hb7 HNX
          go_wp2_with fail
          refine CA.out.mono ?_
          rintro e w8 ⟨va, rfl, o8, bb8⟩
          have HB8 := Lib.hid bb8
          have hsh : ∃ (ada : Option Addr) (ca : Nat), va = .slice ada L.length ca ∧ ∀ t, t < L.length → ∃ g, ada = some ⟨g, 0, none⟩ ∧ b7 ≤ g ∧ L.length ≤ ca ∧ ∃ cur : Array Value, Box w8 g 31 cur ∧ cur.size = ca * 3 := by
            rcases o8.2 with ⟨h1, h2⟩ | ⟨g, cc, cur, he, hge, hgb, h1, h2, hcs, _⟩
            · exact ⟨none, 0, by rw [h1, h2], fun t ht => by omega⟩
            · exact ⟨_, _, he, fun t ht => ⟨g, rfl, hge, h1, cur, hgb, hcs⟩⟩
          obtain ⟨ada, ca, rfl, hsh⟩ := hsh
          have HSH := Lib.hid hsh
          clear o8 bb8 CA hsh
          go_wp2
          go_loopw [78] (fun i wr => ∃ t : Nat, t ≤ L.length ∧ i = .int .i64 t ∧ (∀ t, t < L.length → ∃ g, ada = some ⟨g, 0, none⟩ ∧ b7 ≤ g ∧ L.length ≤ ca ∧ ∃ cur : Array Value, Box wr g 31 cur ∧ cur.size = ca * 3) ∧ Below b7 w7 wr) (fun i _ => L.length - (intOf i).toNat)
          case atStart => exact ⟨0, Nat.zero_le _, rfl, HSH.out, HB8.out⟩
          case round =>
            rename World => w9
            obtain ⟨r, hr, rfl, hsh, hb9⟩ := hrel
            have HB9 := Lib.hid hb9
            clear hb9 HSH HB8
            by_cases hlt3 : r < L.length
            · obtain ⟨g, rfl, hge, hca, cur, hbox, hcs⟩ := hsh r hlt3
              obtain ⟨u0, g0⟩ : ∃ u, w9.cell? ⟨g, r * 3, none⟩ = some u := ⟨cur[r * 3]'(by omega), by rw [hbox.cell]; exact Array.getElem?_eq_getElem (by omega)⟩
              obtain ⟨u1, g1⟩ : ∃ u, w9.cell? ⟨g, r * 3 + 1, none⟩ = some u := ⟨cur[r * 3 + 1]'(by omega), by rw [hbox.cell]; exact Array.getElem?_eq_getElem (by omega)⟩
              obtain ⟨u2, g2⟩ : ∃ u, w9.cell? ⟨g, r * 3 + 2, none⟩ = some u := ⟨cur[r * 3 + 2]'(by omega), by rw [hbox.cell]; exact Array.getElem?_eq_getElem (by omega)⟩
              have f0 := hbox.frozen (r * 3)
              have f1 := hbox.frozen (r * 3 + 1)
              have f2 := hbox.frozen (r * 3 + 2)
              have hgl := hbox.lt
              have HBOX := Lib.hid hbox
              have HCS := Lib.hid hcs
              clear hbox hcs hsh
              go_wp2
              go_roundw
              case rel => exact ⟨r + 1, by omega, by go_num, fun t ht => ⟨g, rfl, hge, hca, _, ((HBOX.out.set _ _).set _ _).set _ _, by simp [HCS.out]⟩, ((HB9.out.setCell (p := ⟨g, _, none⟩) hge _).setCell (p := ⟨g, _, none⟩) hge _).setCell (p := ⟨g, _, none⟩) hge _⟩
              case measure => simp [intOf]; omega
            · have hb9s := HB9.out.size
              have HBW9 := Lib.hid (HBW7.out.trans (HB9.out.mono (by have := HE7.out; omega)))
              have HT9 := Lib.hid (HT7.out.below HB9.out (Nat.le_of_eq HE7.out.symm))
              have HU9 := Lib.hid (HU7.out.below HB9.out (Nat.le_of_eq HE7.out.symm))
              have HDL9 := Lib.hid (own_below HDL7.out HB9.out (Nat.le_of_eq HE7.out.symm))
              have HDM9 := Lib.hid (own_below HDM7.out HB9.out (Nat.le_of_eq HE7.out.symm))
              have C3 := Lib.hid (alive_any w9 (HMX.out.below HBW9.out))
              clear hsh
              go_wp2_with fail
              refine C3.out.mono ?_
              rintro e wa ⟨rfl, ba⟩
              have HBWa := Lib.hid (HBW9.out.trans (ba.mono HBW9.out.size))
              have HTa := Lib.hid (HT9.out.below ba (Nat.le_refl _))
              have HUa := Lib.hid (HU9.out.below ba (Nat.le_refl _))
              have HDLa := Lib.hid (own_below HDL9.out ba (Nat.le_refl _))
              have HDMa := Lib.hid (own_below HDM9.out ba (Nat.le_refl _))
              have C4 := Lib.hid (all_any HTa.out (by omega))
              clear ba C3
              go_wp2_with fail
              refine C4.out.mono ?_
              rintro e wb ⟨vx, rfl, ob, bb⟩
              obtain ⟨adx, cx, rfl, _⟩ := own_shape ob
              have HBWb := Lib.hid (HBWa.out.trans (bb.mono HBWa.out.size))
              have HUb := Lib.hid (HUa.out.below bb (Nat.le_refl _))
              have HDMb := Lib.hid (own_below HDMa.out bb (Nat.le_refl _))
              have C5 := Lib.hid (sameW_any adx ad cx c ob (own_below HDLa.out bb (Nat.le_refl _)) (by omega))
              clear ob bb C4
              go_wp2_with fail
              refine C5.out.mono ?_
              rintro e wc ⟨b, rfl, hbq, bc⟩
              obtain rfl := hbq (by first | rfl | trivial)
              have HBWc := Lib.hid (HBWb.out.trans (bc.mono HBWb.out.size))
              have HUc := Lib.hid (HUb.out.below bc (Nat.le_refl _))
              have HDMc := Lib.hid (own_below HDMb.out bc (Nat.le_refl _))
              have C6 := Lib.hid (all_any HUc.out (by omega))
              clear bc C5 hbq
              go_wp2_with fail
              refine C6.out.mono ?_
              rintro e wd ⟨vy, rfl, od, bd⟩
              obtain ⟨ady, cy, rfl, _⟩ := own_shape od
              have HBWd := Lib.hid (HBWc.out.trans (bd.mono HBWc.out.size))
              have C7 := Lib.hid (sameW_any ady ad7 cy c7 od (own_below HDMc.out bd (Nat.le_refl _)) (by omega))
              clear od bd C6
              go_wp2_with fail
              refine C7.out.mono ?_
              rintro e we ⟨b, rfl, hbq, be⟩
              obtain rfl := hbq (by first | rfl | trivial)
              go_wp2
              go_ret
              exact ⟨rfl, HBWd.out.trans (be.mono HBWd.out.size)⟩
theorem watcherApart_walk {H : Type} {enc : TypeId × Value → H} {base0 base1 : Nat} {p0 p1 : List MemPlace} (W : World) (hm : Mx W) (v0 : Value) (d0 : DataW H) (hv0 : Value.okWide Tryd.prog W .any base0 34 v0) (h0 : DataW.Trod enc Tryd.prog W 0 (fun _ => true) true 34 v0 d0 p0) (b0 : Rows.uptoBulk d0 ≤ 1048576)
    (v1 : Value) (d1 : DataW H) (hv1 : Value.okWide Tryd.prog W .any base1 34 v1) (h1 : DataW.Trod enc Tryd.prog W 0 (fun _ => true) true 34 v1 d1 p1) (b1 : Rows.uptoBulk d1 ≤ 1048576) :
    Calls Tryd.prog 8 #[v0, v1] W fun e W' => e = .returned (.bool true) ∧ Below W.heap.size W W' := by
  obtain ⟨a, len, cap, os, rfl, hP, h1', h2'⟩ := open_ops hv0 h0 b0
  obtain ⟨a1, len1, cap1, ps, rfl, hP1, h1'', h2''⟩ := open_ops hv1 h1 b1
  by_cases hb : 300 < len
  · exact apart_big W hm a a1 len cap len1 cap1 (by omega) (by omega) hb
  by_cases hb1 : 300 < len1
  · exact apart_big1 W hm a a1 len cap len1 cap1 hb (by omega) hb1
  · exact apart_core W hm a a1 len cap len1 cap1 os ps hP hP1 (by omega) (by omega)
end Go.Proofs.YtmcjpochpmiipaaDoor

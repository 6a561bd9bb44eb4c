/- The walk of LeaseLoads. Conditions: list and script lie in memory. -/
import Derived.Test.YtkgnooogppkieaaNa
namespace Go.Proofs.Ytkgnooogppkieaa
open Go.ChangeShapes Go.WideShapes Go.ChangeAt Go.RowKit Go.Deep
set_option linter.unusedVariables false
set_option linter.unusedSimpArgs false
variable {w w' : World} {base : Nat} {L : List Lz}

theorem shape46 {H : Type} {enc : TypeId × Value → H} {W : World} {n : Nat} {r : List Value} {y : DataW H × List MemPlace} (h : DataW.trod enc Try.prog W 0 (fun _ => true) true n 46 r = some y) (hr : r.length = 3) : ∃ p : Lz, r = tc p := by
  obtain ⟨xs, n', _, _, _, hlen, hg⟩ := DataW.trod_struct Try.underlying46 h
  match r, hr with
  | [c0, c1, c2], _ =>
    match xs, hlen with
    | [y0, y1, y2], _ =>
      have h0 := hg 0 _ rfl
      have h1 := hg 1 _ rfl
      have h2 := hg 2 _ rfl
      have k3 : Try.prog.cellsOf 3 = 1 := by kernel_rfl
      simp [k3] at h0 h1 h2
      obtain ⟨a, ha, _⟩ := DataW.trod_int Try.underlying3 h0
      obtain ⟨b, hb, _⟩ := DataW.trod_int Try.underlying3 h1
      obtain ⟨c, hc, _⟩ := DataW.trod_int Try.underlying3 h2
      simp at ha hb hc
      exact ⟨(a, b, c), by rw [ha, hb, hc]; rfl⟩
theorem rows_lz {l : List (List Value)} (h : ∀ r ∈ l, ∃ p : Lz, r = tc p) : ∃ ps : List Lz, l = ps.map tc := by
  induction l with
  | nil => exact ⟨[], rfl⟩
  | cons r l ih =>
    obtain ⟨p, rfl⟩ := h r (by simp)
    obtain ⟨ps, rfl⟩ := ih fun r hr => h r (by simp [hr])
    exact ⟨p :: ps, rfl⟩
theorem sees_rows {W : World} {a : Option Addr} {len : Nat} (h : RowsAt W 3 a len (L.map tc)) {bad : Nat → Prop} (hb : ∀ k, k < W.heap.size → ¬ bad k) : L.length = len ∧ Sees W bad a L := by
  obtain ⟨h1, h2⟩ := h
  rw [List.length_map] at h1
  refine ⟨h1, ?_⟩
  rcases h2 with h0 | ⟨b, off, rfl, hb1, hc⟩
  · exact .inl (List.length_eq_zero_iff.1 (by omega))
  · refine .inr ⟨b, off, rfl, hb1, hb b hb1, fun k p hp => ?_⟩
    have hr : (L.map tc)[k]? = some (tc p) := by rw [List.getElem?_map, hp]; rfl
    exact ⟨hc k _ hr 0 _ rfl, hc k _ hr 1 _ rfl, hc k _ hr 2 _ rfl⟩
theorem src37 (w : World) (x : Lz) : Src (w.alloc (.cells #[.int .i64 x.1, .int .i64 x.2.1, .int .i64 x.2.2] 37)) (some ⟨w.heap.size, 0, none⟩) 1 3 (tc x) := box_src (Box.new w 37 #[.int .i64 x.1, .int .i64 x.2.1, .int .i64 x.2.2])
set_option maxRecDepth 100000 in
set_option maxHeartbeats 4000000 in
theorem loads_core (W : World) (pa : Option Addr) (cap : Nat) (hcap : L.length ≤ cap) (hL : ∀ bad : Nat → Prop, (∀ k, k < W.heap.size → ¬ bad k) → Sees W bad pa L) (pb : Option Addr) (len' cap' : Nat) (os : List Op10) (hO : OpsAt W pb len' os) :
    Calls Try.prog 8 #[.slice pa L.length cap, .slice pb len' cap'] W fun e W' => e = .returned (.bool true) ∧ Below W.heap.size W W' := by
  have HL := Lib.hid hL
  have HO := Lib.hid hO
  clear hL hO
  by_cases hbig : 120 < L.length
  · go_enter Try.func8, Try.ntmps8
    go_wp2_with fail
    refine (alive_any _).mono ?_
    rintro e w2 ⟨rfl, b2⟩
    go_wp2_with fail
    go_ret
    exact ⟨rfl, b2⟩
  by_cases hbig' : 200 < len'
  · go_enter Try.func8, Try.ntmps8
    go_wp2_with fail
    refine (alive_any _).mono ?_
    rintro e w2 ⟨rfl, b2⟩
    go_wp2_with fail
    go_ret
    exact ⟨rfl, b2⟩
  obtain ⟨i0, hi, hz0, hz1, hz2⟩ := info_parts row37
  have HI := Lib.hid hi
  have HZZ := Lib.hid hz0
  have HSE := Lib.hid (HL.out (fun _ => False) (fun _ _ h => h))
  clear hi hz0
  go_enter Try.func8, Try.ntmps8
  go_wp2
  go_loopw [5, 26] (fun lv i wr => ∃ k : Nat, k ≤ L.length ∧ i = .int .i64 k ∧ wr.ownsRow W.heap.size 37 3 lv (L.take k).length (cellsOf (L.take k)) ∧ Below W.heap.size W wr) (fun _ i _ => L.length - (intOf i).toNat)
  case atStart => exact ⟨0, Nat.zero_le _, rfl, World.ownsRow_nil _ _ _ _, Below.refl _ _⟩
  case round =>
    obtain ⟨k, hk, rfl, hR, hbel⟩ := hrel
    obtain ⟨lad, lc, rfl, _⟩ := own_shape hR
    have hlk : (L.take k).length = k := by rw [List.length_take]; omega
    rw [hlk] at hR ⊢
    have HR := Lib.hid hR
    have HB := Lib.hid hbel
    clear hR hbel hlk
    by_cases hlt : k < L.length
    · obtain ⟨p, hp⟩ : ∃ p, L[k]? = some p := ⟨_, List.getElem?_eq_getElem hlt⟩
      obtain ⟨g, off, rfl, hg, _, d0, d1, d2⟩ := (HSE.out.below HB.out).get k p hp
      have HE := Lib.hid (show L.take (k + 1) = L.take k ++ [p] by rw [List.take_add_one, hp]; rfl)
      have HB1 := Lib.hid (HB.out.alloc HB.out.size (.cells #[.int .i64 p.1, .int .i64 p.2.1, .int .i64 p.2.2] 46))
      have HRA := Lib.hid ((HR.out.alloc (.cells #[.int .i64 p.1, .int .i64 p.2.1, .int .i64 p.2.2] 46)).alloc (.cells #[.int .i64 p.1, .int .i64 p.2.1, .int .i64 p.2.2] 37))
      have HSX := Lib.hid (src37 (wr.alloc (.cells #[.int .i64 p.1, .int .i64 p.2.1, .int .i64 p.2.2] 46)) p)
      have HSZ := Lib.hid (show W.heap.size ≤ ((wr.alloc (.cells #[.int .i64 p.1, .int .i64 p.2.1, .int .i64 p.2.2] 46)).alloc (.cells #[.int .i64 p.1, .int .i64 p.2.1, .int .i64 p.2.2] 37)).heap.size by have := HB.out.size; simp; omega)
      simp only [World.size_alloc] at HSX
      clear hp
      go_wp2_with (at_builtin; refine wpList_append_at rfl (.tmp 30) (.tmp 32) 27 rfl W.heap.size 37 i0 _ 3 24 Try.underlying27 HI.out HZZ.out hz1 hz2 rfl (by decide) _ _ _ rfl HRA.out _ _ _ _ rfl HSX.out (by unfold maxLen; omega) (by omega) HSZ.out ?_; intro v6 w6 own6 g6 at6; obtain ⟨ad6, c6, rfl, hc6⟩ := own_shape own6)
      go_roundw
      case rel =>
        refine ⟨k + 1, by omega, by go_num, ?_, (HB1.out.alloc HB1.out.size _).grown g6 HSZ.out (own_ge HRA.out)⟩
        rw [HE.out, cells_snoc, List.length_append, show (L.take k).length = k by rw [List.length_take]; omega]
        exact own6
      case measure => simp [intOf]; omega
    · obtain rfl : k = L.length := by omega
      obtain ⟨wo, rfl⟩ : ∃ wo : World, wo = wr := ⟨_, rfl⟩
      rw [List.take_length] at HR
      clear HI HZZ hz1 hz2
      have C1 := Lib.hid (load_any lad lc HR.out (by omega))
      have HS1 := Lib.hid (HSE.out.below HB.out)
      by_cases hG : Good L
      rotate_left
      · have HG := Lib.hid hG
        clear hG
        go_wp2_with fail
        refine C1.out.mono ?_
        rintro e w2 h2
        rcases h2 with ⟨hno, _⟩ | ⟨_, rfl, b2⟩
        · exact absurd hno HG.out
        have B2 := Lib.hid (HB.out.trans (b2.mono HB.out.size))
        have C2 := Lib.hid (check_any pa cap (HS1.out.below b2) (by omega))
        clear b2 C1
        go_wp2_with fail
        refine C2.out.mono ?_
        rintro e w3 ⟨h3, b3⟩
        rcases h3 with ⟨hno, _⟩ | ⟨_, rfl⟩
        · exact absurd hno HG.out
        have B3 := Lib.hid (B2.out.trans (b3.mono B2.out.size))
        clear b3 C2
        go_wp2_with fail
        refine (alive_any _).mono ?_
        rintro e w4 ⟨rfl, b4⟩
        have B4 := Lib.hid (B3.out.trans (b4.mono B3.out.size))
        clear b4
        go_wp2
        go_ret
        exact ⟨rfl, B4.out⟩
      · have HG := Lib.hid hG
        clear hG
        go_wp2_with fail
        refine C1.out.mono ?_
        rintro e w2 h2
        rcases h2 with ⟨_, n, v, rfl, hT2, b2⟩ | ⟨hno, _⟩
        rotate_left
        · exact absurd HG.out hno
        have B2 := Lib.hid (HB.out.trans (b2.mono HB.out.size))
        have HT2 := Lib.hid hT2
        have HROW2 := Lib.hid (own_stays HR.out (fun g hv => b2.block g (own_lt HR.out g hv)))
        have HRL := Lib.hid (fun g (hv : (Value.slice lad L.length lc).ownBlock = some g) => own_lt HR.out g hv)
        have C2 := Lib.hid (check_any pa cap (HS1.out.below b2) (by omega))
        have hsz := b2.size
        have HWR := Lib.hid HB.out.size
        clear b2 C1 hT2 HS1 HR HB
        go_wp2_with fail
        refine C2.out.mono ?_
        rintro e w3 ⟨h3, b3⟩
        rcases h3 with ⟨_, rfl⟩ | ⟨hno, _⟩
        rotate_left
        · exact absurd HG.out hno
        have B3 := Lib.hid (B2.out.trans (b3.mono B2.out.size))
        have HT3 := Lib.hid (HT2.out.below b3 (Nat.le_refl _))
        have HROW3 := Lib.hid (own_stays HROW2.out (fun g hv => b3.block g (own_lt HROW2.out g hv)))
        have hsz3 := b3.size
        clear b3 C2 HT2 HROW2 B2
        go_wp2
        go_loopw [56] (fun i wl => ∃ k : Nat, k ≤ L.length ∧ i = .int .i64 k ∧ (∃ xs, wl.ownsRow W.heap.size 37 3 (.slice lad L.length lc) L.length xs) ∧ Touch (fun b => (Value.slice lad L.length lc).ownBlock = some b) w3 wl) (fun i _ => L.length - (intOf i).toNat)
        case atStart => exact ⟨0, Nat.zero_le _, rfl, ⟨_, HROW3.out⟩, Touch.refl _ _⟩
        case round =>
          obtain ⟨k, hk, rfl, ⟨xs, hX⟩, htc⟩ := hrel
          have HX := Lib.hid hX
          have HTC := Lib.hid htc
          clear hX htc
          by_cases hlt2 : k < L.length
          · obtain ⟨g, rfl, hbg, hg, x, y, z, d0, d1, d2, f0, f1, f2⟩ := own_any HX.out k hlt2
            go_wp2
            go_roundw
            case rel => exact ⟨k + 1, by omega, by go_num, ⟨_, own_set (own_set (own_set HX.out (k * 3) (by omega) _) (k * 3 + 1) (by omega) _) (k * 3 + 2) (by omega) _⟩, ((HTC.out.setCell (p := ⟨g, k * 3, none⟩) rfl _).setCell (p := ⟨g, k * 3 + 1, none⟩) rfl _).setCell (p := ⟨g, k * 3 + 2, none⟩) rfl _⟩
            case measure => simp [intOf]; omega
          · obtain rfl : k = L.length := by omega
            have HT4 := Lib.hid (HT3.out.touch HTC.out (fun k hk ho => by have h1 := HT3.out.of_ge k ho; have h2 := HRL.out k hk; omega))
            have B4 := Lib.hid (Below.touch B3.out HTC.out (Nat.le_refl _) (fun k hk => own_ge HROW3.out k hk))
            have hb4 : wo.heap.size ≤ wr.heap.size := Nat.le_trans (Nat.le_trans hsz hsz3) HTC.out.size
            have C4 := Lib.hid (plays_any (w := wr) (base := wo.heap.size) (n := n) (v := v) (L := L) pa cap pb len' cap' os (HO.out.below B4.out (Nat.le_refl _)) (by omega) (fun g o s e h => Nat.lt_of_lt_of_le (ops_in HO.out g o s e h) HWR.out) HT4.out hb4 HG.out
              (((HL.out (fun b => Of n v b ∧ W.heap.size ≤ b) (fun k hk h => by have := h.2; omega)).below B4.out).mono (fun k _ h => ⟨h, Nat.le_trans HWR.out (HT4.out.of_ge k h)⟩)) hcap)
            have HGP := Lib.hid (good_play os HG.out)
            clear HT3 HROW3 HTC HX B3
            go_wp2_with fail
            refine C4.out.mono ?_
            rintro e w5 ⟨ad5, c5, v5, rfl, hc5, hT5, g5, hS5⟩
            obtain ⟨M, hM⟩ : ∃ M, M = playL os L := ⟨_, rfl⟩
            rw [← hM] at hT5 hc5 HGP hS5 ⊢
            have hml : M.length ≤ 1000 := Nat.le_trans HGP.out.many (by omega)
            have B5 := Lib.hid (g5.below B4.out (Nat.le_refl _) (fun k hk => Nat.le_trans HWR.out (HT4.out.of_ge k hk)))
            have HT5 := Lib.hid hT5
            have HS5 := Lib.hid hS5
            have C5 := Lib.hid (all_any hT5 hml)
            clear hT5 hS5 g5 C4 HT4 B4 hM hc5
            go_wp2_with fail
            refine C5.out.mono ?_
            rintro e w6 ⟨l6, rfl, own6, b6⟩
            obtain ⟨ad6, c6, rfl, _⟩ := own_shape own6
            have HS6 := Lib.hid (HS5.out.below b6)
            have B6 := Lib.hid (B5.out.trans (b6.mono B5.out.size))
            have C6 := Lib.hid (load_any ad6 c6 own6 hml)
            clear b6 own6 C5 HT5 HS5 B5
            go_wp2_with fail
            refine C6.out.mono ?_
            rintro e w7 h7
            rcases h7 with ⟨_, m, u, rfl, hU7, b7⟩ | ⟨hno, _⟩
            rotate_left
            · exact absurd HGP.out hno
            have HS7 := Lib.hid (HS6.out.below b7)
            have B7 := Lib.hid (B6.out.trans (b7.mono B6.out.size))
            have HU7 := Lib.hid hU7
            clear b7 hU7 C6 HS6 B6
            go_wp2_with fail
            refine (alive_any _).mono ?_
            rintro e w8 ⟨rfl, b8⟩
            have HS8 := Lib.hid (HS7.out.below b8)
            have HU8 := Lib.hid (HU7.out.below b8 (Nat.le_refl _))
            have B8 := Lib.hid (B7.out.trans (b8.mono B7.out.size))
            have C8 := Lib.hid (all_any HU8.out hml)
            clear b8 HS7 HU7 B7
            go_wp2_with fail
            refine C8.out.mono ?_
            rintro e w9 ⟨l9, rfl, own9, b9⟩
            obtain ⟨ad9, c9, rfl, _⟩ := own_shape own9
            have HS9 := Lib.hid (HS8.out.below b9)
            have B9 := Lib.hid (B8.out.trans (b9.mono B8.out.size))
            have C9 := Lib.hid (plain_any ad9 c9 (Sees.of_own (bad := fun _ => False) own9 (fun _ _ _ h => h)) hml)
            clear b9 own9 HS8 HU8 B8 C8
            go_wp2_with fail
            refine C9.out.mono ?_
            rintro e wa ⟨la, rfl, owna, ba⟩
            obtain ⟨ada, ca, rfl, _⟩ := own_shape owna
            have Ba := Lib.hid (B9.out.trans (ba.mono B9.out.size))
            have Ca := Lib.hid (same_any ada ca ad5 c5 (Sees.of_own (bad := fun _ => False) owna (fun _ _ _ h => h)) (HS9.out.below ba) hml)
            clear ba owna HS9 B9 C9
            go_wp2_with fail
            refine Ca.out.mono ?_
            rintro e wb ⟨rfl, bb⟩
            have Bb := Lib.hid (Ba.out.trans (bb.mono Ba.out.size))
            clear bb
            go_wp2
            go_ret
            exact ⟨rfl, Bb.out⟩
theorem leaseLoads_walk {H : Type} {enc : TypeId × Value → H} {base : Nat} {p0 p1 : List MemPlace} (W : World) (v0 : Value) (d0 : DataW H) (hv : Value.okWide Try.prog W .any base 31 v0) (h : DataW.Trod enc Try.prog W 0 (fun _ => true) true 31 v0 d0 p0) (_b : ∀ n ∈ d0.weights Try.prog 31, n ≤ 140737488351232)
    (v1 : Value) (d1 : DataW H) (hv1 : Value.okWide Try.prog W .any base 30 v1) (h1 : DataW.Trod enc Try.prog W 0 (fun _ => true) true 30 v1 d1 p1) (_b1 : ∀ n ∈ d1.weights Try.prog 30, n ≤ 140737488351232) :
    Calls Try.prog 8 #[v0, v1] W fun e W' => e = .returned (.bool true) ∧ Below W.heap.size W W' := by
  obtain ⟨a, len, cap, rfl⟩ := okWide_slice Try.underlying31 hv
  obtain ⟨rows, hr, _, h2, h3, hs⟩ := open_rows Try.underlying31 (show Try.prog.cellsOf 46 = 3 by kernel_rfl) (by omega) h
  obtain ⟨ps, rfl⟩ := rows_lz fun r hrm => by
    obtain ⟨hl, n, y, hy⟩ := hs r hrm
    exact shape46 hy hl
  obtain ⟨a', len', cap', os', rfl, hP', _, _⟩ := open_ops hv1 h1
  obtain rfl : ps.length = len := (sees_rows hr (bad := fun _ => False) (fun _ _ h => h)).1
  exact loads_core W a cap h2 (fun bad hb => (sees_rows hr hb).2) a' len' cap' os' hP'
end Go.Proofs.Ytkgnooogppkieaa

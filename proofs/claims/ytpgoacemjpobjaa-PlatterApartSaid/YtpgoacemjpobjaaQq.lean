/- The walk of PlatterApart. Conditions: the script lies in memory. -/
import Derived.Test.YtpgoacemjpobjaaQp
namespace Go.Proofs.Ytpgoacemjpobjaa
open Go Go.RowKit
set_option linter.unusedVariables false
set_option linter.unusedSimpArgs false

theorem isz5' : (Try.prog.info? 5).map (fun i => (i.zero, i.size, i.bytes)) = some (some (.int .u8 0), 1, 1) := by kernel_rfl
theorem Bys.src {w : World} {ad : Option Addr} {len : Nat} {b : Sec} (h : Bys w ad len b) : Src w ad len 1 (bc b) := by
  obtain ⟨hl, _, hc⟩ := h
  refine ⟨by rw [bc_len, hl, Nat.mul_one], bc_one b, hc.imp id ?_⟩
  rintro ⟨g, off, rfl, _, hc⟩
  exact ⟨_, rfl, fun j u hu => by rw [Addr.add_mid]; exact hc j u hu⟩
theorem Bys.of_own {w : World} {B len c : Nat} {ad : Option Addr} {b : Sec} (h : w.ownsRow B 5 1 (.slice ad len c) len (bc b)) (hl : len ≤ maxLen) : Bys w ad len b := by
  refine ⟨by have := h.1; rwa [bc_len, Nat.mul_one] at this, hl, ?_⟩
  rcases Nat.eq_zero_or_pos len with h0 | h0
  · exact .inl h0
  · obtain ⟨g, h1, _, h3, h4⟩ := own_at h 0 (by omega)
    exact .inr ⟨g, 0, h1, h3, fun j v hj => by rw [Nat.zero_add]; exact h4 j v hj⟩
def u8s (vs : List Int) : List Value := vs.map (.int .u8)
theorem Dsk.not5 {w : World} {base n : Nat} {V : Vs} {D : Dk} (h : Dsk w base n V D) {B m : Nat} {v : Value} {xs : List Value} (ho : w.ownsRow B 5 1 v m xs) (k : Nat) (hk : v.ownBlock = some k) : ¬ Of n V k := by
  rintro (rfl | hv | hv | hv)
  · exact own_box_ne ho h.box (by decide) hk
  · exact own_own_ne ho h.rn (by decide) k hk hv
  · exact own_own_ne ho h.rf (by decide) k hk hv
  · exact own_own_ne ho h.rw (by decide) k hk hv
theorem bys_pre {w : World} {ad : Option Addr} {s b : Sec} {m : Nat} (h : Bys w ad m s) (hb : b.length ≤ m) (hs : s.take b.length = b) : Bys w ad b.length b := by
  refine ⟨rfl, Nat.le_trans hb h.2.1, ?_⟩
  rcases h.2.2 with h0 | ⟨g, off, h1, h2, h3⟩
  · exact .inl (by omega)
  · refine .inr ⟨g, off, h1, h2, fun j v hj => h3 j v ?_⟩
    have e : bc b = (bc s).take b.length := by have h9 : bc (s.take b.length) = (bc s).take b.length := by simp [bc, List.map_take]
                                               rwa [hs] at h9
    rw [e, List.getElem?_take] at hj
    split at hj
    · exact hj
    · cases hj
def U8Box (w : World) (X : Nat) : Prop := ∃ vs : List Int, vs.length = 64 ∧ Box w X 63 (u8s vs).toArray
theorem U8Box.set {w : World} {X : Nat} (h : U8Box w X) (k : Nat) (v : Int) : U8Box (w.setCell ⟨X, k, none⟩ (.int .u8 v)) X := by
  obtain ⟨vs, hl, hb⟩ := h
  refine ⟨vs.set k v, by rw [List.length_set]; exact hl, ?_⟩
  have := hb.set k (.int .u8 v)
  rwa [show (u8s vs).toArray.setIfInBounds k (.int .u8 v) = (u8s (vs.set k v)).toArray by simp [u8s, List.map_set]] at this
def U8Row (w : World) (B : Nat) (a : Option Addr) (len c : Nat) : Prop := ∃ vs : List Int, w.ownsRow B 5 1 (.slice a len c) len (u8s vs)
theorem U8Row.set {w : World} {B g len c : Nat} (h : U8Row w B (some ⟨g, 0, none⟩) len c) (k : Nat) (hk : k < len) (v : Int) : U8Row (w.setCell ⟨g, k, none⟩ (.int .u8 v)) B (some ⟨g, 0, none⟩) len c := by
  obtain ⟨vs, hb⟩ := h
  refine ⟨vs.set k v, ?_⟩
  have := own_set hb k (by omega) (.int .u8 v)
  rwa [show (u8s vs).set k (.int .u8 v) = u8s (vs.set k v) by simp [u8s, List.map_set]] at this
set_option maxHeartbeats 8000000 in
set_option maxRecDepth 100000 in
theorem apart_core (W : World) (a : Option Addr) (len cap : Nat) (xs : List In4) (hO : OpsAt W a len xs) (hm : len ≤ maxLen) (a1 : Int) (ab : Option Addr) (lb cb : Nat) (b : Sec) (hB : Bys W ab lb b) :
    Calls Try.prog 6 #[.slice a len cap, .int .i64 a1, .slice ab lb cb] W fun e W' => e = .returned (.bool true) ∧ Below W.heap.size W W' := by
  have hlb := hB.2.1
  unfold maxLen at hm hlb
  have HBB := Lib.hid hB
  clear hB
  by_cases h2 : 200 < len
  · have h2' : (200 : Int) < (len : Int) := by omega
    clear hO h2
    go_enter Try.func6, Try.ntmps6
    go_wp2_with fail
    refine (alive_any W).mono ?_
    rintro e w2 ⟨rfl, b2⟩
    go_wp2
    go_ret
    exact ⟨rfl, b2⟩
  have h2' : ¬ (200 : Int) < (len : Int) := by omega
  by_cases h3 : a1 < 0
  · clear hO h2
    go_enter Try.func6, Try.ntmps6
    go_wp2_with fail
    refine (alive_any W).mono ?_
    rintro e w2 ⟨rfl, b2⟩
    go_wp2
    go_ret
    exact ⟨rfl, b2⟩
  by_cases h4 : 8 ≤ a1
  · clear hO h2
    go_enter Try.func6, Try.ntmps6
    go_wp2_with fail
    refine (alive_any W).mono ?_
    rintro e w2 ⟨rfl, b2⟩
    go_wp2
    go_ret
    exact ⟨rfl, b2⟩
  by_cases h5 : 64 < lb
  · have h5' : (64 : Int) < (lb : Int) := by omega
    clear hO h2
    go_enter Try.func6, Try.ntmps6
    go_wp2_with fail
    refine (alive_any W).mono ?_
    rintro e w2 ⟨rfl, b2⟩
    go_wp2
    go_ret
    exact ⟨rfl, b2⟩
  · have h5' : ¬ (64 : Int) < (lb : Int) := by omega
    obtain ⟨i, rfl⟩ := Int.eq_ofNat_of_zero_le (Int.not_lt.1 h3)
    have C1 := Lib.hid (plays_any (w := W) 8 (by omega) a len cap xs hO (by omega))
    have HGP := Lib.hid (good_play (D := newD 8) xs (fun x hx => (hO.2 x hx).2) (good_new 8))
    have HWP : Hid ((playD xs (newD 8)).wait.length ≤ 200) := by
      have h1 := wait_play (D := newD 8) xs
      have h2 := hO.len
      have h3 : (newD 8).wait.length = 0 := rfl
      show (playD xs (newD 8)).wait.length ≤ 200
      omega
    have HLP : Hid ((playD xs (newD 8)).firm.length = 8) := by
      show (playD xs (newD 8)).firm.length = 8
      rw [firm_play xs (fun x hx => (hO.2 x hx).2) (good_new 8)]; rfl
    clear hO h2
    go_enter Try.func6, Try.ntmps6
    go_wp2_with fail
    refine C1.out.mono ?_
    rintro e w1 ⟨n, V, af, aw, cf, cw, rfl, hD, hR, b1⟩
    unfold rdv
    clear C1
    generalize playD xs (newD 8) = D at HGP HWP HLP hD hR ⊢
    have bA := (Below.refl w1.heap.size w1).alloc (Nat.le_refl _) (.cells #[.slice af D.firm.length cf, .slice aw D.wait.length cw, .int .i64 D.armed, .bool D.dead] 28)
    have HD2 := Lib.hid (hD.bel bA)
    have HR2 := Lib.hid (hR.bel bA)
    have HX2 := Lib.hid (Box.new w1 28 #[.slice af D.firm.length cf, .slice aw D.wait.length cw, .int .i64 D.armed, .bool D.dead])
    have B2 := Lib.hid (b1.trans (bA.mono b1.size))
    have HWL := Lib.hid (show D.wait.length ≤ 1000000 from by have := HWP.out; omega)
    clear hD hR b1 bA
    cases hd : D.dead
    rotate_left
    · simp only [hd] at HD2 HR2 HX2 B2 ⊢
      go_wp2_with fail
      generalize w1.alloc (.cells #[.slice af D.firm.length cf, .slice aw D.wait.length cw, .int .i64 D.armed, .bool true] 28) = w2 at HD2 HR2 HX2 B2 ⊢
      generalize w1.heap.size = t8 at HX2 ⊢
      refine (alive_any w2).mono ?_
      rintro e w3 ⟨rfl, b3⟩
      have B3 := Lib.hid (B2.out.trans (b3.mono B2.out.size))
      clear b3
      go_wp2
      go_ret
      exact ⟨rfl, B3.out⟩
    simp only [hd] at HD2 HR2 HX2 B2 ⊢
    have HDD := Lib.hid hd
    have HSM := Lib.hid HGP.out.same
    have hbl := HBB.out.1
    have HI8 := Lib.hid (show i < D.now.length by rw [← HSM.out, HLP.out]; omega)
    go_wp2_with fail
    generalize w1.alloc (.cells #[.slice af D.firm.length cf, .slice aw D.wait.length cw, .int .i64 D.armed, .bool false] 28) = w2 at HD2 HR2 HX2 B2 ⊢
    generalize w1.heap.size = t8 at HX2 ⊢
    refine (crash_any (D.wait.length : Int) 0 HD2.out B2.out.size HGP.out HWL.out).mono ?_
    rintro e w3 ⟨nC, VC, rfl, hDC, b3⟩
    have HD3 := Lib.hid (HD2.out.bel b3)
    have B3 := Lib.hid (B2.out.trans (b3.mono B2.out.size))
    have HS3 := Lib.hid (show w2.heap.size ≤ w3.heap.size from b3.size)
    obtain ⟨C, hC⟩ : ∃ C, C = crashD D (D.wait.length : Int) 0 := ⟨_, rfl⟩
    rw [← hC] at hDC
    have GC : Hid (Good C) := by rw [hC]; exact good_crash HGP.out _ _
    have HCC : Hid (armD C 0 = C ∧ C.dead = false ∧ C.wait.length ≤ 1000000 ∧ C.now.length = 8) := by
      rw [hC]
      refine ⟨rfl, rfl, by show 0 ≤ 1000000; omega, ?_⟩
      show (crashL D (D.wait.length : Int) 0).length = 8
      rw [(crashL_full HGP.out _ _).2, HLP.out]
    have HC3 := Lib.hid hDC
    have HDL := Lib.hid HD2.out.of_lt
    have B2S := Lib.hid (show W.heap.size ≤ w2.heap.size from B2.out.size)
    clear hDC b3 HD2 HR2 HX2 hC
    obtain ⟨s, hs⟩ : ∃ s, D.now[i]? = some s := ⟨_, List.getElem?_eq_getElem HI8.out⟩
    have R1 := Lib.hid (fun (w : World) (h : Dsk w W.heap.size n V D) => read_ok h HGP.out HDD.out i s hs)
    have hsl := HGP.out.fulln s (List.mem_of_getElem? hs)
    have HSL := Lib.hid hsl
    obtain ⟨z, hz⟩ : ∃ z : ByteArray, z = ⟨s.toArray⟩ := ⟨_, rfl⟩
    have HZ := Lib.hid hz
    clear hs hsl hz hd
    go_wp2_with fail
    refine (R1.out w3 HD3.out).mono ?_
    rintro e w4 ⟨rfl, rfl⟩
    have bA := (Below.refl w3.heap.size w3).alloc (Nat.le_refl _) (.cells (bc s).toArray 63)
    have hcv := conv_any (bys_new w3 s 63 HSL.out) 64
    unfold st at hcv
    rw [← HZ.out] at hcv
    have HX4 := Lib.hid (Box.new w3 63 (bc s).toArray)
    have HD4 := Lib.hid (HD3.out.bel bA)
    have HC4 := Lib.hid (HC3.out.bel bA)
    have B4 := Lib.hid (B3.out.trans (bA.mono B3.out.size))
    have HOD := Lib.hid HD3.out.of_lt
    have HOC := Lib.hid HC3.out.of_lt
    have HS4 := Lib.hid (show w3.heap.size < (w3.alloc (.cells (bc s).toArray 63)).heap.size by simp)
    clear bA
    go_wp2_with fail
    generalize w3.alloc (.cells (bc s).toArray 63) = w4 at hcv HX4 HD4 HC4 B4 HS4 ⊢
    clear hcv
    generalize w3.heap.size = X at HX4 HOD HOC HS4 HS3 ⊢
    go_loopw [72] (fun iv wr => ∃ k : Nat, k ≤ 64 ∧ iv = .int .i64 k ∧ U8Box wr X ∧ Touch (· = X) w4 wr) (fun iv _ => 64 - (intOf iv).toNat)
    case atStart => exact ⟨0, Nat.zero_le _, rfl, ⟨s.map (fun c => (c.toNat : Int)), by rw [List.length_map]; exact HSL.out, by have := HX4.out; rwa [show bc s = u8s (s.map (fun c => (c.toNat : Int))) by simp [u8s, bc]] at this⟩, Touch.refl _ _⟩
    case round =>
    obtain ⟨k, hk, rfl, hUX, hT⟩ := hrel
    have HXR := Lib.hid hUX
    obtain ⟨vs, hvl, hX⟩ := hUX
    have HTR := Lib.hid hT
    by_cases hlt : k < 64
    · obtain ⟨v, hv⟩ : ∃ v, vs[k]? = some v := ⟨_, List.getElem?_eq_getElem (by omega)⟩
      have cc : wr.cell? ⟨X, k, none⟩ = some (.int .u8 v) := by rw [hX.cell k]; simp [u8s, hv]
      have ff := hX.frozen k
      have hXl := hX.lt
      have hki : (k : Int) < 64 := by omega
      clear hX hT
      go_wp2_with fail
      go_roundw
      case rel => exact ⟨k + 1, by omega, by go_num, HXR.out.set k _, HTR.out.set1 k _⟩
      case measure => simp [intOf]; omega
    · rename World => w5
      have hk64 : k = 64 := by omega
      subst hk64
      have hd5 := HD4.out.touch hT (fun j hj ho => by have := HOD.out j ho; omega)
      have hc5 := HC4.out.touch hT (fun j hj ho => by have := HOC.out j ho; omega)
      have b5 : Below W.heap.size W w5 := Below.touch B4.out hT (Nat.le_refl _) (fun j hj => by have h1 := HOD.out n (.inl rfl); have h2 := HD4.out.hn; omega)
      have HD5 := Lib.hid hd5
      have HC5 := Lib.hid hc5
      have B5 := Lib.hid b5
      have HS5 := Lib.hid (show w2.heap.size ≤ w5.heap.size from by have h1 := hT.size; have h2 := HS4.out; have h3 := HS3.out; omega)
      clear hX hT hd5 hc5 b5 HD4 HC4 B4 HX4 HXR HTR
      have HO1 := Lib.hid (World.ownsRow_lit (base := w5.heap.size) (e := 5) (size := 1)  w5 #[] 0 (Nat.le_refl _) (by decide) rfl)
      have bA := (Below.refl w5.heap.size w5).alloc (Nat.le_refl _) (.cells #[] 5)
      have HS1 := Lib.hid ((HBB.out.bel (B5.out.trans (bA.mono B5.out.size))).src)
      have BA := Lib.hid bA
      obtain ⟨i0, hi, hz0, hz1, hz2⟩ := info_parts isz5'
      have HI := Lib.hid hi
      have HZZ := Lib.hid hz0
      have HSZ := Lib.hid (show w5.heap.size ≤ (w5.alloc (.cells #[] 5)).heap.size by simp)
      clear hi hz0 bA
      go_wp2_with (at_builtin; refine wpList_append_at rfl (.tmp 84) (.tmp 85) 36 rfl w5.heap.size 5 i0 _ 1 1 Try.underlying36 HI.out HZZ.out hz1 hz2 rfl (by decide) _ _ _ rfl HO1.out _ _ _ _ rfl HS1.out (by unfold maxLen; omega) (by omega) HSZ.out ?_)
      intro v6 w6 own6 g6 at6
      have own6 : w6.ownsRow w5.heap.size 5 1 v6 lb (bc b) := by simpa using own6
      obtain ⟨a6, c6, rfl, _⟩ := own_shape own6
      have b6 : Below w5.heap.size  w5 w6 := BA.out.grown g6 HSZ.out (own_ge HO1.out)
      have HD6 := Lib.hid (HD5.out.bel b6)
      have HC6 := Lib.hid (HC5.out.bel b6)
      have B6 := Lib.hid (B5.out.trans (b6.mono B5.out.size))
      have O6 := Lib.hid own6
      have HBY := Lib.hid (Bys.of_own own6 (by unfold maxLen; omega))
      have HS6 := Lib.hid (show w2.heap.size ≤ w6.heap.size from Nat.le_trans HS5.out b6.size)
      clear own6 g6 at6 b6 HO1 HS1 BA HD5 HC5 B5
      go_wp2_with fail
      refine (write_any (i : Int) b a6 lb c6 HC6.out HS6.out GC.out HBY.out HCC.out.2.2.1).mono ?_
      rintro e w7 ⟨rfl, VC7, hC7, hG7⟩
      have hwp := wr_plain (D := C) HCC.out.2.1 (i : Int) b
      rw [HCC.out.1] at hwp
      obtain ⟨hwd, hwp⟩ := hwp
      have h8 := HCC.out.2.2.2
      rcases hwp with ⟨_, _, hbad⟩ | ⟨hE, i', hi', hil, _, hN⟩
      · exfalso
        omega
      obtain rfl : i' = i := by omega
      rw [hbl] at hE
      rw [hE]
      have HN := Lib.hid hN
      have HWD := Lib.hid hwd
      have GW := Lib.hid (good_wr GC.out (i' : Int) b)
      have HOC6 := Lib.hid HC6.out.of_ge
      have HOD6 := Lib.hid HD6.out.of_lt
      have HC7 := Lib.hid hC7
      have HD7 : Hid (Dsk w7 W.heap.size n V D) := HD6.out.touch hG7.touch (fun j hj ho => by have h1 := HOC6.out j hj; have h2 := HOD6.out j ho; have h3 := HDL.out j ho; omega)
      have O7 : Hid (w7.ownsRow w5.heap.size 5 1 (.slice a6 lb c6) lb (bc b)) := own_touch O6.out hG7.touch (fun j hj ho => HC6.out.not5 O6.out j hj ho)
      have B7 := Lib.hid (hG7.below B6.out (Nat.le_refl _) (fun j hj => by have := HOC6.out j hj; have := B2S.out; omega))
      clear hC7 hG7 hE hN hwd HC6 HD6 O6 B6 hil
      go_wp2_with fail
      go_loopw [93] (fun iv wr => ∃ k : Nat, k ≤ lb ∧ iv = .int .i64 k ∧ U8Row wr w5.heap.size a6 lb c6 ∧ Touch (fun j => (Value.slice a6 lb c6).ownBlock = some j) w7 wr) (fun iv _ => lb - (intOf iv).toNat)
      case atStart => exact ⟨0, Nat.zero_le _, rfl, ⟨b.map (fun c => (c.toNat : Int)), by have := O7.out; rwa [show bc b = u8s (b.map (fun c => (c.toNat : Int))) by simp [u8s, bc]] at this⟩, Touch.refl _ _⟩
      case round =>
      obtain ⟨k, hk, rfl, hUR, hT⟩ := hrel
      have HUR := Lib.hid hUR
      have HTR := Lib.hid hT
      obtain ⟨vs, hR⟩ := hUR
      have hvl : vs.length = lb := by have := hR.1; simp only [u8s, List.length_map] at this; omega
      by_cases hlt : k < lb
      · obtain ⟨v, hv⟩ : ∃ v, vs[k]? = some v := ⟨_, List.getElem?_eq_getElem (by omega)⟩
        obtain ⟨g, rfl, _, hgl, hcc⟩ := own_at hR 0 (by omega)
        have cc : wr.cell? ⟨g, k, none⟩ = some (.int .u8 v) := hcc k _ (by simp [u8s, hv])
        have ff := own_free hR k
        have hki : (k : Int) < (lb : Int) := by omega
        clear hR hT hcc hv
        go_wp2_with fail
        go_roundw
        case rel => exact ⟨k + 1, by omega, by go_num, HUR.out.set k hlt _, HTR.out.setCell (p := ⟨g, k, none⟩) rfl _⟩
        case measure => simp [intOf]; omega
      · have hkl : k = lb := by omega
        subst hkl
        have HD8 : Hid (Dsk wr W.heap.size n V D) := HD7.out.touch hT (fun j hj ho => HD7.out.not5 O7.out j hj ho)
        have HC8 : Hid (Dsk wr w2.heap.size nC VC7 (wrD C (i' : Int) b)) := HC7.out.touch hT (fun j hj ho => HC7.out.not5 O7.out j hj ho)
        have B8 : Hid (Below W.heap.size W wr) := Below.touch B7.out hT (Nat.le_refl _) (fun j hj => by have := own_ge O7.out j hj; have := HS5.out; have := B2S.out; omega)
        clear hR hT HD7 HC7 O7 B7 HUR HTR
        go_wp2_with fail
        refine (R1.out wr HD8.out).mono ?_
        rintro e w8 ⟨rfl, rfl⟩
        have bA := (Below.refl wr.heap.size wr).alloc (Nat.le_refl _) (.cells (bc s).toArray 63)
        have HY8 := Lib.hid (bys_new wr s 63 HSL.out)
        have HC9 := Lib.hid (HC8.out.bel bA)
        have B9 := Lib.hid (B8.out.trans (bA.mono B8.out.size))
        clear bA HC8 HD8 B8 R1
        have R2 := Lib.hid (read_ok HC9.out GW.out HWD.out i' (pad b) (by rw [HN.out, List.getElem?_set_self (by omega)]))
        have HPL := Lib.hid (pad_len (b := b) (by omega))
        go_wp2_with fail
        generalize wr.heap.size = Y at HY8 ⊢
        generalize wr.alloc (.cells (bc s).toArray 63) = w9 at HY8 HC9 B9 R2 ⊢
        refine R2.out.mono ?_
        rintro e wA ⟨rfl, rfl⟩
        have bA := (Below.refl w9.heap.size w9).alloc (Nat.le_refl _) (.cells (bc (pad b)).toArray 63)
        have HYA := Lib.hid (HY8.out.bel bA)
        have HZA := Lib.hid (bys_pre (b := b) (bys_new w9 (pad b) 63 HPL.out) (by omega) (pad_take b))
        have BA := Lib.hid (B9.out.trans (bA.mono B9.out.size))
        clear bA R2 HC9 B9 HY8
        go_wp2_with fail
        generalize w9.heap.size = Z at HZA ⊢
        generalize w9.alloc (.cells (bc (pad b)).toArray 63) = wA at HYA HZA BA ⊢
        obtain ⟨zb, hzb⟩ : ∃ z : ByteArray, z = ⟨b.toArray⟩ := ⟨_, rfl⟩
        rw [hbl] at HZA
        have QY : Hid (∀ w, Below wA.heap.size wA w → (convert 36 9 (.slice (some ⟨Y, 0, none⟩) 64 64)).run Try.prog w = .ok (.string z) w) := fun w hw => by rw [HZ.out]; exact conv_any (HYA.out.bel hw) 64
        have QZ : Hid (∀ w, Below wA.heap.size wA w → (convert 36 9 (.slice (some ⟨Z, 0, none⟩) k 64)).run Try.prog w = .ok (.string zb) w) := fun w hw => by rw [hzb]; exact conv_any (HZA.out.bel hw) 64
        have QB : Hid (∀ w, Below wA.heap.size wA w → (convert 36 9 (.slice ab k cb)).run Try.prog w = .ok (.string zb) w) := fun w hw => by rw [hzb]; exact conv_any (HBB.out.bel (BA.out.trans (hw.mono BA.out.size))) cb
        have hk6 : (k : Int) ≤ 64 := by omega
        clear hzb
        refine wp_region_below (B := wA.heap.size) (w0 := wA) (by kernel_rfl) (by kernel_rfl) (Below.refl _ _) ?_
        go_big_quiet_want; apply quiet_call (f := 9); (· (intro w hw; go_simp; try rfl)); (· (intro w hw; exact in_below (alive_any w) hw (Nat.le_refl _))); simp only [Act.put, List.setIfInBounds_toArray, List.set_cons_succ, List.set_cons_zero]; go_big_quiet_on
        go_big_quiet_want; go_big_quiet_op; go_big_quiet_on
        go_big_quiet_want; go_big_quiet_op; go_big_quiet_on
        go_big_quiet_want; apply quiet_value; (· (intro w hw; have hcv := QY.out w hw; go_simp; try rfl)); simp only [Act.put, List.setIfInBounds_toArray, List.set_cons_succ, List.set_cons_zero]; go_big_quiet_on
        go_big_quiet_want; go_big_quiet_op; go_big_quiet_on
        go_big_quiet_want; apply quiet_value (v := .bool true); (· (intro w hw; go_simp; try rfl)); simp only [Act.put, List.setIfInBounds_toArray, List.set_cons_succ, List.set_cons_zero]; go_big_quiet_on
        go_big_quiet_want; apply quiet_value; (· (intro w hw; go_simp; try rfl)); simp only [Act.put, List.setIfInBounds_toArray, List.set_cons_succ, List.set_cons_zero]; go_big_quiet_on
        go_big_quiet_want; go_big_quiet_op; go_big_quiet_on
        go_big_quiet_want; go_big_quiet_op; go_big_quiet_on
        go_big_quiet_want; apply quiet_value (v := .bool true); (· (intro w hw; go_simp; try rfl)); simp only [Act.put, List.setIfInBounds_toArray, List.set_cons_succ, List.set_cons_zero]; go_big_quiet_on
        go_big_quiet_want; apply quiet_value; (· (intro w hw; go_simp; try rfl)); simp only [Act.put, List.setIfInBounds_toArray, List.set_cons_succ, List.set_cons_zero]; go_big_quiet_on
        go_big_quiet_want; go_big_quiet_op; go_big_quiet_on
        go_big_quiet_want; go_big_quiet_op; go_big_quiet_on
        go_big_quiet_want; go_big_quiet_op; go_big_quiet_on
        go_big_quiet_want; apply quiet_value; (· (intro w hw; go_simp; try rfl)); simp only [Act.put, List.setIfInBounds_toArray, List.set_cons_succ, List.set_cons_zero]; go_big_quiet_on
        go_big_quiet_want; apply quiet_value; (· (intro w hw; go_simp; try rfl)); simp only [Act.put, List.setIfInBounds_toArray, List.set_cons_succ, List.set_cons_zero]; go_big_quiet_on
        go_big_quiet_want; apply quiet_value; (· (intro w hw; have hcv := QZ.out w hw; go_simp; try rfl)); simp only [Act.put, List.setIfInBounds_toArray, List.set_cons_succ, List.set_cons_zero]; go_big_quiet_on
        go_big_quiet_want; go_big_quiet_op; go_big_quiet_on
        go_big_quiet_want; apply quiet_value; (· (intro w hw; have hcv := QB.out w hw; go_simp; try rfl)); simp only [Act.put, List.setIfInBounds_toArray, List.set_cons_succ, List.set_cons_zero]; go_big_quiet_on
        go_big_quiet_want; apply quiet_value (v := .bool true); (· (intro w hw; go_simp; try rfl)); simp only [Act.put, List.setIfInBounds_toArray, List.set_cons_succ, List.set_cons_zero]; go_big_quiet_on
        go_big_quiet_want; apply quiet_value; (· (intro w hw; go_simp; try rfl)); simp only [Act.put, List.setIfInBounds_toArray, List.set_cons_succ, List.set_cons_zero]; go_big_quiet_on
        go_big_quiet_want; go_big_quiet_op; go_big_quiet_on
        refine wpQuiet_nil ?_
        intro wZ bZ
        have BZ := Lib.hid (BA.out.trans (bZ.mono BA.out.size))
        clear bZ
        go_wp2
        go_ret
        exact ⟨rfl, BZ.out⟩
theorem platterApart_walk {H : Type} {enc : TypeId × Value → H} {base : Nat} {p0 : List MemPlace} (W : World) (v0 : Value) (d0 : DataW H) (hv : Value.okWide Try.prog W .any base 22 v0) (h : DataW.Trod enc Try.prog W 0 (fun _ => true) true 22 v0 d0 p0) (_b : ∀ n ∈ d0.weights Try.prog 22, n ≤ 140737488351232)
    (a1 : Int) (_w1 : (Lit.int .i64 a1).wf = true) (a2 : Option Addr) (len2 cap2 : Nat) (z2 : List Int) (w2 : Ints .u8 W a2 len2 z2) (_c2 : len2 ≤ cap2) (_b2 : len2 * 1 ≤ 140737488351232) :
    Calls Try.prog 6 #[v0, .int .i64 a1, .slice a2 len2 cap2] W fun e W' => e = .returned (.bool true) ∧ Below W.heap.size W W' := by
  obtain ⟨a, len, cap, xs, rfl, hP, h1, h2⟩ := open_ops hv h
  exact apart_core W a len cap xs hP (by omega) a1 a2 len2 cap2 _ (bys_of_ints w2)
end Go.Proofs.Ytpgoacemjpobjaa

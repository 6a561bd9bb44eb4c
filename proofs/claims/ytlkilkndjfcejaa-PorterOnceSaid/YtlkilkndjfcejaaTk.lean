/- porter: PorterAll, the walk. Conditions: none. -/
import Derived.Test.YtlkilkndjfcejaaTj
namespace Go.Proofs.Ytlkilkndjfcejaa
open Go Go.RowKit Go.ChangeShapes Go.WideShapes Go.ChangeAt
set_option linter.unusedVariables false
set_option linter.unusedSimpArgs false
variable {w w' : World}

theorem nil_nn (w : World) : (binOp .neq 26 (.pointer none) (.pointer none)).run Try.prog w = .ok (.bool false) w := by kernel_rfl
theorem nil_ne (w : World) : (binOp .eql 26 (.pointer none) (.pointer none)).run Try.prog w = .ok (.bool true) w := by kernel_rfl
set_option maxRecDepth 100000 in
set_option maxHeartbeats 8000000 in
theorem all_new (W : World) (cl pa : Int) (a ar : Option Addr) (cap lr cr : Nat) (zs : List Int) (h : Ints .i64 W a zs.length zs) (hm : zs.length ≤ maxLen) (hy : newB cl zs pa = false) (hlr : lr ≤ maxLen) :
    Calls Try.prog 6 #[.agg #[.int .i64 cl, .slice a zs.length cap, .int .i64 pa], .slice ar lr cr] W fun e w' => e = .returned (.bool true) ∧ Below W.heap.size W w' := by
  have B0 := Lib.hid ((Below.refl W.heap.size W).alloc (Nat.le_refl _) (.cells #[.int .i64 cl, .slice a zs.length cap, .int .i64 pa] 24))
  have C0 := Lib.hid (new_no _ cl pa a zs.length cap zs (h.below B0.out) hy hm)
  have HI := Lib.hid h
  have HY := Lib.hid hy
  have HM := Lib.hid hm
  have HX := Lib.hid (Box.new W 24 #[.int .i64 cl, .slice a zs.length cap, .int .i64 pa])
  unfold maxLen at hlr
  clear h hy hm
  go_enter Try.func6, Try.ntmps6
  go_wp2_with fail
  refine C0.out.mono ?_
  rintro e w1 ⟨rfl, b1⟩
  have B1 := Lib.hid (B0.out.trans (b1.mono B0.out.size))
  have hX1 := HX.out.below b1 (by simp)
  have x0 : w1.cell? ⟨W.heap.size, 0, none⟩ = some (.int .i64 cl) := hX1.cell 0
  have x1 : w1.cell? ⟨W.heap.size, 1, none⟩ = some (.slice a zs.length cap) := hX1.cell 1
  have x2 : w1.cell? ⟨W.heap.size, 2, none⟩ = some (.int .i64 pa) := hX1.cell 2
  have hxl := hX1.lt
  clear hX1
  clear b1 B0 C0
  go_wp2_with fail
  refine (rnew_no cl pa a cap zs (HI.out.below B1.out) HM.out HY.out).mono ?_
  rintro e w2 ⟨rfl, b2⟩
  have B2 := Lib.hid (B1.out.trans (b2.mono B1.out.size))
  have HN := Lib.hid (Box.new w2 46 #[.int .i64 0, .int .i64 0, .slice none 0 0, .slice none 0 0, .int .i64 0, .int .i64 0, .int .i64 0, .int .i64 0, .int .i64 0, .int .i64 0, .int .i64 0, .int .i64 0, .int .i64 0, .int .i64 0, .string ⟨#[]⟩, .string ⟨#[]⟩, .int .i64 0, .int .i64 0, .int .i64 0, .string ⟨#[]⟩, .bool false, .int .i64 0, .int .i64 0, .int .i64 0, .string ⟨#[]⟩, .int .i64 0, .int .i64 0, .slice none 0 0, .int .i64 0, .int .i64 0, .int .i64 0, .int .i64 0, .int .i64 0, .string ⟨#[]⟩, .int .i64 0, .int .i64 0, .int .i64 0, .int .i64 0, .int .i64 0, .int .i64 0, .int .i64 0, .int .i64 0, .slice none 0 0])
  have B3 := Lib.hid (Below.setRow (B2.out.alloc B2.out.size (.cells #[.int .i64 0, .int .i64 0, .slice none 0 0, .slice none 0 0, .int .i64 0, .int .i64 0, .int .i64 0, .int .i64 0, .int .i64 0, .int .i64 0, .int .i64 0, .int .i64 0, .int .i64 0, .int .i64 0, .string ⟨#[]⟩, .string ⟨#[]⟩, .int .i64 0, .int .i64 0, .int .i64 0, .string ⟨#[]⟩, .bool false, .int .i64 0, .int .i64 0, .int .i64 0, .string ⟨#[]⟩, .int .i64 0, .int .i64 0, .slice none 0 0, .int .i64 0, .int .i64 0, .int .i64 0, .int .i64 0, .int .i64 0, .string ⟨#[]⟩, .int .i64 0, .int .i64 0, .int .i64 0, .int .i64 0, .int .i64 0, .int .i64 0, .int .i64 0, .int .i64 0, .slice none 0 0] 46)) (g := w2.heap.size) B2.out.size #[.int .i64 0, .int .i64 0, .slice none 0 0, .slice none 0 0, .int .i64 0, .int .i64 0, .int .i64 0, .int .i64 0, .int .i64 0, .int .i64 0, .int .i64 0, .int .i64 0, .int .i64 0, .int .i64 0, .string ⟨#[]⟩, .string ⟨#[]⟩, .int .i64 0, .int .i64 0, .int .i64 0, .string ⟨#[]⟩, .bool false, .int .i64 0, .int .i64 0, .int .i64 0, .string ⟨#[]⟩, .int .i64 0, .int .i64 0, .slice none 0 0, .int .i64 0, .int .i64 0, .int .i64 0, .int .i64 0, .int .i64 0, .string ⟨#[]⟩, .int .i64 0, .int .i64 0, .int .i64 0, .int .i64 0, .int .i64 0, .int .i64 0, .int .i64 0, .int .i64 0, .slice none 0 0])
  have hnn := nil_nn
  have hne := nil_ne
  clear b2 B1 x0 x1 x2 hxl
  unfold Z46a
  go_wp2_with (refine wpList_store_box rfl 46 (.tmp 7) (.tmp 32) rfl rfl _ 0 rfl [.int .i64 0, .int .i64 0, .slice none 0 0, .slice none 0 0, .int .i64 0, .int .i64 0, .int .i64 0, .int .i64 0, .int .i64 0, .int .i64 0, .int .i64 0, .int .i64 0, .int .i64 0, .int .i64 0, .string ⟨#[]⟩, .string ⟨#[]⟩, .int .i64 0, .int .i64 0, .int .i64 0, .string ⟨#[]⟩, .bool false, .int .i64 0, .int .i64 0, .int .i64 0, .string ⟨#[]⟩, .int .i64 0, .int .i64 0, .slice none 0 0, .int .i64 0, .int .i64 0, .int .i64 0, .int .i64 0, .int .i64 0, .string ⟨#[]⟩, .int .i64 0, .int .i64 0, .int .i64 0, .int .i64 0, .int .i64 0, .int .i64 0, .int .i64 0, .int .i64 0, .slice none 0 0] rfl HN.out #[.int .i64 0, .int .i64 0, .slice none 0 0, .slice none 0 0, .int .i64 0, .int .i64 0, .int .i64 0, .int .i64 0, .int .i64 0, .int .i64 0, .int .i64 0, .int .i64 0, .int .i64 0, .int .i64 0, .string ⟨#[]⟩, .string ⟨#[]⟩, .int .i64 0, .int .i64 0, .int .i64 0, .string ⟨#[]⟩, .bool false, .int .i64 0, .int .i64 0, .int .i64 0, .string ⟨#[]⟩, .int .i64 0, .int .i64 0, .slice none 0 0, .int .i64 0, .int .i64 0, .int .i64 0, .int .i64 0, .int .i64 0, .string ⟨#[]⟩, .int .i64 0, .int .i64 0, .int .i64 0, .int .i64 0, .int .i64 0, .int .i64 0, .int .i64 0, .int .i64 0, .slice none 0 0] (by kernel_rfl) (by kernel_rfl) (by kernel_rfl) (by kernel_rfl) ?_)
  refine (alive_any _).mono ?_
  rintro e w4 ⟨rfl, b4⟩
  go_wp2
  go_ret
  exact ⟨rfl, B3.out.trans (b4.mono B3.out.size)⟩
/-- what the law's loop keeps. -/
structure Lp (W W0 wr : World) (n bq k : Nat) (cl pa : Int) (x : Addr) (cap : Nat) (zs : List Int) (V : Vr) (U : Vs) (z : Rs) (s : St) : Prop where
  p : Pt wr W0.heap.size n U s
  r : Rw W0 wr V n U s
  q : Box wr bq 46 (rcs s V (phS s) z)
  who : Box wr W.heap.size 24 #[.int .i64 cl, .slice (some x) zs.length cap, .int .i64 pa]
  bel : Below W0.heap.size W0 wr
  zz : ∀ r, s.done = [r] → z = r
  ok : Keeps W0 zs k s
theorem Lp.below {W W0 wr wv : World} {n bq k : Nat} {cl pa : Int} {x : Addr} {cap : Nat} {zs : List Int} {V : Vr} {U : Vs} {z : Rs} {s : St} (h : Lp W W0 wr n bq k cl pa x cap zs V U z s) (hb : Below wr.heap.size wr wv) : Lp W W0 wv n bq k cl pa x cap zs V U z s :=
  ⟨h.p.below hb (Nat.le_refl _), h.r.below hb, h.q.below hb h.q.lt, h.who.below hb h.who.lt, h.bel.trans (hb.mono h.bel.size), h.zz, h.ok⟩
/-- behind a call of does. -/
theorem Lp.does {W W0 wr w4 : World} {n bq k : Nat} {cl pa : Int} {x : Addr} {cap : Nat} {zs : List Int} {V : Vr} {U : Vs} {z : Rs} {s : St} {o : Op21} {e : Ending} (h : Lp W W0 wr n bq k cl pa x cap zs V U z s) (hk : k < 100000) (ho : Strs W0 o.r.a) (hd : DoesPost W0 wr n U (outS (midS s o)) e w4) :
    ∃ U' V' z', e = .returned (.tuple #[.agg (rcs (outS (midS s o)) V' (phS (outS (midS s o))) z'), .bool true]) ∧ Pt w4 W0.heap.size n U' (outS (midS s o)) ∧ Rw W0 w4 V' n U' (outS (midS s o)) ∧ Box w4 bq 46 (rcs s V (phS s) z) ∧ Box w4 W.heap.size 24 #[.int .i64 cl, .slice (some x) zs.length cap, .int .i64 pa] ∧ Below W0.heap.size W0 w4 ∧ (∀ r, (outS (midS s o)).done = [r] → z' = r) ∧ Keeps W0 zs (k + 1) (outS (midS s o)) := by
  obtain ⟨U', V', z', rfl, h1, h2, h3, h4, h5⟩ := hd
  exact ⟨U', V', z', rfl, h2, h3, h.q.touch h4.touch (h.p.notBox h.q (by decide) (by decide) (by decide) (by decide)), h.who.touch h4.touch (h.p.notBox h.who (by decide) (by decide) (by decide) (by decide)), h5, h1, h.ok.step hk o ho⟩
set_option maxRecDepth 100000 in
set_option maxHeartbeats 16000000 in
theorem all_main (W : World) (cl pa : Int) (x : Addr) (ar : Option Addr) (cap lr cr : Nat) (zs : List Int) (os : List Op21) (h : Ints .i64 W (some x) zs.length zs) (hy : newB cl zs pa = true) (hos : OpsAt W ar lr os) (hlr : lr ≤ 500) :
    Calls Try.prog 6 #[.agg #[.int .i64 cl, .slice (some x) zs.length cap, .int .i64 pa], .slice ar lr cr] W fun e w' => e = .returned (.bool true) ∧ Below W.heap.size W w' := by
  obtain ⟨W0, hW0⟩ : ∃ W0, W0 = W.alloc (.cells #[.int .i64 cl, .slice (some x) zs.length cap, .int .i64 pa] 24) := ⟨_, rfl⟩
  have B0 := (Below.refl W.heap.size W).alloc (Nat.le_refl _) (.cells #[.int .i64 cl, .slice (some x) zs.length cap, .int .i64 pa] 24)
  have HX := Box.new W 24 #[.int .i64 cl, .slice (some x) zs.length cap, .int .i64 pa]
  rw [← hW0] at B0 HX
  have hWs : W.heap.size < W0.heap.size := by rw [hW0]; simp
  have C0 := new_yes W0 cl pa x zs.length cap zs (h.below B0) hy
  have hz20 : zs.length ≤ 20 := (newS_ok cl zs pa hy).fit.few
  unfold NewPost at C0
  have C0 := Lib.hid C0
  have B0 := Lib.hid B0
  have HX := Lib.hid HX
  have HI := Lib.hid (h.below B0.out)
  have HY := Lib.hid hy
  have HOS := Lib.hid (hos.below B0.out)
  have HW := Lib.hid hW0
  have HWS := Lib.hid hWs
  clear h hy hos hW0 hWs
  go_enter Try.func6, Try.ntmps6
  go_wp2_with fail
  rw [← HW.out]
  refine C0.out.mono ?_
  rintro e w1 ⟨n, U, rfl, hP, b1⟩
  have HP1 := Lib.hid hP
  have B1 := Lib.hid b1
  have HX1 := Lib.hid (HX.out.below b1 HWS.out)
  have x0 : w1.cell? ⟨W.heap.size, 0, none⟩ = some (.int .i64 cl) := HX1.out.cell 0
  have x1 : w1.cell? ⟨W.heap.size, 1, none⟩ = some (.slice (some x) zs.length cap) := HX1.out.cell 1
  have x2 : w1.cell? ⟨W.heap.size, 2, none⟩ = some (.int .i64 pa) := HX1.out.cell 2
  have hxl := HX1.out.lt
  have hne := ptr_ne n
  have hnn := ptr_nn n
  clear hP b1 C0
  go_wp2_with fail
  refine (rnew_yes cl pa (some x) cap zs (HI.out.below B1.out) HY.out).mono ?_
  rintro e w2 ⟨V, hVm, hVo, rfl, hR2, hVg, b2⟩
  have HX2 := Lib.hid (HX1.out.below b2 HX1.out.lt)
  have HP2 := Lib.hid (HP1.out.below b2 (Nat.le_refl _))
  have B2 := Lib.hid (B1.out.trans (b2.mono B1.out.size))
  have HRW := Lib.hid (show Rw W0 w2 V n U (newS cl zs pa) from ⟨hR2, ⟨some x, zs.length, cap, hVm, HI.out⟩, fun k hk ho => by
    have hk2 := HP1.out.of_lt k ho
    rcases hk with h1 | h1
    · have := hVg k h1; omega
    · rw [hVo] at h1; cases h1⟩)
  obtain ⟨bq, hbq⟩ : ∃ bq, bq = w2.heap.size := ⟨_, rfl⟩
  obtain ⟨S0, hS0⟩ : ∃ S0, S0 = newS cl zs pa := ⟨_, rfl⟩
  have hp0 : phS S0 = 0 := by rw [hS0]; rfl
  have HK := Lib.hid (show Keeps W0 zs 0 S0 from by rw [hS0]; exact Keeps.new cl zs pa HY.out)
  rw [← hS0] at HRW HP2 ⊢
  have hBB := Below.setRow ((Below.refl w2.heap.size w2).alloc (Nat.le_refl _) (.cells #[.int .i64 0, .int .i64 0, .slice none 0 0, .slice none 0 0, .int .i64 0, .int .i64 0, .int .i64 0, .int .i64 0, .int .i64 0, .int .i64 0, .int .i64 0, .int .i64 0, .int .i64 0, .int .i64 0, .string ⟨#[]⟩, .string ⟨#[]⟩, .int .i64 0, .int .i64 0, .int .i64 0, .string ⟨#[]⟩, .bool false, .int .i64 0, .int .i64 0, .int .i64 0, .string ⟨#[]⟩, .int .i64 0, .int .i64 0, .slice none 0 0, .int .i64 0, .int .i64 0, .int .i64 0, .int .i64 0, .int .i64 0, .string ⟨#[]⟩, .int .i64 0, .int .i64 0, .int .i64 0, .int .i64 0, .int .i64 0, .int .i64 0, .int .i64 0, .int .i64 0, .slice none 0 0] 46)) (g := w2.heap.size) (Nat.le_refl _) (rcs S0 V 0 zeroRs)
  have HN := Lib.hid (Box.new w2 46 #[.int .i64 0, .int .i64 0, .slice none 0 0, .slice none 0 0, .int .i64 0, .int .i64 0, .int .i64 0, .int .i64 0, .int .i64 0, .int .i64 0, .int .i64 0, .int .i64 0, .int .i64 0, .int .i64 0, .string ⟨#[]⟩, .string ⟨#[]⟩, .int .i64 0, .int .i64 0, .int .i64 0, .string ⟨#[]⟩, .bool false, .int .i64 0, .int .i64 0, .int .i64 0, .string ⟨#[]⟩, .int .i64 0, .int .i64 0, .slice none 0 0, .int .i64 0, .int .i64 0, .int .i64 0, .int .i64 0, .int .i64 0, .string ⟨#[]⟩, .int .i64 0, .int .i64 0, .int .i64 0, .int .i64 0, .int .i64 0, .int .i64 0, .int .i64 0, .int .i64 0, .slice none 0 0])
  have hQ := HN.out.setRow (rcs S0 V 0 zeroRs)
  have HONE := Lib.hid (one_rcs HRW.out.r 0 zeroRs)
  have hL : Lp W W0 ((w2.alloc (.cells #[.int .i64 0, .int .i64 0, .slice none 0 0, .slice none 0 0, .int .i64 0, .int .i64 0, .int .i64 0, .int .i64 0, .int .i64 0, .int .i64 0, .int .i64 0, .int .i64 0, .int .i64 0, .int .i64 0, .string ⟨#[]⟩, .string ⟨#[]⟩, .int .i64 0, .int .i64 0, .int .i64 0, .string ⟨#[]⟩, .bool false, .int .i64 0, .int .i64 0, .int .i64 0, .string ⟨#[]⟩, .int .i64 0, .int .i64 0, .slice none 0 0, .int .i64 0, .int .i64 0, .int .i64 0, .int .i64 0, .int .i64 0, .string ⟨#[]⟩, .int .i64 0, .int .i64 0, .int .i64 0, .int .i64 0, .int .i64 0, .int .i64 0, .int .i64 0, .int .i64 0, .slice none 0 0] 46)).setRow w2.heap.size (rcs S0 V 0 zeroRs)) n w2.heap.size 0 cl pa x cap zs V U zeroRs S0 :=
    ⟨HP2.out.below hBB (Nat.le_refl _), HRW.out.below hBB, by rw [hp0]; exact hQ, HX2.out.below hBB HX2.out.lt, B2.out.trans (hBB.mono B2.out.size), (fun r hr => by rw [hS0] at hr; cases hr), HK.out⟩
  rw [← hbq] at hL
  have HBQW := Lib.hid (show W0.heap.size ≤ bq by rw [hbq]; exact B2.out.size)
  have HL := Lib.hid hL
  have HBQ := Lib.hid hbq
  clear b2 hBB hQ hL hbq hS0 hp0 hVm hVo hR2 hVg HRW HP2 HX2 B2 HX1 HP1 B1 x0 x1 x2 hxl HK
  go_upto_region 3 with (refine wpList_store_box rfl 46 (.tmp 7) (.tmp 32) rfl rfl _ 0 rfl (rcs S0 V 0 zeroRs).toList rfl HN.out (rcs S0 V 0 zeroRs) (by kernel_rfl) (by kernel_rfl) (by kernel_rfl) HONE.out ?_)
  rw [← HBQ.out]
  refine wp_name (fun W' => Lp W W0 W' n bq 0 cl pa x cap zs V U zeroRs S0) HL.out ?_
  clear HL HN HBQ
  rintro w3 hL
  have HL := Lib.hid hL
  clear hL
  go_wp2_with fail
  go_loopw [10, 11, 12, 54] (fun _ _ _ i wr => ∃ (k : Nat) (V : Vr) (U : Vs) (z : Rs) (s : St), k ≤ lr ∧ i = .int .i64 k ∧ Lp W W0 wr n bq k cl pa x cap zs V U z s) (fun _ _ _ i _ => lr - (intOf i).toNat)
  case atStart => exact ⟨0, V, U, zeroRs, S0, Nat.zero_le _, rfl, HL.out⟩
  case round =>
    clear HL
    obtain ⟨k, V, U, z, s, hk, rfl, hL⟩ := hrel
    have HL := Lib.hid hL
    by_cases hlt : k < lr
    · obtain ⟨b, off, o, hae, _, hst, hbl, hra, c0⟩ := HOS.out.get k hlt hL.bel
      clear hL
      subst hae
      have HR := Lib.hid hra
      have HSTR := Lib.hid hst
      obtain ⟨b3, hb3⟩ : ∃ b3, b3 = wr.heap.size := ⟨_, rfl⟩
      have HN := Lib.hid (Box.new wr 60 #[.int .i64 0, .int .i64 0, .int .i64 0, .int .i64 0, .int .i64 0, .int .i64 0, .int .i64 0, .int .i64 0, .int .i64 0, .string ⟨#[]⟩, .string ⟨#[]⟩, .int .i64 0, .int .i64 0, .int .i64 0, .string ⟨#[]⟩, .bool false, .int .i64 0, .int .i64 0, .int .i64 0, .string ⟨#[]⟩, .int .i64 0, .int .i64 0, .int .i64 0, .int .i64 0, .int .i64 0, .int .i64 0, .int .i64 0, .int .i64 0, .string ⟨#[]⟩, .int .i64 0, .int .i64 0, .int .i64 0, .int .i64 0, .int .i64 0, .int .i64 0, .int .i64 0, .int .i64 0, .slice none 0 0])
      have hB := Below.setRow ((Below.refl wr.heap.size wr).alloc (Nat.le_refl _) (.cells #[.int .i64 0, .int .i64 0, .int .i64 0, .int .i64 0, .int .i64 0, .int .i64 0, .int .i64 0, .int .i64 0, .int .i64 0, .string ⟨#[]⟩, .string ⟨#[]⟩, .int .i64 0, .int .i64 0, .int .i64 0, .string ⟨#[]⟩, .bool false, .int .i64 0, .int .i64 0, .int .i64 0, .string ⟨#[]⟩, .int .i64 0, .int .i64 0, .int .i64 0, .int .i64 0, .int .i64 0, .int .i64 0, .int .i64 0, .int .i64 0, .string ⟨#[]⟩, .int .i64 0, .int .i64 0, .int .i64 0, .int .i64 0, .int .i64 0, .int .i64 0, .int .i64 0, .int .i64 0, .slice none 0 0] 60)) (g := wr.heap.size) (Nat.le_refl _) (oc o)
      have hQ := HN.out.setRow (oc o)
      have hL2 := HL.out.below hB
      rw [← hb3] at hQ hL2
      have HQ := Lib.hid hQ
      have HL2 := Lib.hid hL2
      have HB3 := Lib.hid hb3
      clear hra hst hB hQ hL2 hb3 HL
      go_upto_region 10 with (first | (refine wpList_load_mid rfl 60 (.tmp 56) rfl b (off + k * 38) rfl _ _ HR.out Try.underlying60 rfl (by kernel_rfl) ?_) | (refine wpList_store_box rfl 60 (.tmp 10) (.tmp 57) rfl rfl _ 0 rfl (oc o).toList rfl HN.out (oc o) (by kernel_rfl) (by kernel_rfl) (by kernel_rfl) (by kernel_rfl) ?_))
      rw [← HB3.out]
      refine wp_name (fun W' => Lp W W0 W' n bq k cl pa x cap zs V U z s ∧ Box W' b3 60 (oc o)) ⟨HL2.out, HQ.out⟩ ?_
      clear HL2 HQ HN HB3 HR c0
      rintro w4 ⟨hL4, hQ4⟩
      have HL4 := Lib.hid hL4
      have HQ4 := Lib.hid hQ4
      clear hL4 hQ4
      go_wp2_with (first | (refine wpList_load_box rfl 46 (.tmp 7) rfl _ 0 rfl HL4.out.q (rcs s V (phS s) z).toList (by kernel_rfl) Try.underlying46 rfl (by kernel_rfl) ?_) | (refine wpList_load_box rfl 60 (.tmp 10) rfl _ 0 rfl HQ4.out (oc o).toList (by kernel_rfl) Try.underlying60 rfl (by kernel_rfl) ?_))
      refine (does_any o z HL4.out.bel.size HL4.out.p HL4.out.bel HL4.out.r HL4.out.zz HL4.out.ok.ok HL4.out.ok.out (by have := HL4.out.ok.nu; omega) HL4.out.ok.strs).mono ?_
      intro e w5 hd
      obtain ⟨U5, V5, z5, rfl, hP5, hR5, hq5, hw5, hb5, hz5, hk5⟩ := HL4.out.does (by omega) HSTR.out hd
      clear hd
      obtain ⟨s5, hs5⟩ : ∃ s5, s5 = outS (midS s o) := ⟨_, rfl⟩
      rw [← hs5] at hP5 hR5 hz5 hk5 ⊢
      obtain ⟨p5, hp5⟩ : ∃ p5, p5 = phS s5 := ⟨_, rfl⟩
      rw [← hp5]
      obtain ⟨b6, hb6⟩ : ∃ b6, b6 = w5.heap.size := ⟨_, rfl⟩
      have HN6 := Lib.hid (Box.new w5 46 #[.int .i64 0, .int .i64 0, .slice none 0 0, .slice none 0 0, .int .i64 0, .int .i64 0, .int .i64 0, .int .i64 0, .int .i64 0, .int .i64 0, .int .i64 0, .int .i64 0, .int .i64 0, .int .i64 0, .string ⟨#[]⟩, .string ⟨#[]⟩, .int .i64 0, .int .i64 0, .int .i64 0, .string ⟨#[]⟩, .bool false, .int .i64 0, .int .i64 0, .int .i64 0, .string ⟨#[]⟩, .int .i64 0, .int .i64 0, .slice none 0 0, .int .i64 0, .int .i64 0, .int .i64 0, .int .i64 0, .int .i64 0, .string ⟨#[]⟩, .int .i64 0, .int .i64 0, .int .i64 0, .int .i64 0, .int .i64 0, .int .i64 0, .int .i64 0, .int .i64 0, .slice none 0 0])
      have hB6 := Below.setRow ((Below.refl w5.heap.size w5).alloc (Nat.le_refl _) (.cells #[.int .i64 0, .int .i64 0, .slice none 0 0, .slice none 0 0, .int .i64 0, .int .i64 0, .int .i64 0, .int .i64 0, .int .i64 0, .int .i64 0, .int .i64 0, .int .i64 0, .int .i64 0, .int .i64 0, .string ⟨#[]⟩, .string ⟨#[]⟩, .int .i64 0, .int .i64 0, .int .i64 0, .string ⟨#[]⟩, .bool false, .int .i64 0, .int .i64 0, .int .i64 0, .string ⟨#[]⟩, .int .i64 0, .int .i64 0, .slice none 0 0, .int .i64 0, .int .i64 0, .int .i64 0, .int .i64 0, .int .i64 0, .string ⟨#[]⟩, .int .i64 0, .int .i64 0, .int .i64 0, .int .i64 0, .int .i64 0, .int .i64 0, .int .i64 0, .int .i64 0, .slice none 0 0] 46)) (g := w5.heap.size) (Nat.le_refl _) (rcs s5 V5 p5 z5)
      have hQ6 := HN6.out.setRow (rcs s5 V5 p5 z5)
      have hbb6 := HN6.out.lt
      have HP6 := Lib.hid (hP5.below hB6 (Nat.le_refl _))
      have HR6 := Lib.hid (hR5.below hB6)
      have Hq6 := Lib.hid (hq5.below hB6 hq5.lt)
      have Hw6 := Lib.hid (hw5.below hB6 hw5.lt)
      have HB6 := Lib.hid (hb5.trans (hB6.mono hb5.size))
      have HONE := Lib.hid (one_rcs hR5.r p5 z5)
      have hneq : bq < b6 := by rw [hb6]; exact hq5.lt
      have HQ6 := Lib.hid hQ6
      have HZ5 := Lib.hid hz5
      have HK5 := Lib.hid hk5
      have HB6E := Lib.hid hb6
      have HP5E := Lib.hid hp5
      clear hP5 hR5 hq5 hw5 hb5 hz5 hk5 hs5 hp5 hb6 hB6 hQ6 hbb6 HL4 HQ4
      go_upto_region 11 with (refine wpList_store_box rfl 46 (.tmp 11) (.tmp 63) rfl rfl _ 0 rfl (rcs s5 V5 p5 z5).toList rfl HN6.out (rcs s5 V5 p5 z5) (by kernel_rfl) (by kernel_rfl) (by kernel_rfl) HONE.out ?_)
      rw [← HB6E.out]
      rw [← HB6E.out] at HQ6 HP6 HR6 Hq6 Hw6 HB6
      refine wp_name (fun W' => Pt W' W0.heap.size n U5 s5 ∧ Rw W0 W' V5 n U5 s5 ∧ Box W' bq 46 (rcs s V (phS s) z) ∧ Box W' W.heap.size 24 #[.int .i64 cl, .slice (some x) zs.length cap, .int .i64 pa] ∧ Below W0.heap.size W0 W' ∧ Box W' b6 46 (rcs s5 V5 p5 z5)) ⟨HP6.out, HR6.out, Hq6.out, Hw6.out, HB6.out, HQ6.out⟩ ?_
      clear HP6 HR6 Hq6 Hw6 HB6 HQ6 HN6 HB6E
      rintro w6 ⟨hP6, hR6, hq6, hw6, hb6, hQ6⟩
      have hbqW : W0.heap.size ≤ bq := HBQW.out
      have HQ6 := Lib.hid hQ6
      have Hq6 := Lib.hid hq6
      have hql6 := hq6.lt
      have hQl6 := hQ6.lt
      have HL7 := Lib.hid (show Lp W W0 (w6.setRow bq (rcs s5 V5 p5 z5)) n bq (k + 1) cl pa x cap zs V5 U5 z5 s5 from
        ⟨hP6.stays fun k hk ho => Go.setRow_other _ _ _ _ (by rintro rfl; exact hP6.notBox hq6 (by decide) (by decide) (by decide) (by decide) ho), hR6.row hb6 hq6 hbqW (by decide) (by decide) _, by rw [← HP5E.out]; exact hq6.setRow _, hw6.setRow_other _ (hw6.ne hq6 (by decide)), Below.setRow hb6 hbqW _, HZ5.out, HK5.out⟩)
      clear hP6 hR6 hq6 hw6 hb6 hQ6 hbqW
      go_wp2_with (first | (refine wpList_load_box rfl 46 (.tmp 11) rfl _ 0 rfl HQ6.out (rcs s5 V5 p5 z5).toList (by kernel_rfl) Try.underlying46 rfl (by kernel_rfl) ?_) | (refine wpList_store_box rfl 46 (.tmp 7) (.tmp 65) rfl rfl _ 0 rfl (rcs s5 V5 p5 z5).toList rfl Hq6.out (rcs s5 V5 p5 z5) (by kernel_rfl) (by kernel_rfl) (by kernel_rfl) HONE.out ?_))
      go_roundw
      case rel => exact ⟨k + 1, V5, U5, z5, s5, by omega, by go_num, HL7.out⟩
      case measure => simp [intOf]; omega
    · clear hL
      go_wp2_with fail
      go_loopw [13] (fun i wv => ∃ j : Int, -1 ≤ j ∧ j ≤ (zs.length : Int) + 1 ∧ i = .int .i64 j ∧ Below wr.heap.size wr wv) (fun i _ => ((zs.length : Int) + 1 - intOf i).toNat)
      case atStart => exact ⟨-1, by omega, by omega, rfl, Below.refl _ _⟩
      case round =>
        rename World => wv
        obtain ⟨j, hj0, hj1, rfl, hbv⟩ := hrel
        have HL2 := Lib.hid (HL.out.below hbv)
        have HO := Lib.hid HL2.out
        have HA2 := Lib.hid HL2.out.q
        have HP2 := Lib.hid HL2.out.p
        have HR2 := Lib.hid HL2.out.r
        have y1 : wv.cell? ⟨W.heap.size, 1, none⟩ = some (.slice (some x) zs.length cap) := HL2.out.who.cell 1
        have hxl := HL2.out.who.lt
        have HBV := Lib.hid hbv
        clear hbv
        by_cases hjl : j ≤ (zs.length : Int)
        · go_upto_region 18 with (fail)
          refine wp_region_below (w0 := wv) (B := wv.heap.size) (by kernel_rfl) (by kernel_rfl) (Below.refl _ _) ?_
          go_big_quiet_want; go_big_quiet_op; go_big_quiet_on
          go_big_quiet_want; go_big_quiet_op; go_big_quiet_on
          go_big_quiet_want; apply quiet_call (f := 24) (v := .int .i64 (if thereB s j then s.guess.getD j.toNat 0 else -1)); (· (intro w hw; go_simp; try rfl)); (· (intro w1 b1; exact in_class (guess_any j (HP2.out.below b1 (Nat.le_refl _)) HO.out.ok.ok.fit) b1)); simp only [Act.put, List.setIfInBounds_toArray, List.set_cons_succ, List.set_cons_zero]; go_big_quiet_on
          go_big_quiet_want; apply quiet_value; (· (intro w hw; have hB := HA2.out.below hw HA2.out.lt; refine load_box_val 46 (.tmp 7) ?_ bq 0 ?_ hB (rcs s V (phS s) z).toList (by kernel_rfl) Try.underlying46 rfl (by kernel_rfl) <;> rfl)); simp only [Act.put, List.setIfInBounds_toArray, List.set_cons_succ, List.set_cons_zero]; go_big_quiet_on
          go_big_quiet_want; go_big_quiet_op; go_big_quiet_on
          go_big_quiet_want; apply quiet_call (f := 25) (v := .int .i64 (if thereB s j then s.guess.getD j.toNat 0 else -1)); (· (intro w hw; go_simp; try rfl)); (· (intro w1 b1; exact in_below (rguess_any z (phS s) j (HR2.out.r.below b1) HO.out.ok.ok.fit) b1 (Nat.le_refl _))); simp only [Act.put, List.setIfInBounds_toArray, List.set_cons_succ, List.set_cons_zero]; go_big_quiet_on
          go_big_quiet_want; apply quiet_value (v := .bool false); (· (intro w hw; go_simp; try rfl)); simp only [Act.put, List.setIfInBounds_toArray, List.set_cons_succ, List.set_cons_zero]; go_big_quiet_on
          refine wpQuiet_nil ?_
          intro w8 b8
          have HB8 := Lib.hid (HBV.out.trans (b8.mono HBV.out.size))
          clear b8
          go_wp2_with fail
          go_roundw
          case rel => exact ⟨j + 1, by omega, by omega, rfl, HB8.out⟩
          case measure => simp [intOf]; omega
        · go_wp2_with fail
          refine (alive_any _).mono ?_
          rintro e w8 ⟨rfl, b8⟩
          go_wp2
          go_ret
          exact ⟨rfl, B0.out.trans ((HL2.out.bel.trans (b8.mono HL2.out.bel.size)).mono B0.out.size)⟩
theorem all_early (W : World) (cl pa : Int) (x : Addr) (ar : Option Addr) (cap lr cr : Nat) (zs : List Int) (h : Ints .i64 W (some x) zs.length zs) (hy : newB cl zs pa = true) (hlr : lr ≤ maxLen) (h5 : ¬ lr ≤ 500) :
    Calls Try.prog 6 #[.agg #[.int .i64 cl, .slice (some x) zs.length cap, .int .i64 pa], .slice ar lr cr] W fun e w' => e = .returned (.bool true) ∧ Below W.heap.size W w' := by
  obtain ⟨W0, hW0⟩ : ∃ W0, W0 = W.alloc (.cells #[.int .i64 cl, .slice (some x) zs.length cap, .int .i64 pa] 24) := ⟨_, rfl⟩
  have B0 := (Below.refl W.heap.size W).alloc (Nat.le_refl _) (.cells #[.int .i64 cl, .slice (some x) zs.length cap, .int .i64 pa] 24)
  have HX := Box.new W 24 #[.int .i64 cl, .slice (some x) zs.length cap, .int .i64 pa]
  rw [← hW0] at B0 HX
  have hWs : W.heap.size < W0.heap.size := by rw [hW0]; simp
  have C0 := new_yes W0 cl pa x zs.length cap zs (h.below B0) hy
  have hz20 : zs.length ≤ 20 := (newS_ok cl zs pa hy).fit.few
  unfold NewPost at C0
  unfold maxLen at hlr
  have C0 := Lib.hid C0
  have B0 := Lib.hid B0
  have HX := Lib.hid HX
  have HI := Lib.hid (h.below B0.out)
  have HY := Lib.hid hy
  have HW := Lib.hid hW0
  have HWS := Lib.hid hWs
  clear h hy hW0 hWs
  go_enter Try.func6, Try.ntmps6
  go_wp2_with fail
  rw [← HW.out]
  refine C0.out.mono ?_
  rintro e w1 ⟨n, U, rfl, hP, b1⟩
  have B1 := Lib.hid b1
  have HX1 := Lib.hid (HX.out.below b1 HWS.out)
  have x0 : w1.cell? ⟨W.heap.size, 0, none⟩ = some (.int .i64 cl) := HX1.out.cell 0
  have x1 : w1.cell? ⟨W.heap.size, 1, none⟩ = some (.slice (some x) zs.length cap) := HX1.out.cell 1
  have x2 : w1.cell? ⟨W.heap.size, 2, none⟩ = some (.int .i64 pa) := HX1.out.cell 2
  have hxl := HX1.out.lt
  have hne := ptr_ne n
  have hnn := ptr_nn n
  clear hP b1 C0
  go_wp2_with fail
  refine (rnew_yes cl pa (some x) cap zs (HI.out.below B1.out) HY.out).mono ?_
  rintro e w2 ⟨V, hVm, hVo, rfl, hR2, hVg, b2⟩
  have B2 := Lib.hid (B1.out.trans (b2.mono B1.out.size))
  have HN := Lib.hid (Box.new w2 46 #[.int .i64 0, .int .i64 0, .slice none 0 0, .slice none 0 0, .int .i64 0, .int .i64 0, .int .i64 0, .int .i64 0, .int .i64 0, .int .i64 0, .int .i64 0, .int .i64 0, .int .i64 0, .int .i64 0, .string ⟨#[]⟩, .string ⟨#[]⟩, .int .i64 0, .int .i64 0, .int .i64 0, .string ⟨#[]⟩, .bool false, .int .i64 0, .int .i64 0, .int .i64 0, .string ⟨#[]⟩, .int .i64 0, .int .i64 0, .slice none 0 0, .int .i64 0, .int .i64 0, .int .i64 0, .int .i64 0, .int .i64 0, .string ⟨#[]⟩, .int .i64 0, .int .i64 0, .int .i64 0, .int .i64 0, .int .i64 0, .int .i64 0, .int .i64 0, .int .i64 0, .slice none 0 0])
  have HONE := Lib.hid (one_rcs hR2 0 zeroRs)
  have B3 := Lib.hid (Below.setRow (B2.out.alloc B2.out.size (.cells #[.int .i64 0, .int .i64 0, .slice none 0 0, .slice none 0 0, .int .i64 0, .int .i64 0, .int .i64 0, .int .i64 0, .int .i64 0, .int .i64 0, .int .i64 0, .int .i64 0, .int .i64 0, .int .i64 0, .string ⟨#[]⟩, .string ⟨#[]⟩, .int .i64 0, .int .i64 0, .int .i64 0, .string ⟨#[]⟩, .bool false, .int .i64 0, .int .i64 0, .int .i64 0, .string ⟨#[]⟩, .int .i64 0, .int .i64 0, .slice none 0 0, .int .i64 0, .int .i64 0, .int .i64 0, .int .i64 0, .int .i64 0, .string ⟨#[]⟩, .int .i64 0, .int .i64 0, .int .i64 0, .int .i64 0, .int .i64 0, .int .i64 0, .int .i64 0, .int .i64 0, .slice none 0 0] 46)) (g := w2.heap.size) B2.out.size (rcs (newS cl zs pa) V 0 zeroRs))
  clear b2 hVm hVo hR2 hVg x0 x1 x2 hxl
  go_wp2_with (refine wpList_store_box rfl 46 (.tmp 7) (.tmp 32) rfl rfl _ 0 rfl (rcs (newS cl zs pa) V 0 zeroRs).toList rfl HN.out (rcs (newS cl zs pa) V 0 zeroRs) (by kernel_rfl) (by kernel_rfl) (by kernel_rfl) HONE.out ?_)
  refine (alive_any _).mono ?_
  rintro e w4 ⟨rfl, b4⟩
  go_wp2
  go_ret
  exact ⟨rfl, B0.out.trans ((B3.out.trans (b4.mono B3.out.size)).mono B0.out.size)⟩
theorem all_core (W : World) (cl pa : Int) (a ar : Option Addr) (len cap lr cr : Nat) (zs : List Int) (os : List Op21) (h : Ints .i64 W a len zs) (hr : OpsAt W ar lr os) (hlm : lr ≤ maxLen) :
    Calls Try.prog 6 #[.agg #[.int .i64 cl, .slice a len cap, .int .i64 pa], .slice ar lr cr] W fun e w' => e = .returned (.bool true) ∧ Below W.heap.size W w' := by
  obtain rfl := h.1
  cases hy : newB cl zs pa
  · exact all_new W cl pa a ar cap lr cr zs h h.2.2.1 hy hlm
  · have hzl : 0 < zs.length := (newS_ok cl zs pa hy).fit.vol
    obtain ⟨b, off, rfl, _⟩ := h.at_ 0 zs[0] (List.getElem?_eq_getElem hzl)
    by_cases h5 : lr ≤ 500
    · exact all_main W cl pa _ ar cap lr cr zs os h hy hr h5
    · exact all_early W cl pa _ ar cap lr cr zs h hy hlm h5
set_option maxRecDepth 100000 in
theorem porterAll_walk {H : Type} {enc : TypeId × Value → H} {base0 base2 : Nat} {p0 p2 : List MemPlace} (W : World) (v0 : Value) (d0 : DataW H) (hv : Value.okWide Try.prog W .any base0 24 v0) (h : DataW.Trod enc Try.prog W 0 (fun _ => true) true 24 v0 d0 p0) (_b : ∀ n ∈ d0.weights Try.prog 24, n ≤ 140737488351232)
    (v2 : Value) (d2 : DataW H) (hv2 : Value.okWide Try.prog W .any base2 25 v2) (h2 : DataW.Trod enc Try.prog W 0 (fun _ => true) true 25 v2 d2 p2) (_b2 : ∀ n ∈ d2.weights Try.prog 25, n ≤ 140737488351232) : Calls Try.prog 6 #[v0, v2] W fun e W' => e = .returned (.bool true) ∧ Below W.heap.size W W' := by
  obtain ⟨cl, pa, a, len, cap, zs, rfl, hI⟩ := who_open hv h
  obtain ⟨ar, lr, cr, os, rfl, hR, h1, h3⟩ := open_ops hv2 h2
  exact all_core W cl pa a ar len cap lr cr zs os hI hR (Nat.le_trans h1 h3)
end Go.Proofs.Ytlkilkndjfcejaa

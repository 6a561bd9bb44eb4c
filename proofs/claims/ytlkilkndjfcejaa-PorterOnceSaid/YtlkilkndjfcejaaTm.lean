/- porter: PorterOnce, the walk. Conditions: none. -/
import Derived.Test.YtlkilkndjfcejaaTl
namespace Go.Proofs.Ytlkilkndjfcejaa
open Go Go.RowKit Go.ChangeShapes Go.WideShapes Go.ChangeAt
set_option linter.unusedVariables false
set_option linter.unusedSimpArgs false
variable {w w' : World}

theorem cell_setRow_other (w : World) (b g j : Nat) (new : Array Value) (h : g ≠ b) : (w.setRow b new).cell? ⟨g, j, none⟩ = w.cell? ⟨g, j, none⟩ := by
  unfold World.cell?
  simp only [Go.setRow_other w b g new h]
/-- a load of a whole struct whose guard says yes. -/
theorem wpList_load_boxg {P : Program} {ops : Array Oper} {rest : List Oper} {op : Oper} {a : Act} {Q : Exit → Act → World → Prop} (hw : Region.wanted op (yielded ops a.tmps) = true) (ty : TypeId) (x : Operand) (ho : op.op = .load ty x) (b off : Nat) (hx : a.eval x = .pointer (some ⟨b, off, none⟩)) {T : TypeId} {cs : Array Value} (hb : Box w b T cs)
    (vs : List Value) (hvs : (cs.toList.drop off).take vs.length = vs) {d : TypeDesc} (hu : P.underlying ty = some d) (hd : d.isRow = true) (hi : (P.info? ty).map (·.size) = some vs.length)
    (h : wpList P ops Q rest (a.put op.dst (.agg vs.toArray)) w) : wpList P ops Q (op :: rest) a w :=
  BigFrame.wpList_want hw fun _ hK => wp_load_mid ty x ho b off hx vs d (hb.range off vs hvs) hu hd hi (hK _ _ h)
/-- what the law's loop keeps. -/
def Lo (W W0 wr : World) (n bq bl lr : Nat) (cl pa : Int) (x : Addr) (cap : Nat) (zs : List Int) (k : Nat) : Prop :=
  ∃ (U : Vs) (V : Vr) (z : Rs) (s : St) (L : List Rq) (q : Rq), Po W W0 wr n bq bl cl pa x cap zs U s (rcs (withOut s L) V (phS (withOut s L)) z) q ∧ Rw W0 wr V n U (withOut s L) ∧ (∀ r, (withOut s L).done = [r] → z = r) ∧ Keeps W0 zs k s ∧ L.length ≤ k ∧ Last s q ∧ s.cl = cl ∧ k ≤ lr
theorem Lo.mk {W W0 wr : World} {n bq bl lr : Nat} {cl pa : Int} {x : Addr} {cap : Nat} {zs : List Int} {k : Nat} {U : Vs} {V : Vr} {z : Rs} {s t : St} {L : List Rq} {q : Rq} (h1 : Po W W0 wr n bq bl cl pa x cap zs U (outS s) (rcs t V (phS t) z) q) (h2 : Rw W0 wr V n U t) (h3 : ∀ r, t.done = [r] → z = r) (h4 : Keeps W0 zs k (outS s)) (h5 : t = withOut (outS s) L) (h6 : L.length ≤ k) (h7 : Last (outS s) q) (h8 : s.cl = cl) (h9 : k ≤ lr) : Lo W W0 wr n bq bl lr cl pa x cap zs k := by
  subst h5
  exact ⟨U, V, z, outS s, L, q, h1, h2, h3, h4, h6, h7, h8, h9⟩
set_option maxRecDepth 100000 in
set_option maxHeartbeats 32000000 in
theorem once_main (W : World) (cl pa : Int) (x : Addr) (ar : Option Addr) (cap lr cr : Nat) (zs : List Int) (os : List Op21) (h : Ints .i64 W (some x) zs.length zs) (hy : newB cl zs pa = true) (hos : OpsAt W ar lr os) (hlr : lr ≤ 500) :
    Calls Try.prog 3 #[.agg #[.int .i64 cl, .slice (some x) zs.length cap, .int .i64 pa], .slice ar lr cr] W fun e w' => e = .returned (.bool true) ∧ Below W.heap.size W w' := by
  obtain ⟨W0, hW0⟩ : ∃ W0, W0 = W.alloc (.cells #[.int .i64 cl, .slice (some x) zs.length cap, .int .i64 pa] 24) := ⟨_, rfl⟩
  have B0 := (Below.refl W.heap.size W).alloc (Nat.le_refl _) (.cells #[.int .i64 cl, .slice (some x) zs.length cap, .int .i64 pa] 24)
  have HX := Box.new W 24 #[.int .i64 cl, .slice (some x) zs.length cap, .int .i64 pa]
  rw [← hW0] at B0 HX
  have hWs : W.heap.size < W0.heap.size := by rw [hW0]; simp
  have C0 := new_yes W0 cl pa x zs.length cap zs (h.below B0) hy
  unfold NewPost at C0
  have C0 := Lib.hid C0
  have B0 := Lib.hid B0
  have HX := Lib.hid HX
  have HI := Lib.hid (h.below B0.out)
  have HY := Lib.hid hy
  have HOS := Lib.hid (hos.below B0.out)
  have HW := Lib.hid hW0
  have HWS := Lib.hid hWs
  clear h hy hos hW0 hWs
  go_enter Try.func3, Try.ntmps3
  go_wp2_with fail
  rw [← HW.out]
  refine C0.out.mono ?_
  rintro e w1 ⟨n, U, rfl, hP, b1⟩
  have HP1 := Lib.hid hP
  have B1 := Lib.hid b1
  have HX1 := Lib.hid (HX.out.below b1 HWS.out)
  have x0 : w1.cell? ⟨W.heap.size, 0, none⟩ = some (.int .i64 cl) := HX1.out.cell 0
  have x1 : w1.cell? ⟨W.heap.size, 1, none⟩ = some (.slice (some x) zs.length cap) := HX1.out.cell 1
  have x2 : w1.cell? ⟨W.heap.size, 2, none⟩ = some (.int .i64 pa) := HX1.out.cell 2
  have hxl := HX1.out.lt
  have hne := ptr_ne n
  clear hP b1 C0
  go_wp2_with fail
  refine (rnew_yes cl pa (some x) cap zs (HI.out.below B1.out) HY.out).mono ?_
  rintro e w2 ⟨V, hVm, hVo, rfl, hR2, hVg, b2⟩
  have HX2 := Lib.hid (HX1.out.below b2 HX1.out.lt)
  have HP2 := Lib.hid (HP1.out.below b2 (Nat.le_refl _))
  have B2 := Lib.hid (B1.out.trans (b2.mono B1.out.size))
  have HRW := Lib.hid (show Rw W0 w2 V n U (newS cl zs pa) from ⟨hR2, ⟨some x, zs.length, cap, hVm, HI.out⟩, fun k hk ho => by
    have hk2 := HP1.out.of_lt k ho
    rcases hk with h1 | h1
    · have := hVg k h1; omega
    · rw [hVo] at h1; cases h1⟩)
  obtain ⟨bq, hbq⟩ : ∃ bq, bq = w2.heap.size := ⟨_, rfl⟩
  obtain ⟨bl, hbl⟩ : ∃ bl, bl = bq + 1 := ⟨_, rfl⟩
  have HN := Lib.hid (Box.new w2 46 #[.int .i64 0, .int .i64 0, .slice none 0 0, .slice none 0 0, .int .i64 0, .int .i64 0, .int .i64 0, .int .i64 0, .int .i64 0, .int .i64 0, .int .i64 0, .int .i64 0, .int .i64 0, .int .i64 0, .string ⟨#[]⟩, .string ⟨#[]⟩, .int .i64 0, .int .i64 0, .int .i64 0, .string ⟨#[]⟩, .bool false, .int .i64 0, .int .i64 0, .int .i64 0, .string ⟨#[]⟩, .int .i64 0, .int .i64 0, .slice none 0 0, .int .i64 0, .int .i64 0, .int .i64 0, .int .i64 0, .int .i64 0, .string ⟨#[]⟩, .int .i64 0, .int .i64 0, .int .i64 0, .int .i64 0, .int .i64 0, .int .i64 0, .int .i64 0, .int .i64 0, .slice none 0 0])
  have hB3 := Below.setRow ((Below.refl w2.heap.size w2).alloc (Nat.le_refl _) (.cells #[.int .i64 0, .int .i64 0, .slice none 0 0, .slice none 0 0, .int .i64 0, .int .i64 0, .int .i64 0, .int .i64 0, .int .i64 0, .int .i64 0, .int .i64 0, .int .i64 0, .int .i64 0, .int .i64 0, .string ⟨#[]⟩, .string ⟨#[]⟩, .int .i64 0, .int .i64 0, .int .i64 0, .string ⟨#[]⟩, .bool false, .int .i64 0, .int .i64 0, .int .i64 0, .string ⟨#[]⟩, .int .i64 0, .int .i64 0, .slice none 0 0, .int .i64 0, .int .i64 0, .int .i64 0, .int .i64 0, .int .i64 0, .string ⟨#[]⟩, .int .i64 0, .int .i64 0, .int .i64 0, .int .i64 0, .int .i64 0, .int .i64 0, .int .i64 0, .int .i64 0, .slice none 0 0] 46)) (g := w2.heap.size) (Nat.le_refl _) (rcs (newS cl zs pa) V 0 zeroRs)
  have hQ3 := HN.out.setRow (rcs (newS cl zs pa) V 0 zeroRs)
  have HONE := Lib.hid (one_rcs HRW.out.r 0 zeroRs)
  have hs3 : ((w2.alloc (.cells #[.int .i64 0, .int .i64 0, .slice none 0 0, .slice none 0 0, .int .i64 0, .int .i64 0, .int .i64 0, .int .i64 0, .int .i64 0, .int .i64 0, .int .i64 0, .int .i64 0, .int .i64 0, .int .i64 0, .string ⟨#[]⟩, .string ⟨#[]⟩, .int .i64 0, .int .i64 0, .int .i64 0, .string ⟨#[]⟩, .bool false, .int .i64 0, .int .i64 0, .int .i64 0, .string ⟨#[]⟩, .int .i64 0, .int .i64 0, .slice none 0 0, .int .i64 0, .int .i64 0, .int .i64 0, .int .i64 0, .int .i64 0, .string ⟨#[]⟩, .int .i64 0, .int .i64 0, .int .i64 0, .int .i64 0, .int .i64 0, .int .i64 0, .int .i64 0, .int .i64 0, .slice none 0 0] 46)).setRow w2.heap.size (rcs (newS cl zs pa) V 0 zeroRs)).heap.size = w2.heap.size + 1 := by simp
  have HP3 := Lib.hid (HP2.out.below hB3 (Nat.le_refl _))
  have HR3 := Lib.hid (HRW.out.below hB3)
  have HX3 := Lib.hid (HX2.out.below hB3 HX2.out.lt)
  have B3 := Lib.hid (B2.out.trans (hB3.mono B2.out.size))
  have hOF : ∀ k, Of n U k → k < bq := fun k hk => by rw [hbq]; exact HP2.out.of_lt k hk
  have hbqw : W0.heap.size ≤ bq := by rw [hbq]; exact B2.out.size
  rw [← hbq] at hs3 hQ3 HP3 HR3 HX3 B3
  rw [← hbl] at hs3
  have HS3 := Lib.hid hs3
  have HQ3 := Lib.hid hQ3
  have HBQ := Lib.hid hbq
  have HBL := Lib.hid hbl
  have HOF := Lib.hid hOF
  clear b2 hB3 hs3 hQ3 hbq hbl hOF hVm hVo hR2 hVg HRW HP2 HX2 B2 HX1 HP1 B1 x0 x1 x2 hxl
  go_upto_region 5 with (refine wpList_store_box rfl 46 (.tmp 7) (.tmp 46) rfl rfl _ 0 rfl (rcs (newS cl zs pa) V 0 zeroRs).toList rfl HN.out (rcs (newS cl zs pa) V 0 zeroRs) (by kernel_rfl) (by kernel_rfl) (by kernel_rfl) HONE.out ?_)
  rw [← HBQ.out]
  refine wp_name (fun W' => Pt W' W0.heap.size n U (newS cl zs pa) ∧ Rw W0 W' V n U (newS cl zs pa) ∧ Box W' W.heap.size 24 #[.int .i64 cl, .slice (some x) zs.length cap, .int .i64 pa] ∧ Below W0.heap.size W0 W' ∧ Box W' bq 46 (rcs (newS cl zs pa) V 0 zeroRs) ∧ W'.heap.size = bl) ⟨HP3.out, HR3.out, HX3.out, B3.out, HQ3.out, HS3.out⟩ ?_
  clear HP3 HR3 HX3 B3 HQ3 HS3 HN HBQ
  rintro w3 ⟨hP3, hR3, hX3, hB3, hQ3, hs3⟩
  have hal3 := (Below.refl w3.heap.size w3).alloc (Nat.le_refl _) (.cells #[.int .i64 0, .int .i64 0, .int .i64 0, .int .i64 0, .int .i64 0, .int .i64 0, .int .i64 0, .int .i64 0, .int .i64 0, .string ⟨#[]⟩, .string ⟨#[]⟩, .int .i64 0, .int .i64 0, .int .i64 0, .string ⟨#[]⟩, .bool false, .int .i64 0, .int .i64 0, .int .i64 0, .string ⟨#[]⟩] 54)
  have hPO : Po W W0 (w3.alloc (.cells #[.int .i64 0, .int .i64 0, .int .i64 0, .int .i64 0, .int .i64 0, .int .i64 0, .int .i64 0, .int .i64 0, .int .i64 0, .string ⟨#[]⟩, .string ⟨#[]⟩, .int .i64 0, .int .i64 0, .int .i64 0, .string ⟨#[]⟩, .bool false, .int .i64 0, .int .i64 0, .int .i64 0, .string ⟨#[]⟩] 54)) n bq bl cl pa x cap zs U (newS cl zs pa) (rcs (withOut (newS cl zs pa) []) V (phS (withOut (newS cl zs pa) [])) zeroRs) ⟨0, 0, zeroCl⟩ :=
    ⟨hP3.below hal3 (Nat.le_refl _), hQ3.below hal3 hQ3.lt, hX3.below hal3 hX3.lt, hB3.trans (hal3.mono hB3.size), by rw [← hs3]; exact Box.new w3 54 #[.int .i64 0, .int .i64 0, .int .i64 0, .int .i64 0, .int .i64 0, .int .i64 0, .int .i64 0, .int .i64 0, .int .i64 0, .string ⟨#[]⟩, .string ⟨#[]⟩, .int .i64 0, .int .i64 0, .int .i64 0, .string ⟨#[]⟩, .bool false, .int .i64 0, .int .i64 0, .int .i64 0, .string ⟨#[]⟩], (fun ho => by have h1 := HOF.out _ ho; have h2 := HBL.out; omega), hbqw, by have := HBL.out; omega⟩
  have HLO := Lib.hid (show Lo W W0 (w3.alloc (.cells #[.int .i64 0, .int .i64 0, .int .i64 0, .int .i64 0, .int .i64 0, .int .i64 0, .int .i64 0, .int .i64 0, .int .i64 0, .string ⟨#[]⟩, .string ⟨#[]⟩, .int .i64 0, .int .i64 0, .int .i64 0, .string ⟨#[]⟩, .bool false, .int .i64 0, .int .i64 0, .int .i64 0, .string ⟨#[]⟩] 54)) n bq bl lr cl pa x cap zs 0 from ⟨U, V, zeroRs, newS cl zs pa, [], ⟨0, 0, zeroCl⟩, hPO, hR3.below hal3, (fun r hr => by cases hr), Keeps.new cl zs pa HY.out, Nat.le_refl _, last_new cl zs pa, rfl, Nat.zero_le _⟩)
  have HS3 := Lib.hid hs3
  clear hP3 hR3 hX3 hB3 hQ3 hs3 hal3 hPO HOF HBL
  go_upto_region 6 with (fail)
  rw [HS3.out]
  refine wp_name (fun W' => Lo W W0 W' n bq bl lr cl pa x cap zs 0) HLO.out ?_
  clear HLO HS3
  rintro w4 hLO
  have HLO := Lib.hid hLO
  clear hLO
  go_wp2_with fail
  go_loopw [50] (fun i wr => ∃ k : Nat, i = .int .i64 k ∧ Lo W W0 wr n bq bl lr cl pa x cap zs k) (fun i _ => lr - (intOf i).toNat)
  case atStart => exact ⟨0, rfl, HLO.out⟩
  case round =>
    clear HLO
    obtain ⟨k, rfl, U, V, z, s, L, q, hP, hR, hz, hO, hLL, hLA, hCL, hk⟩ := hrel
    obtain ⟨t, ht⟩ : ∃ t, t = withOut s L := ⟨_, rfl⟩
    have HOT := Lib.hid (show Okay t by rw [ht]; exact hO.ok.with_ L)
    have HTB := Lib.hid (show t.out.length ≤ 500 ∧ t.nu < 100000 by
      rw [ht]
      have h1 := hO.nu
      exact ⟨by show L.length ≤ 500; omega, by show s.nu < 100000; omega⟩)
    rw [← ht] at hP hR hz
    have HP := Lib.hid hP
    have HR := Lib.hid hR
    have HZ := Lib.hid hz
    have HO := Lib.hid hO
    have HLL := Lib.hid hLL
    have HLA := Lib.hid hLA
    have HCL := Lib.hid hCL
    have HTS := Lib.hid ht
    clear hR hz hO hLL hLA hCL ht
    by_cases hlt : k < lr
    · obtain ⟨b, off, o, hae, _, hst, hbl, hra, c0⟩ := HOS.out.get k hlt hP.bel
      clear hP
      subst hae
      have HRA := Lib.hid hra
      have HSTR := Lib.hid hst
      have HANS := Lib.hid (show ansS t o = ansS s o by rw [HTS.out]; rfl)
      have HDD := Lib.hid (show s.done = [] ∨ s.done = [z] from by
        have hd1 := HO.out.ok.fit.done
        rcases hdd : s.done with _ | ⟨r, _ | ⟨r2, l⟩⟩
        · exact .inl rfl
        · rw [HZ.out r (by rw [HTS.out]; exact hdd)]; exact .inr rfl
        · rw [hdd] at hd1; simp at hd1)
      obtain ⟨b3, hb3⟩ : ∃ b3, b3 = wr.heap.size := ⟨_, rfl⟩
      have HN := Lib.hid (Box.new wr 60 #[.int .i64 0, .int .i64 0, .int .i64 0, .int .i64 0, .int .i64 0, .int .i64 0, .int .i64 0, .int .i64 0, .int .i64 0, .string ⟨#[]⟩, .string ⟨#[]⟩, .int .i64 0, .int .i64 0, .int .i64 0, .string ⟨#[]⟩, .bool false, .int .i64 0, .int .i64 0, .int .i64 0, .string ⟨#[]⟩, .int .i64 0, .int .i64 0, .int .i64 0, .int .i64 0, .int .i64 0, .int .i64 0, .int .i64 0, .int .i64 0, .string ⟨#[]⟩, .int .i64 0, .int .i64 0, .int .i64 0, .int .i64 0, .int .i64 0, .int .i64 0, .int .i64 0, .int .i64 0, .slice none 0 0])
      have hB := Below.setRow ((Below.refl wr.heap.size wr).alloc (Nat.le_refl _) (.cells #[.int .i64 0, .int .i64 0, .int .i64 0, .int .i64 0, .int .i64 0, .int .i64 0, .int .i64 0, .int .i64 0, .int .i64 0, .string ⟨#[]⟩, .string ⟨#[]⟩, .int .i64 0, .int .i64 0, .int .i64 0, .string ⟨#[]⟩, .bool false, .int .i64 0, .int .i64 0, .int .i64 0, .string ⟨#[]⟩, .int .i64 0, .int .i64 0, .int .i64 0, .int .i64 0, .int .i64 0, .int .i64 0, .int .i64 0, .int .i64 0, .string ⟨#[]⟩, .int .i64 0, .int .i64 0, .int .i64 0, .int .i64 0, .int .i64 0, .int .i64 0, .int .i64 0, .int .i64 0, .slice none 0 0] 60)) (g := wr.heap.size) (Nat.le_refl _) (oc o)
      have hQ := HN.out.setRow (oc o)
      have hP2 := HP.out.below hB
      have hR2 := HR.out.below hB
      rw [← hb3] at hQ hP2 hR2
      have HQ2 := Lib.hid hQ
      have HP2 := Lib.hid hP2
      have HR2 := Lib.hid hR2
      have HB3 := Lib.hid hb3
      clear hra hst hB hQ hP2 hR2 hb3 HP HR
      go_upto_region 9 with (first | (refine wpList_load_mid rfl 60 (.tmp 52) rfl b (off + k * 38) rfl _ _ HRA.out Try.underlying60 rfl (by kernel_rfl) ?_) | (refine wpList_store_box rfl 60 (.tmp 11) (.tmp 53) rfl rfl _ 0 rfl (oc o).toList rfl HN.out (oc o) (by kernel_rfl) (by kernel_rfl) (by kernel_rfl) (by kernel_rfl) ?_))
      rw [← HB3.out]
      refine wp_name (fun W' => Po W W0 W' n bq bl cl pa x cap zs U s (rcs t V (phS t) z) q ∧ Rw W0 W' V n U t ∧ Box W' b3 60 (oc o)) ⟨HP2.out, HR2.out, HQ2.out⟩ ?_
      clear HP2 HR2 HQ2 HN HB3 HRA c0
      rintro w4 ⟨hP, hR, hQ⟩
      have HP := Lib.hid hP
      have HR := Lib.hid hR
      have HQ := Lib.hid hQ
      have o0 : w4.cell? ⟨b3, 0, none⟩ = some (.int .i64 o.kd) := hQ.cell 0
      have hol := hQ.lt
      clear hP hR hQ
      go_upto_block 2 with (fail)
      clear o0 hol
      go_cut [50] from 51 to 157 (fun i wc => i = .int .i64 k ∧ Mw W W0 wc n bq bl cl pa x cap zs (midS s o) (midS t o) q)
      case first =>
        by_cases h0 : o.kd = 0
        · have HMID := Lib.hid (show midS s o = startS s o.n o.c by rw [midS, if_pos h0])
          have HMIT := Lib.hid (show midS t o = startS t o.n o.c by rw [midS, if_pos h0])
          have k0 : (o.kd == 0) = true := by simpa using h0
          clear h0
          go_upto_region 11 with (fail)
          have o1 : w4.cell? ⟨b3, 1, none⟩ = some (.int .i64 o.n) := HQ.out.cell 1
          have hol := HQ.out.lt
          have hal := HP.out.a.lt
          go_wp2_with (first | (refine wpList_load_box rfl 46 (.tmp 7) rfl _ 0 rfl HP.out.a (rcs t V (phS t) z).toList (by kernel_rfl) Try.underlying46 rfl (by kernel_rfl) ?_) | (refine wpList_load_box rfl 36 (.tmp 62) rfl _ 2 rfl HQ.out [.int .i64 o.c.cl, .int .i64 o.c.nu, .int .i64 o.c.kd, .int .i64 o.c.h1, .int .i64 o.c.h2, .int .i64 o.c.g1, .int .i64 o.c.g2, .string o.c.nm, .string o.c.ot, .int .i64 o.c.m1, .int .i64 o.c.m2, .int .i64 o.c.m3, .string o.c.mt, .bool o.c.fo, .int .i64 o.c.aa, .int .i64 o.c.nn, .int .i64 o.c.tt, .string o.c.bb] (by kernel_rfl) Try.underlying36 rfl (by kernel_rfl) ?_))
          refine (rstart_any z o.n o.c HZ.out HR.out.r HOT.out HTB.out.1 HTB.out.2).mono ?_
          rintro e w7 ⟨V7, z7, rfl, hz7, hR7, hT7⟩
          obtain ⟨s1, hs1⟩ : ∃ s1, s1 = startS t o.n o.c := ⟨_, rfl⟩
          rw [← hs1] at hz7 hR7 ⊢
          rw [← hs1] at HMIT
          obtain ⟨p1, hp1⟩ : ∃ p1, p1 = phS s1 := ⟨_, rfl⟩
          rw [← hp1]
          have HP7 := Lib.hid (HP.out.below hT7.below)
          have HR7 := Lib.hid (HR.out.gives HP.out.p hR7 hT7 (by rw [hs1]; exact startS_many _ _ _))
          have HONE := Lib.hid (one_rcs hR7 p1 z7)
          have HS1 := Lib.hid hs1
          have HP1 := Lib.hid hp1
          have HZ7 := Lib.hid hz7
          have HQ7 := Lib.hid (HQ.out.below hT7.below HQ.out.lt)
          have hbne := HQ7.out.ne HP7.out.a (by decide)
          clear hs1 hp1 hz7 hR7 hT7 o1 hol hal HP HR HQ
          go_upto_region 12 with (refine wpList_store_box rfl 46 (.tmp 7) (.tmp 65) rfl rfl _ 0 rfl (rcs s1 V7 p1 z7).toList rfl HP7.out.a (rcs s1 V7 p1 z7) (by kernel_rfl) (by kernel_rfl) (by kernel_rfl) HONE.out ?_)
          refine wp_name (fun W' => Po W W0 W' n bq bl cl pa x cap zs U s (rcs s1 V7 p1 z7) q ∧ Rw W0 W' V7 n U s1 ∧ Box W' b3 60 (oc o)) ⟨HP7.out.row _, HR7.out.row HP7.out.bel HP7.out.a HP7.out.qb (by decide) (by decide) _, HQ7.out.setRow_other _ hbne⟩ ?_
          clear HP7 HR7 HONE HQ7 hbne
          rintro W6 ⟨hP6, hR6, hQ6⟩
          have HP6 := Lib.hid hP6
          have HR6 := Lib.hid hR6
          have HQ6 := Lib.hid hQ6
          clear hP6 hR6 hQ6
          refine wp_region_steps (fun w' => Box w' b3 60 #[.int .i64 o.kd, .int .i64 o.n, .int .i64 o.c.cl, .int .i64 o.c.nu, .int .i64 o.c.kd, .int .i64 o.c.h1, .int .i64 o.c.h2, .int .i64 o.c.g1, .int .i64 o.c.g2, .string o.c.nm, .string o.c.ot, .int .i64 o.c.m1, .int .i64 o.c.m2, .int .i64 o.c.m3, .string o.c.mt, .bool o.c.fo, .int .i64 o.c.aa, .int .i64 o.c.nn, .int .i64 o.c.tt, .string o.c.bb, .int .i64 o.r.vol, .int .i64 o.r.srv, .int .i64 o.r.cl, .int .i64 o.r.nu, .int .i64 o.r.co, .int .i64 o.r.a.co, .int .i64 o.r.a.h1, .int .i64 o.r.a.h2, .string o.r.a.b, .int .i64 o.r.a.i1, .int .i64 o.r.a.i2, .int .i64 o.r.a.i3, .int .i64 o.r.a.i4, .int .i64 o.r.a.i5, .int .i64 o.r.a.i6, .int .i64 o.r.a.i7, .int .i64 o.r.a.i8, .slice o.r.a.na o.r.a.nl o.r.a.nc]) [(true, 0), (true, 1), (true, 2), (true, 3), (true, 4), (false, 5), (false, 6)] 6 _ _ (by kernel_rfl) rfl (by kernel_rfl) (by kernel_rfl) rfl (fun _ _ _ _ _ h => h) HQ6.out.drew ?_
          intro S HS
          simp only [pickS, List.getElem?_cons_zero, List.getElem?_cons_succ]
          refine wpSteps_head ?_
          go_big_quiet_want; go_big_quiet_op; go_big_quiet_on
          refine wpQuiet_nil ?_
          refine wpSteps_head ?_
          go_big_quiet_want; apply quiet_value; (· (intro w' hw; have hB := (HS.out _).1 hw; have hnl := hB.lt; go_simp; try rfl)); simp only [Act.put, List.setIfInBounds_toArray, List.set_cons_succ, List.set_cons_zero]; go_big_quiet_on
          refine wpQuiet_nil ?_
          refine wpSteps_head ?_
          go_big_quiet_want; apply quiet_value; (· (intro w' hw; have hB := (HS.out _).1 hw; have hnl := hB.lt; have c1 : w'.cell? ⟨b3, 1, none⟩ = some (.int .i64 o.n) := hB.cell 1; go_simp; try rfl)); simp only [Act.put, List.setIfInBounds_toArray, List.set_cons_succ, List.set_cons_zero]; go_big_quiet_on
          refine wpQuiet_nil ?_
          refine wpSteps_head ?_
          go_big_quiet_want; apply quiet_value; (· (intro w' hw; have hB := (HS.out _).1 hw; have hnl := hB.lt; go_simp; try rfl)); simp only [Act.put, List.setIfInBounds_toArray, List.set_cons_succ, List.set_cons_zero]; go_big_quiet_on
          refine wpQuiet_nil ?_
          refine wpSteps_head ?_
          go_big_quiet_want; apply quiet_value; (· (intro w' hw; have hB := (HS.out _).1 hw; refine load_box_val 36 (.tmp 70) ?_ b3 2 ?_ hB [.int .i64 o.c.cl, .int .i64 o.c.nu, .int .i64 o.c.kd, .int .i64 o.c.h1, .int .i64 o.c.h2, .int .i64 o.c.g1, .int .i64 o.c.g2, .string o.c.nm, .string o.c.ot, .int .i64 o.c.m1, .int .i64 o.c.m2, .int .i64 o.c.m3, .string o.c.mt, .bool o.c.fo, .int .i64 o.c.aa, .int .i64 o.c.nn, .int .i64 o.c.tt, .string o.c.bb] (by kernel_rfl) Try.underlying36 rfl (by kernel_rfl) <;> rfl)); simp only [Act.put, List.setIfInBounds_toArray, List.set_cons_succ, List.set_cons_zero]; go_big_quiet_on
          refine wpQuiet_nil ?_
          refine wpSteps_more ?_
          go_wp2_with fail
          refine (own_any o.c).mono ?_
          rintro e w7 ⟨rfl, b7⟩
          have HP7 := Lib.hid (HP6.out.drew.below b7)
          have HR7 := Lib.hid (HR6.out.drew.below b7)
          have HQ7 := Lib.hid (HQ6.out.drew.below b7 HQ6.out.lt)
          clear b7 HP6 HR6 HQ6
          go_wp2_with fail
          refine ThenS.mk ((HS.out _).2 HQ7.out) ?_
          refine wpSteps_last ?_
          go_wp2_with fail
          refine (start_any o.n o.c HP7.out.p HO.out.ok HP7.out.bel.size (by rw [HO.out.out]; simp) (by have := HO.out.nu; omega)).mono ?_
          rintro e w8 ⟨rfl, U10, hp8, hg8⟩
          have HP10 := Lib.hid (HP7.out.does hp8 hg8)
          have HR10 := Lib.hid (HR7.out.does HP7.out.p HP7.out.bel hg8)
          clear hp8 hg8 HP7 HR7 HQ7
          go_wp2_with fail
          go_meet
          case rel =>
            rw [HP1.out] at HP10
            rw [HMID.out, HMIT.out]
            exact ⟨rfl, U10, V7, z7, HP10.out, HR10.out, HZ7.out⟩
        by_cases h1 : o.kd = 1
        · obtain ⟨y, hy⟩ : ∃ y, y = ansS t o := ⟨_, rfl⟩
          have HMID := Lib.hid (show midS s o = takeS s y by rw [hy, HANS.out, midS, if_neg (by omega), if_pos (by omega)])
          have HMIT := Lib.hid (show midS t o = takeS t y by rw [hy, midS, if_neg (by omega), if_pos (by omega)])
          have k0 : (o.kd == 0) = false := by rw [h1]; rfl
          have k1 : (o.kd == 1) = true := by rw [h1]; rfl
          clear h0 h1
          go_upto_region 15 with (fail)
          have hol := HQ.out.lt
          have hal := HP.out.a.lt
          go_wp2_with (first | (refine wpList_load_box rfl 46 (.tmp 7) rfl _ 0 rfl HP.out.a (rcs t V (phS t) z).toList (by kernel_rfl) Try.underlying46 rfl (by kernel_rfl) ?_) | (refine wpList_load_box rfl 60 (.tmp 11) rfl _ 0 rfl HQ.out [.int .i64 o.kd, .int .i64 o.n, .int .i64 o.c.cl, .int .i64 o.c.nu, .int .i64 o.c.kd, .int .i64 o.c.h1, .int .i64 o.c.h2, .int .i64 o.c.g1, .int .i64 o.c.g2, .string o.c.nm, .string o.c.ot, .int .i64 o.c.m1, .int .i64 o.c.m2, .int .i64 o.c.m3, .string o.c.mt, .bool o.c.fo, .int .i64 o.c.aa, .int .i64 o.c.nn, .int .i64 o.c.tt, .string o.c.bb, .int .i64 o.r.vol, .int .i64 o.r.srv, .int .i64 o.r.cl, .int .i64 o.r.nu, .int .i64 o.r.co, .int .i64 o.r.a.co, .int .i64 o.r.a.h1, .int .i64 o.r.a.h2, .string o.r.a.b, .int .i64 o.r.a.i1, .int .i64 o.r.a.i2, .int .i64 o.r.a.i3, .int .i64 o.r.a.i4, .int .i64 o.r.a.i5, .int .i64 o.r.a.i6, .int .i64 o.r.a.i7, .int .i64 o.r.a.i8, .slice o.r.a.na o.r.a.nl o.r.a.nc] (by kernel_rfl) Try.underlying60 rfl (by kernel_rfl) ?_))
          refine (answers_any z (phS t) o HR.out.r HOT.out.fit).mono ?_
          rintro e w5 ⟨rfl, b5⟩
          rw [← hy]
          have HP5 := Lib.hid (HP.out.below b5)
          have HR5 := Lib.hid (HR.out.below b5)
          obtain ⟨qx, hq⟩ : ∃ qx, qx = w5.heap.size := ⟨_, rfl⟩
          have BX := Below.setRow ((Below.refl w5.heap.size w5).alloc (Nat.le_refl _) (.cells #[.int .i64 0, .int .i64 0, .int .i64 0, .int .i64 0, .int .i64 0, .int .i64 0, .int .i64 0, .int .i64 0, .string ⟨#[]⟩, .int .i64 0, .int .i64 0, .int .i64 0, .int .i64 0, .int .i64 0, .int .i64 0, .int .i64 0, .int .i64 0, .slice none 0 0] 58)) (g := w5.heap.size) (Nat.le_refl _) (rp y)
          have HN := Lib.hid (Box.new w5 58 #[.int .i64 0, .int .i64 0, .int .i64 0, .int .i64 0, .int .i64 0, .int .i64 0, .int .i64 0, .int .i64 0, .string ⟨#[]⟩, .int .i64 0, .int .i64 0, .int .i64 0, .int .i64 0, .int .i64 0, .int .i64 0, .int .i64 0, .int .i64 0, .slice none 0 0])
          have hQ := (Box.new w5 58 #[.int .i64 0, .int .i64 0, .int .i64 0, .int .i64 0, .int .i64 0, .int .i64 0, .int .i64 0, .int .i64 0, .string ⟨#[]⟩, .int .i64 0, .int .i64 0, .int .i64 0, .int .i64 0, .int .i64 0, .int .i64 0, .int .i64 0, .int .i64 0, .slice none 0 0]).setRow (rp y)
          rw [← hq] at hQ
          have HQ5 := Lib.hid hQ
          have HP6 := Lib.hid (HP5.out.below BX)
          have HR6 := Lib.hid (HR5.out.below BX)
          rw [← hq] at HP6 HR6
          have HQE := Lib.hid hq
          clear hy hq hQ b5 BX HP HR HQ hol hal
          go_upto_region 16 with (refine wpList_store_box rfl 58 (.tmp 12) (.tmp 79) rfl rfl _ 0 rfl (rp y).toList rfl HN.out (rp y) (by kernel_rfl) (by kernel_rfl) (by kernel_rfl) (by kernel_rfl) ?_)
          rw [← HQE.out]
          clear HN HQE HP5 HR5
          refine wp_name (fun W' => Po W W0 W' n bq bl cl pa x cap zs U s (rcs t V (phS t) z) q ∧ Rw W0 W' V n U t ∧ Box W' qx 58 (rp y)) ⟨HP6.out, HR6.out, HQ5.out⟩ ?_
          clear HP6 HR6 HQ5
          rintro W6 ⟨hP6, hR6, hQ6⟩
          have HP6 := Lib.hid hP6
          have HR6 := Lib.hid hR6
          have HQ6 := Lib.hid hQ6
          have hal := hP6.a.lt
          have hql := hQ6.lt
          clear hP6 hR6 hQ6
          go_wp2_with (first | (refine wpList_load_box rfl 46 (.tmp 7) rfl _ 0 rfl HP6.out.a (rcs t V (phS t) z).toList (by kernel_rfl) Try.underlying46 rfl (by kernel_rfl) ?_) | (refine wpList_load_box rfl 58 (.tmp 12) rfl _ 0 rfl HQ6.out (rp y).toList (by kernel_rfl) Try.underlying58 rfl (by kernel_rfl) ?_))
          refine (rtake_any z y HZ.out HR6.out.r HOT.out HTB.out.1).mono ?_
          rintro e w7 ⟨V7, z7, rfl, hz7, hR7, hT7⟩
          obtain ⟨s1, hs1⟩ : ∃ s1, s1 = takeS t y := ⟨_, rfl⟩
          rw [← hs1] at hz7 hR7 ⊢
          rw [← hs1] at HMIT
          obtain ⟨p1, hp1⟩ : ∃ p1, p1 = phS s1 := ⟨_, rfl⟩
          rw [← hp1]
          have HP7 := Lib.hid (HP6.out.below hT7.below)
          have HR7 := Lib.hid (HR6.out.gives HP6.out.p hR7 hT7 (by rw [hs1]; exact takeS_many _ _))
          have HONE := Lib.hid (one_rcs hR7 p1 z7)
          have HS1 := Lib.hid hs1
          have HP1 := Lib.hid hp1
          have HZ7 := Lib.hid hz7
          have HQ7 := Lib.hid (HQ6.out.below hT7.below HQ6.out.lt)
          have hbne := HQ7.out.ne HP7.out.a (by decide)
          clear hs1 hp1 hz7 hR7 hT7 hal hql HP6 HR6 HQ6
          go_upto_region 17 with (refine wpList_store_box rfl 46 (.tmp 7) (.tmp 82) rfl rfl _ 0 rfl (rcs s1 V7 p1 z7).toList rfl HP7.out.a (rcs s1 V7 p1 z7) (by kernel_rfl) (by kernel_rfl) (by kernel_rfl) HONE.out ?_)
          refine wp_name (fun W' => Po W W0 W' n bq bl cl pa x cap zs U s (rcs s1 V7 p1 z7) q ∧ Rw W0 W' V7 n U s1 ∧ Box W' qx 58 (rp y)) ⟨HP7.out.row _, HR7.out.row HP7.out.bel HP7.out.a HP7.out.qb (by decide) (by decide) _, HQ7.out.setRow_other _ hbne⟩ ?_
          clear HP7 HR7 HQ7 HONE hbne
          rintro W8 ⟨hP8, hR8, hQ8⟩
          have HP8 := Lib.hid hP8
          have HR8 := Lib.hid hR8
          have HQ8 := Lib.hid hQ8
          have hql := hQ8.lt
          clear hP8 hR8 hQ8
          go_wp2_with (refine wpList_load_box rfl 58 (.tmp 12) rfl _ 0 rfl HQ8.out (rp y).toList (by kernel_rfl) Try.underlying58 rfl (by kernel_rfl) ?_)
          refine (reply_any y).mono ?_
          rintro e w9 ⟨rfl, b9⟩
          have HP9 := Lib.hid (HP8.out.below b9)
          have HR9 := Lib.hid (HR8.out.below b9)
          clear b9 HP8 HR8 HQ8
          go_wp2_with fail
          refine (take_any y HP9.out.p HO.out.ok HP9.out.bel.size (by rw [HO.out.out]; simp)).mono ?_
          rintro e w10 ⟨rfl, U10, hp10, hg10⟩
          have HP10 := Lib.hid (HP9.out.does hp10 hg10)
          have HR10 := Lib.hid (HR9.out.does HP9.out.p HP9.out.bel hg10)
          clear hp10 hg10 HP9 HR9
          go_wp2_with fail
          go_meet
          case rel =>
            rw [HP1.out] at HP10
            rw [HMID.out, HMIT.out]
            exact ⟨rfl, U10, V7, z7, HP10.out, HR10.out, HZ7.out⟩
        by_cases h4 : o.kd = 4
        · obtain ⟨y, hy⟩ : ∃ y, y = ansS t o := ⟨_, rfl⟩
          have HMID := Lib.hid (show midS s o = takeS s y by rw [hy, HANS.out, midS, if_neg (by omega), if_pos (by omega)])
          have HMIT := Lib.hid (show midS t o = takeS t y by rw [hy, midS, if_neg (by omega), if_pos (by omega)])
          have k0 : (o.kd == 0) = false := by rw [h4]; rfl
          have k1 : (o.kd == 1) = false := by rw [h4]; rfl
          have k4 : (o.kd == 4) = true := by rw [h4]; rfl
          clear h0 h1 h4
          go_upto_region 15 with (fail)
          have hol := HQ.out.lt
          have hal := HP.out.a.lt
          go_wp2_with (first | (refine wpList_load_box rfl 46 (.tmp 7) rfl _ 0 rfl HP.out.a (rcs t V (phS t) z).toList (by kernel_rfl) Try.underlying46 rfl (by kernel_rfl) ?_) | (refine wpList_load_box rfl 60 (.tmp 11) rfl _ 0 rfl HQ.out [.int .i64 o.kd, .int .i64 o.n, .int .i64 o.c.cl, .int .i64 o.c.nu, .int .i64 o.c.kd, .int .i64 o.c.h1, .int .i64 o.c.h2, .int .i64 o.c.g1, .int .i64 o.c.g2, .string o.c.nm, .string o.c.ot, .int .i64 o.c.m1, .int .i64 o.c.m2, .int .i64 o.c.m3, .string o.c.mt, .bool o.c.fo, .int .i64 o.c.aa, .int .i64 o.c.nn, .int .i64 o.c.tt, .string o.c.bb, .int .i64 o.r.vol, .int .i64 o.r.srv, .int .i64 o.r.cl, .int .i64 o.r.nu, .int .i64 o.r.co, .int .i64 o.r.a.co, .int .i64 o.r.a.h1, .int .i64 o.r.a.h2, .string o.r.a.b, .int .i64 o.r.a.i1, .int .i64 o.r.a.i2, .int .i64 o.r.a.i3, .int .i64 o.r.a.i4, .int .i64 o.r.a.i5, .int .i64 o.r.a.i6, .int .i64 o.r.a.i7, .int .i64 o.r.a.i8, .slice o.r.a.na o.r.a.nl o.r.a.nc] (by kernel_rfl) Try.underlying60 rfl (by kernel_rfl) ?_))
          refine (answers_any z (phS t) o HR.out.r HOT.out.fit).mono ?_
          rintro e w5 ⟨rfl, b5⟩
          rw [← hy]
          have HP5 := Lib.hid (HP.out.below b5)
          have HR5 := Lib.hid (HR.out.below b5)
          obtain ⟨qx, hq⟩ : ∃ qx, qx = w5.heap.size := ⟨_, rfl⟩
          have BX := Below.setRow ((Below.refl w5.heap.size w5).alloc (Nat.le_refl _) (.cells #[.int .i64 0, .int .i64 0, .int .i64 0, .int .i64 0, .int .i64 0, .int .i64 0, .int .i64 0, .int .i64 0, .string ⟨#[]⟩, .int .i64 0, .int .i64 0, .int .i64 0, .int .i64 0, .int .i64 0, .int .i64 0, .int .i64 0, .int .i64 0, .slice none 0 0] 58)) (g := w5.heap.size) (Nat.le_refl _) (rp y)
          have HN := Lib.hid (Box.new w5 58 #[.int .i64 0, .int .i64 0, .int .i64 0, .int .i64 0, .int .i64 0, .int .i64 0, .int .i64 0, .int .i64 0, .string ⟨#[]⟩, .int .i64 0, .int .i64 0, .int .i64 0, .int .i64 0, .int .i64 0, .int .i64 0, .int .i64 0, .int .i64 0, .slice none 0 0])
          have hQ := (Box.new w5 58 #[.int .i64 0, .int .i64 0, .int .i64 0, .int .i64 0, .int .i64 0, .int .i64 0, .int .i64 0, .int .i64 0, .string ⟨#[]⟩, .int .i64 0, .int .i64 0, .int .i64 0, .int .i64 0, .int .i64 0, .int .i64 0, .int .i64 0, .int .i64 0, .slice none 0 0]).setRow (rp y)
          rw [← hq] at hQ
          have HQ5 := Lib.hid hQ
          have HP6 := Lib.hid (HP5.out.below BX)
          have HR6 := Lib.hid (HR5.out.below BX)
          rw [← hq] at HP6 HR6
          have HQE := Lib.hid hq
          clear hy hq hQ b5 BX HP HR HQ hol hal
          go_upto_region 16 with (refine wpList_store_box rfl 58 (.tmp 12) (.tmp 79) rfl rfl _ 0 rfl (rp y).toList rfl HN.out (rp y) (by kernel_rfl) (by kernel_rfl) (by kernel_rfl) (by kernel_rfl) ?_)
          rw [← HQE.out]
          clear HN HQE HP5 HR5
          refine wp_name (fun W' => Po W W0 W' n bq bl cl pa x cap zs U s (rcs t V (phS t) z) q ∧ Rw W0 W' V n U t ∧ Box W' qx 58 (rp y)) ⟨HP6.out, HR6.out, HQ5.out⟩ ?_
          clear HP6 HR6 HQ5
          rintro W6 ⟨hP6, hR6, hQ6⟩
          have HP6 := Lib.hid hP6
          have HR6 := Lib.hid hR6
          have HQ6 := Lib.hid hQ6
          have hal := hP6.a.lt
          have hql := hQ6.lt
          clear hP6 hR6 hQ6
          go_wp2_with (first | (refine wpList_load_box rfl 46 (.tmp 7) rfl _ 0 rfl HP6.out.a (rcs t V (phS t) z).toList (by kernel_rfl) Try.underlying46 rfl (by kernel_rfl) ?_) | (refine wpList_load_box rfl 58 (.tmp 12) rfl _ 0 rfl HQ6.out (rp y).toList (by kernel_rfl) Try.underlying58 rfl (by kernel_rfl) ?_))
          refine (rtake_any z y HZ.out HR6.out.r HOT.out HTB.out.1).mono ?_
          rintro e w7 ⟨V7, z7, rfl, hz7, hR7, hT7⟩
          obtain ⟨s1, hs1⟩ : ∃ s1, s1 = takeS t y := ⟨_, rfl⟩
          rw [← hs1] at hz7 hR7 ⊢
          rw [← hs1] at HMIT
          obtain ⟨p1, hp1⟩ : ∃ p1, p1 = phS s1 := ⟨_, rfl⟩
          rw [← hp1]
          have HP7 := Lib.hid (HP6.out.below hT7.below)
          have HR7 := Lib.hid (HR6.out.gives HP6.out.p hR7 hT7 (by rw [hs1]; exact takeS_many _ _))
          have HONE := Lib.hid (one_rcs hR7 p1 z7)
          have HS1 := Lib.hid hs1
          have HP1 := Lib.hid hp1
          have HZ7 := Lib.hid hz7
          have HQ7 := Lib.hid (HQ6.out.below hT7.below HQ6.out.lt)
          have hbne := HQ7.out.ne HP7.out.a (by decide)
          clear hs1 hp1 hz7 hR7 hT7 hal hql HP6 HR6 HQ6
          go_upto_region 17 with (refine wpList_store_box rfl 46 (.tmp 7) (.tmp 82) rfl rfl _ 0 rfl (rcs s1 V7 p1 z7).toList rfl HP7.out.a (rcs s1 V7 p1 z7) (by kernel_rfl) (by kernel_rfl) (by kernel_rfl) HONE.out ?_)
          refine wp_name (fun W' => Po W W0 W' n bq bl cl pa x cap zs U s (rcs s1 V7 p1 z7) q ∧ Rw W0 W' V7 n U s1 ∧ Box W' qx 58 (rp y)) ⟨HP7.out.row _, HR7.out.row HP7.out.bel HP7.out.a HP7.out.qb (by decide) (by decide) _, HQ7.out.setRow_other _ hbne⟩ ?_
          clear HP7 HR7 HQ7 HONE hbne
          rintro W8 ⟨hP8, hR8, hQ8⟩
          have HP8 := Lib.hid hP8
          have HR8 := Lib.hid hR8
          have HQ8 := Lib.hid hQ8
          have hql := hQ8.lt
          clear hP8 hR8 hQ8
          go_wp2_with (refine wpList_load_box rfl 58 (.tmp 12) rfl _ 0 rfl HQ8.out (rp y).toList (by kernel_rfl) Try.underlying58 rfl (by kernel_rfl) ?_)
          refine (reply_any y).mono ?_
          rintro e w9 ⟨rfl, b9⟩
          have HP9 := Lib.hid (HP8.out.below b9)
          have HR9 := Lib.hid (HR8.out.below b9)
          clear b9 HP8 HR8 HQ8
          go_wp2_with fail
          refine (take_any y HP9.out.p HO.out.ok HP9.out.bel.size (by rw [HO.out.out]; simp)).mono ?_
          rintro e w10 ⟨rfl, U10, hp10, hg10⟩
          have HP10 := Lib.hid (HP9.out.does hp10 hg10)
          have HR10 := Lib.hid (HR9.out.does HP9.out.p HP9.out.bel hg10)
          clear hp10 hg10 HP9 HR9
          go_wp2_with fail
          go_meet
          case rel =>
            rw [HP1.out] at HP10
            rw [HMID.out, HMIT.out]
            exact ⟨rfl, U10, V7, z7, HP10.out, HR10.out, HZ7.out⟩
        by_cases h2 : o.kd = 2
        · have HMID := Lib.hid (show midS s o = tickS s by rw [midS, if_neg (by omega), if_neg (by omega), if_pos (by omega)])
          have HMIT := Lib.hid (show midS t o = tickS t by rw [midS, if_neg (by omega), if_neg (by omega), if_pos (by omega)])
          have k0 : (o.kd == 0) = false := by rw [h2]; rfl
          have k1 : (o.kd == 1) = false := by rw [h2]; rfl
          have k4 : (o.kd == 4) = false := by rw [h2]; rfl
          have k2 : (o.kd == 2) = true := by rw [h2]; rfl
          clear h0 h1 h4 h2
          go_upto_region 19 with (fail)
          have hal := HP.out.a.lt
          go_wp2_with (refine wpList_load_box rfl 46 (.tmp 7) rfl _ 0 rfl HP.out.a (rcs t V (phS t) z).toList (by kernel_rfl) Try.underlying46 rfl (by kernel_rfl) ?_)
          refine (rtick_any z HZ.out HR.out.r HOT.out HTB.out.1).mono ?_
          rintro e w7 ⟨V7, z7, rfl, hz7, hR7, hT7⟩
          obtain ⟨s1, hs1⟩ : ∃ s1, s1 = tickS t := ⟨_, rfl⟩
          rw [← hs1] at hz7 hR7 ⊢
          rw [← hs1] at HMIT
          obtain ⟨p1, hp1⟩ : ∃ p1, p1 = phS s1 := ⟨_, rfl⟩
          rw [← hp1]
          have HP7 := Lib.hid (HP.out.below hT7.below)
          have HR7 := Lib.hid (HR.out.gives HP.out.p hR7 hT7 (by rw [hs1]; exact tickS_many _))
          have HONE := Lib.hid (one_rcs hR7 p1 z7)
          have HS1 := Lib.hid hs1
          have HP1 := Lib.hid hp1
          have HZ7 := Lib.hid hz7
          clear hs1 hp1 hz7 hR7 hT7 hal HP HR HQ
          go_upto_region 20 with (refine wpList_store_box rfl 46 (.tmp 7) (.tmp 90) rfl rfl _ 0 rfl (rcs s1 V7 p1 z7).toList rfl HP7.out.a (rcs s1 V7 p1 z7) (by kernel_rfl) (by kernel_rfl) (by kernel_rfl) HONE.out ?_)
          refine wp_name (fun W' => Po W W0 W' n bq bl cl pa x cap zs U s (rcs s1 V7 p1 z7) q ∧ Rw W0 W' V7 n U s1) ⟨HP7.out.row _, HR7.out.row HP7.out.bel HP7.out.a HP7.out.qb (by decide) (by decide) _⟩ ?_
          clear HP7 HR7 HONE
          rintro W8 ⟨hP8, hR8⟩
          have HP8 := Lib.hid hP8
          have HR8 := Lib.hid hR8
          clear hP8 hR8
          go_wp2_with fail
          refine (tick_any HP8.out.p HO.out.ok HP8.out.bel.size (by rw [HO.out.out]; simp)).mono ?_
          rintro e w10 ⟨rfl, U10, hp10, hg10⟩
          have HP10 := Lib.hid (HP8.out.does hp10 hg10)
          have HR10 := Lib.hid (HR8.out.does HP8.out.p HP8.out.bel hg10)
          clear hp10 hg10 HP8 HR8
          go_wp2_with fail
          go_meet
          case rel =>
            rw [HP1.out] at HP10
            rw [HMID.out, HMIT.out]
            exact ⟨rfl, U10, V7, z7, HP10.out, HR10.out, HZ7.out⟩
        by_cases h3 : o.kd = 3
        · have HMID := Lib.hid (show midS s o = doneS s by rw [midS, if_neg (by omega), if_neg (by omega), if_neg (by omega), if_pos (by omega)])
          have HMIT := Lib.hid (show midS t o = doneS t by rw [midS, if_neg (by omega), if_neg (by omega), if_neg (by omega), if_pos (by omega)])
          have k0 : (o.kd == 0) = false := by rw [h3]; rfl
          have k1 : (o.kd == 1) = false := by rw [h3]; rfl
          have k4 : (o.kd == 4) = false := by rw [h3]; rfl
          have k2 : (o.kd == 2) = false := by rw [h3]; rfl
          have k3 : (o.kd == 3) = true := by rw [h3]; rfl
          rcases HDD.out with hd | hd
          · have HD := Lib.hid hd
            have HPH := Lib.hid (show phS t ≠ 2 by
              rw [HTS.out]
              show phS s ≠ 2
              rw [phS, hd]
              split <;> decide)
            have HDS := Lib.hid (show doneS s = s by unfold doneS; rw [← hd])
            have HDT := Lib.hid (show doneS t = t by
              rw [HTS.out]
              show withOut (doneS s) L = withOut s L
              rw [HDS.out])
            have HPD := Lib.hid (show phS (doneS t) = phS t by rw [HDT.out])
            clear hd h0 h1 h4 h2 h3
            go_upto_region 22 with (fail)
            have hal := HP.out.a.lt
            go_wp2_with (refine wpList_load_box rfl 46 (.tmp 7) rfl _ 0 rfl HP.out.a (rcs t V (phS t) z).toList (by kernel_rfl) Try.underlying46 rfl (by kernel_rfl) ?_)
            refine (rdone_no z (phS t) HR.out.r HPH.out).mono ?_
            rintro e w5 ⟨rfl, b5⟩
            have HP5 := Lib.hid (HP.out.below b5)
            have HR5 := Lib.hid (HR.out.below b5)
            have HONE := Lib.hid (one_rcs HR5.out.r (phS t) z)
            clear b5 HP HR HQ hal
            go_upto_region 23 with (refine wpList_store_box rfl 46 (.tmp 7) (.tmp 98) rfl rfl _ 0 rfl (rcs t V (phS t) z).toList rfl HP5.out.a (rcs t V (phS t) z) (by kernel_rfl) (by kernel_rfl) (by kernel_rfl) HONE.out ?_)
            refine wp_name (fun W' => Po W W0 W' n bq bl cl pa x cap zs U s (rcs t V (phS t) z) q ∧ Rw W0 W' V n U t) ⟨HP5.out.row _, HR5.out.row HP5.out.bel HP5.out.a HP5.out.qb (by decide) (by decide) _⟩ ?_
            clear HP5 HR5 HONE
            rintro W6 ⟨hP6, hR6⟩
            have HP6 := Lib.hid hP6
            have HR6 := Lib.hid hR6
            clear hP6 hR6
            go_wp2_with fail
            refine (done_no HP6.out.p HD.out).mono ?_
            rintro e w7 ⟨rfl, b7⟩
            have hP7 := HP6.out.below b7
            have HP7 := Lib.hid (show Po W W0 w7 n bq bl cl pa x cap zs U (doneS s) (rcs t V (phS t) z) q from by rw [HDS.out]; exact hP7)
            have HR7 := Lib.hid (HR6.out.below b7)
            clear b7 hP7
            go_wp2_with fail
            go_meet
            case rel =>
              rw [HMID.out, HMIT.out]
              refine ⟨rfl, U, V, z, ?_, HR7.out.as (doneS t) rfl rfl rfl, fun r hr => ?_⟩
              · rw [HPD.out]
                exact HP7.out
              · cases hr
          · have HD := Lib.hid hd
            have hbz : s.busy = false := by
              cases hb : s.busy
              · rfl
              · have := (HO.out.ok.busy hb).2.2
                rw [hd] at this
                cases this
            have HPH := Lib.hid (show phS t = 2 by
              rw [HTS.out]
              show phS s = 2
              rw [phS, hbz, hd]; rfl)
            have HPD := Lib.hid (show phS (doneS t) = 0 by
              rw [HTS.out]
              show (if s.busy then (1 : Int) else if ([] : List Rs).isEmpty then 0 else 2) = 0
              rw [hbz]; rfl)
            clear hd h0 h1 h4 h2 h3 hbz
            go_upto_region 22 with (fail)
            have hal := HP.out.a.lt
            go_wp2_with (refine wpList_load_box rfl 46 (.tmp 7) rfl _ 0 rfl HP.out.a (rcs t V (phS t) z).toList (by kernel_rfl) Try.underlying46 rfl (by kernel_rfl) ?_)
            refine (rdone_yes2 z (phS t) HPH.out HR.out.r).mono ?_
            rintro e w5 ⟨rfl, b5⟩
            have HP5 := Lib.hid (HP.out.below b5)
            have HR5 := Lib.hid (HR.out.below b5)
            have HONE := Lib.hid (one_rcs HR5.out.r 0 zeroRs)
            clear b5 HP HR HQ hal
            go_upto_region 23 with (refine wpList_store_box rfl 46 (.tmp 7) (.tmp 98) rfl rfl _ 0 rfl (rcs t V 0 zeroRs).toList rfl HP5.out.a (rcs t V 0 zeroRs) (by kernel_rfl) (by kernel_rfl) (by kernel_rfl) HONE.out ?_)
            refine wp_name (fun W' => Po W W0 W' n bq bl cl pa x cap zs U s (rcs t V 0 zeroRs) q ∧ Rw W0 W' V n U t) ⟨HP5.out.row _, HR5.out.row HP5.out.bel HP5.out.a HP5.out.qb (by decide) (by decide) _⟩ ?_
            clear HP5 HR5 HONE
            rintro W6 ⟨hP6, hR6⟩
            have HP6 := Lib.hid hP6
            have HR6 := Lib.hid hR6
            clear hP6 hR6
            go_wp2_with fail
            refine (done_yes z HP6.out.p HD.out).mono ?_
            rintro e w7 ⟨rfl, hp7, hg7⟩
            have HP7 := Lib.hid (HP6.out.does hp7 hg7)
            have HR7 := Lib.hid (HR6.out.does HP6.out.p HP6.out.bel hg7)
            clear hp7 hg7
            go_wp2_with fail
            go_meet
            case rel =>
              rw [HMID.out, HMIT.out]
              refine ⟨rfl, { U with d := .slice none 0 0 }, V, zeroRs, ?_, HR7.out.as (doneS t) rfl rfl rfl, fun r hr => ?_⟩
              · rw [HPD.out]
                exact HP7.out
              · cases hr
        · have HMID := Lib.hid (show midS s o = s by rw [midS, if_neg (by omega), if_neg (by omega), if_neg (by omega), if_neg (by omega)])
          have HMIT := Lib.hid (show midS t o = t by rw [midS, if_neg (by omega), if_neg (by omega), if_neg (by omega), if_neg (by omega)])
          have k0 : (o.kd == 0) = false := by simpa using h0
          have k1 : (o.kd == 1) = false := by simpa using h1
          have k4 : (o.kd == 4) = false := by simpa using h4
          have k2 : (o.kd == 2) = false := by simpa using h2
          have k3 : (o.kd == 3) = false := by simpa using h3
          clear h0 h1 h4 h2 h3
          go_wp2_with fail
          go_meet
          case rel =>
            rw [HMID.out, HMIT.out]
            exact ⟨rfl, U, V, z, HP.out, HR.out, HZ.out⟩
      case rest =>
        obtain ⟨rfl, U1, V1, z1, hP, hR, hz1⟩ := hcut
        obtain ⟨s1, hs1⟩ : ∃ s1, s1 = midS s o := ⟨_, rfl⟩
        obtain ⟨t1, ht1⟩ : ∃ t1, t1 = midS t o := ⟨_, rfl⟩
        have hask : Asks s s1 q := by rw [hs1]; exact mid_asks HLA.out HO.out.out o
        have hk1 : Keeps W0 zs (k + 1) (outS s1) := by rw [hs1]; exact HO.out.step (by omega) o HSTR.out
        have hcl1 : s1.cl = cl := by rw [hs1, mid_cl]; exact HCL.out
        obtain ⟨L1, hL1, hLl⟩ : ∃ L1, t1 = withOut (outS s1) L1 ∧ L1.length ≤ k + 1 := by
          obtain ⟨L1, e, hl⟩ := midS_w s L o
          refine ⟨L1, ?_, by have := HLL.out; omega⟩
          rw [ht1, HTS.out, e, hs1]
          rfl
        rw [← hs1, ← ht1] at hP
        rw [← ht1] at hR hz1
        have HP := Lib.hid hP
        have HR := Lib.hid hR
        have HZ1 := Lib.hid hz1
        have HK1 := Lib.hid hk1
        have HCL1 := Lib.hid hcl1
        have HL1 := Lib.hid hL1
        have HLl := Lib.hid hLl
        have hq0 : 0 ≤ q.c.nu := by rw [HLA.out.nu]; exact HLA.out.nu0
        have hq1 : q.c.nu ≤ 100000 := by rw [HLA.out.nu]; exact HO.out.ok.fit.nu1
        clear hP hR hz1 hs1 ht1 hk1 hcl1 hL1 hLl
        go_wp2_with fail
        refine (out_any HP.out.p).mono ?_
        rintro e w7 ⟨rfl, hp7, hg7, hk7⟩
        have hro7 := own_stays HP.out.p.ro fun k hk => hk7 k (by rintro rfl; exact own_box_ne HP.out.p.ro HP.out.p.box (by decide) hk)
        have hne7 : ∀ k, U1.o.ownBlock = some k → k ≠ bl := fun k hk e => HP.out.nl (.inr (.inr (.inr (.inl (e ▸ hk)))))
        have hR7 := HR.out.does HP.out.p HP.out.bel hg7
        have hP7 := HP.out.does hp7 hg7
        obtain ⟨U2, hU2⟩ : ∃ U2 : Vs, U2 = { U1 with o := .slice none 0 0 } := ⟨_, rfl⟩
        rw [← hU2] at hR7 hP7
        have HP7 := Lib.hid hP7
        have HR7 := Lib.hid hR7
        clear hp7 hg7 hk7 hR7 hP7 HP HR hU2
        rcases hask with ⟨hout, hl1⟩ | ⟨r, hout, hl1, hrc, _, hcase⟩
        · obtain ⟨ol, ocp, hol, _⟩ := own_shape hro7
          have hol2 : U1.o = .slice ol 0 ocp := by rw [hol, hout]; rfl
          rw [hol2]
          have HLN := Lib.hid hl1
          clear hol hol2 hro7 hne7 hout hl1
          go_wp2_with fail
          go_loopw [106] (fun i wv => i = .int .i64 0 ∧ Below w7.heap.size w7 wv) (fun _ _ => 0)
          case atStart => exact ⟨rfl, Below.refl _ _⟩
          case round =>
            rename World => wv
            obtain ⟨rfl, hbv⟩ := hrel
            have HP8 := Lib.hid (HP7.out.below hbv)
            have HR8 := Lib.hid (HR7.out.below hbv)
            clear hbv
            go_wp2_with fail
            go_roundw
            case rel =>
              exact ⟨k + 1, by go_num, Lo.mk HP8.out HR8.out HZ1.out HK1.out HL1.out HLl.out HLN.out.out HCL1.out (by omega)⟩
            case measure => simp [intOf]; omega
        · have hrcl : r.c.cl = cl := by rw [hrc]; exact HCL.out
          obtain ⟨g, ocp, hol, _, hgl, _, _, hgc⟩ := own_atN ql_len hro7 rfl 0 r (by rw [hout]; rfl)
          have hol2 : U1.o = .slice (some ⟨g, 0, none⟩) 1 ocp := by rw [hol, hout]; rfl
          have hgn : g ≠ bl := hne7 g (by rw [hol2]; rfl)
          have HGC := Lib.hid (show w7.rangeAt g 0 (ql r) from fun j u hj => by have := hgc j u hj; rw [Nat.zero_mul] at this; exact this)
          rw [hol2]
          have HLN := Lib.hid hl1
          have HCASE := Lib.hid hcase
          have kcl : (r.c.cl != cl) = false := by simp [hrcl]
          have hr0 : 0 ≤ r.c.nu := by rw [hl1.nu]; exact hl1.nu0
          clear hol hol2 hro7 hne7 hout hl1 hgc hrc hcase hrcl
          go_wp2_with fail
          go_loopw [14, 15, 106] (fun _ _ i wv => ∃ (j : Nat) (qq : Rq), i = .int .i64 j ∧ ((j = 0 ∧ qq = q) ∨ (j = 1 ∧ qq = r)) ∧ Po W W0 wv n bq bl cl pa x cap zs U2 (outS s1) (rcs t1 V1 (phS t1) z1) qq ∧ Rw W0 wv V1 n U2 t1 ∧ wv.rangeAt g 0 (ql r) ∧ g < wv.heap.size) (fun _ _ i _ => 1 - (intOf i).toNat)
          case atStart => exact ⟨0, q, rfl, .inl ⟨rfl, rfl⟩, HP7.out, HR7.out, HGC.out, hgl⟩
          case round =>
            rename World => wv
            obtain ⟨j, qq, rfl, hj, hP8, hR8, hG8, hgl8⟩ := hrel
            have HP8 := Lib.hid hP8
            have HR8 := Lib.hid hR8
            have HG8 := Lib.hid hG8
            have hgx : g < wv.heap.size := hgl8
            clear hP8 hR8 hG8 hgl8 HP7 HR7 HGC hgl
            rcases hj with ⟨rfl, rfl⟩ | ⟨rfl, rfl⟩
            · have hg0 : wv.cell? ⟨g, 0, none⟩ = some (.int .i64 (r.vol : Nat)) := HG8.out 0 _ rfl
              obtain ⟨bt, hbt⟩ : ∃ bt, bt = wv.heap.size := ⟨_, rfl⟩
              have HN := Lib.hid (Box.new wv 54 #[.int .i64 0, .int .i64 0, .int .i64 0, .int .i64 0, .int .i64 0, .int .i64 0, .int .i64 0, .int .i64 0, .int .i64 0, .string ⟨#[]⟩, .string ⟨#[]⟩, .int .i64 0, .int .i64 0, .int .i64 0, .string ⟨#[]⟩, .bool false, .int .i64 0, .int .i64 0, .int .i64 0, .string ⟨#[]⟩])
              have hB := Below.setRow ((Below.refl wv.heap.size wv).alloc (Nat.le_refl _) (.cells #[.int .i64 0, .int .i64 0, .int .i64 0, .int .i64 0, .int .i64 0, .int .i64 0, .int .i64 0, .int .i64 0, .int .i64 0, .string ⟨#[]⟩, .string ⟨#[]⟩, .int .i64 0, .int .i64 0, .int .i64 0, .string ⟨#[]⟩, .bool false, .int .i64 0, .int .i64 0, .int .i64 0, .string ⟨#[]⟩] 54)) (g := wv.heap.size) (Nat.le_refl _) (qc r)
              have hQ := HN.out.setRow (qc r)
              have hP9 := HP8.out.below hB
              have hR9 := HR8.out.below hB
              have HG9 := Lib.hid (fun (j : Nat) (u : Value) (hj : (ql r)[j]? = some u) => (hB.cell (p := ⟨g, 0 + j, none⟩) hgx).trans (HG8.out j u hj))
              have hbs := hB.size
              have hbne := HP8.out.l.lt
              rw [← hbt] at hQ hP9 hR9 HG9 hbs hbne
              have HT := Lib.hid hQ
              have HP9 := Lib.hid hP9
              have HR9 := Lib.hid hR9
              have HBT := Lib.hid hbt
              have hgx9 : g < bt := by rw [hbt]; exact hgx
              clear hB hQ hP9 hR9 hbt HP8 HR8
              go_upto_region 27 with (first | (refine wpList_load_mid rfl 54 (.tmp 108) rfl g 0 rfl _ _ HG8.out Try.underlying54 rfl (by kernel_rfl) ?_) | (refine wpList_store_box rfl 54 (.tmp 14) (.tmp 109) rfl rfl _ 0 rfl (ql r) rfl HN.out (qc r) (by kernel_rfl) (by kernel_rfl) (by kernel_rfl) (by kernel_rfl) ?_))
              rw [← HBT.out]
              refine wp_name (fun W' => Po W W0 W' n bq bl cl pa x cap zs U2 (outS s1) (rcs t1 V1 (phS t1) z1) qq ∧ Rw W0 W' V1 n U2 t1 ∧ Box W' bt 54 (qc r) ∧ W'.rangeAt g 0 (ql r) ∧ g < W'.heap.size) ⟨HP9.out, HR9.out, HT.out, HG9.out, Nat.lt_trans hgx9 HT.out.lt⟩ ?_
              clear HP9 HR9 HT HG9 HN HBT hg0 HG8 hgx
              rintro w9 ⟨hP9, hR9, hT9, hG9, hgl9⟩
              have HP9 := Lib.hid hP9
              have HR9 := Lib.hid hR9
              have HT9 := Lib.hid hT9
              have HG9 := Lib.hid hG9
              have b0_ : w9.cell? ⟨bt, 0, none⟩ = some (.int .i64 (r.vol : Nat)) := hT9.cell 0
              have b2_ : w9.cell? ⟨bt, 2, none⟩ = some (.int .i64 r.c.cl) := hT9.cell 2
              have b3_ : w9.cell? ⟨bt, 3, none⟩ = some (.int .i64 r.c.nu) := hT9.cell 3
              have x0_ : w9.cell? ⟨W.heap.size, 0, none⟩ = some (.int .i64 cl) := hP9.who.cell 0
              have htl := hT9.lt
              have hll := hP9.l.lt
              have hxl := hP9.who.lt
              clear hP9 hR9 hT9 hG9
              rcases HCASE.out with hA | ⟨hB1, hB2⟩
              · have l3_ : w9.cell? ⟨bl, 3, none⟩ = some (.int .i64 qq.c.nu) := HP9.out.l.cell 3
                have nA1 : ¬ r.c.nu < qq.c.nu := by omega
                have nA2 : ¬ qq.c.nu + 1 < r.c.nu := by omega
                have nA3 : (r.c.nu == qq.c.nu) = false := by simp; omega
                clear hA
                go_upto_region 30 with (fail)
                clear b0_ b2_ b3_ x0_ l3_ nA1 nA2 nA3
                have HPX := Lib.hid (HP9.out.last r)
                have HRX := Lib.hid (HR9.out.last HP9.out r)
                have HGX := Lib.hid (fun (j : Nat) (u : Value) (hj : (ql r)[j]? = some u) => (show (w9.setRow bl (qc r)).cell? ⟨g, 0 + j, none⟩ = some u from (cell_setRow_other w9 bl g (0 + j) (qc r) hgn).trans (HG9.out j u hj)))
                have HL := Lib.hid HP9.out.l
                have hsz : g < (w9.setRow bl (qc r)).heap.size := by simpa using hgl9
                clear HP9 HR9 HG9
                go_wp2_with (first | (refine wpList_load_box rfl 54 (.tmp 14) rfl _ 0 rfl HT9.out [.int .i64 (r.vol : Nat), .int .i64 r.srv, .int .i64 r.c.cl, .int .i64 r.c.nu, .int .i64 r.c.kd, .int .i64 r.c.h1, .int .i64 r.c.h2, .int .i64 r.c.g1, .int .i64 r.c.g2, .string r.c.nm, .string r.c.ot, .int .i64 r.c.m1, .int .i64 r.c.m2, .int .i64 r.c.m3, .string r.c.mt, .bool r.c.fo, .int .i64 r.c.aa, .int .i64 r.c.nn, .int .i64 r.c.tt, .string r.c.bb] (by kernel_rfl) Try.underlying54 rfl (by kernel_rfl) ?_) | (refine wpList_store_box rfl 54 (.tmp 9) (.tmp 155) rfl rfl _ 0 rfl [.int .i64 (r.vol : Nat), .int .i64 r.srv, .int .i64 r.c.cl, .int .i64 r.c.nu, .int .i64 r.c.kd, .int .i64 r.c.h1, .int .i64 r.c.h2, .int .i64 r.c.g1, .int .i64 r.c.g2, .string r.c.nm, .string r.c.ot, .int .i64 r.c.m1, .int .i64 r.c.m2, .int .i64 r.c.m3, .string r.c.mt, .bool r.c.fo, .int .i64 r.c.aa, .int .i64 r.c.nn, .int .i64 r.c.tt, .string r.c.bb] rfl HL.out (qc r) (by kernel_rfl) (by kernel_rfl) (by kernel_rfl) (by kernel_rfl) ?_))
                go_roundw
                case rel => exact ⟨1, r, rfl, .inr ⟨rfl, rfl⟩, HPX.out, HRX.out, HGX.out, hsz⟩
                case measure => simp [intOf]
              · have HL9 := Lib.hid (show Box w9 bl 54 (qc ⟨r.vol, qq.srv, r.c⟩) from by rw [hB1, hB2]; exact HP9.out.l)
                have l3_ : w9.cell? ⟨bl, 3, none⟩ = some (.int .i64 r.c.nu) := HL9.out.cell 3
                have l0_ : w9.cell? ⟨bl, 0, none⟩ = some (.int .i64 (r.vol : Nat)) := HL9.out.cell 0
                have hq2 : r.c.nu ≤ 100000 := by rw [hB1]; exact hq1
                have nB1 : ¬ r.c.nu + 1 < r.c.nu := by omega
                clear hB1 hB2
                go_upto_region 30 with (first | ((with_reducible refine wpList_load_boxg (op := ⟨some 142, _, _, _, _, _⟩) ?_ 52 (.tmp 141) ?_ bt 2 ?_ HT9.out [.int .i64 r.c.cl, .int .i64 r.c.nu, .int .i64 r.c.kd, .int .i64 r.c.h1, .int .i64 r.c.h2, .int .i64 r.c.g1, .int .i64 r.c.g2, .string r.c.nm, .string r.c.ot, .int .i64 r.c.m1, .int .i64 r.c.m2, .int .i64 r.c.m3, .string r.c.mt, .bool r.c.fo, .int .i64 r.c.aa, .int .i64 r.c.nn, .int .i64 r.c.tt, .string r.c.bb] ?_ Try.underlying52 ?_ ?_ ?_); (· kernel_rfl); (· rfl); (· rfl); (· kernel_rfl); (· rfl); (· kernel_rfl)) | ((with_reducible refine wpList_load_boxg (op := ⟨some 144, _, _, _, _, _⟩) ?_ 52 (.tmp 143) ?_ bl 2 ?_ HL9.out [.int .i64 r.c.cl, .int .i64 r.c.nu, .int .i64 r.c.kd, .int .i64 r.c.h1, .int .i64 r.c.h2, .int .i64 r.c.g1, .int .i64 r.c.g2, .string r.c.nm, .string r.c.ot, .int .i64 r.c.m1, .int .i64 r.c.m2, .int .i64 r.c.m3, .string r.c.mt, .bool r.c.fo, .int .i64 r.c.aa, .int .i64 r.c.nn, .int .i64 r.c.tt, .string r.c.bb] ?_ Try.underlying52 ?_ ?_ ?_); (· kernel_rfl); (· rfl); (· rfl); (· kernel_rfl); (· rfl); (· kernel_rfl)))
                clear b0_ b2_ b3_ x0_ l3_ l0_ nB1 hq2 HL9
                have HPX := Lib.hid (HP9.out.last r)
                have HRX := Lib.hid (HR9.out.last HP9.out r)
                have HGX := Lib.hid (fun (j : Nat) (u : Value) (hj : (ql r)[j]? = some u) => (show (w9.setRow bl (qc r)).cell? ⟨g, 0 + j, none⟩ = some u from (cell_setRow_other w9 bl g (0 + j) (qc r) hgn).trans (HG9.out j u hj)))
                have HL := Lib.hid HP9.out.l
                have hsz : g < (w9.setRow bl (qc r)).heap.size := by simpa using hgl9
                clear HP9 HR9 HG9
                go_wp2_with (first | (refine wpList_load_box rfl 54 (.tmp 14) rfl _ 0 rfl HT9.out [.int .i64 (r.vol : Nat), .int .i64 r.srv, .int .i64 r.c.cl, .int .i64 r.c.nu, .int .i64 r.c.kd, .int .i64 r.c.h1, .int .i64 r.c.h2, .int .i64 r.c.g1, .int .i64 r.c.g2, .string r.c.nm, .string r.c.ot, .int .i64 r.c.m1, .int .i64 r.c.m2, .int .i64 r.c.m3, .string r.c.mt, .bool r.c.fo, .int .i64 r.c.aa, .int .i64 r.c.nn, .int .i64 r.c.tt, .string r.c.bb] (by kernel_rfl) Try.underlying54 rfl (by kernel_rfl) ?_) | (refine wpList_store_box rfl 54 (.tmp 9) (.tmp 155) rfl rfl _ 0 rfl [.int .i64 (r.vol : Nat), .int .i64 r.srv, .int .i64 r.c.cl, .int .i64 r.c.nu, .int .i64 r.c.kd, .int .i64 r.c.h1, .int .i64 r.c.h2, .int .i64 r.c.g1, .int .i64 r.c.g2, .string r.c.nm, .string r.c.ot, .int .i64 r.c.m1, .int .i64 r.c.m2, .int .i64 r.c.m3, .string r.c.mt, .bool r.c.fo, .int .i64 r.c.aa, .int .i64 r.c.nn, .int .i64 r.c.tt, .string r.c.bb] rfl HL.out (qc r) (by kernel_rfl) (by kernel_rfl) (by kernel_rfl) (by kernel_rfl) ?_))
                go_roundw
                case rel => exact ⟨1, r, rfl, .inr ⟨rfl, rfl⟩, HPX.out, HRX.out, HGX.out, hsz⟩
                case measure => simp [intOf]
            · have HP8 := HP8
              go_wp2_with fail
              go_roundw
              case rel =>
                exact ⟨k + 1, by go_num, Lo.mk HP8.out HR8.out HZ1.out HK1.out HL1.out HLl.out HLN.out.out HCL1.out (by omega)⟩
              case measure => simp [intOf]; omega
    · clear hP
      go_wp2_with fail
      refine (alive_any _).mono ?_
      rintro e w8 ⟨rfl, b8⟩
      go_wp2
      go_ret
      exact ⟨rfl, B0.out.trans ((HP.out.bel.trans (b8.mono HP.out.bel.size)).mono B0.out.size)⟩
end Go.Proofs.Ytlkilkndjfcejaa

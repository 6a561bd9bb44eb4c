/- chart: Find. Conditions: the mounts lie in memory; texts have at most 2000000 bytes. -/
import Derived.Test.YtbkjhogfpcmcbaaDoorKf
import Derived.Test.YtbkjhogfpcmcbaaDoorSteps
namespace Go.Proofs.YtbkjhogfpcmcbaaDoor
open Go Go.RowKit Zn
set_option linter.unusedVariables false
set_option linter.unusedSimpArgs false
variable {w w' : World}
theorem strs_cut {ad : Option Addr} {L : List Nm} {k cap : Nat} (h : Strs w ad L) (hc : L.length ≤ cap) (hk : k ≤ L.length) : Strs w (if cap = k then ad else ad.map (·.add k)) (L.drop k) := by
  by_cases hc : cap = k
  · left; rw [List.drop_eq_nil_iff]; omega
  · rw [if_neg hc]
    rcases h with rfl | ⟨g, off, rfl, h1, h2⟩
    · left; simp
    · right
      refine ⟨g, off + k, ?_, h1, fun j x hj => ?_⟩
      · simp [Addr.add_lit]
      · rw [List.getElem?_drop] at hj
        rw [Nat.add_assoc]
        exact h2 _ _ hj
def bestOf (ms : List Mt) (q : ByteArray) : Mt := match underL ms q ms.length with | [] => ⟨⟨#[]⟩, 0⟩ | x :: l => bestM x l
def restOf (ms : List Mt) (q : ByteArray) : List Nm := (lsOf q.data.toList).drop (dN (bestOf ms q)).toNat
def findB (ms : List Mt) (q : ByteArray) : Bool := checkB ms && validZ q.data.toList
theorem check_parts {ms : List Mt} (h : checkB ms = true) : 1 ≤ ms.length ∧ ms.length ≤ 40 ∧ rootB ms = true ∧ anyBad ms = false ∧ riseB ms = true := by
  unfold checkB at h
  simp only [Bool.and_eq_true, decide_eq_true_eq, Bool.not_eq_true'] at h
  obtain ⟨⟨⟨⟨h1, h2⟩, h3⟩, h4⟩, h5⟩ := h
  exact ⟨h1, h2, h3, h4, h5⟩
theorem root_head {ms : List Mt} (h : rootB ms = true) : ∃ x l, ms = x :: l ∧ x.p = ⟨#[47]⟩ := by
  cases ms with
  | nil => cases h
  | cons x l => exact ⟨x, l, rfl, by unfold rootB at h; simpa using h⟩
theorem root_under {x : Mt} {q : ByteArray} (hx : x.p = ⟨#[47]⟩) (hq : validZ q.data.toList = true) : isUnder q x = true := by
  unfold isUnder underZ
  rw [hx, hq]
  rfl
theorem under_root {ms : List Mt} {q : ByteArray} (h : rootB ms = true) (hq : validZ q.data.toList = true) : ∃ x l, underL ms q ms.length = x :: l := by
  obtain ⟨x, l, rfl, hx⟩ := root_head h
  refine ⟨x, l.filter (isUnder q), ?_⟩
  unfold underL
  rw [List.take_length, List.filter_cons_of_pos (root_under hx hq)]
theorem under_mem {ms : List Mt} {q : ByteArray} {x : Mt} (h : x ∈ underL ms q ms.length) : x ∈ ms ∧ isUnder q x = true := by
  unfold underL at h
  rw [List.take_length] at h
  exact List.mem_filter.1 h
theorem best_under {ms : List Mt} {q : ByteArray} (h : rootB ms = true) (hq : validZ q.data.toList = true) : bestOf ms q ∈ ms ∧ isUnder q (bestOf ms q) = true := by
  obtain ⟨x, l, e⟩ := under_root h hq
  have := bestM_mem x l
  unfold bestOf
  rw [e]
  rw [← e] at this
  exact under_mem this
theorem depth_under {q : ByteArray} {x : Mt} (h : isUnder q x = true) : dN x = (lsOf x.p.data.toList).length ∧ (lsOf x.p.data.toList).length ≤ (lsOf q.data.toList).length ∧ lsOf x.p.data.toList <+: lsOf q.data.toList ∧ validZ x.p.data.toList = true := by
  unfold isUnder underZ at h
  simp only [Bool.and_eq_true] at h
  obtain ⟨⟨h1, h2⟩, h3⟩ := h
  have hp := List.isPrefixOf_iff_prefix.1 h3
  refine ⟨?_, hp.length_le, hp, h2⟩
  obtain ⟨L, hL⟩ := valid_some h2
  unfold dN depthZ
  rw [hL, ls_of hL]
set_option maxHeartbeats 1000000 in
theorem find_no (a : Option Addr) (len cap : Nat) (ms : List Mt) (q : ByteArray) (h : MsAt w a len ms) (hs : ∀ x ∈ ms, x.p.size ≤ 2000000) (hq : q.size ≤ 2000000) (hm : Mx w) (hl : len ≤ 1000000) (hno : findB ms q = false) :
    Calls Tryd.prog 19 #[.slice a len cap, .string q] w fun e w' => e = .returned (.tuple #[.int .i64 0, .slice none 0 0, .int .i64 200]) ∧ Below w.heap.size w w' := by
  have hb : Below w.heap.size w ((w.alloc (.cells #[.slice a len cap] 22)).alloc (.cells #[.string q] 9)) := ((Below.refl _ w).alloc (Nat.le_refl _) _).alloc (by simp) _
  have C1 := check_any a len cap ms (h.below hb (Nat.le_refl _)) (fun x hx => Nat.le_trans (hs x hx) (by omega)) (hm.below hb) hl
  have B1 := (Box.new w 22 #[.slice a len cap]).alloc (.cells #[.string q] 9)
  have B2 := Box.new (w.alloc (.cells #[.slice a len cap] 22)) 9 #[.string q]
  simp only [World.size_alloc] at B2
  have HB1 := Lib.hid B1
  have HB2 := Lib.hid B2
  have HB := Lib.hid hb
  have HM := Lib.hid (hm.below hb)
  unfold findB at hno
  cases hc : checkB ms with
  | false =>
    have C1 := (C1.mono fun e w' (h : _ ∧ _) => (⟨by rw [h.1]; unfold checkE; rw [hc]; rfl, h.2⟩ : e = .returned (.int .i64 200) ∧ _))
    have C1 := Lib.hid C1
    clear h hs hm hno hc hb B1 B2
    go_enter Tryd.func19, Tryd.ntmps19
    go_wp2_with fail
    refine C1.out.mono ?_
    rintro e w1 ⟨rfl, b1⟩
    have HBB := Lib.hid (HB.out.trans (b1.mono HB.out.size))
    clear b1 C1
    go_wp2_with fail
    exact ret_three (t := 4) (u := 5) (v := 6) (x := .int .i64 0) (y := .slice none 0 0) (z := .int .i64 200) (by kernel_rfl) rfl rfl rfl rfl ⟨rfl, HBB.out⟩
  | true =>
    rw [hc, Bool.true_and] at hno
    have C1 := (C1.mono fun e w' (h : _ ∧ _) => (⟨by rw [h.1]; unfold checkE; rw [hc]; rfl, h.2⟩ : e = .returned (.int .i64 0) ∧ _))
    have C1 := Lib.hid C1
    have C2 := Lib.hid (fun w1 (h : Mx w1) => valid_any q w1 (by omega) h)
    rw [hno] at C2
    clear h hs hm hno hc hb B1 B2
    go_enter Tryd.func19, Tryd.ntmps19
    go_wp2_with fail
    refine C1.out.mono ?_
    rintro e w1 ⟨rfl, b1⟩
    have HBB := Lib.hid (HB.out.trans (b1.mono HB.out.size))
    have HM1 := Lib.hid (HM.out.below b1)
    have c1 : w1.cell? ⟨w.heap.size + 1, 0, none⟩ = some (.string q) := (HB2.out.below b1 (by simp)).cell 0
    have hl1 := (HB2.out.below b1 (by simp)).lt
    clear b1 C1
    go_wp2_with fail
    refine (C2.out w1 HM1.out).mono ?_
    rintro e w2 ⟨rfl, b2⟩
    have HB3 := Lib.hid (HBB.out.trans (b2.mono HBB.out.size))
    clear b2 C2 c1
    go_wp2_with fail
    exact ret_three (t := 4) (u := 5) (v := 6) (x := .int .i64 0) (y := .slice none 0 0) (z := .int .i64 200) (by kernel_rfl) rfl rfl rfl rfl ⟨rfl, HB3.out⟩
def FoundAt (w : World) (ms : List Mt) (q : ByteArray) (e : Ending) (w' : World) : Prop :=
  ∃ a c, e = .returned (.tuple #[.int .i64 (bestOf ms q).v, .slice a (restOf ms q).length c, .int .i64 0]) ∧ Strs w' a (restOf ms q) ∧ Below w.heap.size w w'
set_option maxRecDepth 100000 in
set_option maxHeartbeats 4000000 in
theorem find_yes (a : Option Addr) (len cap : Nat) (ms : List Mt) (q : ByteArray) (h : MsAt w a len ms) (hs : ∀ x ∈ ms, x.p.size ≤ 2000000) (hq : q.size ≤ 2000000) (hm : Mx w) (hl : len ≤ 1000000) (hyes : findB ms q = true) :
    Calls Tryd.prog 19 #[.slice a len cap, .string q] w (FoundAt w ms q) := by
  have hb : Below w.heap.size w ((w.alloc (.cells #[.slice a len cap] 22)).alloc (.cells #[.string q] 9)) := ((Below.refl _ w).alloc (Nat.le_refl _) _).alloc (by simp) _
  have HA := Lib.hid (h.below hb (Nat.le_refl _))
  have C1 := check_any a len cap ms (h.below hb (Nat.le_refl _)) (fun x hx => Nat.le_trans (hs x hx) (by omega)) (hm.below hb) hl
  have B1 := (Box.new w 22 #[.slice a len cap]).alloc (.cells #[.string q] 9)
  have B2 := Box.new (w.alloc (.cells #[.slice a len cap] 22)) 9 #[.string q]
  simp only [World.size_alloc] at B2
  have HB1 := Lib.hid B1
  have HB2 := Lib.hid B2
  have HB := Lib.hid hb
  have HM := Lib.hid (hm.below hb)
  have HSZ := Lib.hid (show ((w.alloc (.cells #[.slice a len cap] 22)).alloc (.cells #[.string q] 9)).heap.size = w.heap.size + 1 + 1 by simp)
  unfold findB at hyes
  obtain ⟨hc, hv⟩ := Bool.and_eq_true_iff.1 hyes
  have C1 := (C1.mono fun e w' (h : _ ∧ _) => (⟨by rw [h.1]; unfold checkE; rw [hc]; rfl, h.2⟩ : e = .returned (.int .i64 0) ∧ _))
  have C1 := Lib.hid C1
  have C2 := Lib.hid (fun w1 (h : Mx w1) => valid_any q w1 (by omega) h)
  rw [hv] at C2
  obtain ⟨_, _, hr, _, _⟩ := check_parts hc
  obtain ⟨x, l, hul⟩ := under_root hr hv
  obtain ⟨U, hU⟩ : ∃ U, U = underL ms q ms.length := ⟨_, rfl⟩
  rw [← hU] at hul
  obtain ⟨m, hmm⟩ : ∃ m, m = bestM x l := ⟨_, rfl⟩
  have hbm : bestOf ms q = m := by unfold bestOf; rw [← hU, hul, hmm]
  obtain ⟨hbi, hbu⟩ := best_under hr hv
  rw [hbm] at hbi hbu
  obtain ⟨hd1, hd2, _, _⟩ := depth_under hbu
  obtain ⟨L, hL⟩ := valid_some hv
  rw [ls_of hL] at hd2
  obtain ⟨D, hD⟩ : ∃ D, D = (lsOf m.p.data.toList).length := ⟨_, rfl⟩
  rw [← hD] at hd1 hd2
  have HMM := Lib.hid hmm
  have HU := Lib.hid hU
  have HDLE := Lib.hid hd2
  have HUS := Lib.hid (show ∀ x ∈ U, x.p.size ≤ 2000000 from fun x hx => hs x (under_mem (hU ▸ hx)).1)
  have HULN := Lib.hid (show U.length ≤ 1000000 by rw [hU]; have := underL_len ms q ms.length; have := h.len; omega)
  have HRE := Lib.hid (show restOf ms q = L.drop D by unfold restOf; rw [hbm, hd1, ls_of hL]; rfl)
  have HPOS := Lib.hid (show 0 < len by rw [← h.len]; have := (check_parts hc).1; omega)
  have HSS := Lib.hid hs
  have HUL := Lib.hid hul
  have C3 := Lib.hid (fun w2 (hT : ∀ O, w2.heap.size ≤ O → Holds w2.heap.size O w.heap.size (w.heap.size + 1) a len cap ms q w2) => collect_any w2 w.heap.size (w.heap.size + 1) a len cap ms q hl hq hs hT)
  have hu0 : 0 < U.length := by rw [hul]; simp
  have CD0 := Lib.hid (fun w1 (h : Mx w1) => depth_any m.p w1 (Nat.le_trans (hs m hbi) (by omega)) h)
  have HDD := Lib.hid (show depthZ m.p.data.toList = (D : Int) from hd1)
  have CN0 := Lib.hid (fun w1 (h : Mx w1) => cnames_any q w1 (by omega) h L hL)
  have HBM := Lib.hid hbm
  clear h hs hm hyes hc hb B1 B2 hv hr hU hul hmm hbi hbu hd1 hd2 hD hbm hL
  go_enter Tryd.func19, Tryd.ntmps19
  go_wp2_with fail
  refine C1.out.mono ?_
  rintro e w1 ⟨rfl, b1⟩
  have HBB := Lib.hid (HB.out.trans (b1.mono HB.out.size))
  have HM1 := Lib.hid (HM.out.below b1)
  have HA1 := Lib.hid (HA.out.below b1 (Nat.le_refl _))
  have HX1 := Lib.hid (HB1.out.below b1 HB1.out.lt)
  have HX2 := Lib.hid (HB2.out.below b1 HB2.out.lt)
  have c1 : w1.cell? ⟨w.heap.size + 1, 0, none⟩ = some (.string q) := HX2.out.cell 0
  have hl1 := HX2.out.lt
  clear b1 C1 HB1 HB2 HA HM HB
  go_wp2_with fail
  refine (C2.out w1 HM1.out).mono ?_
  rintro e w2 ⟨rfl, b2⟩
  have HB3 := Lib.hid (HBB.out.trans (b2.mono HBB.out.size))
  have HM2 := Lib.hid (HM1.out.below b2)
  have HA2 := Lib.hid (HA1.out.below b2 (Nat.le_refl _))
  have HX3 := Lib.hid (HX1.out.below b2 HX1.out.lt)
  have HX4 := Lib.hid (HX2.out.below b2 HX2.out.lt)
  have HT2 := Lib.hid (show ∀ O, w2.heap.size ≤ O → Holds w2.heap.size O w.heap.size (w.heap.size + 1) a len cap ms q w2 from by
    intro O hO
    have k1 := HX3.out.lt
    have k2 := HX4.out.lt
    have k3 := HM2.out.lt
    refine ⟨HX3.out, HX4.out, HA2.out, HM2.out, ⟨k1, by omega⟩, ⟨k2, by omega⟩, ?_, ⟨k3, by omega⟩⟩
    intro b off e
    obtain ⟨b', off', _, e', _, hbl, _⟩ := HA2.out.get 0 HPOS.out
    rw [e] at e'
    injection e' with e'
    injection e' with e1 e2
    subst e1
    exact ⟨hbl, by omega⟩)
  clear b2 C2 c1 hl1 HA1 HX1 HX2 HM1 HBB
  go_upto_region 3 with (fail)
  have hmf : ∀ (fn : Fn) (first cap : Array Value) (w : World), (Instr.makeFunc fn first cap).run Tryd.prog w = .ok (.func fn first cap) w := fun _ _ _ _ => rfl
  go_wp2_with fail
  refine (C3.out w2 HT2.out).mono ?_
  rintro e w3 ⟨a3, c3, rfl, h3, b3⟩
  rw [← HU.out] at h3
  rw [← HU.out]
  have HA3 := Lib.hid h3
  have HB4 := Lib.hid (HB3.out.trans (b3.mono HB3.out.size))
  have HM3 := Lib.hid (HM2.out.below b3)
  have HX5 := Lib.hid (HX4.out.below b3 HX4.out.lt)
  have C4 := Lib.hid (max_any a3 U.length c3 U h3 (fun x hx => Nat.le_trans (HUS.out x hx) (by omega)) HM3.out HULN.out x l HUL.out)
  rw [← HMM.out] at C4
  unfold mv at C4
  have q0 : ((U.length : Int) == 0) = false := by rw [beq_eq_false_iff_ne]; omega
  clear b3 h3 C3 HA2 HX3 HX4 HM2 HB3
  go_wp2_with fail
  refine C4.out.mono ?_
  rintro e w4 ⟨rfl, b4⟩
  have HB5 := Lib.hid (HB4.out.trans (b4.mono HB4.out.size))
  have HM4 := Lib.hid (HM3.out.below b4)
  have HX6 := Lib.hid (HX5.out.below b4 HX5.out.lt)
  clear b4 C4 HX5 HM3 HB4
  go_upto_region 7 with (fail)
  have hb5 : Below w4.heap.size w4 (w4.alloc (.cells #[.string m.p, .int .i64 m.v] 53)) := (Below.refl _ _).alloc (Nat.le_refl _) _
  have hB8 := Box.new w4 53 #[.string m.p, .int .i64 m.v]
  have hX7 := HX6.out.below hb5 HX6.out.lt
  have hM5 := HM4.out.below hb5
  have hB9 := HB5.out.trans (hb5.mono HB5.out.size)
  generalize w4.alloc (.cells #[.string m.p, .int .i64 m.v] 53) = w5 at hb5 hB8 hX7 hM5 hB9 ⊢
  generalize hn : w.heap.size = n at hX7 ⊢
  have HBX := Lib.hid (show w5.cell? ⟨w4.heap.size, 0, none⟩ = some (.string m.p) ∧ w5.cell? ⟨w4.heap.size, 1, none⟩ = some (.int .i64 m.v) from ⟨hB8.cell 0, hB8.cell 1⟩)
  have HBY := Lib.hid (show w5.cell? ⟨n + 1, 0, none⟩ = some (.string q) from hX7.cell 0)
  have h50 : w4.heap.size < w5.heap.size := hB8.lt
  have h51 : n + 1 < w5.heap.size := hX7.lt
  have HM5 := Lib.hid hM5
  have CN := Lib.hid (fun w6 (b6 : Below w5.heap.size w5 w6) => CN0.out w6 (HM5.out.below b6))
  have CD := Lib.hid (fun w6 (b6 : Below w5.heap.size w5 w6) => CD0.out w6 (HM5.out.below b6))
  rw [HDD.out] at CD
  have HEND := Lib.hid (show ∀ (a8 : Option Addr) (c8 : Nat) (w7 : World) (e : Unit), Strs w7 a8 (L.drop D) → Below w5.heap.size w5 w7 → FoundAt w ms q (.returned (.tuple #[.int .i64 m.v, .slice a8 (L.length - D) c8, .int .i64 0])) w7 from fun a8 c8 w7 _ hS hb => by
    refine ⟨a8, c8, ?_, by rw [HRE.out]; exact hS, hB9.trans (hb.mono hB9.size)⟩
    rw [HRE.out, HBM.out, List.length_drop])
  have hD1 : (D : Int) ≤ (L.length : Int) := by have := HDLE.out; omega
  clear hb5 hB8 hX7 hM5 hB9 CN0 CD0
  refine wp_region_steps (fun w' => Below w5.heap.size w5 w') [(true, 0), (true, 1), (true, 2), (true, 4), (true, 5), (false, 3), (false, 6), (true, 7), (true, 8), (true, 9), (false, 10)] 10 _ _ (by kernel_rfl) rfl (by kernel_rfl) (by kernel_rfl) rfl (fun _ _ _ _ _ h => h) (Below.drew (Below.refl _ _)) ?_
  intro S HS
  simp only [pickS, List.getElem?_cons_zero, List.getElem?_cons_succ]
  refine wpSteps_head ?_
  go_big_quiet_want; apply quiet_value; (· (intro w' hw; have hw := (HS.out _).1 hw; have e0 := (hw.cell (p := ⟨w4.heap.size, 0, none⟩) h50).trans HBX.out.1; have e1 := (hw.cell (p := ⟨w4.heap.size, 1, none⟩) h50).trans HBX.out.2; have e3 := (hw.cell (p := ⟨n + 1, 0, none⟩) h51).trans HBY.out; have hl0 := Nat.lt_of_lt_of_le h50 hw.size; have hl1 := Nat.lt_of_lt_of_le h51 hw.size; go_simp; try rfl)); simp only [Act.put, List.setIfInBounds_toArray, List.set_cons_succ, List.set_cons_zero]; go_big_quiet_on
  refine wpQuiet_nil ?_
  refine wpSteps_head ?_
  go_big_quiet_want; apply quiet_value; (· (intro w' hw; have hw := (HS.out _).1 hw; have e0 := (hw.cell (p := ⟨w4.heap.size, 0, none⟩) h50).trans HBX.out.1; have e1 := (hw.cell (p := ⟨w4.heap.size, 1, none⟩) h50).trans HBX.out.2; have e3 := (hw.cell (p := ⟨n + 1, 0, none⟩) h51).trans HBY.out; have hl0 := Nat.lt_of_lt_of_le h50 hw.size; have hl1 := Nat.lt_of_lt_of_le h51 hw.size; go_simp; try rfl)); simp only [Act.put, List.setIfInBounds_toArray, List.set_cons_succ, List.set_cons_zero]; go_big_quiet_on
  refine wpQuiet_nil ?_
  refine wpSteps_head ?_
  go_big_quiet_want; apply quiet_value; (· (intro w' hw; have hw := (HS.out _).1 hw; have e0 := (hw.cell (p := ⟨w4.heap.size, 0, none⟩) h50).trans HBX.out.1; have e1 := (hw.cell (p := ⟨w4.heap.size, 1, none⟩) h50).trans HBX.out.2; have e3 := (hw.cell (p := ⟨n + 1, 0, none⟩) h51).trans HBY.out; have hl0 := Nat.lt_of_lt_of_le h50 hw.size; have hl1 := Nat.lt_of_lt_of_le h51 hw.size; go_simp; try rfl)); simp only [Act.put, List.setIfInBounds_toArray, List.set_cons_succ, List.set_cons_zero]; go_big_quiet_on
  refine wpQuiet_nil ?_
  refine wpSteps_head ?_
  go_big_quiet_want; apply quiet_value; (· (intro w' hw; have hw := (HS.out _).1 hw; have e0 := (hw.cell (p := ⟨w4.heap.size, 0, none⟩) h50).trans HBX.out.1; have e1 := (hw.cell (p := ⟨w4.heap.size, 1, none⟩) h50).trans HBX.out.2; have e3 := (hw.cell (p := ⟨n + 1, 0, none⟩) h51).trans HBY.out; have hl0 := Nat.lt_of_lt_of_le h50 hw.size; have hl1 := Nat.lt_of_lt_of_le h51 hw.size; go_simp; try rfl)); simp only [Act.put, List.setIfInBounds_toArray, List.set_cons_succ, List.set_cons_zero]; go_big_quiet_on
  refine wpQuiet_nil ?_
  refine wpSteps_head ?_
  go_big_quiet_want; apply quiet_value; (· (intro w' hw; have hw := (HS.out _).1 hw; have e0 := (hw.cell (p := ⟨w4.heap.size, 0, none⟩) h50).trans HBX.out.1; have e1 := (hw.cell (p := ⟨w4.heap.size, 1, none⟩) h50).trans HBX.out.2; have e3 := (hw.cell (p := ⟨n + 1, 0, none⟩) h51).trans HBY.out; have hl0 := Nat.lt_of_lt_of_le h50 hw.size; have hl1 := Nat.lt_of_lt_of_le h51 hw.size; go_simp; try rfl)); simp only [Act.put, List.setIfInBounds_toArray, List.set_cons_succ, List.set_cons_zero]; go_big_quiet_on
  refine wpQuiet_nil ?_
  refine wpSteps_more ?_
  go_wp2_with fail
  refine (CN.out _ (Below.drew (Below.refl _ _))).mono ?_
  rintro e w6 ⟨a6, c6, rfl, hc6, hS6, b6⟩
  have hb6 : Below w5.heap.size w5 w6 := (Below.drew (Below.refl _ _)).trans b6
  have HS6 := Lib.hid hS6
  have HB6 := Lib.hid hb6
  have p6 : S w6 := (HS.out _).2 hb6
  clear b6 hS6 hb6
  go_wp2_with fail
  refine ThenS.mk p6 ?_
  refine wpSteps_more ?_
  go_wp2_with fail
  refine (CD.out _ HB6.out).mono ?_
  rintro e w7 ⟨rfl, b7⟩
  have HB7 := Lib.hid (HB6.out.trans (b7.mono HB6.out.size))
  have hS8 := strs_cut HS6.out hc6 HDLE.out
  have HS8 := Lib.hid (hS8.below b7)
  have p7 : S w7 := (HS.out _).2 HB7.out
  clear b7 hS8
  go_wp2_with fail
  refine ThenS.mk p7 ?_
  refine wpSteps_head ?_
  go_big_quiet_want; apply quiet_value (v := .slice (if c6 = D then a6 else a6.map (·.add D)) (L.length - D) (c6 - D)); (· (intro w' hw; have hw := (HS.out _).1 hw; have e0 := (hw.cell (p := ⟨w4.heap.size, 0, none⟩) h50).trans HBX.out.1; have e1 := (hw.cell (p := ⟨w4.heap.size, 1, none⟩) h50).trans HBX.out.2; have e3 := (hw.cell (p := ⟨n + 1, 0, none⟩) h51).trans HBY.out; have hl0 := Nat.lt_of_lt_of_le h50 hw.size; have hl1 := Nat.lt_of_lt_of_le h51 hw.size; go_simp; try rfl)); simp only [Act.put, List.setIfInBounds_toArray, List.set_cons_succ, List.set_cons_zero]; go_big_quiet_on
  refine wpQuiet_nil ?_
  refine wpSteps_head ?_
  go_big_quiet_want; go_big_quiet_op; go_big_quiet_on
  refine wpQuiet_nil ?_
  refine wpSteps_head ?_
  go_big_quiet_want; go_big_quiet_op; go_big_quiet_on
  refine wpQuiet_nil ?_
  refine wpSteps_last ?_
  generalize (if c6 = D then a6 else a6.map (·.add D)) = a8 at HS8 ⊢
  go_wp2_with fail
  refine ret_three (t := 4) (u := 5) (v := 6) (x := .int .i64 m.v) (y := .slice a8 (L.length - D) (c6 - D)) (z := .int .i64 0) (by kernel_rfl) rfl rfl rfl rfl ?_
  exact HEND.out _ _ _ () HS8.out HB7.out
end Go.Proofs.YtbkjhogfpcmcbaaDoor

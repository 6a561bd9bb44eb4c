/- porter: a call on both porters. Conditions: the client is in its bounds, as many calls as a script may have. -/
import Derived.Test.YtlkilkndjfcejaaTh
import Derived.Deep.Cut
import Derived.Deep.CutBlock
import Derived.Deep.CutRange
namespace Go.Proofs.Ytlkilkndjfcejaa
open Go Go.RowKit
set_option linter.unusedVariables false
set_option linter.unusedSimpArgs false
variable {Wb w W W' : World} {n : Nat} {U U' U0 : Vs} {V V' : Vr} {s s' s2 : St} {o : Op21} {A A' : Array Value}

theorem Pw.new (hp : Pt w Wb.heap.size n U s) (hbel : Below Wb.heap.size Wb w) (A : Array Value) (o : Op21) : Pw Wb w (((w.alloc (.cells A 46)).alloc (.cells (oc o) 60)).alloc (.cells #[.int .i64 0, .int .i64 0, .slice none 0 0, .slice none 0 0, .int .i64 0, .int .i64 0, .int .i64 0, .int .i64 0, .int .i64 0, .int .i64 0, .int .i64 0, .int .i64 0, .int .i64 0, .int .i64 0, .string ⟨#[]⟩, .string ⟨#[]⟩, .int .i64 0, .int .i64 0, .int .i64 0, .string ⟨#[]⟩, .bool false, .int .i64 0, .int .i64 0, .int .i64 0, .string ⟨#[]⟩, .int .i64 0, .int .i64 0, .slice none 0 0, .int .i64 0, .int .i64 0, .int .i64 0, .int .i64 0, .int .i64 0, .string ⟨#[]⟩, .int .i64 0, .int .i64 0, .int .i64 0, .int .i64 0, .int .i64 0, .int .i64 0, .int .i64 0, .int .i64 0, .slice none 0 0] 46)) n U U s A o := by
  have hb : Below w.heap.size w (((w.alloc (.cells A 46)).alloc (.cells (oc o) 60)).alloc (.cells #[.int .i64 0, .int .i64 0, .slice none 0 0, .slice none 0 0, .int .i64 0, .int .i64 0, .int .i64 0, .int .i64 0, .int .i64 0, .int .i64 0, .int .i64 0, .int .i64 0, .int .i64 0, .int .i64 0, .string ⟨#[]⟩, .string ⟨#[]⟩, .int .i64 0, .int .i64 0, .int .i64 0, .string ⟨#[]⟩, .bool false, .int .i64 0, .int .i64 0, .int .i64 0, .string ⟨#[]⟩, .int .i64 0, .int .i64 0, .slice none 0 0, .int .i64 0, .int .i64 0, .int .i64 0, .int .i64 0, .int .i64 0, .string ⟨#[]⟩, .int .i64 0, .int .i64 0, .int .i64 0, .int .i64 0, .int .i64 0, .int .i64 0, .int .i64 0, .int .i64 0, .slice none 0 0] 46)) := ((((Below.refl w.heap.size w).alloc (Nat.le_refl _) (.cells A 46)).alloc (by simp) (.cells (oc o) 60)).alloc (by simp; omega) _)
  exact ⟨box3a w A 46 60 (oc o) _, box3b w _ _ (oc o) 60, box3c w _ _ _ 46, hp.below hb (Nat.le_refl _), hbel.trans (hb.mono hbel.size), Goes.of_below hb⟩
theorem Rw.new (hr : Rw Wb w V n U s) (A : Array Value) (o : Op21) : Rw Wb (((w.alloc (.cells A 46)).alloc (.cells (oc o) 60)).alloc (.cells #[.int .i64 0, .int .i64 0, .slice none 0 0, .slice none 0 0, .int .i64 0, .int .i64 0, .int .i64 0, .int .i64 0, .int .i64 0, .int .i64 0, .int .i64 0, .int .i64 0, .int .i64 0, .int .i64 0, .string ⟨#[]⟩, .string ⟨#[]⟩, .int .i64 0, .int .i64 0, .int .i64 0, .string ⟨#[]⟩, .bool false, .int .i64 0, .int .i64 0, .int .i64 0, .string ⟨#[]⟩, .int .i64 0, .int .i64 0, .slice none 0 0, .int .i64 0, .int .i64 0, .int .i64 0, .int .i64 0, .int .i64 0, .string ⟨#[]⟩, .int .i64 0, .int .i64 0, .int .i64 0, .int .i64 0, .int .i64 0, .int .i64 0, .int .i64 0, .int .i64 0, .slice none 0 0] 46)) V n U s :=
  hr.below ((((Below.refl w.heap.size w).alloc (Nat.le_refl _) (.cells A 46)).alloc (by simp) (.cells (oc o) 60)).alloc (by simp; omega) _)
theorem Box.ne {w : World} {b b' : Nat} {T T' : TypeId} {cs cs' : Array Value} (h : Box w b T cs) (h' : Box w b' T' cs') (hT : T ≠ T') : b ≠ b' := by
  rintro rfl
  unfold Box at h h'
  rw [h] at h'
  simp at h'
  exact hT h'.2
theorem rdone_yes2 (z : Rs) (ph : Int) (hp : ph = 2) (h : Rt w V s) : Calls Try.prog 19 #[.agg (rcs s V ph z)] w fun e w' => e = .returned (.tuple #[.agg (rcs s V 0 zeroRs), .agg (sc z), .bool true]) ∧ Below w.heap.size w w' := by
  subst hp
  exact rdone_yes z h
theorem both_rows {w : World} {base : Nat} {u v : Value} {L : List Rq} (h : w.ownsRow base 54 20 u L.length (L.flatMap ql)) (h' : w.ownsRow 0 106 20 v L.length (L.flatMap ql)) :
    ∃ (a b : Option Addr) (c d : Nat), u = .slice a L.length c ∧ v = .slice b L.length d ∧ ∀ k q, L[k]? = some q → ∃ g g', a = some ⟨g, 0, none⟩ ∧ b = some ⟨g', 0, none⟩ ∧ g < w.heap.size ∧ g' < w.heap.size ∧ (∀ j x, (ql q)[j]? = some x → w.cell? ⟨g, k * 20 + j, none⟩ = some x) ∧ ∀ j x, (ql q)[j]? = some x → w.cell? ⟨g', k * 20 + j, none⟩ = some x := by
  obtain ⟨a, c, ha, _⟩ := own_shape h
  obtain ⟨b, d, hb, _⟩ := own_shape h'
  refine ⟨a, b, c, d, ha, hb, fun k q hq => ?_⟩
  obtain ⟨g, c1, e1, _, hg, _, _, hc⟩ := own_atN ql_len h rfl k q hq
  obtain ⟨g', c2, e2, _, hg', _, _, hc'⟩ := own_atN ql_len h' rfl k q hq
  rw [ha] at e1
  rw [hb] at e2
  simp only [Value.slice.injEq] at e1 e2
  exact ⟨g, g', e1.1, e2.1, hg, hg', hc, hc'⟩
theorem ql_call {w : World} {g k : Nat} {q : Rq} (h : ∀ j u, (ql q)[j]? = some u → w.cell? ⟨g, k * 20 + j, none⟩ = some u) : ∀ j u, ([.int .i64 q.c.cl, .int .i64 q.c.nu, .int .i64 q.c.kd, .int .i64 q.c.h1, .int .i64 q.c.h2, .int .i64 q.c.g1, .int .i64 q.c.g2, .string q.c.nm, .string q.c.ot, .int .i64 q.c.m1, .int .i64 q.c.m2, .int .i64 q.c.m3, .string q.c.mt, .bool q.c.fo, .int .i64 q.c.aa, .int .i64 q.c.nn, .int .i64 q.c.tt, .string q.c.bb] : List Value)[j]? = some u → w.cell? ⟨g, k * 20 + 2 + j, none⟩ = some u := by
  intro j u hj
  have := h (2 + j) u (by rw [Nat.add_comm]; exact hj)
  rwa [← Nat.add_assoc] at this
theorem midS_out {s : St} (o : Op21) (hl : s.out = []) : (midS s o).out.length ≤ maxLen := by
  have h1 : ∀ t : St, t.out = [] → (onS t).out.length ≤ 1 := by
    intro t ht
    unfold onS
    split
    · show t.out.length ≤ 1; rw [ht]; simp
    · show (t.out ++ [_]).length ≤ 1; rw [ht]; simp
  have key : (midS s o).out.length ≤ 1 := by
    unfold midS
    split
    · unfold startS
      split
      · show (s.out ++ [_]).length ≤ 1; rw [hl]; simp
      · rw [hl]; simp
    · split
      · unfold takeS
        split
        · split
          · exact h1 s hl
          · show s.out.length ≤ 1; rw [hl]; simp
        · rw [hl]; simp
      · split
        · unfold tickS
          split
          · split
            · exact h1 _ hl
            · show s.out.length ≤ 1; rw [hl]; simp
          · rw [hl]; simp
        · split
          · show s.out.length ≤ 1; rw [hl]; simp
          · rw [hl]; simp
  unfold maxLen; omega
/-- behind a call of a script. -/
def DoesPost (Wb w : World) (n : Nat) (U : Vs) (s2 : St) (e : Ending) (w' : World) : Prop :=
  ∃ U' V' z', e = .returned (.tuple #[.agg (rcs s2 V' (phS s2) z'), .bool true]) ∧ (∀ r, s2.done = [r] → z' = r) ∧ Pt w' Wb.heap.size n U' s2 ∧ Rw Wb w' V' n U' s2 ∧ Goes w w' n U U' ∧ Below Wb.heap.size Wb w'
set_option maxRecDepth 100000 in
set_option maxHeartbeats 16000000 in
theorem does_any (o : Op21) (z : Rs) (hwb : Wb.heap.size ≤ w.heap.size) (hp : Pt w Wb.heap.size n U s) (hbel : Below Wb.heap.size Wb w) (hr : Rw Wb w V n U s) (hz : ∀ r, s.done = [r] → z = r) (ho : Okay s) (hl : s.out = []) (hnu : s.nu < 100000) (hst : ∀ r, s.done = [r] → Strs Wb r.a) :
    Calls Try.prog 23 #[.pointer (some ⟨n, 0, none⟩), .agg (rcs s V (phS s) z), .agg (oc o)] w (DoesPost Wb w n U (outS (midS s o))) := by
  have HP0 := Lib.hid (Pw.new hp hbel #[.int .i64 s.cl, .int .i64 s.pa, V.m, V.g, .int .i64 s.nu, .int .i64 ((phS s)), .int .i64 (s.vol : Nat), .int .i64 s.c.cl, .int .i64 s.c.nu, .int .i64 s.c.kd, .int .i64 s.c.h1, .int .i64 s.c.h2, .int .i64 s.c.g1, .int .i64 s.c.g2, .string s.c.nm, .string s.c.ot, .int .i64 s.c.m1, .int .i64 s.c.m2, .int .i64 s.c.m3, .string s.c.mt, .bool s.c.fo, .int .i64 s.c.aa, .int .i64 s.c.nn, .int .i64 s.c.tt, .string s.c.bb, .int .i64 s.wait, .int .i64 s.vain, V.o, .int .i64 z.nu, .int .i64 z.co, .int .i64 z.a.co, .int .i64 z.a.h1, .int .i64 z.a.h2, .string z.a.b, .int .i64 z.a.i1, .int .i64 z.a.i2, .int .i64 z.a.i3, .int .i64 z.a.i4, .int .i64 z.a.i5, .int .i64 z.a.i6, .int .i64 z.a.i7, .int .i64 z.a.i8, .slice z.a.na z.a.nl z.a.nc] o)
  have HR0 := Lib.hid (Rw.new hr #[.int .i64 s.cl, .int .i64 s.pa, V.m, V.g, .int .i64 s.nu, .int .i64 ((phS s)), .int .i64 (s.vol : Nat), .int .i64 s.c.cl, .int .i64 s.c.nu, .int .i64 s.c.kd, .int .i64 s.c.h1, .int .i64 s.c.h2, .int .i64 s.c.g1, .int .i64 s.c.g2, .string s.c.nm, .string s.c.ot, .int .i64 s.c.m1, .int .i64 s.c.m2, .int .i64 s.c.m3, .string s.c.mt, .bool s.c.fo, .int .i64 s.c.aa, .int .i64 s.c.nn, .int .i64 s.c.tt, .string s.c.bb, .int .i64 s.wait, .int .i64 s.vain, V.o, .int .i64 z.nu, .int .i64 z.co, .int .i64 z.a.co, .int .i64 z.a.h1, .int .i64 z.a.h2, .string z.a.b, .int .i64 z.a.i1, .int .i64 z.a.i2, .int .i64 z.a.i3, .int .i64 z.a.i4, .int .i64 z.a.i5, .int .i64 z.a.i6, .int .i64 z.a.i7, .int .i64 z.a.i8, .slice z.a.na z.a.nl z.a.nc] o)
  have HZ := Lib.hid hz
  have HO := Lib.hid ho
  have HST := Lib.hid hst
  have HDD := Lib.hid (show s.done = [] ∨ s.done = [z] from by
    have hd1 := ho.fit.done
    rcases hdd : s.done with _ | ⟨r, _ | ⟨r2, l⟩⟩
    · exact .inl rfl
    · rw [hz r hdd]; exact .inr rfl
    · rw [hdd] at hd1; simp at hd1)
  clear hp hbel hr hz ho hst
  go_enter Try.func23, Try.ntmps23
  go_upto_region 1 with (fail)
  refine wp_name (fun W => Pw Wb w W n U U s #[.int .i64 s.cl, .int .i64 s.pa, V.m, V.g, .int .i64 s.nu, .int .i64 ((phS s)), .int .i64 (s.vol : Nat), .int .i64 s.c.cl, .int .i64 s.c.nu, .int .i64 s.c.kd, .int .i64 s.c.h1, .int .i64 s.c.h2, .int .i64 s.c.g1, .int .i64 s.c.g2, .string s.c.nm, .string s.c.ot, .int .i64 s.c.m1, .int .i64 s.c.m2, .int .i64 s.c.m3, .string s.c.mt, .bool s.c.fo, .int .i64 s.c.aa, .int .i64 s.c.nn, .int .i64 s.c.tt, .string s.c.bb, .int .i64 s.wait, .int .i64 s.vain, V.o, .int .i64 z.nu, .int .i64 z.co, .int .i64 z.a.co, .int .i64 z.a.h1, .int .i64 z.a.h2, .string z.a.b, .int .i64 z.a.i1, .int .i64 z.a.i2, .int .i64 z.a.i3, .int .i64 z.a.i4, .int .i64 z.a.i5, .int .i64 z.a.i6, .int .i64 z.a.i7, .int .i64 z.a.i8, .slice z.a.na z.a.nl z.a.nc] o ∧ Rw Wb W V n U s) ⟨HP0.out, HR0.out⟩ ?_
  clear HP0 HR0
  rintro W3 ⟨hP, hR⟩
  have o0 : W3.cell? ⟨w.heap.size + 1, 0, none⟩ = some (.int .i64 o.kd) := hP.o.cell 0
  have hol := hP.o.lt
  have HP := Lib.hid hP
  have HR := Lib.hid hR
  clear hP hR
  go_upto_block 0 with (fail)
  clear o0 hol
  go_cut [8, 9] from 19 (fun is has wc => is = .bool (hasB s o) ∧ has = .bool (hasB s o) ∧ Dw Wb w n U o (midS s o) wc)
  case first =>
    by_cases h0 : o.kd = 0
    · have k0 : (o.kd == 0) = true := by simpa using h0
      have HMID := Lib.hid (show midS s o = startS s o.n o.c by rw [midS, if_pos h0])
      have HHAS := Lib.hid (show hasB s o = startB s o.n o.c by rw [hasB, if_pos h0])
      clear h0
      go_upto_region 4 with (fail)
      have o1 : W3.cell? ⟨w.heap.size + 1, 1, none⟩ = some (.int .i64 o.n) := HP.out.o.cell 1
      have hol := HP.out.o.lt
      have hal := HP.out.a.lt
      go_wp2_with (first | (refine wpList_load_box rfl 46 (.tmp 4) rfl _ 0 rfl HP.out.a (rcs s V (phS s) z).toList (by kernel_rfl) Try.underlying46 rfl (by kernel_rfl) ?_) | (refine wpList_load_box rfl 36 (.tmp 27) rfl _ 2 rfl HP.out.o [.int .i64 o.c.cl, .int .i64 o.c.nu, .int .i64 o.c.kd, .int .i64 o.c.h1, .int .i64 o.c.h2, .int .i64 o.c.g1, .int .i64 o.c.g2, .string o.c.nm, .string o.c.ot, .int .i64 o.c.m1, .int .i64 o.c.m2, .int .i64 o.c.m3, .string o.c.mt, .bool o.c.fo, .int .i64 o.c.aa, .int .i64 o.c.nn, .int .i64 o.c.tt, .string o.c.bb] (by kernel_rfl) Try.underlying36 rfl (by kernel_rfl) ?_))
      refine (rstart_any z o.n o.c HZ.out HR.out.r HO.out (by rw [hl]; simp) hnu).mono ?_
      rintro e w5 ⟨V5, z5, rfl, hz5, hR5, hT5⟩
      obtain ⟨s1, hs1⟩ : ∃ s1, s1 = startS s o.n o.c := ⟨_, rfl⟩
      obtain ⟨b1, hb1⟩ : ∃ b1, b1 = startB s o.n o.c := ⟨_, rfl⟩
      rw [← hs1] at hz5 hR5 ⊢
      rw [← hb1]
      rw [← hs1] at HMID
      rw [← hb1] at HHAS
      obtain ⟨p1, hp1⟩ : ∃ p1, p1 = phS s1 := ⟨_, rfl⟩
      rw [← hp1]
      have HP5 := Lib.hid (HP.out.below hT5.below)
      have HR5 := Lib.hid (HR.out.gives HP.out.p hR5 hT5 (by rw [hs1]; exact startS_many _ _ _))
      have HONE := Lib.hid (one_rcs hR5 p1 z5)
      have HS1 := Lib.hid hs1
      have HB1 := Lib.hid hb1
      have HP1 := Lib.hid hp1
      have HZ5 := Lib.hid hz5
      clear hs1 hb1 hp1 hz5 hR5 hT5 o1 hol hal HP HR
      go_upto_region 5 with (refine wpList_store_box rfl 46 (.tmp 4) (.tmp 30) rfl rfl _ 0 rfl (rcs s1 V5 p1 z5).toList rfl HP5.out.a (rcs s1 V5 p1 z5) (by kernel_rfl) (by kernel_rfl) (by kernel_rfl) HONE.out ?_)
      refine wp_name (fun W => Pw Wb w W n U U s (rcs s1 V5 p1 z5) o ∧ Rw Wb W V5 n U s1) ⟨HP5.out.row _ hwb, HR5.out.row HP5.out.bel HP5.out.a hwb (by decide) (by decide) _⟩ ?_
      clear HP5 HR5 HONE
      rintro W6 ⟨hP6, hR6⟩
      have HP6 := Lib.hid hP6
      have HR6 := Lib.hid hR6
      clear hP6 hR6
      refine wp_region_steps (fun w' => Box w' (w.heap.size + 1) 60 #[.int .i64 o.kd, .int .i64 o.n, .int .i64 o.c.cl, .int .i64 o.c.nu, .int .i64 o.c.kd, .int .i64 o.c.h1, .int .i64 o.c.h2, .int .i64 o.c.g1, .int .i64 o.c.g2, .string o.c.nm, .string o.c.ot, .int .i64 o.c.m1, .int .i64 o.c.m2, .int .i64 o.c.m3, .string o.c.mt, .bool o.c.fo, .int .i64 o.c.aa, .int .i64 o.c.nn, .int .i64 o.c.tt, .string o.c.bb, .int .i64 o.r.vol, .int .i64 o.r.srv, .int .i64 o.r.cl, .int .i64 o.r.nu, .int .i64 o.r.co, .int .i64 o.r.a.co, .int .i64 o.r.a.h1, .int .i64 o.r.a.h2, .string o.r.a.b, .int .i64 o.r.a.i1, .int .i64 o.r.a.i2, .int .i64 o.r.a.i3, .int .i64 o.r.a.i4, .int .i64 o.r.a.i5, .int .i64 o.r.a.i6, .int .i64 o.r.a.i7, .int .i64 o.r.a.i8, .slice o.r.a.na o.r.a.nl o.r.a.nc]) [(true, 0), (true, 1), (true, 2), (true, 3), (true, 4), (false, 5), (false, 6), (false, 7)] 7 _ _ (by kernel_rfl) rfl (by kernel_rfl) (by kernel_rfl) rfl (fun _ _ _ _ _ h => h) HP6.out.o.drew ?_
      intro S HS
      simp only [pickS, List.getElem?_cons_zero, List.getElem?_cons_succ]
      refine wpSteps_head ?_
      go_big_quiet_want; go_big_quiet_op; go_big_quiet_on
      refine wpQuiet_nil ?_
      refine wpSteps_head ?_
      go_big_quiet_want; apply quiet_value; (· (intro w' hw; have hB := (HS.out _).1 hw; have hnl := hB.lt; go_simp; try rfl)); simp only [Act.put, List.setIfInBounds_toArray, List.set_cons_succ, List.set_cons_zero]; go_big_quiet_on
      refine wpQuiet_nil ?_
      refine wpSteps_head ?_
      go_big_quiet_want; apply quiet_value; (· (intro w' hw; have hB := (HS.out _).1 hw; have hnl := hB.lt; have c1 : w'.cell? ⟨w.heap.size + 1, 1, none⟩ = some (.int .i64 o.n) := hB.cell 1; go_simp; try rfl)); simp only [Act.put, List.setIfInBounds_toArray, List.set_cons_succ, List.set_cons_zero]; go_big_quiet_on
      refine wpQuiet_nil ?_
      refine wpSteps_head ?_
      go_big_quiet_want; apply quiet_value; (· (intro w' hw; have hB := (HS.out _).1 hw; have hnl := hB.lt; go_simp; try rfl)); simp only [Act.put, List.setIfInBounds_toArray, List.set_cons_succ, List.set_cons_zero]; go_big_quiet_on
      refine wpQuiet_nil ?_
      refine wpSteps_head ?_
      go_big_quiet_want; apply quiet_value; (· (intro w' hw; have hB := (HS.out _).1 hw; refine load_box_val 36 (.tmp 35) ?_ (w.heap.size + 1) 2 ?_ hB [.int .i64 o.c.cl, .int .i64 o.c.nu, .int .i64 o.c.kd, .int .i64 o.c.h1, .int .i64 o.c.h2, .int .i64 o.c.g1, .int .i64 o.c.g2, .string o.c.nm, .string o.c.ot, .int .i64 o.c.m1, .int .i64 o.c.m2, .int .i64 o.c.m3, .string o.c.mt, .bool o.c.fo, .int .i64 o.c.aa, .int .i64 o.c.nn, .int .i64 o.c.tt, .string o.c.bb] (by kernel_rfl) Try.underlying36 rfl (by kernel_rfl) <;> rfl)); simp only [Act.put, List.setIfInBounds_toArray, List.set_cons_succ, List.set_cons_zero]; go_big_quiet_on
      refine wpQuiet_nil ?_
      refine wpSteps_more ?_
      go_wp2_with fail
      refine (own_any o.c).mono ?_
      rintro e w7 ⟨rfl, b7⟩
      have HP7 := Lib.hid (HP6.out.drew.below b7)
      have HR7 := Lib.hid (HR6.out.drew.below b7)
      clear b7 HP6 HR6
      go_wp2_with fail
      refine ThenS.mk ((HS.out _).2 HP7.out.o) ?_
      refine wpSteps_more ?_
      go_wp2_with fail
      refine (start_any o.n o.c HP7.out.p HO.out HP7.out.bel.size (by rw [hl]; simp) hnu).mono ?_
      rintro e w8 ⟨rfl, U8, hp8, hg8⟩
      rw [← HS1.out] at hp8
      rw [← HB1.out]
      have HP8 := Lib.hid (HP7.out.does hp8 hg8)
      have HR8 := Lib.hid (HR7.out.does HP7.out.p HP7.out.bel hg8)
      clear hp8 hg8 HP7 HR7
      go_wp2_with fail
      refine ThenS.mk ((HS.out _).2 HP8.out.o) ?_
      refine wpSteps_last ?_
      go_wp2_with fail
      go_meet
      case rel =>
        rw [HP1.out] at HP8
        rw [HMID.out, HHAS.out]
        exact ⟨rfl, rfl, U8, V5, z5, HP8.out, HR8.out, HZ5.out⟩
    by_cases h1 : o.kd = 1
    · obtain ⟨x, hx⟩ : ∃ x, x = ansS s o := ⟨_, rfl⟩
      have HMID := Lib.hid (show midS s o = takeS s x by rw [hx, midS, if_neg (by omega), if_pos (by omega)])
      have HHAS := Lib.hid (show hasB s o = true by rw [hasB, if_neg (by omega)])
      have k0 : (o.kd == 0) = false := by rw [h1]; rfl
      have k1 : (o.kd == 1) = true := by rw [h1]; rfl
      clear h0 h1
      go_upto_region 8 with (fail)
      have hol := HP.out.o.lt
      have hal := HP.out.a.lt
      go_wp2_with (first | (refine wpList_load_box rfl 46 (.tmp 4) rfl _ 0 rfl HP.out.a (rcs s V (phS s) z).toList (by kernel_rfl) Try.underlying46 rfl (by kernel_rfl) ?_) | (refine wpList_load_box rfl 60 (.tmp 5) rfl _ 0 rfl HP.out.o [.int .i64 o.kd, .int .i64 o.n, .int .i64 o.c.cl, .int .i64 o.c.nu, .int .i64 o.c.kd, .int .i64 o.c.h1, .int .i64 o.c.h2, .int .i64 o.c.g1, .int .i64 o.c.g2, .string o.c.nm, .string o.c.ot, .int .i64 o.c.m1, .int .i64 o.c.m2, .int .i64 o.c.m3, .string o.c.mt, .bool o.c.fo, .int .i64 o.c.aa, .int .i64 o.c.nn, .int .i64 o.c.tt, .string o.c.bb, .int .i64 o.r.vol, .int .i64 o.r.srv, .int .i64 o.r.cl, .int .i64 o.r.nu, .int .i64 o.r.co, .int .i64 o.r.a.co, .int .i64 o.r.a.h1, .int .i64 o.r.a.h2, .string o.r.a.b, .int .i64 o.r.a.i1, .int .i64 o.r.a.i2, .int .i64 o.r.a.i3, .int .i64 o.r.a.i4, .int .i64 o.r.a.i5, .int .i64 o.r.a.i6, .int .i64 o.r.a.i7, .int .i64 o.r.a.i8, .slice o.r.a.na o.r.a.nl o.r.a.nc] (by kernel_rfl) Try.underlying60 rfl (by kernel_rfl) ?_))
      refine (answers_any z (phS s) o HR.out.r HO.out.fit).mono ?_
      rintro e w5 ⟨rfl, b5⟩
      rw [← hx]
      have HX := Lib.hid hx
      have HP5 := Lib.hid (HP.out.below b5)
      have HR5 := Lib.hid (HR.out.below b5)
      obtain ⟨q, hq⟩ : ∃ q, q = w5.heap.size := ⟨_, rfl⟩
      have BX := Below.setRow ((Below.refl w5.heap.size w5).alloc (Nat.le_refl _) (.cells #[.int .i64 0, .int .i64 0, .int .i64 0, .int .i64 0, .int .i64 0, .int .i64 0, .int .i64 0, .int .i64 0, .string ⟨#[]⟩, .int .i64 0, .int .i64 0, .int .i64 0, .int .i64 0, .int .i64 0, .int .i64 0, .int .i64 0, .int .i64 0, .slice none 0 0] 58)) (g := w5.heap.size) (Nat.le_refl _) (rp x)
      have HN := Lib.hid (Box.new w5 58 #[.int .i64 0, .int .i64 0, .int .i64 0, .int .i64 0, .int .i64 0, .int .i64 0, .int .i64 0, .int .i64 0, .string ⟨#[]⟩, .int .i64 0, .int .i64 0, .int .i64 0, .int .i64 0, .int .i64 0, .int .i64 0, .int .i64 0, .int .i64 0, .slice none 0 0])
      have hQ := (Box.new w5 58 #[.int .i64 0, .int .i64 0, .int .i64 0, .int .i64 0, .int .i64 0, .int .i64 0, .int .i64 0, .int .i64 0, .string ⟨#[]⟩, .int .i64 0, .int .i64 0, .int .i64 0, .int .i64 0, .int .i64 0, .int .i64 0, .int .i64 0, .int .i64 0, .slice none 0 0]).setRow (rp x)
      rw [← hq] at hQ
      have HQ := Lib.hid hQ
      have HP6 := Lib.hid (HP5.out.below BX)
      have HR6 := Lib.hid (HR5.out.below BX)
      rw [← hq] at HP6 HR6
      have HQE := Lib.hid hq
      clear hx hq hQ b5 BX HP HR hol hal
      go_upto_region 9 with (refine wpList_store_box rfl 58 (.tmp 10) (.tmp 44) rfl rfl _ 0 rfl (rp x).toList rfl HN.out (rp x) (by kernel_rfl) (by kernel_rfl) (by kernel_rfl) (by kernel_rfl) ?_)
      rw [← HQE.out]
      clear HN HQE HP5 HR5
      refine wp_name (fun W => Pw Wb w W n U U s (rcs s V (phS s) z) o ∧ Rw Wb W V n U s ∧ Box W q 58 (rp x)) ⟨HP6.out, HR6.out, HQ.out⟩ ?_
      clear HP6 HR6 HQ
      rintro W6 ⟨hP6, hR6, hQ6⟩
      have HP6 := Lib.hid hP6
      have HR6 := Lib.hid hR6
      have HQ6 := Lib.hid hQ6
      have hal := hP6.a.lt
      have hql := hQ6.lt
      clear hP6 hR6 hQ6
      go_wp2_with (first | (refine wpList_load_box rfl 46 (.tmp 4) rfl _ 0 rfl HP6.out.a (rcs s V (phS s) z).toList (by kernel_rfl) Try.underlying46 rfl (by kernel_rfl) ?_) | (refine wpList_load_box rfl 58 (.tmp 10) rfl _ 0 rfl HQ6.out (rp x).toList (by kernel_rfl) Try.underlying58 rfl (by kernel_rfl) ?_))
      refine (rtake_any z x HZ.out HR6.out.r HO.out (by rw [hl]; simp)).mono ?_
      rintro e w7 ⟨V7, z7, rfl, hz7, hR7, hT7⟩
      obtain ⟨s1, hs1⟩ : ∃ s1, s1 = takeS s x := ⟨_, rfl⟩
      rw [← hs1] at hz7 hR7 ⊢
      rw [← hs1] at HMID
      obtain ⟨p1, hp1⟩ : ∃ p1, p1 = phS s1 := ⟨_, rfl⟩
      rw [← hp1]
      have HP7 := Lib.hid (HP6.out.below hT7.below)
      have HR7 := Lib.hid (HR6.out.gives HP6.out.p hR7 hT7 (by rw [hs1]; exact takeS_many _ _))
      have HQ7 := Lib.hid (HQ6.out.below hT7.below HQ6.out.lt)
      have HONE := Lib.hid (one_rcs hR7 p1 z7)
      have HS1 := Lib.hid hs1
      have HP1 := Lib.hid hp1
      have HZ7 := Lib.hid hz7
      have hwq : w.heap.size ≠ q := by
        rintro rfl
        have h1 := HP6.out.a
        have h2 := HQ6.out
        unfold Box at h1 h2
        rw [h1] at h2
        simp at h2
      clear hs1 hp1 hz7 hR7 hT7 hal hql HP6 HR6 HQ6
      go_upto_region 10 with (refine wpList_store_box rfl 46 (.tmp 4) (.tmp 47) rfl rfl _ 0 rfl (rcs s1 V7 p1 z7).toList rfl HP7.out.a (rcs s1 V7 p1 z7) (by kernel_rfl) (by kernel_rfl) (by kernel_rfl) HONE.out ?_)
      refine wp_name (fun W => Pw Wb w W n U U s (rcs s1 V7 p1 z7) o ∧ Rw Wb W V7 n U s1 ∧ Box W q 58 (rp x)) ⟨HP7.out.row _ hwb, HR7.out.row HP7.out.bel HP7.out.a hwb (by decide) (by decide) _, HQ7.out.setRow_other _ (Ne.symm hwq)⟩ ?_
      clear HP7 HR7 HQ7 HONE
      rintro W8 ⟨hP8, hR8, hQ8⟩
      have HP8 := Lib.hid hP8
      have HR8 := Lib.hid hR8
      have HQ8 := Lib.hid hQ8
      have hql := hQ8.lt
      clear hP8 hR8 hQ8
      go_wp2_with (refine wpList_load_box rfl 58 (.tmp 10) rfl _ 0 rfl HQ8.out (rp x).toList (by kernel_rfl) Try.underlying58 rfl (by kernel_rfl) ?_)
      refine (reply_any x).mono ?_
      rintro e w9 ⟨rfl, b9⟩
      have HP9 := Lib.hid (HP8.out.below b9)
      have HR9 := Lib.hid (HR8.out.below b9)
      clear b9 HP8 HR8 HQ8
      go_wp2_with fail
      refine (take_any x HP9.out.p HO.out HP9.out.bel.size (by rw [hl]; simp)).mono ?_
      rintro e w10 ⟨rfl, U10, hp10, hg10⟩
      rw [← HS1.out] at hp10
      have HP10 := Lib.hid (HP9.out.does hp10 hg10)
      have HR10 := Lib.hid (HR9.out.does HP9.out.p HP9.out.bel hg10)
      clear hp10 hg10 HP9 HR9
      go_wp2_with fail
      go_meet
      case rel =>
        rw [HP1.out] at HP10
        rw [HMID.out, HHAS.out]
        exact ⟨rfl, rfl, U10, V7, z7, HP10.out, HR10.out, HZ7.out⟩
    by_cases h4 : o.kd = 4
    · obtain ⟨x, hx⟩ : ∃ x, x = ansS s o := ⟨_, rfl⟩
      have HMID := Lib.hid (show midS s o = takeS s x by rw [hx, midS, if_neg (by omega), if_pos (by omega)])
      have HHAS := Lib.hid (show hasB s o = true by rw [hasB, if_neg (by omega)])
      have k0 : (o.kd == 0) = false := by rw [h4]; rfl
      have k1 : (o.kd == 1) = false := by rw [h4]; rfl
      have k4 : (o.kd == 4) = true := by rw [h4]; rfl
      clear h0 h1 h4
      go_upto_region 8 with (fail)
      have hol := HP.out.o.lt
      have hal := HP.out.a.lt
      go_wp2_with (first | (refine wpList_load_box rfl 46 (.tmp 4) rfl _ 0 rfl HP.out.a (rcs s V (phS s) z).toList (by kernel_rfl) Try.underlying46 rfl (by kernel_rfl) ?_) | (refine wpList_load_box rfl 60 (.tmp 5) rfl _ 0 rfl HP.out.o [.int .i64 o.kd, .int .i64 o.n, .int .i64 o.c.cl, .int .i64 o.c.nu, .int .i64 o.c.kd, .int .i64 o.c.h1, .int .i64 o.c.h2, .int .i64 o.c.g1, .int .i64 o.c.g2, .string o.c.nm, .string o.c.ot, .int .i64 o.c.m1, .int .i64 o.c.m2, .int .i64 o.c.m3, .string o.c.mt, .bool o.c.fo, .int .i64 o.c.aa, .int .i64 o.c.nn, .int .i64 o.c.tt, .string o.c.bb, .int .i64 o.r.vol, .int .i64 o.r.srv, .int .i64 o.r.cl, .int .i64 o.r.nu, .int .i64 o.r.co, .int .i64 o.r.a.co, .int .i64 o.r.a.h1, .int .i64 o.r.a.h2, .string o.r.a.b, .int .i64 o.r.a.i1, .int .i64 o.r.a.i2, .int .i64 o.r.a.i3, .int .i64 o.r.a.i4, .int .i64 o.r.a.i5, .int .i64 o.r.a.i6, .int .i64 o.r.a.i7, .int .i64 o.r.a.i8, .slice o.r.a.na o.r.a.nl o.r.a.nc] (by kernel_rfl) Try.underlying60 rfl (by kernel_rfl) ?_))
      refine (answers_any z (phS s) o HR.out.r HO.out.fit).mono ?_
      rintro e w5 ⟨rfl, b5⟩
      rw [← hx]
      have HX := Lib.hid hx
      have HP5 := Lib.hid (HP.out.below b5)
      have HR5 := Lib.hid (HR.out.below b5)
      obtain ⟨q, hq⟩ : ∃ q, q = w5.heap.size := ⟨_, rfl⟩
      have BX := Below.setRow ((Below.refl w5.heap.size w5).alloc (Nat.le_refl _) (.cells #[.int .i64 0, .int .i64 0, .int .i64 0, .int .i64 0, .int .i64 0, .int .i64 0, .int .i64 0, .int .i64 0, .string ⟨#[]⟩, .int .i64 0, .int .i64 0, .int .i64 0, .int .i64 0, .int .i64 0, .int .i64 0, .int .i64 0, .int .i64 0, .slice none 0 0] 58)) (g := w5.heap.size) (Nat.le_refl _) (rp x)
      have HN := Lib.hid (Box.new w5 58 #[.int .i64 0, .int .i64 0, .int .i64 0, .int .i64 0, .int .i64 0, .int .i64 0, .int .i64 0, .int .i64 0, .string ⟨#[]⟩, .int .i64 0, .int .i64 0, .int .i64 0, .int .i64 0, .int .i64 0, .int .i64 0, .int .i64 0, .int .i64 0, .slice none 0 0])
      have hQ := (Box.new w5 58 #[.int .i64 0, .int .i64 0, .int .i64 0, .int .i64 0, .int .i64 0, .int .i64 0, .int .i64 0, .int .i64 0, .string ⟨#[]⟩, .int .i64 0, .int .i64 0, .int .i64 0, .int .i64 0, .int .i64 0, .int .i64 0, .int .i64 0, .int .i64 0, .slice none 0 0]).setRow (rp x)
      rw [← hq] at hQ
      have HQ := Lib.hid hQ
      have HP6 := Lib.hid (HP5.out.below BX)
      have HR6 := Lib.hid (HR5.out.below BX)
      rw [← hq] at HP6 HR6
      have HQE := Lib.hid hq
      clear hx hq hQ b5 BX HP HR hol hal
      go_upto_region 9 with (refine wpList_store_box rfl 58 (.tmp 10) (.tmp 44) rfl rfl _ 0 rfl (rp x).toList rfl HN.out (rp x) (by kernel_rfl) (by kernel_rfl) (by kernel_rfl) (by kernel_rfl) ?_)
      rw [← HQE.out]
      clear HN HQE HP5 HR5
      refine wp_name (fun W => Pw Wb w W n U U s (rcs s V (phS s) z) o ∧ Rw Wb W V n U s ∧ Box W q 58 (rp x)) ⟨HP6.out, HR6.out, HQ.out⟩ ?_
      clear HP6 HR6 HQ
      rintro W6 ⟨hP6, hR6, hQ6⟩
      have HP6 := Lib.hid hP6
      have HR6 := Lib.hid hR6
      have HQ6 := Lib.hid hQ6
      have hal := hP6.a.lt
      have hql := hQ6.lt
      clear hP6 hR6 hQ6
      go_wp2_with (first | (refine wpList_load_box rfl 46 (.tmp 4) rfl _ 0 rfl HP6.out.a (rcs s V (phS s) z).toList (by kernel_rfl) Try.underlying46 rfl (by kernel_rfl) ?_) | (refine wpList_load_box rfl 58 (.tmp 10) rfl _ 0 rfl HQ6.out (rp x).toList (by kernel_rfl) Try.underlying58 rfl (by kernel_rfl) ?_))
      refine (rtake_any z x HZ.out HR6.out.r HO.out (by rw [hl]; simp)).mono ?_
      rintro e w7 ⟨V7, z7, rfl, hz7, hR7, hT7⟩
      obtain ⟨s1, hs1⟩ : ∃ s1, s1 = takeS s x := ⟨_, rfl⟩
      rw [← hs1] at hz7 hR7 ⊢
      rw [← hs1] at HMID
      obtain ⟨p1, hp1⟩ : ∃ p1, p1 = phS s1 := ⟨_, rfl⟩
      rw [← hp1]
      have HP7 := Lib.hid (HP6.out.below hT7.below)
      have HR7 := Lib.hid (HR6.out.gives HP6.out.p hR7 hT7 (by rw [hs1]; exact takeS_many _ _))
      have HQ7 := Lib.hid (HQ6.out.below hT7.below HQ6.out.lt)
      have HONE := Lib.hid (one_rcs hR7 p1 z7)
      have HS1 := Lib.hid hs1
      have HP1 := Lib.hid hp1
      have HZ7 := Lib.hid hz7
      have hwq : w.heap.size ≠ q := by
        rintro rfl
        have h1 := HP6.out.a
        have h2 := HQ6.out
        unfold Box at h1 h2
        rw [h1] at h2
        simp at h2
      clear hs1 hp1 hz7 hR7 hT7 hal hql HP6 HR6 HQ6
      go_upto_region 10 with (refine wpList_store_box rfl 46 (.tmp 4) (.tmp 47) rfl rfl _ 0 rfl (rcs s1 V7 p1 z7).toList rfl HP7.out.a (rcs s1 V7 p1 z7) (by kernel_rfl) (by kernel_rfl) (by kernel_rfl) HONE.out ?_)
      refine wp_name (fun W => Pw Wb w W n U U s (rcs s1 V7 p1 z7) o ∧ Rw Wb W V7 n U s1 ∧ Box W q 58 (rp x)) ⟨HP7.out.row _ hwb, HR7.out.row HP7.out.bel HP7.out.a hwb (by decide) (by decide) _, HQ7.out.setRow_other _ (Ne.symm hwq)⟩ ?_
      clear HP7 HR7 HQ7 HONE
      rintro W8 ⟨hP8, hR8, hQ8⟩
      have HP8 := Lib.hid hP8
      have HR8 := Lib.hid hR8
      have HQ8 := Lib.hid hQ8
      have hql := hQ8.lt
      clear hP8 hR8 hQ8
      go_wp2_with (refine wpList_load_box rfl 58 (.tmp 10) rfl _ 0 rfl HQ8.out (rp x).toList (by kernel_rfl) Try.underlying58 rfl (by kernel_rfl) ?_)
      refine (reply_any x).mono ?_
      rintro e w9 ⟨rfl, b9⟩
      have HP9 := Lib.hid (HP8.out.below b9)
      have HR9 := Lib.hid (HR8.out.below b9)
      clear b9 HP8 HR8 HQ8
      go_wp2_with fail
      refine (take_any x HP9.out.p HO.out HP9.out.bel.size (by rw [hl]; simp)).mono ?_
      rintro e w10 ⟨rfl, U10, hp10, hg10⟩
      rw [← HS1.out] at hp10
      have HP10 := Lib.hid (HP9.out.does hp10 hg10)
      have HR10 := Lib.hid (HR9.out.does HP9.out.p HP9.out.bel hg10)
      clear hp10 hg10 HP9 HR9
      go_wp2_with fail
      go_meet
      case rel =>
        rw [HP1.out] at HP10
        rw [HMID.out, HHAS.out]
        exact ⟨rfl, rfl, U10, V7, z7, HP10.out, HR10.out, HZ7.out⟩
    by_cases h2 : o.kd = 2
    · have HMID := Lib.hid (show midS s o = tickS s by rw [midS, if_neg (by omega), if_neg (by omega), if_pos (by omega)])
      have HHAS := Lib.hid (show hasB s o = true by rw [hasB, if_neg (by omega)])
      have k0 : (o.kd == 0) = false := by rw [h2]; rfl
      have k1 : (o.kd == 1) = false := by rw [h2]; rfl
      have k4 : (o.kd == 4) = false := by rw [h2]; rfl
      have k2 : (o.kd == 2) = true := by rw [h2]; rfl
      clear h0 h1 h4 h2
      go_upto_region 12 with (fail)
      have hal := HP.out.a.lt
      go_wp2_with (refine wpList_load_box rfl 46 (.tmp 4) rfl _ 0 rfl HP.out.a (rcs s V (phS s) z).toList (by kernel_rfl) Try.underlying46 rfl (by kernel_rfl) ?_)
      refine (rtick_any z HZ.out HR.out.r HO.out (by rw [hl]; simp)).mono ?_
      rintro e w7 ⟨V7, z7, rfl, hz7, hR7, hT7⟩
      obtain ⟨s1, hs1⟩ : ∃ s1, s1 = tickS s := ⟨_, rfl⟩
      rw [← hs1] at hz7 hR7 ⊢
      rw [← hs1] at HMID
      obtain ⟨p1, hp1⟩ : ∃ p1, p1 = phS s1 := ⟨_, rfl⟩
      rw [← hp1]
      have HP7 := Lib.hid (HP.out.below hT7.below)
      have HR7 := Lib.hid (HR.out.gives HP.out.p hR7 hT7 (by rw [hs1]; exact tickS_many _))
      have HONE := Lib.hid (one_rcs hR7 p1 z7)
      have HS1 := Lib.hid hs1
      have HP1 := Lib.hid hp1
      have HZ7 := Lib.hid hz7
      clear hs1 hp1 hz7 hR7 hT7 hal HP HR
      go_upto_region 13 with (refine wpList_store_box rfl 46 (.tmp 4) (.tmp 55) rfl rfl _ 0 rfl (rcs s1 V7 p1 z7).toList rfl HP7.out.a (rcs s1 V7 p1 z7) (by kernel_rfl) (by kernel_rfl) (by kernel_rfl) HONE.out ?_)
      refine wp_name (fun W => Pw Wb w W n U U s (rcs s1 V7 p1 z7) o ∧ Rw Wb W V7 n U s1) ⟨HP7.out.row _ hwb, HR7.out.row HP7.out.bel HP7.out.a hwb (by decide) (by decide) _⟩ ?_
      clear HP7 HR7 HONE
      rintro W8 ⟨hP8, hR8⟩
      have HP8 := Lib.hid hP8
      have HR8 := Lib.hid hR8
      clear hP8 hR8
      go_wp2_with fail
      refine (tick_any HP8.out.p HO.out HP8.out.bel.size (by rw [hl]; simp)).mono ?_
      rintro e w10 ⟨rfl, U10, hp10, hg10⟩
      rw [← HS1.out] at hp10
      have HP10 := Lib.hid (HP8.out.does hp10 hg10)
      have HR10 := Lib.hid (HR8.out.does HP8.out.p HP8.out.bel hg10)
      clear hp10 hg10 HP8 HR8
      go_wp2_with fail
      go_meet
      case rel =>
        rw [HP1.out] at HP10
        rw [HMID.out, HHAS.out]
        exact ⟨rfl, rfl, U10, V7, z7, HP10.out, HR10.out, HZ7.out⟩
    by_cases h3 : o.kd = 3
    · have HMID := Lib.hid (show midS s o = doneS s by rw [midS, if_neg (by omega), if_neg (by omega), if_neg (by omega), if_pos (by omega)])
      have HHAS := Lib.hid (show hasB s o = true by rw [hasB, if_neg (by omega)])
      have k0 : (o.kd == 0) = false := by rw [h3]; rfl
      have k1 : (o.kd == 1) = false := by rw [h3]; rfl
      have k4 : (o.kd == 4) = false := by rw [h3]; rfl
      have k2 : (o.kd == 2) = false := by rw [h3]; rfl
      have k3 : (o.kd == 3) = true := by rw [h3]; rfl
      rcases HDD.out with hd | hd
      · have HD := Lib.hid hd
        have HPH := Lib.hid (show phS s ≠ 2 by
          rw [phS, hd]
          split <;> decide)
        have HDS := Lib.hid (show doneS s = s by unfold doneS; rw [← hd])
        have HPD := Lib.hid (show phS (doneS s) = phS s by rw [HDS.out])
        have HSTR := Lib.hid (show Strs Wb zeroRs.a from ⟨Nat.zero_le _, .inl rfl⟩)
        clear hd h0 h1 h4 h2 h3
        go_upto_region 15 with (fail)
        have hal := HP.out.a.lt
        go_wp2_with (refine wpList_load_box rfl 46 (.tmp 4) rfl _ 0 rfl HP.out.a (rcs s V (phS s) z).toList (by kernel_rfl) Try.underlying46 rfl (by kernel_rfl) ?_)
        refine (rdone_no z (phS s) HR.out.r HPH.out).mono ?_
        rintro e w5 ⟨rfl, b5⟩
        have HP5 := Lib.hid (HP.out.below b5)
        have HR5 := Lib.hid (HR.out.below b5)
        obtain ⟨b11, hb11⟩ : ∃ b11, b11 = w5.heap.size := ⟨_, rfl⟩
        obtain ⟨b12, hb12⟩ : ∃ b12, b12 = b11 + 1 := ⟨_, rfl⟩
        have hN1 := box1 w5 #[.int .i64 0, .int .i64 0, .slice none 0 0, .slice none 0 0, .int .i64 0, .int .i64 0, .int .i64 0, .int .i64 0, .int .i64 0, .int .i64 0, .int .i64 0, .int .i64 0, .int .i64 0, .int .i64 0, .string ⟨#[]⟩, .string ⟨#[]⟩, .int .i64 0, .int .i64 0, .int .i64 0, .string ⟨#[]⟩, .bool false, .int .i64 0, .int .i64 0, .int .i64 0, .string ⟨#[]⟩, .int .i64 0, .int .i64 0, .slice none 0 0, .int .i64 0, .int .i64 0, .int .i64 0, .int .i64 0, .int .i64 0, .string ⟨#[]⟩, .int .i64 0, .int .i64 0, .int .i64 0, .int .i64 0, .int .i64 0, .int .i64 0, .int .i64 0, .int .i64 0, .slice none 0 0] 46 44 #[.int .i64 0, .int .i64 0, .int .i64 0, .int .i64 0, .int .i64 0, .string ⟨#[]⟩, .int .i64 0, .int .i64 0, .int .i64 0, .int .i64 0, .int .i64 0, .int .i64 0, .int .i64 0, .int .i64 0, .slice none 0 0]
        have hN2 := box2 w5 (.cells #[.int .i64 0, .int .i64 0, .slice none 0 0, .slice none 0 0, .int .i64 0, .int .i64 0, .int .i64 0, .int .i64 0, .int .i64 0, .int .i64 0, .int .i64 0, .int .i64 0, .int .i64 0, .int .i64 0, .string ⟨#[]⟩, .string ⟨#[]⟩, .int .i64 0, .int .i64 0, .int .i64 0, .string ⟨#[]⟩, .bool false, .int .i64 0, .int .i64 0, .int .i64 0, .string ⟨#[]⟩, .int .i64 0, .int .i64 0, .slice none 0 0, .int .i64 0, .int .i64 0, .int .i64 0, .int .i64 0, .int .i64 0, .string ⟨#[]⟩, .int .i64 0, .int .i64 0, .int .i64 0, .int .i64 0, .int .i64 0, .int .i64 0, .int .i64 0, .int .i64 0, .slice none 0 0] 46) #[.int .i64 0, .int .i64 0, .int .i64 0, .int .i64 0, .int .i64 0, .string ⟨#[]⟩, .int .i64 0, .int .i64 0, .int .i64 0, .int .i64 0, .int .i64 0, .int .i64 0, .int .i64 0, .int .i64 0, .slice none 0 0] 44
        have hB2 := ((Below.refl w5.heap.size w5).alloc (Nat.le_refl _) (.cells #[.int .i64 0, .int .i64 0, .slice none 0 0, .slice none 0 0, .int .i64 0, .int .i64 0, .int .i64 0, .int .i64 0, .int .i64 0, .int .i64 0, .int .i64 0, .int .i64 0, .int .i64 0, .int .i64 0, .string ⟨#[]⟩, .string ⟨#[]⟩, .int .i64 0, .int .i64 0, .int .i64 0, .string ⟨#[]⟩, .bool false, .int .i64 0, .int .i64 0, .int .i64 0, .string ⟨#[]⟩, .int .i64 0, .int .i64 0, .slice none 0 0, .int .i64 0, .int .i64 0, .int .i64 0, .int .i64 0, .int .i64 0, .string ⟨#[]⟩, .int .i64 0, .int .i64 0, .int .i64 0, .int .i64 0, .int .i64 0, .int .i64 0, .int .i64 0, .int .i64 0, .slice none 0 0] 46)).alloc (by simp) (.cells #[.int .i64 0, .int .i64 0, .int .i64 0, .int .i64 0, .int .i64 0, .string ⟨#[]⟩, .int .i64 0, .int .i64 0, .int .i64 0, .int .i64 0, .int .i64 0, .int .i64 0, .int .i64 0, .int .i64 0, .slice none 0 0] 44)
        have HN1 := Lib.hid hN1
        have HN2 := Lib.hid (hN2.setRow_other (rcs s V (phS s) z) (show w5.heap.size + 1 ≠ w5.heap.size by omega))
        have hB3 := Below.setRow (Below.setRow hB2 (g := w5.heap.size) (Nat.le_refl _) (rcs s V (phS s) z)) (g := w5.heap.size + 1) (by omega) (sc zeroRs)
        have hQA := (hN1.setRow (rcs s V (phS s) z)).setRow_other (sc zeroRs) (show w5.heap.size ≠ w5.heap.size + 1 by omega)
        have hQB := (hN2.setRow_other (rcs s V (phS s) z) (show w5.heap.size + 1 ≠ w5.heap.size by omega)).setRow (sc zeroRs)
        have hP6 := HP5.out.below hB3
        have hR6 := HR5.out.below hB3
        rw [← hb11, ← hb12] at hQA hQB hP6 hR6
        have HQA := Lib.hid hQA
        have HQB := Lib.hid hQB
        have HP6 := Lib.hid hP6
        have HR6 := Lib.hid hR6
        have HONE := Lib.hid (one_rcs HR5.out.r (phS s) z)
        have E11 := Lib.hid hb11
        have E12 := Lib.hid hb12
        clear hb11 hb12 hN1 hN2 hB2 hB3 b5 HP HR hal hQA hQB hP6 hR6
        go_upto_region 16 with (first | (refine wpList_store_box rfl 46 (.tmp 11) (.tmp 63) rfl rfl _ 0 rfl (rcs s V (phS s) z).toList rfl HN1.out (rcs s V (phS s) z) (by kernel_rfl) (by kernel_rfl) (by kernel_rfl) HONE.out ?_) | (refine wpList_store_box rfl 44 (.tmp 12) (.tmp 64) rfl rfl _ 0 rfl [.int .i64 zeroRs.nu, .int .i64 zeroRs.co, .int .i64 zeroRs.a.co, .int .i64 zeroRs.a.h1, .int .i64 zeroRs.a.h2, .string zeroRs.a.b, .int .i64 zeroRs.a.i1, .int .i64 zeroRs.a.i2, .int .i64 zeroRs.a.i3, .int .i64 zeroRs.a.i4, .int .i64 zeroRs.a.i5, .int .i64 zeroRs.a.i6, .int .i64 zeroRs.a.i7, .int .i64 zeroRs.a.i8, .slice zeroRs.a.na zeroRs.a.nl zeroRs.a.nc] rfl HN2.out #[.int .i64 zeroRs.nu, .int .i64 zeroRs.co, .int .i64 zeroRs.a.co, .int .i64 zeroRs.a.h1, .int .i64 zeroRs.a.h2, .string zeroRs.a.b, .int .i64 zeroRs.a.i1, .int .i64 zeroRs.a.i2, .int .i64 zeroRs.a.i3, .int .i64 zeroRs.a.i4, .int .i64 zeroRs.a.i5, .int .i64 zeroRs.a.i6, .int .i64 zeroRs.a.i7, .int .i64 zeroRs.a.i8, .slice zeroRs.a.na zeroRs.a.nl zeroRs.a.nc] (by kernel_rfl) (by kernel_rfl) (by kernel_rfl) (by kernel_rfl) ?_))
        rw [← E11.out, ← E12.out]
        refine wp_name (fun W => Pw Wb w W n U U s (rcs s V (phS s) z) o ∧ Rw Wb W V n U s ∧ Box W b11 46 (rcs s V (phS s) z) ∧ Box W b12 44 (sc zeroRs)) ⟨HP6.out, HR6.out, HQA.out, HQB.out⟩ ?_
        clear HP5 HR5 HP6 HR6 HQA HQB HN1 HN2 E11 E12
        rintro W6 ⟨hP6, hR6, hQA, hQB⟩
        have HP6 := Lib.hid hP6
        have HR6 := Lib.hid hR6
        have HQA6 := Lib.hid hQA
        have HQB6 := Lib.hid hQB
        clear hP6 hR6 hQA hQB
        go_wp2_with fail
        refine (done_no HP6.out.p HD.out).mono ?_
        rintro e w7 ⟨rfl, b7⟩
        have hP7 := HP6.out.below b7
        rw [show Pw Wb w w7 n U U s = Pw Wb w w7 n U U (doneS s) by rw [HDS.out]] at hP7
        have HP7 := Lib.hid hP7
        have HR7 := Lib.hid (HR6.out.below b7)
        have HQA7 := Lib.hid (HQA6.out.below b7 HQA6.out.lt)
        have HQB7 := Lib.hid (HQB6.out.below b7 HQB6.out.lt)
        clear b7 hP7
        obtain ⟨b14, hb14⟩ : ∃ b14, b14 = w7.heap.size := ⟨_, rfl⟩
        have hN3 := Box.new w7 81 #[.int .i64 0, .int .i64 0, .int .i64 0, .int .i64 0, .int .i64 0, .string ⟨#[]⟩, .int .i64 0, .int .i64 0, .int .i64 0, .int .i64 0, .int .i64 0, .int .i64 0, .int .i64 0, .int .i64 0, .slice none 0 0]
        have HN3 := Lib.hid hN3
        have hB4 := Below.setRow ((Below.refl w7.heap.size w7).alloc (Nat.le_refl _) (.cells #[.int .i64 0, .int .i64 0, .int .i64 0, .int .i64 0, .int .i64 0, .string ⟨#[]⟩, .int .i64 0, .int .i64 0, .int .i64 0, .int .i64 0, .int .i64 0, .int .i64 0, .int .i64 0, .int .i64 0, .slice none 0 0] 81)) (g := w7.heap.size) (Nat.le_refl _) (sc zeroRs)
        have hQC := hN3.setRow (sc zeroRs)
        have hP8 := HP7.out.below hB4
        have hR8 := HR7.out.below hB4
        have hQA := HQA7.out.below hB4 HQA7.out.lt
        have hQB := HQB7.out.below hB4 HQB7.out.lt
        rw [← hb14] at hQC hP8 hR8 hQA hQB
        have HP8 := Lib.hid hP8
        have HR8 := Lib.hid hR8
        have HQA := Lib.hid hQA
        have HQB := Lib.hid hQB
        have HQC := Lib.hid hQC
        have E14 := Lib.hid hb14
        clear hb14 hN3 hB4 hP8 hR8 hQA hQB hQC HP6 HR6 HQA6 HQB6
        go_upto_region 17 with (refine wpList_store_box rfl 81 (.tmp 14) (.tmp 69) rfl rfl _ 0 rfl [.int .i64 zeroRs.nu, .int .i64 zeroRs.co, .int .i64 zeroRs.a.co, .int .i64 zeroRs.a.h1, .int .i64 zeroRs.a.h2, .string zeroRs.a.b, .int .i64 zeroRs.a.i1, .int .i64 zeroRs.a.i2, .int .i64 zeroRs.a.i3, .int .i64 zeroRs.a.i4, .int .i64 zeroRs.a.i5, .int .i64 zeroRs.a.i6, .int .i64 zeroRs.a.i7, .int .i64 zeroRs.a.i8, .slice zeroRs.a.na zeroRs.a.nl zeroRs.a.nc] rfl HN3.out #[.int .i64 zeroRs.nu, .int .i64 zeroRs.co, .int .i64 zeroRs.a.co, .int .i64 zeroRs.a.h1, .int .i64 zeroRs.a.h2, .string zeroRs.a.b, .int .i64 zeroRs.a.i1, .int .i64 zeroRs.a.i2, .int .i64 zeroRs.a.i3, .int .i64 zeroRs.a.i4, .int .i64 zeroRs.a.i5, .int .i64 zeroRs.a.i6, .int .i64 zeroRs.a.i7, .int .i64 zeroRs.a.i8, .slice zeroRs.a.na zeroRs.a.nl zeroRs.a.nc] (by kernel_rfl) (by kernel_rfl) (by kernel_rfl) (by kernel_rfl) ?_)
        rw [← E14.out]
        refine wp_name (fun W => Pw Wb w W n U U (doneS s) (rcs s V (phS s) z) o ∧ Rw Wb W V n U s ∧ Box W b11 46 (rcs s V (phS s) z) ∧ Box W b12 44 (sc zeroRs) ∧ Box W b14 81 (sc zeroRs)) ⟨HP8.out, HR8.out, HQA.out, HQB.out, HQC.out⟩ ?_
        clear HP7 HR7 HQA7 HQB7 HP8 HR8 HQA HQB HQC HN3 E14
        rintro W8 ⟨hP8, hR8, hQA, hQB, hQC⟩
        have HP8 := Lib.hid hP8
        have HR8 := Lib.hid hR8
        have HQA := Lib.hid hQA
        have hal := hP8.a.lt
        have hql := hQA.lt
        have hP9 := hP8.row (rcs s V (phS s) z) hwb
        have hR9 := hR8.row hP8.bel hP8.a hwb (by decide) (by decide) (rcs s V (phS s) z)
        have HQB8 := Lib.hid (hQB.setRow_other (rcs s V (phS s) z) (hQB.ne hP8.a (by decide)))
        have HQC8 := Lib.hid (hQC.setRow_other (rcs s V (phS s) z) (hQC.ne hP8.a (by decide)))
        have HP9 := Lib.hid hP9
        have HR9 := Lib.hid hR9
        clear hP8 hR8 hP9 hR9 hQA hQB hQC
        go_upto_region 18 with (first | (refine wpList_load_box rfl 46 (.tmp 11) rfl _ 0 rfl HQA.out (rcs s V (phS s) z).toList (by kernel_rfl) Try.underlying46 rfl (by kernel_rfl) ?_) | (refine wpList_store_box rfl 46 (.tmp 4) (.tmp 71) rfl rfl _ 0 rfl (rcs s V (phS s) z).toList rfl HP8.out.a (rcs s V (phS s) z) (by kernel_rfl) (by kernel_rfl) (by kernel_rfl) HONE.out ?_))
        refine wp_name (fun W => Pw Wb w W n U U (doneS s) (rcs s V (phS s) z) o ∧ Rw Wb W V n U s ∧ Box W b12 44 (sc zeroRs) ∧ Box W b14 81 (sc zeroRs)) ⟨HP9.out, HR9.out, HQB8.out, HQC8.out⟩ ?_
        clear HP8 HR8 HQA HQB8 HQC8 HP9 HR9 hal hql HONE
        rintro W9 ⟨hP9, hR9, hQB, hQC⟩
        have HP9 := Lib.hid hP9
        have HR9 := Lib.hid hR9
        have HQB := Lib.hid hQB
        have HQC := Lib.hid hQC
        clear hP9 hR9 hQB hQC
        refine wp_region_below (w0 := W9) (B := W9.heap.size) (by kernel_rfl) (by kernel_rfl) (Below.refl _ _) ?_
        simp only [Act.put, List.setIfInBounds_toArray, List.set_cons_succ, List.set_cons_zero]
        go_big_quiet_want; go_big_quiet_op; go_big_quiet_on
        go_big_quiet_want; go_big_quiet_op; go_big_quiet_on
        go_big_quiet_want; apply quiet_value; (· (intro w hw; go_simp; try rfl)); simp only [Act.put, List.setIfInBounds_toArray, List.set_cons_succ, List.set_cons_zero]; go_big_quiet_on
        go_big_quiet_want; go_big_quiet_op; go_big_quiet_on
        go_big_quiet_want; apply quiet_value; (· (intro w hw; have hX := HQC.out.below hw HQC.out.lt; have hx := hX.lt; go_simp; try rfl)); simp only [Act.put, List.setIfInBounds_toArray, List.set_cons_succ, List.set_cons_zero]; go_big_quiet_on
        go_big_quiet_want; apply quiet_value; (· (intro w hw; have hX := HQC.out.below hw HQC.out.lt; have hx := hX.lt; have x0 : w.cell? ⟨b14, 0, none⟩ = some (.int .i64 zeroRs.nu) := hX.cell 0; go_simp; try rfl)); simp only [Act.put, List.setIfInBounds_toArray, List.set_cons_succ, List.set_cons_zero]; go_big_quiet_on
        go_big_quiet_want; apply quiet_value; (· (intro w hw; have hY := HQB.out.below hw HQB.out.lt; have hy := hY.lt; go_simp; try rfl)); simp only [Act.put, List.setIfInBounds_toArray, List.set_cons_succ, List.set_cons_zero]; go_big_quiet_on
        go_big_quiet_want; apply quiet_value; (· (intro w hw; have hY := HQB.out.below hw HQB.out.lt; have hy := hY.lt; have y0 : w.cell? ⟨b12, 0, none⟩ = some (.int .i64 zeroRs.nu) := hY.cell 0; go_simp; try rfl)); simp only [Act.put, List.setIfInBounds_toArray, List.set_cons_succ, List.set_cons_zero]; go_big_quiet_on
        go_big_quiet_want; apply quiet_value; (· (intro w hw; go_simp; try rfl)); simp only [Act.put, List.setIfInBounds_toArray, List.set_cons_succ, List.set_cons_zero]; go_big_quiet_on
        go_big_quiet_want; apply quiet_value; (· (intro w hw; go_simp; try rfl)); simp only [Act.put, List.setIfInBounds_toArray, List.set_cons_succ, List.set_cons_zero]; go_big_quiet_on
        go_big_quiet_want; go_big_quiet_op; go_big_quiet_on
        go_big_quiet_want; apply quiet_value; (· (intro w hw; have hX := HQC.out.below hw HQC.out.lt; have hx := hX.lt; go_simp; try rfl)); simp only [Act.put, List.setIfInBounds_toArray, List.set_cons_succ, List.set_cons_zero]; go_big_quiet_on
        go_big_quiet_want; apply quiet_value; (· (intro w hw; have hX := HQC.out.below hw HQC.out.lt; have hx := hX.lt; have x1 : w.cell? ⟨b14, 1, none⟩ = some (.int .i64 zeroRs.co) := hX.cell 1; go_simp; try rfl)); simp only [Act.put, List.setIfInBounds_toArray, List.set_cons_succ, List.set_cons_zero]; go_big_quiet_on
        go_big_quiet_want; apply quiet_value; (· (intro w hw; have hY := HQB.out.below hw HQB.out.lt; have hy := hY.lt; go_simp; try rfl)); simp only [Act.put, List.setIfInBounds_toArray, List.set_cons_succ, List.set_cons_zero]; go_big_quiet_on
        go_big_quiet_want; apply quiet_value; (· (intro w hw; have hY := HQB.out.below hw HQB.out.lt; have hy := hY.lt; have y1 : w.cell? ⟨b12, 1, none⟩ = some (.int .i64 zeroRs.co) := hY.cell 1; go_simp; try rfl)); simp only [Act.put, List.setIfInBounds_toArray, List.set_cons_succ, List.set_cons_zero]; go_big_quiet_on
        go_big_quiet_want; apply quiet_value; (· (intro w hw; go_simp; try rfl)); simp only [Act.put, List.setIfInBounds_toArray, List.set_cons_succ, List.set_cons_zero]; go_big_quiet_on
        go_big_quiet_want; apply quiet_value; (· (intro w hw; go_simp; try rfl)); simp only [Act.put, List.setIfInBounds_toArray, List.set_cons_succ, List.set_cons_zero]; go_big_quiet_on
        go_big_quiet_want; go_big_quiet_op; go_big_quiet_on
        go_big_quiet_want; apply quiet_value; (· (intro w hw; have hX := HQC.out.below hw HQC.out.lt; have hx := hX.lt; go_simp; try rfl)); simp only [Act.put, List.setIfInBounds_toArray, List.set_cons_succ, List.set_cons_zero]; go_big_quiet_on
        go_big_quiet_want; apply quiet_value; (· (intro w hw; have hX := HQC.out.below hw HQC.out.lt; refine load_box_val 71 (.tmp 90) ?_ b14 2 ?_ hX [.int .i64 zeroRs.a.co, .int .i64 zeroRs.a.h1, .int .i64 zeroRs.a.h2, .string zeroRs.a.b, .int .i64 zeroRs.a.i1, .int .i64 zeroRs.a.i2, .int .i64 zeroRs.a.i3, .int .i64 zeroRs.a.i4, .int .i64 zeroRs.a.i5, .int .i64 zeroRs.a.i6, .int .i64 zeroRs.a.i7, .int .i64 zeroRs.a.i8, .slice zeroRs.a.na zeroRs.a.nl zeroRs.a.nc] (by kernel_rfl) Try.underlying71 rfl (by kernel_rfl) <;> rfl)); simp only [Act.put, List.setIfInBounds_toArray, List.set_cons_succ, List.set_cons_zero]; go_big_quiet_on
        go_big_quiet_want; apply quiet_call (f := 38) (v := .agg (ac zeroRs.a)); (· (intro w hw; go_simp; try rfl)); (· (intro w1 b1; exact in_below (plain_any zeroRs.a) b1 (Nat.le_refl _))); simp only [Act.put, List.setIfInBounds_toArray, List.set_cons_succ, List.set_cons_zero]; go_big_quiet_on
        go_big_quiet_want; apply quiet_value; (· (intro w hw; have hY := HQB.out.below hw HQB.out.lt; have hy := hY.lt; go_simp; try rfl)); simp only [Act.put, List.setIfInBounds_toArray, List.set_cons_succ, List.set_cons_zero]; go_big_quiet_on
        go_big_quiet_want; apply quiet_value; (· (intro w hw; have hY := HQB.out.below hw HQB.out.lt; refine load_box_val 42 (.tmp 93) ?_ b12 2 ?_ hY [.int .i64 zeroRs.a.co, .int .i64 zeroRs.a.h1, .int .i64 zeroRs.a.h2, .string zeroRs.a.b, .int .i64 zeroRs.a.i1, .int .i64 zeroRs.a.i2, .int .i64 zeroRs.a.i3, .int .i64 zeroRs.a.i4, .int .i64 zeroRs.a.i5, .int .i64 zeroRs.a.i6, .int .i64 zeroRs.a.i7, .int .i64 zeroRs.a.i8, .slice zeroRs.a.na zeroRs.a.nl zeroRs.a.nc] (by kernel_rfl) Try.underlying42 rfl (by kernel_rfl) <;> rfl)); simp only [Act.put, List.setIfInBounds_toArray, List.set_cons_succ, List.set_cons_zero]; go_big_quiet_on
        go_big_quiet_want; apply quiet_call (f := 37) (v := .bool true); (· (intro w hw; go_simp; try rfl)); (· (intro w1 b1; exact in_below (same_any zeroRs.a (HSTR.out.below (HP9.out.bel.trans (b1.mono HP9.out.bel.size)))) b1 (Nat.le_refl _))); simp only [Act.put, List.setIfInBounds_toArray, List.set_cons_succ, List.set_cons_zero]; go_big_quiet_on
        go_big_quiet_want; apply quiet_value; (· (intro w hw; go_simp; try rfl)); simp only [Act.put, List.setIfInBounds_toArray, List.set_cons_succ, List.set_cons_zero]; go_big_quiet_on
        go_big_quiet_want; apply quiet_value; (· (intro w hw; go_simp; try rfl)); simp only [Act.put, List.setIfInBounds_toArray, List.set_cons_succ, List.set_cons_zero]; go_big_quiet_on
        refine wpQuiet_nil ?_
        intro w10 b10
        have HP10 := Lib.hid (HP9.out.below b10)
        have HR10 := Lib.hid (HR9.out.below b10)
        clear b10 HP9 HR9 HQB HQC
        go_wp2_with fail
        go_meet
        case rel =>
          rw [HMID.out, HHAS.out]
          refine ⟨rfl, rfl, U, V, z, ?_, HR10.out.as (doneS s) rfl rfl rfl, fun r hr => ?_⟩
          · rw [HPD.out]
            exact HP10.out
          · cases hr
      · have HD := Lib.hid hd
        have HPH := Lib.hid (show phS s = 2 by
          have hb : s.busy = false := by
            cases hb : s.busy
            · rfl
            · have := (HO.out.busy hb).2.2
              rw [hd] at this
              cases this
          rw [phS, hb, hd]; rfl)
        have HPD := Lib.hid (show phS (doneS s) = 0 by
          have hb : s.busy = false := by
            cases hb : s.busy
            · rfl
            · have := (HO.out.busy hb).2.2
              rw [hd] at this
              cases this
          show (if s.busy then (1 : Int) else if ([] : List Rs).isEmpty then 0 else 2) = 0
          rw [hb]; rfl)
        have HSTR := Lib.hid (HST.out z hd)
        clear hd h0 h1 h4 h2 h3
        go_upto_region 15 with (fail)
        have hal := HP.out.a.lt
        go_wp2_with (refine wpList_load_box rfl 46 (.tmp 4) rfl _ 0 rfl HP.out.a (rcs s V (phS s) z).toList (by kernel_rfl) Try.underlying46 rfl (by kernel_rfl) ?_)
        refine (rdone_yes2 z (phS s) HPH.out HR.out.r).mono ?_
        rintro e w5 ⟨rfl, b5⟩
        have HP5 := Lib.hid (HP.out.below b5)
        have HR5 := Lib.hid (HR.out.below b5)
        obtain ⟨b11, hb11⟩ : ∃ b11, b11 = w5.heap.size := ⟨_, rfl⟩
        obtain ⟨b12, hb12⟩ : ∃ b12, b12 = b11 + 1 := ⟨_, rfl⟩
        have hN1 := box1 w5 #[.int .i64 0, .int .i64 0, .slice none 0 0, .slice none 0 0, .int .i64 0, .int .i64 0, .int .i64 0, .int .i64 0, .int .i64 0, .int .i64 0, .int .i64 0, .int .i64 0, .int .i64 0, .int .i64 0, .string ⟨#[]⟩, .string ⟨#[]⟩, .int .i64 0, .int .i64 0, .int .i64 0, .string ⟨#[]⟩, .bool false, .int .i64 0, .int .i64 0, .int .i64 0, .string ⟨#[]⟩, .int .i64 0, .int .i64 0, .slice none 0 0, .int .i64 0, .int .i64 0, .int .i64 0, .int .i64 0, .int .i64 0, .string ⟨#[]⟩, .int .i64 0, .int .i64 0, .int .i64 0, .int .i64 0, .int .i64 0, .int .i64 0, .int .i64 0, .int .i64 0, .slice none 0 0] 46 44 #[.int .i64 0, .int .i64 0, .int .i64 0, .int .i64 0, .int .i64 0, .string ⟨#[]⟩, .int .i64 0, .int .i64 0, .int .i64 0, .int .i64 0, .int .i64 0, .int .i64 0, .int .i64 0, .int .i64 0, .slice none 0 0]
        have hN2 := box2 w5 (.cells #[.int .i64 0, .int .i64 0, .slice none 0 0, .slice none 0 0, .int .i64 0, .int .i64 0, .int .i64 0, .int .i64 0, .int .i64 0, .int .i64 0, .int .i64 0, .int .i64 0, .int .i64 0, .int .i64 0, .string ⟨#[]⟩, .string ⟨#[]⟩, .int .i64 0, .int .i64 0, .int .i64 0, .string ⟨#[]⟩, .bool false, .int .i64 0, .int .i64 0, .int .i64 0, .string ⟨#[]⟩, .int .i64 0, .int .i64 0, .slice none 0 0, .int .i64 0, .int .i64 0, .int .i64 0, .int .i64 0, .int .i64 0, .string ⟨#[]⟩, .int .i64 0, .int .i64 0, .int .i64 0, .int .i64 0, .int .i64 0, .int .i64 0, .int .i64 0, .int .i64 0, .slice none 0 0] 46) #[.int .i64 0, .int .i64 0, .int .i64 0, .int .i64 0, .int .i64 0, .string ⟨#[]⟩, .int .i64 0, .int .i64 0, .int .i64 0, .int .i64 0, .int .i64 0, .int .i64 0, .int .i64 0, .int .i64 0, .slice none 0 0] 44
        have hB2 := ((Below.refl w5.heap.size w5).alloc (Nat.le_refl _) (.cells #[.int .i64 0, .int .i64 0, .slice none 0 0, .slice none 0 0, .int .i64 0, .int .i64 0, .int .i64 0, .int .i64 0, .int .i64 0, .int .i64 0, .int .i64 0, .int .i64 0, .int .i64 0, .int .i64 0, .string ⟨#[]⟩, .string ⟨#[]⟩, .int .i64 0, .int .i64 0, .int .i64 0, .string ⟨#[]⟩, .bool false, .int .i64 0, .int .i64 0, .int .i64 0, .string ⟨#[]⟩, .int .i64 0, .int .i64 0, .slice none 0 0, .int .i64 0, .int .i64 0, .int .i64 0, .int .i64 0, .int .i64 0, .string ⟨#[]⟩, .int .i64 0, .int .i64 0, .int .i64 0, .int .i64 0, .int .i64 0, .int .i64 0, .int .i64 0, .int .i64 0, .slice none 0 0] 46)).alloc (by simp) (.cells #[.int .i64 0, .int .i64 0, .int .i64 0, .int .i64 0, .int .i64 0, .string ⟨#[]⟩, .int .i64 0, .int .i64 0, .int .i64 0, .int .i64 0, .int .i64 0, .int .i64 0, .int .i64 0, .int .i64 0, .slice none 0 0] 44)
        have HN1 := Lib.hid hN1
        have HN2 := Lib.hid (hN2.setRow_other (rcs s V 0 zeroRs) (show w5.heap.size + 1 ≠ w5.heap.size by omega))
        have hB3 := Below.setRow (Below.setRow hB2 (g := w5.heap.size) (Nat.le_refl _) (rcs s V 0 zeroRs)) (g := w5.heap.size + 1) (by omega) (sc z)
        have hQA := (hN1.setRow (rcs s V 0 zeroRs)).setRow_other (sc z) (show w5.heap.size ≠ w5.heap.size + 1 by omega)
        have hQB := (hN2.setRow_other (rcs s V 0 zeroRs) (show w5.heap.size + 1 ≠ w5.heap.size by omega)).setRow (sc z)
        have hP6 := HP5.out.below hB3
        have hR6 := HR5.out.below hB3
        rw [← hb11, ← hb12] at hQA hQB hP6 hR6
        have HQA := Lib.hid hQA
        have HQB := Lib.hid hQB
        have HP6 := Lib.hid hP6
        have HR6 := Lib.hid hR6
        have HONE := Lib.hid (one_rcs HR5.out.r 0 zeroRs)
        have E11 := Lib.hid hb11
        have E12 := Lib.hid hb12
        clear hb11 hb12 hN1 hN2 hB2 hB3 b5 HP HR hal hQA hQB hP6 hR6
        go_upto_region 16 with (first | (refine wpList_store_box rfl 46 (.tmp 11) (.tmp 63) rfl rfl _ 0 rfl (rcs s V 0 zeroRs).toList rfl HN1.out (rcs s V 0 zeroRs) (by kernel_rfl) (by kernel_rfl) (by kernel_rfl) HONE.out ?_) | (refine wpList_store_box rfl 44 (.tmp 12) (.tmp 64) rfl rfl _ 0 rfl [.int .i64 z.nu, .int .i64 z.co, .int .i64 z.a.co, .int .i64 z.a.h1, .int .i64 z.a.h2, .string z.a.b, .int .i64 z.a.i1, .int .i64 z.a.i2, .int .i64 z.a.i3, .int .i64 z.a.i4, .int .i64 z.a.i5, .int .i64 z.a.i6, .int .i64 z.a.i7, .int .i64 z.a.i8, .slice z.a.na z.a.nl z.a.nc] rfl HN2.out #[.int .i64 z.nu, .int .i64 z.co, .int .i64 z.a.co, .int .i64 z.a.h1, .int .i64 z.a.h2, .string z.a.b, .int .i64 z.a.i1, .int .i64 z.a.i2, .int .i64 z.a.i3, .int .i64 z.a.i4, .int .i64 z.a.i5, .int .i64 z.a.i6, .int .i64 z.a.i7, .int .i64 z.a.i8, .slice z.a.na z.a.nl z.a.nc] (by kernel_rfl) (by kernel_rfl) (by kernel_rfl) (by kernel_rfl) ?_))
        rw [← E11.out, ← E12.out]
        refine wp_name (fun W => Pw Wb w W n U U s (rcs s V (phS s) z) o ∧ Rw Wb W V n U s ∧ Box W b11 46 (rcs s V 0 zeroRs) ∧ Box W b12 44 (sc z)) ⟨HP6.out, HR6.out, HQA.out, HQB.out⟩ ?_
        clear HP5 HR5 HP6 HR6 HQA HQB HN1 HN2 E11 E12
        rintro W6 ⟨hP6, hR6, hQA, hQB⟩
        have HP6 := Lib.hid hP6
        have HR6 := Lib.hid hR6
        have HQA6 := Lib.hid hQA
        have HQB6 := Lib.hid hQB
        clear hP6 hR6 hQA hQB
        go_wp2_with fail
        refine (done_yes z HP6.out.p HD.out).mono ?_
        rintro e w7 ⟨rfl, hp7, hg7⟩
        have HP7 := Lib.hid (HP6.out.does hp7 hg7)
        have HR7 := Lib.hid (HR6.out.does HP6.out.p HP6.out.bel hg7)
        have HQA7 := Lib.hid (HQA6.out.touch hg7.touch (HP6.out.p.notBox HQA6.out (by decide) (by decide) (by decide) (by decide)))
        have HQB7 := Lib.hid (HQB6.out.touch hg7.touch (HP6.out.p.notBox HQB6.out (by decide) (by decide) (by decide) (by decide)))
        clear hp7 hg7
        obtain ⟨b14, hb14⟩ : ∃ b14, b14 = w7.heap.size := ⟨_, rfl⟩
        have hN3 := Box.new w7 81 #[.int .i64 0, .int .i64 0, .int .i64 0, .int .i64 0, .int .i64 0, .string ⟨#[]⟩, .int .i64 0, .int .i64 0, .int .i64 0, .int .i64 0, .int .i64 0, .int .i64 0, .int .i64 0, .int .i64 0, .slice none 0 0]
        have HN3 := Lib.hid hN3
        have hB4 := Below.setRow ((Below.refl w7.heap.size w7).alloc (Nat.le_refl _) (.cells #[.int .i64 0, .int .i64 0, .int .i64 0, .int .i64 0, .int .i64 0, .string ⟨#[]⟩, .int .i64 0, .int .i64 0, .int .i64 0, .int .i64 0, .int .i64 0, .int .i64 0, .int .i64 0, .int .i64 0, .slice none 0 0] 81)) (g := w7.heap.size) (Nat.le_refl _) (sc z)
        have hQC := hN3.setRow (sc z)
        have hP8 := HP7.out.below hB4
        have hR8 := HR7.out.below hB4
        have hQA := HQA7.out.below hB4 HQA7.out.lt
        have hQB := HQB7.out.below hB4 HQB7.out.lt
        rw [← hb14] at hQC hP8 hR8 hQA hQB
        have HP8 := Lib.hid hP8
        have HR8 := Lib.hid hR8
        have HQA := Lib.hid hQA
        have HQB := Lib.hid hQB
        have HQC := Lib.hid hQC
        have E14 := Lib.hid hb14
        clear hb14 hN3 hB4 hP8 hR8 hQA hQB hQC HP6 HR6 HQA6 HQB6
        go_upto_region 17 with (refine wpList_store_box rfl 81 (.tmp 14) (.tmp 69) rfl rfl _ 0 rfl [.int .i64 z.nu, .int .i64 z.co, .int .i64 z.a.co, .int .i64 z.a.h1, .int .i64 z.a.h2, .string z.a.b, .int .i64 z.a.i1, .int .i64 z.a.i2, .int .i64 z.a.i3, .int .i64 z.a.i4, .int .i64 z.a.i5, .int .i64 z.a.i6, .int .i64 z.a.i7, .int .i64 z.a.i8, .slice z.a.na z.a.nl z.a.nc] rfl HN3.out #[.int .i64 z.nu, .int .i64 z.co, .int .i64 z.a.co, .int .i64 z.a.h1, .int .i64 z.a.h2, .string z.a.b, .int .i64 z.a.i1, .int .i64 z.a.i2, .int .i64 z.a.i3, .int .i64 z.a.i4, .int .i64 z.a.i5, .int .i64 z.a.i6, .int .i64 z.a.i7, .int .i64 z.a.i8, .slice z.a.na z.a.nl z.a.nc] (by kernel_rfl) (by kernel_rfl) (by kernel_rfl) (by kernel_rfl) ?_)
        rw [← E14.out]
        refine wp_name (fun W => Pw Wb w W n U { U with d := .slice none 0 0 } (doneS s) (rcs s V (phS s) z) o ∧ Rw Wb W V n { U with d := .slice none 0 0 } s ∧ Box W b11 46 (rcs s V 0 zeroRs) ∧ Box W b12 44 (sc z) ∧ Box W b14 81 (sc z)) ⟨HP8.out, HR8.out, HQA.out, HQB.out, HQC.out⟩ ?_
        clear HP7 HR7 HQA7 HQB7 HP8 HR8 HQA HQB HQC HN3 E14
        rintro W8 ⟨hP8, hR8, hQA, hQB, hQC⟩
        have HP8 := Lib.hid hP8
        have HR8 := Lib.hid hR8
        have HQA := Lib.hid hQA
        have hal := hP8.a.lt
        have hql := hQA.lt
        have hP9 := hP8.row (rcs s V 0 zeroRs) hwb
        have hR9 := hR8.row hP8.bel hP8.a hwb (by decide) (by decide) (rcs s V 0 zeroRs)
        have HQB8 := Lib.hid (hQB.setRow_other (rcs s V 0 zeroRs) (hQB.ne hP8.a (by decide)))
        have HQC8 := Lib.hid (hQC.setRow_other (rcs s V 0 zeroRs) (hQC.ne hP8.a (by decide)))
        have HP9 := Lib.hid hP9
        have HR9 := Lib.hid hR9
        clear hP8 hR8 hP9 hR9 hQA hQB hQC
        go_upto_region 18 with (first | (refine wpList_load_box rfl 46 (.tmp 11) rfl _ 0 rfl HQA.out (rcs s V 0 zeroRs).toList (by kernel_rfl) Try.underlying46 rfl (by kernel_rfl) ?_) | (refine wpList_store_box rfl 46 (.tmp 4) (.tmp 71) rfl rfl _ 0 rfl (rcs s V 0 zeroRs).toList rfl HP8.out.a (rcs s V 0 zeroRs) (by kernel_rfl) (by kernel_rfl) (by kernel_rfl) HONE.out ?_))
        refine wp_name (fun W => Pw Wb w W n U { U with d := .slice none 0 0 } (doneS s) (rcs s V 0 zeroRs) o ∧ Rw Wb W V n { U with d := .slice none 0 0 } s ∧ Box W b12 44 (sc z) ∧ Box W b14 81 (sc z)) ⟨HP9.out, HR9.out, HQB8.out, HQC8.out⟩ ?_
        clear HP8 HR8 HQA HQB8 HQC8 HP9 HR9 hal hql HONE
        rintro W9 ⟨hP9, hR9, hQB, hQC⟩
        have HP9 := Lib.hid hP9
        have HR9 := Lib.hid hR9
        have HQB := Lib.hid hQB
        have HQC := Lib.hid hQC
        clear hP9 hR9 hQB hQC
        refine wp_region_below (w0 := W9) (B := W9.heap.size) (by kernel_rfl) (by kernel_rfl) (Below.refl _ _) ?_
        simp only [Act.put, List.setIfInBounds_toArray, List.set_cons_succ, List.set_cons_zero]
        go_big_quiet_want; go_big_quiet_op; go_big_quiet_on
        go_big_quiet_want; go_big_quiet_op; go_big_quiet_on
        go_big_quiet_want; apply quiet_value; (· (intro w hw; go_simp; try rfl)); simp only [Act.put, List.setIfInBounds_toArray, List.set_cons_succ, List.set_cons_zero]; go_big_quiet_on
        go_big_quiet_want; go_big_quiet_op; go_big_quiet_on
        go_big_quiet_want; apply quiet_value; (· (intro w hw; have hX := HQC.out.below hw HQC.out.lt; have hx := hX.lt; go_simp; try rfl)); simp only [Act.put, List.setIfInBounds_toArray, List.set_cons_succ, List.set_cons_zero]; go_big_quiet_on
        go_big_quiet_want; apply quiet_value; (· (intro w hw; have hX := HQC.out.below hw HQC.out.lt; have hx := hX.lt; have x0 : w.cell? ⟨b14, 0, none⟩ = some (.int .i64 z.nu) := hX.cell 0; go_simp; try rfl)); simp only [Act.put, List.setIfInBounds_toArray, List.set_cons_succ, List.set_cons_zero]; go_big_quiet_on
        go_big_quiet_want; apply quiet_value; (· (intro w hw; have hY := HQB.out.below hw HQB.out.lt; have hy := hY.lt; go_simp; try rfl)); simp only [Act.put, List.setIfInBounds_toArray, List.set_cons_succ, List.set_cons_zero]; go_big_quiet_on
        go_big_quiet_want; apply quiet_value; (· (intro w hw; have hY := HQB.out.below hw HQB.out.lt; have hy := hY.lt; have y0 : w.cell? ⟨b12, 0, none⟩ = some (.int .i64 z.nu) := hY.cell 0; go_simp; try rfl)); simp only [Act.put, List.setIfInBounds_toArray, List.set_cons_succ, List.set_cons_zero]; go_big_quiet_on
        go_big_quiet_want; apply quiet_value; (· (intro w hw; go_simp; try rfl)); simp only [Act.put, List.setIfInBounds_toArray, List.set_cons_succ, List.set_cons_zero]; go_big_quiet_on
        go_big_quiet_want; apply quiet_value; (· (intro w hw; go_simp; try rfl)); simp only [Act.put, List.setIfInBounds_toArray, List.set_cons_succ, List.set_cons_zero]; go_big_quiet_on
        go_big_quiet_want; go_big_quiet_op; go_big_quiet_on
        go_big_quiet_want; apply quiet_value; (· (intro w hw; have hX := HQC.out.below hw HQC.out.lt; have hx := hX.lt; go_simp; try rfl)); simp only [Act.put, List.setIfInBounds_toArray, List.set_cons_succ, List.set_cons_zero]; go_big_quiet_on
        go_big_quiet_want; apply quiet_value; (· (intro w hw; have hX := HQC.out.below hw HQC.out.lt; have hx := hX.lt; have x1 : w.cell? ⟨b14, 1, none⟩ = some (.int .i64 z.co) := hX.cell 1; go_simp; try rfl)); simp only [Act.put, List.setIfInBounds_toArray, List.set_cons_succ, List.set_cons_zero]; go_big_quiet_on
        go_big_quiet_want; apply quiet_value; (· (intro w hw; have hY := HQB.out.below hw HQB.out.lt; have hy := hY.lt; go_simp; try rfl)); simp only [Act.put, List.setIfInBounds_toArray, List.set_cons_succ, List.set_cons_zero]; go_big_quiet_on
        go_big_quiet_want; apply quiet_value; (· (intro w hw; have hY := HQB.out.below hw HQB.out.lt; have hy := hY.lt; have y1 : w.cell? ⟨b12, 1, none⟩ = some (.int .i64 z.co) := hY.cell 1; go_simp; try rfl)); simp only [Act.put, List.setIfInBounds_toArray, List.set_cons_succ, List.set_cons_zero]; go_big_quiet_on
        go_big_quiet_want; apply quiet_value; (· (intro w hw; go_simp; try rfl)); simp only [Act.put, List.setIfInBounds_toArray, List.set_cons_succ, List.set_cons_zero]; go_big_quiet_on
        go_big_quiet_want; apply quiet_value; (· (intro w hw; go_simp; try rfl)); simp only [Act.put, List.setIfInBounds_toArray, List.set_cons_succ, List.set_cons_zero]; go_big_quiet_on
        go_big_quiet_want; go_big_quiet_op; go_big_quiet_on
        go_big_quiet_want; apply quiet_value; (· (intro w hw; have hX := HQC.out.below hw HQC.out.lt; have hx := hX.lt; go_simp; try rfl)); simp only [Act.put, List.setIfInBounds_toArray, List.set_cons_succ, List.set_cons_zero]; go_big_quiet_on
        go_big_quiet_want; apply quiet_value; (· (intro w hw; have hX := HQC.out.below hw HQC.out.lt; refine load_box_val 71 (.tmp 90) ?_ b14 2 ?_ hX [.int .i64 z.a.co, .int .i64 z.a.h1, .int .i64 z.a.h2, .string z.a.b, .int .i64 z.a.i1, .int .i64 z.a.i2, .int .i64 z.a.i3, .int .i64 z.a.i4, .int .i64 z.a.i5, .int .i64 z.a.i6, .int .i64 z.a.i7, .int .i64 z.a.i8, .slice z.a.na z.a.nl z.a.nc] (by kernel_rfl) Try.underlying71 rfl (by kernel_rfl) <;> rfl)); simp only [Act.put, List.setIfInBounds_toArray, List.set_cons_succ, List.set_cons_zero]; go_big_quiet_on
        go_big_quiet_want; apply quiet_call (f := 38) (v := .agg (ac z.a)); (· (intro w hw; go_simp; try rfl)); (· (intro w1 b1; exact in_below (plain_any z.a) b1 (Nat.le_refl _))); simp only [Act.put, List.setIfInBounds_toArray, List.set_cons_succ, List.set_cons_zero]; go_big_quiet_on
        go_big_quiet_want; apply quiet_value; (· (intro w hw; have hY := HQB.out.below hw HQB.out.lt; have hy := hY.lt; go_simp; try rfl)); simp only [Act.put, List.setIfInBounds_toArray, List.set_cons_succ, List.set_cons_zero]; go_big_quiet_on
        go_big_quiet_want; apply quiet_value; (· (intro w hw; have hY := HQB.out.below hw HQB.out.lt; refine load_box_val 42 (.tmp 93) ?_ b12 2 ?_ hY [.int .i64 z.a.co, .int .i64 z.a.h1, .int .i64 z.a.h2, .string z.a.b, .int .i64 z.a.i1, .int .i64 z.a.i2, .int .i64 z.a.i3, .int .i64 z.a.i4, .int .i64 z.a.i5, .int .i64 z.a.i6, .int .i64 z.a.i7, .int .i64 z.a.i8, .slice z.a.na z.a.nl z.a.nc] (by kernel_rfl) Try.underlying42 rfl (by kernel_rfl) <;> rfl)); simp only [Act.put, List.setIfInBounds_toArray, List.set_cons_succ, List.set_cons_zero]; go_big_quiet_on
        go_big_quiet_want; apply quiet_call (f := 37) (v := .bool true); (· (intro w hw; go_simp; try rfl)); (· (intro w1 b1; exact in_below (same_any z.a (HSTR.out.below (HP9.out.bel.trans (b1.mono HP9.out.bel.size)))) b1 (Nat.le_refl _))); simp only [Act.put, List.setIfInBounds_toArray, List.set_cons_succ, List.set_cons_zero]; go_big_quiet_on
        go_big_quiet_want; apply quiet_value; (· (intro w hw; go_simp; try rfl)); simp only [Act.put, List.setIfInBounds_toArray, List.set_cons_succ, List.set_cons_zero]; go_big_quiet_on
        go_big_quiet_want; apply quiet_value; (· (intro w hw; go_simp; try rfl)); simp only [Act.put, List.setIfInBounds_toArray, List.set_cons_succ, List.set_cons_zero]; go_big_quiet_on
        refine wpQuiet_nil ?_
        intro w10 b10
        have HP10 := Lib.hid (HP9.out.below b10)
        have HR10 := Lib.hid (HR9.out.below b10)
        clear b10 HP9 HR9 HQB HQC
        go_wp2_with fail
        go_meet
        case rel =>
          rw [HMID.out, HHAS.out]
          refine ⟨rfl, rfl, { U with d := .slice none 0 0 }, V, zeroRs, ?_, HR10.out.as (doneS s) rfl rfl rfl, fun r hr => ?_⟩
          · rw [HPD.out]
            exact HP10.out
          · cases hr
    · have HMID := Lib.hid (show midS s o = s by rw [midS, if_neg (by omega), if_neg (by omega), if_neg (by omega), if_neg (by omega)])
      have HHAS := Lib.hid (show hasB s o = true by rw [hasB, if_neg (by omega)])
      have k0 : (o.kd == 0) = false := by simpa using h0
      have k1 : (o.kd == 1) = false := by simpa using h1
      have k4 : (o.kd == 4) = false := by simpa using h4
      have k2 : (o.kd == 2) = false := by simpa using h2
      have k3 : (o.kd == 3) = false := by simpa using h3
      clear h0 h1 h4 h2 h3
      go_wp2_with fail
      go_meet
      case rel =>
        rw [HMID.out, HHAS.out]
        exact ⟨rfl, rfl, U, V, z, HP.out, HR.out, HZ.out⟩
  case rest =>
    obtain ⟨rfl, rfl, U1, V1, z1, hP, hR, hz1⟩ := hcut
    obtain ⟨s1, hs1⟩ : ∃ s1, s1 = midS s o := ⟨_, rfl⟩
    have hok1 : Okay s1 := by rw [hs1]; exact midS_ok HO.out o hnu
    rw [← hs1] at hP hR hz1
    obtain ⟨p1, hp1⟩ : ∃ p1, p1 = phS s1 := ⟨_, rfl⟩
    rw [← hp1] at hP
    obtain ⟨b, hb⟩ : ∃ b, b = hasB s o := ⟨_, rfl⟩
    rw [← hb]
    have HP := Lib.hid hP
    have HR := Lib.hid hR
    have HZ1 := Lib.hid hz1
    have HS1 := Lib.hid hs1
    have HP1 := Lib.hid hp1
    have hpb : (p1 == 1) = (outS s1).busy := by
      rw [hp1]
      show (phS s1 == 1) = s1.busy
      unfold phS
      cases s1.busy
      · simp only [Bool.false_eq_true, if_false]
        split <;> rfl
      · rfl
    have HOUT := Lib.hid (show s1.out.length ≤ maxLen by rw [hs1]; exact midS_out o hl)
    clear hP hR hz1 hs1 hp1 hb
    have hal := HP.out.a.lt
    go_wp2_with (refine wpList_load_box rfl 46 (.tmp 4) rfl _ 0 rfl HP.out.a (rcs s1 V1 p1 z1).toList (by kernel_rfl) Try.underlying46 rfl (by kernel_rfl) ?_)
    refine (rsent_any z1 p1 HR.out.r).mono ?_
    rintro e w5 ⟨rfl, b5⟩
    obtain ⟨V2, hV2⟩ : ∃ V2 : Vr, V2 = { V1 with o := .slice none 0 0 } := ⟨_, rfl⟩
    rw [← hV2]
    have HP5 := Lib.hid (HP.out.below b5)
    have HR5 := Lib.hid (HR.out.below b5)
    have HONE := Lib.hid (show (rcs (outS s1) V2 p1 z1).toList.all (·.oneCell') = true by
      rw [hV2]
      exact one_rcs (s := outS s1) (V := { V1 with o := .slice none 0 0 }) ⟨HR5.out.r.rm, HR5.out.r.rg, World.ownsRow_nil _ _ _ _⟩ p1 z1)
    have HV2 := Lib.hid hV2
    clear hV2 b5 HP HR hal
    go_upto_region 21 with (refine wpList_store_box rfl 46 (.tmp 4) (.tmp 102) rfl rfl _ 0 rfl (rcs (outS s1) V2 p1 z1).toList rfl HP5.out.a (rcs (outS s1) V2 p1 z1) (by kernel_rfl) (by kernel_rfl) (by kernel_rfl) HONE.out ?_)
    refine wp_name (fun W => Pw Wb w W n U U1 s1 (rcs (outS s1) V2 p1 z1) o ∧ Rw Wb W V1 n U1 s1) ⟨HP5.out.row _ hwb, HR5.out.row HP5.out.bel HP5.out.a hwb (by decide) (by decide) _⟩ ?_
    clear HP5 HR5 HONE
    rintro W6 ⟨hP6, hR6⟩
    have HP6 := Lib.hid hP6
    have HR6 := Lib.hid hR6
    clear hP6 hR6
    go_wp2_with fail
    refine (out_any HP6.out.p).mono ?_
    rintro e w7 ⟨rfl, hp7, hg7, hk7⟩
    have HLR7 := Lib.hid (own_stays HP6.out.p.ro fun k hk => hk7 k (by rintro rfl; exact own_box_ne HP6.out.p.ro HP6.out.p.box (by decide) hk))
    have hR7 := HR6.out.does HP6.out.p HP6.out.bel hg7
    have HWR7 := Lib.hid hR7.r.ro
    have HP7 := Lib.hid (HP6.out.does hp7 hg7)
    have HR7 := Lib.hid (show Rw Wb w7 V2 n { U1 with o := .slice none 0 0 } (outS s1) from by
      rw [HV2.out]
      refine ⟨⟨hR7.r.rm, hR7.r.rg, World.ownsRow_nil _ _ _ _⟩, hR7.rm, fun k hk => ?_⟩
      rcases hk with h1 | h1
      · exact hR7.sep k (.inl h1)
      · cases h1)
    clear hp7 hg7 hk7 hR7 HP6 HR6
    obtain ⟨ol, ow, cl, cw, hol, how, hrows⟩ := both_rows HLR7.out HWR7.out
    rw [hol, how]
    have HROWS := Lib.hid hrows
    clear hol how hrows HLR7 HWR7
    go_upto_region 22 with (fail)
    obtain ⟨B0, hB0⟩ : ∃ B0, B0 = w.heap.size := ⟨_, rfl⟩
    refine wp_name (fun W => Pw Wb w W n U { U1 with o := .slice none 0 0 } (outS s1) (rcs (outS s1) V2 p1 z1) o ∧ Rw Wb W V2 n { U1 with o := .slice none 0 0 } (outS s1) ∧ Below w7.heap.size w7 W) ⟨HP7.out, HR7.out, Below.refl _ _⟩ ?_
    clear HP7 HR7
    rintro W9 ⟨hP9, hR9, b9⟩
    have HP9 := Lib.hid hP9
    have HR9 := Lib.hid hR9
    have HB9 := Lib.hid b9
    have hPA := hP9.a
    rw [← hB0] at hPA
    have HPA := Lib.hid hPA
    have HB0 := Lib.hid hB0
    have hol7 := HOUT.out
    unfold maxLen at hol7
    rw [← hB0]
    clear hP9 hR9 b9 hPA hB0
    refine wp_region_below (w0 := W9) (B := W9.heap.size) (by kernel_rfl) (by kernel_rfl) (Below.refl _ _) ?_
    go_big_quiet_want; go_big_quiet_op; go_big_quiet_on
    go_big_quiet_want; go_big_quiet_op; go_big_quiet_on
    go_big_quiet_want; apply quiet_value; (· (intro w hw; go_simp; try rfl)); simp only [Act.put, List.setIfInBounds_toArray, List.set_cons_succ, List.set_cons_zero]; go_big_quiet_on
    go_big_quiet_want; go_big_quiet_op; go_big_quiet_on
    go_big_quiet_want; go_big_quiet_op; go_big_quiet_on
    go_big_quiet_want; apply quiet_value; (· (intro w hw; go_simp; try rfl)); simp only [Act.put, List.setIfInBounds_toArray, List.set_cons_succ, List.set_cons_zero]; go_big_quiet_on
    go_big_quiet_want; go_big_quiet_op; go_big_quiet_on
    go_big_quiet_want; apply quiet_value; (· (intro w hw; go_simp; try rfl)); simp only [Act.put, List.setIfInBounds_toArray, List.set_cons_succ, List.set_cons_zero]; go_big_quiet_on
    go_big_quiet_want; apply quiet_value; (· (intro w hw; go_simp; try rfl)); simp only [Act.put, List.setIfInBounds_toArray, List.set_cons_succ, List.set_cons_zero]; go_big_quiet_on
    go_big_quiet_want; apply quiet_value; (· (intro w hw; go_simp; try rfl)); simp only [Act.put, List.setIfInBounds_toArray, List.set_cons_succ, List.set_cons_zero]; go_big_quiet_on
    go_big_quiet_want; go_big_quiet_op; go_big_quiet_on
    go_big_quiet_want; go_big_quiet_op; go_big_quiet_on
    go_big_quiet_want; apply quiet_call (f := 22) (v := .bool (outS s1).busy); (· (intro w hw; go_simp; try rfl)); (· (intro w1 b1; exact in_class (busy_any (HP9.out.p.below b1 (Nat.le_refl _))) b1)); simp only [Act.put, List.setIfInBounds_toArray, List.set_cons_succ, List.set_cons_zero]; go_big_quiet_on
    go_big_quiet_want; apply quiet_value; (· (intro w hw; have hA := HPA.out.below hw HPA.out.lt; have ha := hA.lt; go_simp; try rfl)); simp only [Act.put, List.setIfInBounds_toArray, List.set_cons_succ, List.set_cons_zero]; go_big_quiet_on
    go_big_quiet_want; apply quiet_value; (· (intro w hw; have hA := HPA.out.below hw HPA.out.lt; have ha := hA.lt; have a5 : w.cell? ⟨B0, 5, none⟩ = some (.int .i64 p1) := hA.cell 5; go_simp; try rfl)); simp only [Act.put, List.setIfInBounds_toArray, List.set_cons_succ, List.set_cons_zero]; go_big_quiet_on
    go_big_quiet_want; apply quiet_value (v := .bool (outS s1).busy); (· (intro w hw; go_simp; try rfl)); simp only [Act.put, List.setIfInBounds_toArray, List.set_cons_succ, List.set_cons_zero]; go_big_quiet_on
    go_big_quiet_want; apply quiet_value (v := .bool false); (· (intro w hw; go_simp; try rfl)); simp only [Act.put, List.setIfInBounds_toArray, List.set_cons_succ, List.set_cons_zero]; go_big_quiet_on
    go_big_quiet_want; apply quiet_value; (· (intro w hw; go_simp; try rfl)); simp only [Act.put, List.setIfInBounds_toArray, List.set_cons_succ, List.set_cons_zero]; go_big_quiet_on
    refine wpQuiet_nil ?_
    intro w10 b10
    have HP10 := Lib.hid (HP9.out.below b10)
    have HR10 := Lib.hid (HR9.out.below b10)
    have HB10 := Lib.hid (HB9.out.trans (b10.mono HB9.out.size))
    clear b10 HP9 HR9 HPA HB9
    go_wp2_with fail
    go_loopw [127] (fun i wr => ∃ k : Nat, k ≤ s1.out.length ∧ i = .int .i64 k ∧ Below w10.heap.size w10 wr) (fun i _ => s1.out.length - (intOf i).toNat)
    case atStart => exact ⟨0, Nat.zero_le _, rfl, Below.refl _ _⟩
    case round =>
      obtain ⟨k, hk, rfl, hbr⟩ := hrel
      have HBR := Lib.hid hbr
      clear hbr
      by_cases hlt : k < s1.out.length
      · obtain ⟨q, hq⟩ : ∃ q, s1.out[k]? = some q := ⟨_, List.getElem?_eq_getElem hlt⟩
        obtain ⟨gl, gw, rfl, rfl, hgl, hgw, hcl, hcw⟩ := HROWS.out k q hq
        have hBB := HB10.out.trans (HBR.out.mono HB10.out.size)
        have HGL := Lib.hid (Nat.lt_of_lt_of_le hgl hBB.size)
        have HGW := Lib.hid (Nat.lt_of_lt_of_le hgw hBB.size)
        have HLA := Lib.hid (show ∀ j u, (ql q)[j]? = some u → wr.cell? ⟨gl, k * 20 + j, none⟩ = some u from fun j u hj => (hBB.cell (p := ⟨gl, k * 20 + j, none⟩) hgl).trans (hcl j u hj))
        have HWA := Lib.hid (show ∀ j u, (ql q)[j]? = some u → wr.cell? ⟨gw, k * 20 + j, none⟩ = some u from fun j u hj => (hBB.cell (p := ⟨gw, k * 20 + j, none⟩) hgw).trans (hcw j u hj))
        have HL0 := Lib.hid (HLA.out 0 _ rfl)
        have HL1 := Lib.hid (HLA.out 1 _ rfl)
        have HW0 := Lib.hid (HWA.out 0 _ rfl)
        have HW1 := Lib.hid (HWA.out 1 _ rfl)
        have HLR := Lib.hid (ql_call HLA.out)
        have HWR := Lib.hid (ql_call HWA.out)
        have hi1 : (k : Int) < (s1.out.length : Int) := by omega
        have hi0 : (0 : Int) ≤ (k : Int) := by omega
        have hnat : ((k : Int)).toNat = k := by omega
        clear hq hgl hgw hcl hcw hBB HLA HWA
        go_upto_region 27 with (fail)
        refine wp_region_below (w0 := wr) (B := wr.heap.size) (by kernel_rfl) (by kernel_rfl) (Below.refl _ _) ?_
        go_big_quiet_want; go_big_quiet_op; go_big_quiet_on
        go_big_quiet_want; go_big_quiet_op; go_big_quiet_on
        go_big_quiet_want; apply quiet_value; (· (intro w hw; have hl0 : w.cell? ⟨gl, k * 20, none⟩ = some (.int .i64 (q.vol : Nat)) := (hw.cell (p := ⟨gl, k * 20, none⟩) HGL.out).trans HL0.out; have hl1 : w.cell? ⟨gl, k * 20 + 1, none⟩ = some (.int .i64 q.srv) := (hw.cell (p := ⟨gl, k * 20 + 1, none⟩) HGL.out).trans HL1.out; have hlb := World.block_lt_of_cell? _ _ hl0; go_simp; try rfl)); simp only [Act.put, List.setIfInBounds_toArray, List.set_cons_succ, List.set_cons_zero]; go_big_quiet_on
        go_big_quiet_want; apply quiet_value; (· (intro w hw; have hl0 : w.cell? ⟨gl, k * 20, none⟩ = some (.int .i64 (q.vol : Nat)) := (hw.cell (p := ⟨gl, k * 20, none⟩) HGL.out).trans HL0.out; have hl1 : w.cell? ⟨gl, k * 20 + 1, none⟩ = some (.int .i64 q.srv) := (hw.cell (p := ⟨gl, k * 20 + 1, none⟩) HGL.out).trans HL1.out; have hlb := World.block_lt_of_cell? _ _ hl0; go_simp; try rfl)); simp only [Act.put, List.setIfInBounds_toArray, List.set_cons_succ, List.set_cons_zero]; go_big_quiet_on
        go_big_quiet_want; apply quiet_value; (· (intro w hw; have hl0 : w.cell? ⟨gl, k * 20, none⟩ = some (.int .i64 (q.vol : Nat)) := (hw.cell (p := ⟨gl, k * 20, none⟩) HGL.out).trans HL0.out; have hl1 : w.cell? ⟨gl, k * 20 + 1, none⟩ = some (.int .i64 q.srv) := (hw.cell (p := ⟨gl, k * 20 + 1, none⟩) HGL.out).trans HL1.out; have hlb := World.block_lt_of_cell? _ _ hl0; go_simp; try rfl)); simp only [Act.put, List.setIfInBounds_toArray, List.set_cons_succ, List.set_cons_zero]; go_big_quiet_on
        go_big_quiet_want; go_big_quiet_op; go_big_quiet_on
        go_big_quiet_want; go_big_quiet_op; go_big_quiet_on
        go_big_quiet_want; apply quiet_value; (· (intro w hw; have hv0 : w.cell? ⟨gw, k * 20, none⟩ = some (.int .i64 (q.vol : Nat)) := (hw.cell (p := ⟨gw, k * 20, none⟩) HGW.out).trans HW0.out; have hv1 : w.cell? ⟨gw, k * 20 + 1, none⟩ = some (.int .i64 q.srv) := (hw.cell (p := ⟨gw, k * 20 + 1, none⟩) HGW.out).trans HW1.out; have hvb := World.block_lt_of_cell? _ _ hv0; go_simp; try rfl)); simp only [Act.put, List.setIfInBounds_toArray, List.set_cons_succ, List.set_cons_zero]; go_big_quiet_on
        go_big_quiet_want; apply quiet_value; (· (intro w hw; have hv0 : w.cell? ⟨gw, k * 20, none⟩ = some (.int .i64 (q.vol : Nat)) := (hw.cell (p := ⟨gw, k * 20, none⟩) HGW.out).trans HW0.out; have hv1 : w.cell? ⟨gw, k * 20 + 1, none⟩ = some (.int .i64 q.srv) := (hw.cell (p := ⟨gw, k * 20 + 1, none⟩) HGW.out).trans HW1.out; have hvb := World.block_lt_of_cell? _ _ hv0; go_simp; try rfl)); simp only [Act.put, List.setIfInBounds_toArray, List.set_cons_succ, List.set_cons_zero]; go_big_quiet_on
        go_big_quiet_want; apply quiet_value; (· (intro w hw; have hv0 : w.cell? ⟨gw, k * 20, none⟩ = some (.int .i64 (q.vol : Nat)) := (hw.cell (p := ⟨gw, k * 20, none⟩) HGW.out).trans HW0.out; have hv1 : w.cell? ⟨gw, k * 20 + 1, none⟩ = some (.int .i64 q.srv) := (hw.cell (p := ⟨gw, k * 20 + 1, none⟩) HGW.out).trans HW1.out; have hvb := World.block_lt_of_cell? _ _ hv0; go_simp; try rfl)); simp only [Act.put, List.setIfInBounds_toArray, List.set_cons_succ, List.set_cons_zero]; go_big_quiet_on
        go_big_quiet_want; apply quiet_value; (· (intro w hw; go_simp; try rfl)); simp only [Act.put, List.setIfInBounds_toArray, List.set_cons_succ, List.set_cons_zero]; go_big_quiet_on
        go_big_quiet_want; go_big_quiet_op; go_big_quiet_on
        go_big_quiet_want; go_big_quiet_op; go_big_quiet_on
        go_big_quiet_want; go_big_quiet_op; go_big_quiet_on
        go_big_quiet_want; apply quiet_value; (· (intro w hw; have hl0 : w.cell? ⟨gl, k * 20, none⟩ = some (.int .i64 (q.vol : Nat)) := (hw.cell (p := ⟨gl, k * 20, none⟩) HGL.out).trans HL0.out; have hl1 : w.cell? ⟨gl, k * 20 + 1, none⟩ = some (.int .i64 q.srv) := (hw.cell (p := ⟨gl, k * 20 + 1, none⟩) HGL.out).trans HL1.out; have hlb := World.block_lt_of_cell? _ _ hl0; go_simp; try rfl)); simp only [Act.put, List.setIfInBounds_toArray, List.set_cons_succ, List.set_cons_zero]; go_big_quiet_on
        go_big_quiet_want; apply quiet_value; (· (intro w hw; have hl0 : w.cell? ⟨gl, k * 20, none⟩ = some (.int .i64 (q.vol : Nat)) := (hw.cell (p := ⟨gl, k * 20, none⟩) HGL.out).trans HL0.out; have hl1 : w.cell? ⟨gl, k * 20 + 1, none⟩ = some (.int .i64 q.srv) := (hw.cell (p := ⟨gl, k * 20 + 1, none⟩) HGL.out).trans HL1.out; have hlb := World.block_lt_of_cell? _ _ hl0; go_simp; try rfl)); simp only [Act.put, List.setIfInBounds_toArray, List.set_cons_succ, List.set_cons_zero]; go_big_quiet_on
        go_big_quiet_want; apply quiet_value; (· (intro w hw; have hl0 : w.cell? ⟨gl, k * 20, none⟩ = some (.int .i64 (q.vol : Nat)) := (hw.cell (p := ⟨gl, k * 20, none⟩) HGL.out).trans HL0.out; have hl1 : w.cell? ⟨gl, k * 20 + 1, none⟩ = some (.int .i64 q.srv) := (hw.cell (p := ⟨gl, k * 20 + 1, none⟩) HGL.out).trans HL1.out; have hlb := World.block_lt_of_cell? _ _ hl0; go_simp; try rfl)); simp only [Act.put, List.setIfInBounds_toArray, List.set_cons_succ, List.set_cons_zero]; go_big_quiet_on
        go_big_quiet_want; go_big_quiet_op; go_big_quiet_on
        go_big_quiet_want; go_big_quiet_op; go_big_quiet_on
        go_big_quiet_want; apply quiet_value; (· (intro w hw; have hv0 : w.cell? ⟨gw, k * 20, none⟩ = some (.int .i64 (q.vol : Nat)) := (hw.cell (p := ⟨gw, k * 20, none⟩) HGW.out).trans HW0.out; have hv1 : w.cell? ⟨gw, k * 20 + 1, none⟩ = some (.int .i64 q.srv) := (hw.cell (p := ⟨gw, k * 20 + 1, none⟩) HGW.out).trans HW1.out; have hvb := World.block_lt_of_cell? _ _ hv0; go_simp; try rfl)); simp only [Act.put, List.setIfInBounds_toArray, List.set_cons_succ, List.set_cons_zero]; go_big_quiet_on
        go_big_quiet_want; apply quiet_value; (· (intro w hw; have hv0 : w.cell? ⟨gw, k * 20, none⟩ = some (.int .i64 (q.vol : Nat)) := (hw.cell (p := ⟨gw, k * 20, none⟩) HGW.out).trans HW0.out; have hv1 : w.cell? ⟨gw, k * 20 + 1, none⟩ = some (.int .i64 q.srv) := (hw.cell (p := ⟨gw, k * 20 + 1, none⟩) HGW.out).trans HW1.out; have hvb := World.block_lt_of_cell? _ _ hv0; go_simp; try rfl)); simp only [Act.put, List.setIfInBounds_toArray, List.set_cons_succ, List.set_cons_zero]; go_big_quiet_on
        go_big_quiet_want; apply quiet_value; (· (intro w hw; have hv0 : w.cell? ⟨gw, k * 20, none⟩ = some (.int .i64 (q.vol : Nat)) := (hw.cell (p := ⟨gw, k * 20, none⟩) HGW.out).trans HW0.out; have hv1 : w.cell? ⟨gw, k * 20 + 1, none⟩ = some (.int .i64 q.srv) := (hw.cell (p := ⟨gw, k * 20 + 1, none⟩) HGW.out).trans HW1.out; have hvb := World.block_lt_of_cell? _ _ hv0; go_simp; try rfl)); simp only [Act.put, List.setIfInBounds_toArray, List.set_cons_succ, List.set_cons_zero]; go_big_quiet_on
        go_big_quiet_want; apply quiet_value; (· (intro w hw; go_simp; try rfl)); simp only [Act.put, List.setIfInBounds_toArray, List.set_cons_succ, List.set_cons_zero]; go_big_quiet_on
        go_big_quiet_want; apply quiet_value; (· (intro w hw; go_simp; try rfl)); simp only [Act.put, List.setIfInBounds_toArray, List.set_cons_succ, List.set_cons_zero]; go_big_quiet_on
        go_big_quiet_want; go_big_quiet_op; go_big_quiet_on
        go_big_quiet_want; go_big_quiet_op; go_big_quiet_on
        go_big_quiet_want; go_big_quiet_op; go_big_quiet_on
        go_big_quiet_want; apply quiet_value; (· (intro w hw; have hl0 : w.cell? ⟨gl, k * 20, none⟩ = some (.int .i64 (q.vol : Nat)) := (hw.cell (p := ⟨gl, k * 20, none⟩) HGL.out).trans HL0.out; have hl1 : w.cell? ⟨gl, k * 20 + 1, none⟩ = some (.int .i64 q.srv) := (hw.cell (p := ⟨gl, k * 20 + 1, none⟩) HGL.out).trans HL1.out; have hlb := World.block_lt_of_cell? _ _ hl0; go_simp; try rfl)); simp only [Act.put, List.setIfInBounds_toArray, List.set_cons_succ, List.set_cons_zero]; go_big_quiet_on
        go_big_quiet_want; apply quiet_value; (· (intro w hw; have hl0 : w.cell? ⟨gl, k * 20, none⟩ = some (.int .i64 (q.vol : Nat)) := (hw.cell (p := ⟨gl, k * 20, none⟩) HGL.out).trans HL0.out; have hl1 : w.cell? ⟨gl, k * 20 + 1, none⟩ = some (.int .i64 q.srv) := (hw.cell (p := ⟨gl, k * 20 + 1, none⟩) HGL.out).trans HL1.out; have hlb := World.block_lt_of_cell? _ _ hl0; go_simp; try rfl)); simp only [Act.put, List.setIfInBounds_toArray, List.set_cons_succ, List.set_cons_zero]; go_big_quiet_on
        go_big_quiet_want; apply quiet_value; (· (intro w hw; refine load_range_val 52 (.tmp 158) ?_ gl (k * 20 + 2) ?_ [.int .i64 q.c.cl, .int .i64 q.c.nu, .int .i64 q.c.kd, .int .i64 q.c.h1, .int .i64 q.c.h2, .int .i64 q.c.g1, .int .i64 q.c.g2, .string q.c.nm, .string q.c.ot, .int .i64 q.c.m1, .int .i64 q.c.m2, .int .i64 q.c.m3, .string q.c.mt, .bool q.c.fo, .int .i64 q.c.aa, .int .i64 q.c.nn, .int .i64 q.c.tt, .string q.c.bb] (fun j u hj => (hw.cell (p := ⟨gl, k * 20 + 2 + j, none⟩) HGL.out).trans (HLR.out j u hj)) Try.underlying52 rfl (by kernel_rfl) <;> rfl)); simp only [Act.put, List.setIfInBounds_toArray, List.set_cons_succ, List.set_cons_zero]; go_big_quiet_on
        go_big_quiet_want; go_big_quiet_op; go_big_quiet_on
        go_big_quiet_want; go_big_quiet_op; go_big_quiet_on
        go_big_quiet_want; apply quiet_value; (· (intro w hw; have hv0 : w.cell? ⟨gw, k * 20, none⟩ = some (.int .i64 (q.vol : Nat)) := (hw.cell (p := ⟨gw, k * 20, none⟩) HGW.out).trans HW0.out; have hv1 : w.cell? ⟨gw, k * 20 + 1, none⟩ = some (.int .i64 q.srv) := (hw.cell (p := ⟨gw, k * 20 + 1, none⟩) HGW.out).trans HW1.out; have hvb := World.block_lt_of_cell? _ _ hv0; go_simp; try rfl)); simp only [Act.put, List.setIfInBounds_toArray, List.set_cons_succ, List.set_cons_zero]; go_big_quiet_on
        go_big_quiet_want; apply quiet_value; (· (intro w hw; have hv0 : w.cell? ⟨gw, k * 20, none⟩ = some (.int .i64 (q.vol : Nat)) := (hw.cell (p := ⟨gw, k * 20, none⟩) HGW.out).trans HW0.out; have hv1 : w.cell? ⟨gw, k * 20 + 1, none⟩ = some (.int .i64 q.srv) := (hw.cell (p := ⟨gw, k * 20 + 1, none⟩) HGW.out).trans HW1.out; have hvb := World.block_lt_of_cell? _ _ hv0; go_simp; try rfl)); simp only [Act.put, List.setIfInBounds_toArray, List.set_cons_succ, List.set_cons_zero]; go_big_quiet_on
        go_big_quiet_want; apply quiet_value; (· (intro w hw; refine load_range_val 36 (.tmp 163) ?_ gw (k * 20 + 2) ?_ [.int .i64 q.c.cl, .int .i64 q.c.nu, .int .i64 q.c.kd, .int .i64 q.c.h1, .int .i64 q.c.h2, .int .i64 q.c.g1, .int .i64 q.c.g2, .string q.c.nm, .string q.c.ot, .int .i64 q.c.m1, .int .i64 q.c.m2, .int .i64 q.c.m3, .string q.c.mt, .bool q.c.fo, .int .i64 q.c.aa, .int .i64 q.c.nn, .int .i64 q.c.tt, .string q.c.bb] (fun j u hj => (hw.cell (p := ⟨gw, k * 20 + 2 + j, none⟩) HGW.out).trans (HWR.out j u hj)) Try.underlying36 rfl (by kernel_rfl) <;> rfl)); simp only [Act.put, List.setIfInBounds_toArray, List.set_cons_succ, List.set_cons_zero]; go_big_quiet_on
        go_big_quiet_want; apply quiet_call (f := 12) (v := .agg (cc q.c)); (· (intro w hw; go_simp; try rfl)); (· (intro w1 b1; exact in_below (own_any q.c) b1 (Nat.le_refl _))); simp only [Act.put, List.setIfInBounds_toArray, List.set_cons_succ, List.set_cons_zero]; go_big_quiet_on
        go_big_quiet_want; apply quiet_value (v := .bool false); (· (intro w hw; go_simp; try rfl)); simp only [Act.put, List.setIfInBounds_toArray, List.set_cons_succ, List.set_cons_zero]; go_big_quiet_on
        go_big_quiet_want; apply quiet_value; (· (intro w hw; go_simp; try rfl)); simp only [Act.put, List.setIfInBounds_toArray, List.set_cons_succ, List.set_cons_zero]; go_big_quiet_on
        refine wpQuiet_nil ?_
        intro w11 b11
        have HBX := Lib.hid (HBR.out.trans (b11.mono HBR.out.size))
        clear b11
        go_wp2_with fail
        go_roundw
        case rel => exact ⟨k + 1, by omega, by go_num, HBX.out⟩
        case measure => simp [intOf]; omega
      · rw [HB0.out]
        have hP11 := HP10.out.below HBR.out
        have hR11 := HR10.out.below HBR.out
        have HP11 := Lib.hid hP11
        have HR11 := Lib.hid hR11
        have hzl := hP11.z.lt
        have HONE := Lib.hid (one_rcs hR11.r p1 z1)
        have HPA := Lib.hid hP11.a
        clear hP11 hR11 HP10 HR10
        go_wp2_with (first | (refine wpList_load_box rfl 46 (.tmp 4) rfl _ 0 rfl HPA.out (rcs (outS s1) V2 p1 z1).toList (by kernel_rfl) Try.underlying46 rfl (by kernel_rfl) ?_) | (refine wpList_store_box rfl 46 (.tmp 6) (.tmp 170) rfl rfl _ 0 rfl (rcs (outS s1) V2 p1 z1).toList rfl HP11.out.z (rcs (outS s1) V2 p1 z1) (by kernel_rfl) (by kernel_rfl) (by kernel_rfl) HONE.out ?_))
        refine ret_ct Try.results23 rfl rfl rfl ((HP11.out.z.setRow _).load Try.underlying46 rfl (by kernel_rfl)) ?_
        rw [← HS1.out]
        have hp2 : phS (outS s1) = p1 := HP1.out.symm
        have hBF : Below Wb.heap.size Wb (wr.setRow (w.heap.size + 1 + 1) (rcs (outS s1) V2 p1 z1)) := Below.setRow HP11.out.bel (g := w.heap.size + 1 + 1) (by omega) _
        refine ⟨{ U1 with o := .slice none 0 0 }, V2, z1, by rw [hp2]; rfl, HZ1.out, HP11.out.p.stays fun k hk ho => Go.setRow_other _ _ _ _ (by rintro rfl; exact HP11.out.p.notBox HP11.out.z (by decide) (by decide) (by decide) (by decide) ho), HR11.out.row HP11.out.bel HP11.out.z (by omega) (by decide) (by decide) _, ?_, hBF⟩
        exact ⟨HP11.out.g.touch.setRow (.inr (by omega)) _, HP11.out.g.lies⟩
end Go.Proofs.Ytlkilkndjfcejaa

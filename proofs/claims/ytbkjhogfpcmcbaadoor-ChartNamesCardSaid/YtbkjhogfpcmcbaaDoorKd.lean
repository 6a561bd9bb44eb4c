/- chart: which mount lies deepest, a path's names. Conditions: the mounts lie in memory; texts have at most 4194304 bytes. -/
import Derived.Test.YtbkjhogfpcmcbaaDoorKc
import Derived.Test.YtbkjhogfpcmcbaaDoorBig
import Derived.Test.YtbkjhogfpcmcbaaDoorKa
namespace Go.Proofs.YtbkjhogfpcmcbaaDoor
open Go Go.RowKit Zn
set_option linter.unusedVariables false
set_option linter.unusedSimpArgs false
variable {w w' : World}
def mv (x : Mt) : Value := .agg #[.string x.p, .int .i64 x.v]
/-- how many names a mount's path has. -/
def dN (x : Mt) : Int := depthZ x.p.data.toList
theorem fd2_any (x y : Mt) (w : World) (hx : x.p.size ≤ 4194304) (hy : y.p.size ≤ 4194304) (hm : Mx w) :
    Calls Tryd.prog 50 #[mv x, mv y] w fun e w' => e = .returned (.int .i64 (Lib.compareInt (dN x) (dN y))) ∧ Below w.heap.size w w' := by
  have B1 := (Box.new w 53 #[.string x.p, .int .i64 x.v]).alloc (.cells #[.string y.p, .int .i64 y.v] 53)
  have B2 := Box.new (w.alloc (.cells #[.string x.p, .int .i64 x.v] 53)) 53 #[.string y.p, .int .i64 y.v]
  have hb : Below w.heap.size w ((w.alloc (.cells #[.string x.p, .int .i64 x.v] 53)).alloc (.cells #[.string y.p, .int .i64 y.v] 53)) := ((Below.refl _ w).alloc (Nat.le_refl _) _).alloc (by simp) _
  have hsz : ((w.alloc (.cells #[.string x.p, .int .i64 x.v] 53)).alloc (.cells #[.string y.p, .int .i64 y.v] 53)).heap.size = w.heap.size + 1 + 1 := by simp
  have hm2 := hm.below hb
  simp only [World.size_alloc] at B2
  unfold mv
  go_enter Tryd.func50, Tryd.ntmps50
  go_wp2_with fail
  generalize (w.alloc (.cells #[.string x.p, .int .i64 x.v] 53)).alloc (.cells #[.string y.p, .int .i64 y.v] 53) = W at hb B1 B2 hsz hm2 ⊢
  generalize hn : w.heap.size = n at hb B1 B2 hsz ⊢
  have c0 : W.cell? ⟨n, 0, none⟩ = some (.string x.p) := B1.cell 0
  have d0 : W.cell? ⟨n + 1, 0, none⟩ = some (.string y.p) := B2.cell 0
  have HM := Lib.hid hm2
  have HB := Lib.hid hb
  clear hb hm hm2 B1 B2
  refine wp_region_below (w0 := W) (B := W.heap.size) (by kernel_rfl) (by kernel_rfl) (Below.refl _ _) ?_
  go_big_quiet_want; apply quiet_value; (· (intro w hw; go_simp; try rfl)); simp only [Act.put, List.setIfInBounds_toArray, List.set_cons_succ, List.set_cons_zero]; go_big_quiet_on
  go_big_quiet_want; apply quiet_value; (· (intro w hw; have c := (hw.cell (p := ⟨n, 0, none⟩) (by show n < W.heap.size; omega)).trans c0; go_simp; try rfl)); simp only [Act.put, List.setIfInBounds_toArray, List.set_cons_succ, List.set_cons_zero]; go_big_quiet_on
  go_big_quiet_want; apply quiet_call (f := 52); (· (intro w hw; go_simp; try rfl)); (· (intro w1 b1; exact in_below (depth_any x.p w1 hx (HM.out.below b1)) b1 (Nat.le_refl _))); simp only [Act.put, List.setIfInBounds_toArray, List.set_cons_succ, List.set_cons_zero]; go_big_quiet_on
  go_big_quiet_want; apply quiet_value; (· (intro w hw; go_simp; try rfl)); simp only [Act.put, List.setIfInBounds_toArray, List.set_cons_succ, List.set_cons_zero]; go_big_quiet_on
  go_big_quiet_want; apply quiet_value; (· (intro w hw; have c := (hw.cell (p := ⟨n + 1, 0, none⟩) (by show n + 1 < W.heap.size; omega)).trans d0; go_simp; try rfl)); simp only [Act.put, List.setIfInBounds_toArray, List.set_cons_succ, List.set_cons_zero]; go_big_quiet_on
  go_big_quiet_want; apply quiet_call (f := 52); (· (intro w hw; go_simp; try rfl)); (· (intro w1 b1; exact in_below (depth_any y.p w1 hy (HM.out.below b1)) b1 (Nat.le_refl _))); simp only [Act.put, List.setIfInBounds_toArray, List.set_cons_succ, List.set_cons_zero]; go_big_quiet_on
  go_big_quiet_want; apply quiet_call (f := 51); (· (intro w hw; go_simp; try rfl)); (· (intro w1 b1; exact in_below ((Tryd.cmp_Compare_int (dN x) (dN y) w1).mono fun e w2 h => ⟨h.1, h.2 ▸ Below.refl _ _⟩) b1 (Nat.le_refl _))); simp only [Act.put, List.setIfInBounds_toArray, List.set_cons_succ, List.set_cons_zero]; go_big_quiet_on
  go_big_quiet_want; go_big_quiet_op; go_big_quiet_on
  refine wpQuiet_nil ?_
  intro w2 b2
  have HB2 := Lib.hid (HB.out.trans (b2.mono (by omega)))
  clear b2
  go_wp2_with fail
  go_ret
  exact ⟨rfl, by rw [hn]; exact HB2.out⟩
/-- the first one of those that lie deepest. -/
def bestM (x : Mt) (l : List Mt) : Mt := l.foldl (fun m y => if dN m < dN y then y else m) x
theorem bestM_snoc (x : Mt) (l : List Mt) (y : Mt) : bestM x (l ++ [y]) = if dN (bestM x l) < dN y then y else bestM x l := by unfold bestM; rw [List.foldl_append]; rfl
theorem bestM_mem (x : Mt) (l : List Mt) : bestM x l ∈ x :: l := by
  unfold bestM
  induction l generalizing x with
  | nil => simp
  | cons y l ih =>
    simp only [List.foldl_cons]
    have := ih (if dN x < dN y then y else x)
    split at this
    · rw [if_pos (by assumption)]; exact List.mem_cons_of_mem _ this
    · rw [if_neg (by assumption)]
      rcases List.mem_cons.1 this with h | h
      · rw [h]; exact List.mem_cons_self
      · exact List.mem_cons_of_mem _ (List.mem_cons_of_mem _ h)
theorem cmp_pos (a b : Int) : 0 < Lib.compareInt a b ↔ b < a := by
  unfold Lib.compareInt; split
  · omega
  · split <;> omega
def mc2 (x : Mt) : Array Value := #[.string x.p, .int .i64 x.v]
set_option maxHeartbeats 2000000 in
theorem max_any (a : Option Addr) (len cap : Nat) (ms : List Mt) (h : MsAt w a len ms) (hs : ∀ x ∈ ms, x.p.size ≤ 4194304) (hm : Mx w) (hl : len ≤ 1000000) (x : Mt) (l : List Mt) (he : ms = x :: l) :
    Calls Tryd.prog 49 #[.slice a len cap, .func (.func 50) #[] #[]] w fun e w' => e = .returned (mv (bestM x l)) ∧ Below w.heap.size w w' := by
  have h0 : 0 < len := by rw [← h.len, he]; simp
  have H := Lib.hid h
  have HL := Lib.hid (show l.length + 1 = len by rw [← h.len, he]; rfl)
  have HGE := Lib.hid (show ∀ k, ms[k + 1]? = l[k]? by intro k; rw [he]; rfl)
  obtain ⟨b, off, x', rfl, hp, hbl, c0, c1⟩ := h.get 0 h0
  obtain rfl : x = x' := by rw [he] at hp; simpa using hp
  simp only [Nat.zero_mul, Nat.add_zero, Nat.zero_add] at c0 c1
  have B1 := (Box.new w 53 #[.string ⟨#[]⟩, .int .i64 0]).alloc (.cells (mc2 x) 53)
  have B2 := Box.new (w.alloc (.cells #[.string ⟨#[]⟩, .int .i64 0] 53)) 53 (mc2 x)
  have hb : Below w.heap.size w ((w.alloc (.cells #[.string ⟨#[]⟩, .int .i64 0] 53)).alloc (.cells (mc2 x) 53)) := ((Below.refl _ w).alloc (Nat.le_refl _) _).alloc (by simp) _
  have hm2 := hm.below hb
  have HS := Lib.hid hs
  have HX := Lib.hid (HS.out x (List.mem_of_getElem? hp))
  simp only [World.size_alloc] at B2
  have HB := Lib.hid hb
  have HM := Lib.hid hm2
  have HB1 := Lib.hid B1
  have HB2 := Lib.hid B2
  have hsz : ((w.alloc (.cells #[.string ⟨#[]⟩, .int .i64 0] 53)).alloc (.cells (mc2 x) 53)).heap.size = w.heap.size + 1 + 1 := by simp
  have HSZ := Lib.hid hsz
  have q0 : ¬ (len : Int) < 1 := by omega
  clear h he hs hp hb hm2 hm B1 B2 hsz
  go_enter Tryd.func49, Tryd.ntmps49
  go_wp2_with fail
  have hb := HB.out
  have hm2 := HM.out
  have B1 := HB1.out
  have B2 := HB2.out
  have hsz := HSZ.out
  clear HB HM HB1 HB2 HSZ
  unfold mc2 at hb hm2 B1 B2 hsz
  have HH := Lib.hid (H.out.below hb (Nat.le_refl _))
  have hbl : b < w.heap.size := hbl
  generalize (w.alloc (.cells #[.string ⟨#[]⟩, .int .i64 0] 53)).alloc (.cells #[.string x.p, .int .i64 x.v] 53) = W at hb B1 B2 hm2 hsz HH ⊢
  have HB := Lib.hid hb
  have HM := Lib.hid hm2
  generalize hn : w.heap.size = n at hsz B1 B2 hbl ⊢
  clear hb hm2 c0 c1
  have HB1 := Lib.hid B1
  have HB2 := Lib.hid B2
  clear B1 B2
  go_loopw [6] (fun i wr => ∃ k : Nat, k + 1 ≤ len ∧ i = .int .i64 ((k : Int) + 1) ∧ Below n W wr ∧ Box wr n 53 #[.string ⟨#[]⟩, .int .i64 0] ∧ Box wr (n + 1) 53 (mc2 (bestM x (l.take k)))) (fun i _ => len - (intOf i).toNat)
  case atStart => exact ⟨0, by omega, rfl, Below.refl _ _, HB1.out, HB2.out⟩
  case round =>
    obtain ⟨k, hk, rfl, hb, hz, hm⟩ := hrel
    have HBW := Lib.hid hb
    have HZ := Lib.hid hz
    have HBX := Lib.hid hm
    have hsw : n + 1 + 1 ≤ wr.heap.size := by have := hb.size; omega
    by_cases hlt : k + 1 < len
    · have q1 : (k : Int) + 1 < (len : Int) := by omega
      obtain ⟨b', off', y, e1, hp, hbl', c0, c1⟩ := HH.out.get (k + 1) hlt
      injection e1 with e1
      injection e1 with e11 e12
      subst e11 e12
      have HP := Lib.hid (show l[k]? = some y by rw [← HGE.out]; exact hp)
      have HY := Lib.hid (HS.out y (List.mem_of_getElem? hp))
      have c0 := (hb.cell (p := ⟨b, off + (k + 1) * 2, none⟩) hbl).trans c0
      have c1 := (hb.cell (p := ⟨b, off + (k + 1) * 2 + 1, none⟩) hbl).trans c1
      have hbw : b < wr.heap.size := by omega
      have ht1 : ((k : Int) + 1).toNat = k + 1 := by omega
      obtain ⟨m, hmm⟩ : ∃ m, m = bestM x (l.take k) := ⟨_, rfl⟩
      have HSM := Lib.hid (show m.p.size ≤ 4194304 by
        rw [hmm]
        rcases List.mem_cons.1 (bestM_mem x (l.take k)) with h | h
        · rw [h]; exact HX.out
        · have h := List.mem_of_mem_take h
          obtain ⟨j, hj, h⟩ := List.getElem_of_mem h
          exact HS.out _ (List.mem_of_getElem? (i := j + 1) (by rw [HGE.out, List.getElem?_eq_getElem hj, h])))
      have HNX := Lib.hid (show bestM x (l.take (k + 1)) = if dN m < dN y then y else m by
        rw [List.take_add_one, HP.out, hmm]; exact bestM_snoc _ _ _)
      rw [← hmm] at hm
      have d0 : wr.cell? ⟨n + 1, 0, none⟩ = some (.string m.p) := hm.cell 0
      have d1 : wr.cell? ⟨n + 1, 1, none⟩ = some (.int .i64 m.v) := hm.cell 1
      have HBX := Lib.hid hm
      have HMW := Lib.hid (show Mx wr by
        obtain ⟨q, hq⟩ := HM.out
        exact ⟨q, (hb.cell (p := ⟨0, 0, none⟩) (by show 0 < n; omega)).trans hq⟩)
      clear hm hb hz hp hmm
      go_wp2_with fail
      refine wp_region_below (w0 := wr) (B := wr.heap.size) (by kernel_rfl) (by kernel_rfl) (Below.refl _ _) ?_
      go_big_quiet_want; go_big_quiet_op; go_big_quiet_on
      go_big_quiet_want; go_big_quiet_op; go_big_quiet_on
      go_big_quiet_want; go_big_quiet_op; go_big_quiet_on
      go_big_quiet_want; apply quiet_value; (· (intro w hw; go_simp; try rfl)); simp only [Act.put, List.setIfInBounds_toArray, List.set_cons_succ, List.set_cons_zero]; go_big_quiet_on
      go_big_quiet_want; apply quiet_value (v := mv y); (· (intro w hw; have c0 := (hw.cell (p := ⟨b, off + (k + 1) * 2, none⟩) (by show b < wr.heap.size; omega)).trans c0; have c1 := (hw.cell (p := ⟨b, off + (k + 1) * 2 + 1, none⟩) (by show b < wr.heap.size; omega)).trans c1; go_simp; try rfl)); simp only [Act.put, List.setIfInBounds_toArray, List.set_cons_succ, List.set_cons_zero]; go_big_quiet_on
      go_big_quiet_want; apply quiet_value (v := mv m); (· (intro w hw; have d0 := (hw.cell (p := ⟨n + 1, 0, none⟩) (by show n + 1 < wr.heap.size; omega)).trans d0; have d1 := (hw.cell (p := ⟨n + 1, 1, none⟩) (by show n + 1 < wr.heap.size; omega)).trans d1; go_simp; try rfl)); simp only [Act.put, List.setIfInBounds_toArray, List.set_cons_succ, List.set_cons_zero]; go_big_quiet_on
      go_big_quiet_want; apply quiet_call (f := 50) (v := .int .i64 (Lib.compareInt (dN y) (dN m))); (· (intro w hw; go_simp; try rfl)); (· (intro w1 b1; exact in_below (fd2_any y m w1 HY.out HSM.out (HMW.out.below b1)) b1 (Nat.le_refl _))); simp only [Act.put, List.setIfInBounds_toArray, List.set_cons_succ, List.set_cons_zero]; go_big_quiet_on
      go_big_quiet_want; apply quiet_value (v := .bool (decide (0 < Lib.compareInt (dN y) (dN m)))); (· (intro w hw; go_simp; try rfl)); simp only [Act.put, List.setIfInBounds_toArray, List.set_cons_succ, List.set_cons_zero]; go_big_quiet_on
      refine wpQuiet_nil ?_
      intro w2 b2
      have hsw2 := b2.size
      have c0 := (b2.cell (p := ⟨b, off + (k + 1) * 2, none⟩) hbw).trans c0
      have c1 := (b2.cell (p := ⟨b, off + (k + 1) * 2 + 1, none⟩) hbw).trans c1
      have HB2 := Lib.hid (HBW.out.trans (b2.mono (by omega)))
      have bz := HZ.out.below b2 (by omega)
      have bx := HBX.out.below b2 (by omega)
      have HZ2 := Lib.hid bz
      have HX2 := Lib.hid bx
      have hbw2 : b < w2.heap.size := by omega
      have hnw2 : n + 1 < w2.heap.size := by omega
      have f0 := bx.frozen 0
      have f1 := bx.frozen 1
      have g1 : w2.cell? ⟨n + 1, 1, none⟩ = some (.int .i64 m.v) := bx.cell 1
      have g0 : w2.cell? ⟨n + 1, 0, none⟩ = some (.string m.p) := bx.cell 0
      clear b2 bz bx d0 d1
      by_cases hlt3 : dN m < dN y
      · have hc := (cmp_pos (dN y) (dN m)).2 hlt3
        have HNX := Lib.hid (show bestM x (l.take (k + 1)) = y by rw [HNX.out, if_pos hlt3])
        have HS2 := Lib.hid (Box.set (Box.set HX2.out 0 (.string y.p)) 1 (.int .i64 y.v))
        have HSZ2 := Lib.hid ((HZ2.out.set_other (p := ⟨n + 1, 0, none⟩) (by show n ≠ n + 1; omega) (.string y.p)).set_other (p := ⟨n + 1, 1, none⟩) (by show n ≠ n + 1; omega) (.int .i64 y.v))
        have HSB := Lib.hid ((HB2.out.setCell (p := ⟨n + 1, 0, none⟩) (by show n ≤ n + 1; omega) (.string y.p)).setCell (p := ⟨n + 1, 1, none⟩) (by show n ≤ n + 1; omega) (.int .i64 y.v))
        go_wp2_with fail
        go_roundw
        case rel => exact ⟨k + 1, by omega, by go_num, HSB.out, HSZ2.out, by rw [HNX.out]; exact HS2.out⟩
        case measure => simp [intOf]; omega
      · have hc : ¬ 0 < Lib.compareInt (dN y) (dN m) := fun h => hlt3 ((cmp_pos _ _).1 h)
        have HNX := Lib.hid (show bestM x (l.take (k + 1)) = m by rw [HNX.out, if_neg hlt3])
        go_wp2_with fail
        go_roundw
        case rel => exact ⟨k + 1, by omega, by go_num, HB2.out, HZ2.out, by rw [HNX.out]; exact HX2.out⟩
        case measure => simp [intOf]; omega
    · have q1 : ¬ (k : Int) + 1 < (len : Int) := by omega
      have hkl : k = l.length := by have := HL.out; omega
      have HTK := Lib.hid (show l.take k = l by rw [hkl]; exact List.take_length)
      rw [HTK.out] at hm
      obtain ⟨m, hmm⟩ : ∃ m, m = bestM x l := ⟨_, rfl⟩
      rw [← hmm] at hm
      have HMM := Lib.hid hmm
      have d0 : wr.cell? ⟨n + 1, 0, none⟩ = some (.string m.p) := hm.cell 0
      have d1 : wr.cell? ⟨n + 1, 1, none⟩ = some (.int .i64 m.v) := hm.cell 1
      have e0 : wr.cell? ⟨n, 0, none⟩ = some (.string ⟨#[]⟩) := hz.cell 0
      have e1 : wr.cell? ⟨n, 1, none⟩ = some (.int .i64 0) := hz.cell 1
      have f0 := hz.frozen 0
      have f1 := hz.frozen 1
      have hnw2 : n < wr.heap.size := by omega
      have hnw3 : n + 1 < wr.heap.size := by omega
      have HS2 := Lib.hid (Box.set (Box.set HZ.out 0 (.string m.p)) 1 (.int .i64 m.v))
      have HSB := Lib.hid ((HBW.out.setCell (p := ⟨n, 0, none⟩) (Nat.le_refl _) (.string m.p)).setCell (p := ⟨n, 1, none⟩) (Nat.le_refl _) (.int .i64 m.v))
      clear hm hz hb hmm HBX
      go_wp2_with fail
      refine ret_c (t := 4) (b := n) (T := 53) (cs := mc2 m) (by kernel_rfl) rfl rfl (HS2.out.load Tryd.underlying53 rfl (by kernel_rfl)) ?_
      rw [← HMM.out]
      exact ⟨rfl, by subst hn; exact HB.out.trans HSB.out⟩
theorem names_slash : namesO [47] = some [] := rfl
theorem cnames_any (s : ByteArray) (w : World) (hs : s.size ≤ 4194304) (hm : Mx w) (L : List Nm) (hL : namesO s.data.toList = some L) :
    Calls Tryd.prog 53 #[.string s] w fun e w' => ∃ ad c, e = .returned (.slice ad L.length c) ∧ L.length ≤ c ∧ Strs w' ad L ∧ Below w.heap.size w w' := by
  by_cases h0 : s.data.toList = [47]
  · have hE : L = [] := by rw [h0, names_slash] at hL; exact (Option.some.inj hL).symm
    have h0' : (s.toList == [47]) = true := by rw [Lib.toList_data, h0]; rfl
    subst hE
    clear h0 hL hm
    go_enter Tryd.func53, Tryd.ntmps53
    go_wp2_with fail
    go_ret
    exact ⟨_, _, rfl, Nat.le_refl _, .inl rfl, Below.refl _ _⟩
  · have h0' : (s.toList == [47]) = false := by rw [Lib.toList_data]; simpa using h0
    obtain ⟨t, ht⟩ : ∃ t, s.data.toList = 47 :: t := by
      cases hl : s.data.toList with
      | nil => rw [hl] at hL; cases hL
      | cons d t =>
        rw [hl] at hL h0
        unfold namesO at hL
        rw [if_neg h0] at hL
        simp only at hL
        split at hL
        · rename_i h; exact ⟨t, by rw [h.1]⟩
        · cases hL
    have hLs : splitS t = L := by
      rw [ht] at hL h0
      unfold namesO at hL
      rw [if_neg h0] at hL
      simp only at hL
      split at hL
      · exact Option.some.inj hL
      · cases hL
    have hsz : s.size = t.length + 1 := by rw [Lib.size_eq, ht]; rfl
    have hx : (s.extract 1 s.size).data.toList = t := by rw [Lib.extract_data, ht, List.drop_one, List.tail_cons, hsz, Nat.add_sub_cancel, List.take_length]
    have C := split_any (s.extract 1 s.size) w (by rw [Lib.size_eq, hx]; omega) hm
    rw [hx, hLs] at C
    unfold slash at C
    have C := Lib.hid C
    have h1 : 1 ≤ s.size := by omega
    clear h0 hL hm ht hx hsz
    go_enter Tryd.func53, Tryd.ntmps53
    go_wp2_with fail
    refine C.out.mono ?_
    rintro e w1 ⟨g, rfl, hS, b1⟩
    have HS := Lib.hid hS
    have HB := Lib.hid b1
    clear b1 hS C
    go_wp2_with fail
    go_ret
    exact ⟨_, _, rfl, Nat.le_refl _, HS.out, HB.out⟩
end Go.Proofs.YtbkjhogfpcmcbaaDoor

/- ledger: opened; opened anew; alive. Conditions: as in each statement. -/
import Derived.Test.YtdiboicllolcnaaLx
namespace Go.Proofs.Ytdiboicllolcnaa
open Go Go.RowKit
set_option linter.unusedVariables false
set_option linter.unusedSimpArgs false
variable {w w' : World} {base n nd b0 : Nat} {V V' : Vl} {VD VD' : Vs} {D D' : Dk} {G G' : Lg}
theorem newD_is (c : Nat) (hc : c ≤ 65536) : newD (c : Int) = { now := List.replicate c zsec, firm := List.replicate c zsec, wait := [], armed := 0, dead := false } := by
  unfold newD
  have e : (min (max (c : Int) 0) 65536).toNat = c := by omega
  rw [e]
theorem RInv.snow {f M : Nat} {allF : List ByteArray} (h : RInv D G f M allF) : SInv D.now f M G.mark G.half (encL allF) := by
  rw [h.ok.good.is]
  exact h.firm.laid _ h.wait
/-- opened anew. -/
theorem reopen_any {f M m half : Nat} {all : List ByteArray} (h : Dsk w base nd VD D) (hb : base ≤ w.heap.size) (hg : Good D) (hd : D.dead = false) (hw : D.wait = []) (hS : SInv D.now f M m half (encL all)) (hs : longB all = false) (hm : m < 4294967296) :
    Calls Try.prog 17 #[.pointer (some ⟨nd, 0, none⟩), .int .i64 (f : Nat), .int .i64 (M : Nat)] w fun e w' => ∃ n V, e = .returned (.tuple #[.pointer (some ⟨n, 0, none⟩), .int .i64 0]) ∧ Ldg w' base n nd V VD D (openedG f M m half all) ∧ Below w.heap.size w w' ∧ w.heap.size ≤ n ∧ (∀ k, OfL n nd V VD k → Of nd VD k ∨ w.heap.size ≤ k) ∧ RInv D (openedG f M m half all) f M all := by
  obtain ⟨h1, h2⟩ := rinv_open hg hd hw hS hs hm
  have ht : thereM D (f : Int) (M : Int) = true := by
    have := hS.len
    have := hS.four
    unfold thereM
    simp only [Bool.and_eq_true, decide_eq_true_eq]
    omega
  refine (open_any (f : Int) (M : Int) h hb hg).mono ?_
  rintro e w1 ⟨b1, hP⟩
  rcases hP with ⟨hD, _⟩ | ⟨_, hT, _⟩ | ⟨_, _, hO, _⟩ | ⟨n, V, G, _, _, hO, he, hL, hn, hk⟩
  · rw [hd] at hD; cases hD
  · rw [ht] at hT; cases hT
  · rw [Int.toNat_natCast, Int.toNat_natCast, h1] at hO; cases hO
  · rw [Int.toNat_natCast, Int.toNat_natCast, h1] at hO
    obtain rfl := Option.some.inj hO
    exact ⟨n, V, he, hL, b1, hn, hk, h2⟩
/-- a new disk, a ledger on it. -/
def Opd (w : World) (M f c : Nat) (e : Ending) (w' : World) : Prop :=
  ∃ nd VD n V, e = .returned (.tuple #[.pointer (some ⟨nd, 0, none⟩), .pointer (some ⟨n, 0, none⟩)]) ∧ Ldg w' w.heap.size n nd V VD (newD (c : Int)) (openedG f M 0 0 []) ∧ RInv (newD (c : Int)) (openedG f M 0 0 []) f M [] ∧ Below w.heap.size w w'
set_option maxHeartbeats 1000000 in
theorem opened_any (M : Nat) (h4 : 4 ≤ M) (hM : M ≤ 2000) : Calls Try.prog 11 #[.int .i64 (M : Nat)] w (Opd w M 2 (M + 4)) := by
  have C1 := Lib.hid (new_any (w := w) ((M + 4 : Nat) : Int))
  have e4 : ((M + 4 : Nat) : Int) = (M : Int) + 4 := by omega
  have HD := newD_is (M + 4) (by omega)
  have HS : SInv (newD ((M + 4 : Nat) : Int)).now 2 M 0 0 (encL []) := by rw [HD]; exact sinv_new _ _ _ h4 (by omega) (by omega)
  have HW : (newD ((M + 4 : Nat) : Int)).wait = [] := by rw [HD]
  have HDD : (newD ((M + 4 : Nat) : Int)).dead = false := by rw [HD]
  have HG := good_new ((M + 4 : Nat) : Int)
  clear HD
  unfold Opd
  rw [e4] at C1 HS HW HDD HG ⊢
  have HP := Lib.hid (And.intro HS (And.intro HW (And.intro HDD HG)))
  clear HS HW HDD HG e4
  go_enter Try.func11, Try.ntmps11
  go_wp2_with fail
  refine C1.out.mono ?_
  rintro e w1 ⟨nd, VD, rfl, hD, b1⟩
  have C2 := Lib.hid (reopen_any (w := w1) (f := 2) (M := M) (m := 0) (half := 0) (all := []) hD b1.size HP.out.2.2.2 HP.out.2.2.1 HP.out.2.1 HP.out.1 rfl (by omega))
  have HB1 := Lib.hid b1
  clear hD b1 C1
  go_wp2_with fail
  refine C2.out.mono ?_
  rintro e w2 ⟨n, V, rfl, hL, b2, hn, hk, hR⟩
  have HL := Lib.hid hL
  have HR := Lib.hid hR
  have HB2 := Lib.hid (HB1.out.trans (b2.mono HB1.out.size))
  clear hL hR b2 hn hk C2
  go_wp2_with fail
  exact ret_two rfl rfl rfl rfl ⟨nd, VD, n, V, rfl, HL.out, HR.out, HB2.out⟩
/-! alive -/
theorem txs_tv {v : Value} {xs : List ByteArray} (h : Tv w v xs) : ∃ ad cap, v = .slice ad xs.length cap ∧ Txs w ad xs.length xs := by
  obtain ⟨ad, cap, e, ht⟩ := h
  exact ⟨ad, cap, e, ht.at_⟩
theorem app_0 (s : ByteArray) (h : D.armed = 0) (hn : appNo G s = 0) : appG D G s = { G with b := G.b ++ frame s, all := G.all ++ [s] } := by
  unfold appG appW
  rw [hn, if_neg (by decide), (wrAll_0 (G.size + 1) (G.b.length / 64) D h).1, if_pos rfl]
def sA : ByteArray := ⟨#[97]⟩
def sB : ByteArray := ⟨#[98]⟩
def Liv (D : Dk) (G : Lg) : Prop := RInv D G 0 8 [] ∧ D.armed = 0 ∧ G.mark < 1000
theorem liv_0 : Liv (newD ((8 : Nat) : Int)) (openedG 0 8 0 0 []) := by
  have HD := newD_is 8 (by omega)
  have HS : SInv (newD ((8 : Nat) : Int)).now 0 8 0 0 (encL []) := by rw [HD]; exact sinv_new _ _ _ (by omega) (by omega) (by omega)
  exact ⟨(rinv_open (good_new _) (by rw [HD]) (by rw [HD]) HS rfl (by omega)).2, by rw [HD], by decide⟩
theorem liv_app (s : ByteArray) (h : Liv D G) (hn : appNo G s = 0) : Liv (appD D G s) (appG D G s) := by
  obtain ⟨h1, h2, h3⟩ := h
  have hl := lives_app s h1.ok h1.live h2
  have hw : (appW D G s).2 = true := (wrAll_0 (G.size + 1) (G.b.length / 64) D h2).1
  exact ⟨(append_law h1 hn).1 hw, hl.2.1, by rw [app_0 s h2 hn]; exact h3⟩
theorem no_a : appNo (openedG 0 8 0 0 []) sA = 0 := by decide +kernel
theorem no_b : appNo { openedG 0 8 0 0 [] with b := (openedG 0 8 0 0 []).b ++ frame sA, all := (openedG 0 8 0 0 []).all ++ [sA] } sB = 0 := by decide +kernel
theorem chain_alive : ∃ (D1 D2 D3 : Dk) (G1 G2 G3 : Lg), D1 = appD (newD ((8 : Nat) : Int)) (openedG 0 8 0 0 []) sA ∧ G1 = appG (newD ((8 : Nat) : Int)) (openedG 0 8 0 0 []) sA ∧ D2 = appD D1 G1 sB ∧ G2 = appG D1 G1 sB ∧ D3 = lsyD D2 G2 ∧ G3 = lsyG D2 G2 ∧
    Okl (newD ((8 : Nat) : Int)) (openedG 0 8 0 0 []) ∧ Okl D1 G1 ∧ Okl D2 G2 ∧ (newD ((8 : Nat) : Int)).wait.length ≤ 1000 ∧ D1.wait.length ≤ 1000 ∧ D2.wait.length ≤ 1000 ∧ lsyB D2 G2 = true ∧ Good D3 ∧ D3.dead = false ∧ D3.wait = [] ∧ SInv D3.now 0 8 G3.mark G3.half (encL [sA, sB]) ∧ G3.mark < 4294967296 := by
  have h0 := liv_0
  have h1 := liv_app sA h0 no_a
  have e1 := app_0 (D := newD ((8 : Nat) : Int)) sA h0.2.1 no_a
  have hn : appNo (appG (newD ((8 : Nat) : Int)) (openedG 0 8 0 0 []) sA) sB = 0 := by rw [e1]; exact no_b
  have h2 := liv_app sB h1 hn
  have e2 := app_0 (D := appD (newD ((8 : Nat) : Int)) (openedG 0 8 0 0 []) sA) sB h1.2.1 hn
  have k1 := keeps_app sA h0.1.ok
  have k2 := keeps_app sB h1.1.ok
  obtain ⟨s1, s2, s3⟩ := lives_sync h2.1.ok h2.1.live h2.2.1
  obtain ⟨a1, a2, a3, a4⟩ := (sync_law h2.1 (by have := h2.2.2; omega)).1 s1
  have w0 : (newD ((8 : Nat) : Int)).wait.length = 0 := by rw [newD_is 8 (by omega)]; rfl
  have z0 : (openedG 0 8 0 0 []).size = 3 := rfl
  have w1 := k1.wait
  have w2 := k2.wait
  have z1 := k1.size
  refine ⟨_, _, _, _, _, _, rfl, rfl, rfl, rfl, rfl, rfl, h0.1.ok, h1.1.ok, h2.1.ok, by omega, by omega, by omega, s1, a1.ok.good, by rw [a1.ok.dead, s3], a4, ?_, ?_⟩
  · have hs := a1.snow
    have e3 : (appG (appD (newD ((8 : Nat) : Int)) (openedG 0 8 0 0 []) sA) (appG (newD ((8 : Nat) : Int)) (openedG 0 8 0 0 []) sA) sB).all = [sA, sB] := by rw [e2, e1]; rfl
    rw [e3] at hs
    exact hs
  · rw [a3]; have := h2.2.2; omega
set_option maxHeartbeats 2000000 in
theorem alive_any : Calls Try.prog 10 #[] w fun e w' => e = .returned (.bool true) ∧ Below w.heap.size w w' := by
  obtain ⟨D1, D2, D3, G1, G2, G3, e1, e2, e3, e4, e5, e6, k0, k1, k2, w0, w1, w2, hb, g3, d3, wt3, s3, m3⟩ := chain_alive
  have C1 := Lib.hid (new_any (w := w) ((8 : Nat) : Int))
  obtain ⟨D0, hD0⟩ : ∃ D0, D0 = newD ((8 : Nat) : Int) := ⟨_, rfl⟩
  have hwait : D0.wait = [] := by rw [hD0, newD_is 8 (by omega)]
  have hdead : D0.dead = false := by rw [hD0, newD_is 8 (by omega)]
  have hgood : Good D0 := by rw [hD0]; exact good_new _
  have hsi : SInv D0.now 0 8 0 0 (encL []) := by rw [hD0, newD_is 8 (by omega)]; exact sinv_new _ _ _ (by omega) (by omega) (by omega)
  rw [← hD0] at C1 e1 e2 k0 w0
  have HP := Lib.hid (And.intro hwait (And.intro hdead (And.intro hgood hsi)))
  have HE := Lib.hid (And.intro e1 (And.intro e2 (And.intro e3 (And.intro e4 (And.intro e5 e6)))))
  have HK := Lib.hid (And.intro k0 (And.intro k1 k2))
  have HW := Lib.hid (And.intro w0 (And.intro w1 w2))
  have HY := Lib.hid hb
  have HS := Lib.hid (And.intro g3 (And.intro d3 (And.intro wt3 (And.intro s3 m3))))
  clear hD0 hwait hdead hgood hsi e1 e2 e3 e4 e5 e6 k0 k1 k2 w0 w1 w2 hb g3 d3 wt3 s3 m3
  have e8 : ((8 : Nat) : Int) = 8 := rfl
  rw [e8] at C1
  clear e8
  go_enter Try.func10, Try.ntmps10
  go_wp2_with fail
  refine C1.out.mono ?_
  rintro e x1 ⟨nd, VD, rfl, hD, b1⟩
  have C2 := Lib.hid (reopen_any (w := x1) (f := 0) (M := 8) (m := 0) (half := 0) (all := []) hD b1.size HP.out.2.2.1 HP.out.2.1 HP.out.1 HP.out.2.2.2 rfl (by omega))
  have HB1 := Lib.hid b1
  clear hD b1 C1
  go_wp2_with fail
  refine C2.out.mono ?_
  rintro e x2 ⟨n, V, rfl, hL, b2, hn, hk, hR⟩
  have HL := Lib.hid hL
  have HB2 := Lib.hid (HB1.out.trans (b2.mono HB1.out.size))
  have C3 := Lib.hid (append_any sA hL HB2.out.size HK.out.1 (by have := HW.out.1; omega))
  clear hL hR b2 hn hk C2
  go_wp2_with fail
  refine C3.out.mono ?_
  rintro e x3 ⟨V3, VD3, rfl, l3, g3⟩
  rw [← HE.out.1, ← HE.out.2.1] at l3
  have HL3 := Lib.hid l3
  have HB3 := Lib.hid (g3.below HB2.out (Nat.le_refl _) HL.out.of_ge)
  have C4 := Lib.hid (append_any sB l3 HB3.out.size HK.out.2.1 (by have := HW.out.2.1; omega))
  obtain ⟨E3, hE3⟩ : ∃ E3, E3 = appE D0 (openedG 0 8 0 0 []) sA := ⟨_, rfl⟩
  rw [← hE3]
  clear l3 g3 C3 hE3
  go_wp2_with fail
  refine C4.out.mono ?_
  rintro e x4 ⟨V4, VD4, rfl, l4, g4⟩
  rw [← HE.out.2.2.1, ← HE.out.2.2.2.1] at l4
  have HL4 := Lib.hid l4
  have HB4 := Lib.hid (g4.below HB3.out (Nat.le_refl _) HL3.out.of_ge)
  have C5 := Lib.hid (lsync_any l4 HB4.out.size HK.out.2.2.fits HK.out.2.2.good HK.out.2.2.dead (by have := HW.out.2.2; omega))
  obtain ⟨E4, hE4⟩ : ∃ E4, E4 = appE D1 G1 sB := ⟨_, rfl⟩
  rw [← hE4]
  clear l4 g4 C4 hE4
  go_wp2_with fail
  refine C5.out.mono ?_
  rintro e x5 ⟨VD5, rfl, l5, g5⟩
  rw [← HE.out.2.2.2.2.1, ← HE.out.2.2.2.2.2] at l5
  rw [HY.out, if_pos rfl]
  have HL5 := Lib.hid l5
  have HB5 := Lib.hid (g5.below HB4.out (Nat.le_refl _) HL4.out.of_ge)
  have C6 := Lib.hid (reopen_any (f := 0) (M := 8) (m := G3.mark) (half := G3.half) (all := [sA, sB]) l5.dsk HB5.out.size HS.out.1 HS.out.2.1 HS.out.2.2.1 HS.out.2.2.2.1 (by decide) HS.out.2.2.2.2)
  clear l5 g5 C5
  go_wp2_with fail
  refine C6.out.mono ?_
  rintro e x6 ⟨n6, V6, rfl, l6, b6, hn6, hk6, _⟩
  have HL6 := Lib.hid l6
  have HB6 := Lib.hid (HB5.out.trans (b6.mono HB5.out.size))
  have C7 := Lib.hid (lall_any l6 (by show 2 ≤ 100000000; omega))
  clear l6 b6 hn6 hk6 C6
  go_wp2_with fail
  refine C7.out.mono ?_
  rintro e x7 ⟨v7, rfl, o7, b7⟩
  have HB7 := Lib.hid (HB6.out.trans (b7.mono HB6.out.size))
  have o7' : x7.ownsRow x6.heap.size 9 1 v7 2 ([sA, sB].map Value.string) := o7
  obtain ⟨a7, c7, e7, ht7⟩ := txs_tv (tv_own o7' (by unfold maxLen; omega) rfl)
  have e7' : v7 = .slice a7 2 c7 := e7
  subst e7'
  have hx8 := Box.new x7 9 #[.string ⟨#[97]⟩, .string ⟨#[98]⟩]
  have HB8 := Lib.hid (HB7.out.alloc HB7.out.size (.cells #[.string ⟨#[97]⟩, .string ⟨#[98]⟩] 9))
  have ht8 : Txs (x7.alloc (.cells #[.string ⟨#[97]⟩, .string ⟨#[98]⟩] 9)) (some ⟨x7.heap.size, 0, none⟩) 2 [sA, sB] := ⟨rfl, by unfold maxLen; omega, .inr ⟨_, 0, rfl, hx8.lt, fun j s hj => by
    rw [Nat.zero_add, hx8.cell j]
    match j, hj with
    | 0, hj => simp at hj; subst hj; rfl
    | 1, hj => simp at hj; subst hj; rfl⟩⟩
  have C8 := Lib.hid (same_any a7 (some ⟨x7.heap.size, 0, none⟩) 2 2 c7 2 [sA, sB] [sA, sB] (ht7.bel ((Below.refl _ _).alloc (Nat.le_refl _) _)) ht8)
  clear o7 o7' b7 e7 ht7 ht8 hx8 C7
  go_wp2_with fail
  refine C8.out.mono ?_
  rintro e x9 ⟨rfl, b9⟩
  have HB9 := Lib.hid (HB8.out.trans (b9.mono HB8.out.size))
  clear b9 C8
  go_wp2_with fail
  go_ret
  exact ⟨rfl, HB9.out⟩
end Go.Proofs.Ytdiboicllolcnaa

/- The walk of LedgerRaw. Conditions: the script lies in memory. -/
import Derived.Test.YtdiboicllolcnaaMe
namespace Go.Proofs.Ytdiboicllolcnaa
open Go Go.RowKit Go.ChangeShapes Go.WideShapes Go.ChangeAt Go.Deep
set_option linter.unusedVariables false
set_option linter.unusedSimpArgs false
variable {w w' : World} {base n nd b0 : Nat} {V V' : Vl} {VD VD' : Vs} {D D' : Dk} {G G' : Lg}
set_option maxRecDepth 100000 in
set_option maxHeartbeats 8000000 in
theorem raw_core (W : World) (a : Option Addr) (len cap : Nat) (xs : List In4) (fr mn : Int) (hf1 : fr ≤ 9223372036854775807) (hf0 : -9223372036854775808 ≤ fr) (hm1 : mn ≤ 9223372036854775807) (hm0 : -9223372036854775808 ≤ mn) (hO : Ops4At W a len xs) (hm : len ≤ maxLen) :
    Calls Try.prog 4 #[.slice a len cap, .int .i64 fr, .int .i64 mn] W fun e W' => e = .returned (.bool true) ∧ Below W.heap.size W W' := by
  have HO := Lib.hid hO
  have C1 := Lib.hid (new_any (w := W) ((40 : Nat) : Int))
  have HI1 := Lib.hid (And.intro hf1 (And.intro hf0 (And.intro hm1 hm0)))
  unfold maxLen at hm
  have hD : newD ((40 : Nat) : Int) = { now := List.replicate 40 zsec, firm := List.replicate 40 zsec, wait := [], armed := 0, dead := false } := newD_is 40 (by omega)
  have hgood : Good (newD ((40 : Nat) : Int)) := good_new _
  obtain ⟨D0, hD0⟩ : ∃ D0, D0 = newD ((40 : Nat) : Int) := ⟨_, rfl⟩
  rw [← hD0] at C1 hD hgood
  have HD0 := Lib.hid (show Good D0 ∧ D0.dead = false ∧ D0.armed = 0 ∧ D0.wait.length ≤ 0 ∧ D0.now.length = 40 from ⟨hgood, by rw [hD], by rw [hD], by rw [hD]; exact Nat.le_refl _, by rw [hD]; simp⟩)
  rw [show (((40 : Nat) : Int)) = 40 from rfl] at C1
  clear hO hD hD0 hgood hf1 hf0 hm1 hm0
  by_cases h200 : 200 < len
  · have h200' : (200 : Int) < (len : Int) := by omega
    go_enter Try.func4, Try.ntmps4
    go_wp2_with fail
    refine C1.out.mono ?_
    rintro e w1 ⟨nd, VD, rfl, hd1, b1⟩
    have HB1 := Lib.hid b1
    clear hd1 b1 C1
    go_wp2_with fail
    refine (alive_any (w := w1)).mono ?_
    rintro e w2 ⟨rfl, b2⟩
    have HB2 := Lib.hid (HB1.out.trans (b2.mono HB1.out.size))
    clear b2
    go_wp2_with fail
    go_ret
    exact ⟨rfl, HB2.out⟩
  have h200' : ¬ (200 : Int) < (len : Int) := by omega
  go_enter Try.func4, Try.ntmps4
  go_wp2_with fail
  refine C1.out.mono ?_
  rintro e w1 ⟨nd, VD, rfl, hd1, b1⟩
  have HB1 := Lib.hid b1
  have HDS := Lib.hid hd1
  clear hd1 b1 C1
  go_wp2_with fail
  go_loopw [28] (fun i wr => ∃ (k : Nat) (VD : Vs) (D : Dk), k ≤ len ∧ i = .int .i64 k ∧ Dsk wr W.heap.size nd VD D ∧ Good D ∧ D.dead = false ∧ D.armed = 0 ∧ D.wait.length ≤ k ∧ D.now.length = 40 ∧ Below W.heap.size W wr) (fun i _ => len - (intOf i).toNat)
  case atStart => exact ⟨0, _, _, Nat.zero_le _, rfl, HDS.out, HD0.out.1, HD0.out.2.1, HD0.out.2.2.1, HD0.out.2.2.2.1, HD0.out.2.2.2.2, HB1.out⟩
  case round =>
    clear HDS HD0 HB1
    obtain ⟨k, VDk, D, hk, rfl, hds, hg, hdd, har, hwt, hnl, hbl⟩ := hrel
    have HDS := Lib.hid hds
    have HD := Lib.hid (And.intro hg (And.intro hdd (And.intro har (And.intro hwt hnl))))
    have HBL := Lib.hid hbl
    by_cases hlt : k < len
    · obtain ⟨b, off, x, rfl, hp, hb, hTx, c0, c1, c2, c3⟩ := HO.out.get k hlt
      have c0 := (hbl.cell (p := ⟨b, off + k * 4, none⟩) hb).trans c0
      have c1 := (hbl.cell (p := ⟨b, off + k * 4 + 1, none⟩) hb).trans c1
      have c2 := (hbl.cell (p := ⟨b, off + k * 4 + 2, none⟩) hb).trans c2
      have c3 := (hbl.cell (p := ⟨b, off + k * 4 + 3, none⟩) hb).trans c3
      have hblt : b < wr.heap.size := Nat.lt_of_lt_of_le hb hbl.size
      obtain ⟨L, hL⟩ : ∃ L, L = x.o.b.length := ⟨_, rfl⟩
      rw [← hL] at c3 hTx
      have hba : Below wr.heap.size wr (wr.alloc (.cells #[.int .i64 x.o.kd, .int .i64 x.o.n, .int .i64 x.o.tear, .slice x.ad L x.cap] 37)) := (Below.refl _ _).alloc (Nat.le_refl _) _
      have HBA := Lib.hid hba
      have hbb : Below W.heap.size W (wr.alloc (.cells #[.int .i64 x.o.kd, .int .i64 x.o.n, .int .i64 x.o.tear, .slice x.ad L x.cap] 37)) := hbl.trans (hba.mono hbl.size)
      have HBB := Lib.hid hbb
      have hds1 := hds.bel hba
      have hbys : Bys (wr.alloc (.cells #[.int .i64 x.o.kd, .int .i64 x.o.n, .int .i64 x.o.tear, .slice x.ad L x.cap] 37)) x.ad L x.o.b := hTx.stays (fun g _ _ hg => hbb.block g hg) hbb.size
      have CW := Lib.hid (write_any x.o.n x.o.b x.ad L x.cap hds1 hbb.size hg hbys (by omega))
      have HDS1 := Lib.hid hds1
      obtain ⟨z1, z2, z3⟩ := wrD_0 x.o.n x.o.b hdd har
      have HZ := Lib.hid (show Good (wrD D x.o.n x.o.b) ∧ (wrD D x.o.n x.o.b).dead = false ∧ (wrD D x.o.n x.o.b).armed = 0 ∧ (wrD D x.o.n x.o.b).wait.length ≤ k + 1 ∧ (wrD D x.o.n x.o.b).now.length = 40 from ⟨good_wrD hg _ _, z1, z2, Nat.le_trans (wrD_wait D _ _) (by omega), by rw [z3, hnl]⟩)
      by_cases h0 : x.o.kd = 0
      · rw [h0] at c0 HBA HBB CW HDS1
        clear hds hg hdd har hwt hnl hbl hp hTx hL hba hbb hds1 hbys z1 z2 z3 h0
        go_wp2_with fail
        refine CW.out.mono ?_
        rintro e w5 ⟨rfl, VD5, d5, g5⟩
        have HD5 := Lib.hid d5
        have HB5 := Lib.hid (g5.below HBB.out (Nat.le_refl _) HDS1.out.of_ge)
        obtain ⟨E, hE⟩ : ∃ E, E = wrE D x.o.n L := ⟨_, rfl⟩
        rw [← hE]
        clear d5 g5 CW hE
        go_wp2_with fail
        go_roundw
        case rel => exact ⟨k + 1, _, _, by omega, by go_num, HD5.out, HZ.out.1, HZ.out.2.1, HZ.out.2.2.1, HZ.out.2.2.2.1, HZ.out.2.2.2.2, HB5.out⟩
        case measure => simp [intOf]; omega
      · have q0 : (x.o.kd == 0) = false := by simpa using h0
        clear hds hg hdd har hwt hnl hbl hp hTx hL hba hbb hds1 hbys z1 z2 z3 h0 HZ CW
        go_wp2_with fail
        go_roundw
        case rel => exact ⟨k + 1, _, _, by omega, by go_num, HDS1.out, HD.out.1, HD.out.2.1, HD.out.2.2.1, Nat.le_trans HD.out.2.2.2.1 (by omega), HD.out.2.2.2.2, HBB.out⟩
        case measure => simp [intOf]; omega
    · obtain rfl : len = k := by omega
      clear hlt HO
      have CO := Lib.hid (open_any fr mn hds hbl.size hg)
      clear hds hg hdd har hwt hnl hbl
      go_wp2_with fail
      refine CO.out.mono ?_
      rintro e WX ⟨bX, hP⟩
      have HBX := Lib.hid (HBL.out.trans (bX.mono HBL.out.size))
      have HDX := Lib.hid (HDS.out.bel bX)
      clear bX CO
      by_cases hT : thereM D fr mn = false
      · have hp2 : e = .returned (.tuple #[.pointer none, .int .i64 50]) := by
          rcases hP with ⟨h1, _⟩ | ⟨_, _, h1⟩ | ⟨_, h1, _⟩ | ⟨_, _, _, _, h1, _⟩
          · rw [HD.out.2.1] at h1; cases h1
          · exact h1
          · rw [hT] at h1; cases h1
          · rw [hT] at h1; cases h1
        have hneg : fr < 0 ∨ mn < 4 ∨ 40 < mn ∨ 40 - mn < fr := by
          have hT' := hT
          unfold thereM at hT'
          rw [HD.out.2.2.2.2] at hT'
          simp only [Bool.and_eq_false_iff, decide_eq_false_iff_not] at hT'
          omega
        subst hp2
        clear hP hT
        by_cases g1 : fr < 0
        · clear hneg
          go_wp2_with fail
          refine (alive_any (w := WX)).mono ?_
          rintro e w7 ⟨rfl, b7⟩
          have HB7 := Lib.hid (HBX.out.trans (b7.mono HBX.out.size))
          clear b7
          go_wp2_with fail
          go_ret
          exact ⟨rfl, HB7.out⟩
        by_cases g2 : mn < 4
        · clear hneg
          go_wp2_with fail
          refine (alive_any (w := WX)).mono ?_
          rintro e w7 ⟨rfl, b7⟩
          have HB7 := Lib.hid (HBX.out.trans (b7.mono HBX.out.size))
          clear b7
          go_wp2_with fail
          go_ret
          exact ⟨rfl, HB7.out⟩
        by_cases g3 : 40 < mn
        · clear hneg
          go_wp2_with fail
          refine (alive_any (w := WX)).mono ?_
          rintro e w7 ⟨rfl, b7⟩
          have HB7 := Lib.hid (HBX.out.trans (b7.mono HBX.out.size))
          clear b7
          go_wp2_with fail
          go_ret
          exact ⟨rfl, HB7.out⟩
        have g4 : 40 - mn < fr := by omega
        clear hneg
        go_wp2_with fail
        refine (alive_any (w := WX)).mono ?_
        rintro e w7 ⟨rfl, b7⟩
        have HB7 := Lib.hid (HBX.out.trans (b7.mono HBX.out.size))
        clear b7
        go_wp2_with fail
        go_ret
        exact ⟨rfl, HB7.out⟩
      · have hT : thereM D fr mn = true := by simpa using hT
        have hpos : 0 ≤ fr ∧ 4 ≤ mn ∧ mn ≤ 40 ∧ fr ≤ 40 - mn := by
          have hT' := hT
          unfold thereM at hT'
          rw [HD.out.2.2.2.2] at hT'
          simp only [Bool.and_eq_true, decide_eq_true_eq] at hT'
          omega
        obtain ⟨p1, p2, p3, p4⟩ := hpos
        obtain ⟨f, rfl⟩ := Int.eq_ofNat_of_zero_le p1
        obtain ⟨M, rfl⟩ := Int.eq_ofNat_of_zero_le (show 0 ≤ mn by omega)
        have g1 : ¬ (f : Int) < 0 := by omega
        have g2 : ¬ (M : Int) < 4 := by omega
        have g3 : ¬ (40 : Int) < (M : Int) := by omega
        have g4 : ¬ (40 : Int) - (M : Int) < (f : Int) := by omega
        rcases hP with ⟨h1, _⟩ | ⟨_, h1, _⟩ | ⟨_, _, _, rfl⟩ | ⟨n, V, G, _, _, hG, rfl, hL, hn, hk⟩
        · rw [HD.out.2.1] at h1; cases h1
        · rw [hT] at h1; cases h1
        · clear hT p1
          go_wp2_with fail
          refine (alive_any (w := WX)).mono ?_
          rintro e w7 ⟨rfl, b7⟩
          have HB7 := Lib.hid (HBX.out.trans (b7.mono HBX.out.size))
          clear b7
          go_wp2_with fail
          go_ret
          exact ⟨rfl, HB7.out⟩
        · rw [Int.toNat_natCast, Int.toNat_natCast] at hG
          obtain ⟨hok, hlive, hsz1⟩ := okl_open HD.out.1 HD.out.2.1 (by omega) (by have := HD.out.2.2.2.2; omega) hG
          have hrn : repNo G [sA] = 0 := by
            unfold repNo
            have e5 : (encL [sA]).length = 5 := rfl
            rw [hlive, if_neg (by decide), if_neg (by decide), if_neg (by rw [e5]; omega)]
          obtain ⟨r1, r2, r3, r4⟩ := lives_rep [sA] hok hlive HD.out.2.2.1
          rw [hrn] at r1
          have hall := r4 hrn
          have hXL := Lib.hid hL
          have hBX := Box.new WX 9 #[.string ⟨#[97]⟩]
          have hb9 : Below WX.heap.size WX (WX.alloc (.cells #[.string ⟨#[97]⟩] 9)) := (Below.refl _ _).alloc (Nat.le_refl _) _
          have HB9 := Lib.hid (HBX.out.trans (hb9.mono HBX.out.size))
          have hL9 := hL.bel hb9
          have htx : Txs (WX.alloc (.cells #[.string ⟨#[97]⟩] 9)) (some ⟨WX.heap.size, 0, none⟩) 1 [sA] := ⟨rfl, by unfold maxLen; omega, .inr ⟨_, 0, rfl, hBX.lt, fun j s hj => by
            rw [Nat.zero_add, hBX.cell j]
            match j, hj with
            | 0, hj => simp at hj; subst hj; rfl⟩⟩
          have hszz := hok.size
          have CR := replace_any (some ⟨WX.heap.size, 0, none⟩) 1 1 [sA] hL9 HB9.out.size hok.fits hok.good hok.dead (by have := HD.out.2.2.2.1; omega) htx (fun e => by cases e) (Nat.le_refl _) (by omega) (fun _ g off e ho => by
            injection e with e
            injection e with e
            have := hL.of_lt g ho
            omega)
          unfold RepPost at CR
          rw [r1] at CR
          obtain ⟨D5, hD5⟩ : ∃ D5, D5 = repD D G [sA] := ⟨_, rfl⟩
          obtain ⟨G5, hG5⟩ : ∃ G5, G5 = repG D G [sA] := ⟨_, rfl⟩
          rw [← hD5, ← hG5] at CR
          rw [← hG5] at hall
          have CR := Lib.hid CR
          have HALL := Lib.hid hall
          have HGE := Lib.hid hL9.of_ge
          clear hT p1 hG hok hlive hsz1 hrn r1 r2 r3 r4 hall hL hn hk hBX hb9 hL9 htx hszz hD5 hG5
          go_wp2_with fail
          refine CR.out.mono ?_
          rintro e w5 ⟨V5, VD5, rfl, l5, g5⟩
          have HB5 := Lib.hid (g5.below HB9.out (Nat.le_refl _) HGE.out)
          have HL5 := Lib.hid l5
          clear l5 g5 CR
          go_wp2_with fail
          refine (alive_any (w := w5)).mono ?_
          rintro e w6 ⟨rfl, b6⟩
          have HB6 := Lib.hid (HB5.out.trans (b6.mono HB5.out.size))
          have hl6 := HL5.out.bel b6
          have CA : Calls Try.prog 20 #[.pointer (some ⟨n, 0, none⟩)] w6 fun e w' => ∃ v', e = .returned v' ∧ w'.ownsRow w6.heap.size 9 1 v' 1 ([sA].map Value.string) ∧ Below w6.heap.size w6 w' := by
            have := lall_any hl6 (by rw [HALL.out]; show 1 ≤ 100000000; omega)
            rw [HALL.out] at this
            exact this
          have CA := Lib.hid CA
          clear b6 hl6
          go_wp2_with fail
          refine CA.out.mono ?_
          rintro e w7 ⟨v7, rfl, o7, b7⟩
          have HB7 := Lib.hid (HB6.out.trans (b7.mono HB6.out.size))
          have hB8 := Box.new w7 9 #[.string ⟨#[97]⟩]
          have hb8 : Below w7.heap.size w7 (w7.alloc (.cells #[.string ⟨#[97]⟩] 9)) := (Below.refl _ _).alloc (Nat.le_refl _) _
          have HB8 := Lib.hid (HB7.out.trans (hb8.mono HB7.out.size))
          have htx8 : Txs (w7.alloc (.cells #[.string ⟨#[97]⟩] 9)) (some ⟨w7.heap.size, 0, none⟩) 1 [sA] := ⟨rfl, by unfold maxLen; omega, .inr ⟨_, 0, rfl, hB8.lt, fun j s hj => by
            rw [Nat.zero_add, hB8.cell j]
            match j, hj with
            | 0, hj => simp at hj; subst hj; rfl⟩⟩
          obtain ⟨a7, c7, rfl, _⟩ := own_shape o7
          have CS := Lib.hid (same_any a7 (some ⟨w7.heap.size, 0, none⟩) 1 1 c7 1 [sA] [sA] ((txs_own o7 (by unfold maxLen; omega)).bel hb8) htx8)
          clear o7 b7 hB8 hb8 htx8 CA
          go_wp2_with fail
          refine CS.out.mono ?_
          rintro e w9 ⟨rfl, b9⟩
          have HB10 := Lib.hid (HB8.out.trans (b9.mono HB8.out.size))
          clear b9 CS
          go_wp2_with fail
          go_ret
          exact ⟨rfl, HB10.out⟩
theorem ledgerRaw_walk {H : Type} {enc : TypeId × Value → H} {base : Nat} {p0 : List MemPlace} (W : World) (v0 : Value) (d0 : DataW H) (hv : Value.okWide Try.prog W .any base 34 v0) (h : DataW.Trod enc Try.prog W 0 (fun _ => true) true 34 v0 d0 p0) (_b : ∀ n ∈ d0.weights Try.prog 34, n ≤ 140737488351232)
    (a1 : Int) (w1 : (Lit.int .i64 a1).wf = true) (a2 : Int) (w2 : (Lit.int .i64 a2).wf = true) : Calls Try.prog 4 #[v0, .int .i64 a1, .int .i64 a2] W fun e W' => e = .returned (.bool true) ∧ Below W.heap.size W W' := by
  obtain ⟨a, len, cap, xs, rfl, hP, h1, h2⟩ := open_ops4 hv h
  simp [Lit.wf, IntKind.min, IntKind.max, IntKind.signed, IntKind.bits] at w1 w2
  exact raw_core W a len cap xs a1 a2 (by omega) (by omega) (by omega) (by omega) hP (by omega)
end Go.Proofs.Ytdiboicllolcnaa

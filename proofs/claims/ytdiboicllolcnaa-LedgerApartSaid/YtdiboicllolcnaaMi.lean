/- The walk of LedgerApart. Conditions: the script lies in memory. -/
import Derived.Test.YtdiboicllolcnaaMd
import Derived.Lib.SlBytesConst
namespace Go.Proofs.Ytdiboicllolcnaa
open Go Go.RowKit Go.ChangeShapes Go.WideShapes Go.ChangeAt Go.Deep
set_option linter.unusedVariables false
set_option linter.unusedSimpArgs false
variable {w w' : World} {base n nd b0 : Nat} {V V' : Vl} {VD VD' : Vs} {D D' : Dk} {G G' : Lg}
def mineS : Sec := [109, 105, 110, 101]
/-- the sectors beside the ledger's. -/
def outs (M : Nat) : List Nat := [0, 1, M + 2, M + 3]
structure Mine (M k : Nat) (D : Dk) : Prop where
  good : Good D
  dead : D.dead = false
  arm : D.armed = 0
  len : D.now.length = M + 4
  firm : D.firm = List.replicate (M + 4) zsec
  wait : ∀ x ∈ D.wait, x.1 ∈ outs M ∧ x.2.length = 64
  few : D.wait.length ≤ k
  there : ∀ p ∈ (outs M).take k, D.now[p]? = some (pad mineS)
theorem outs_lt {M p : Nat} (h : p ∈ outs M) : p < M + 4 := by simp [outs] at h; omega
theorem Mine.next {M k p : Nat} (h : Mine M k D) (hp : (outs M)[k]? = some p) : Mine M (k + 1) (wr1 D p mineS) ∧ wrD D (p : Int) mineS = wr1 D p mineS := by
  have hm : p ∈ outs M := List.mem_of_getElem? hp
  have hlt : p < D.now.length := by rw [h.len]; exact outs_lt hm
  have e : wr1 D p mineS = putD D p (pad mineS) := (dies_0 (D := putD D p (pad mineS)) h.arm).2
  refine ⟨?_, (wr1_of p mineS h.dead hlt (by decide)).1⟩
  have hg := good_wr1 h.good p mineS hlt (by decide)
  rw [e] at hg ⊢
  refine ⟨hg, h.dead, h.arm, by show (D.now.set p _).length = _; rw [List.length_set]; exact h.len, h.firm, ?_, ?_, ?_⟩
  · intro x hx
    rcases List.mem_append.1 hx with hx | hx
    · exact h.wait x hx
    · simp at hx; subst hx; exact ⟨hm, rfl⟩
  · show (D.wait ++ [(p, pad mineS)]).length ≤ k + 1
    have := h.few
    simp; omega
  · intro q hq
    show (D.now.set p (pad mineS))[q]? = _
    by_cases e1 : p = q
    · subst e1; rw [List.getElem?_set_self hlt]
    · rw [List.getElem?_set_ne e1]
      rw [List.take_add_one, hp] at hq
      rcases List.mem_append.1 hq with hq | hq
      · exact h.there q hq
      · simp at hq; exact absurd hq.symm e1
theorem mine_0 (M : Nat) (hM : M ≤ 60000) : Mine M 0 (newD ((M + 4 : Nat) : Int)) := by
  have hD := newD_is (M + 4) (by omega)
  have hg := good_new ((M + 4 : Nat) : Int)
  rw [hD] at hg ⊢
  exact ⟨hg, rfl, rfl, by simp, rfl, (fun x hx => by cases hx), Nat.zero_le _, (fun p hp => by cases hp)⟩
theorem rinv_open2 {f M m half : Nat} {all : List ByteArray} (hg : Good D) (hd : D.dead = false) (h : SInv D.firm f M m half (encL all)) (hw : ∀ x ∈ D.wait, Harm f M half (encL all) x) (hs : longB all = false) (hm : m < 4294967296) :
    openG D f M = some (openedG f M m half all) ∧ RInv D (openedG f M m half all) f M all := by
  have hn : SInv D.now f M m half (encL all) := by rw [hg.is]; exact h.laid _ hw
  refine ⟨open_found hn hm (decL_enc all (short_all hs)), ⟨⟨hg, ⟨?_, ?_, hg.many, h.hlf, h.fits⟩, hd, rfl, hs⟩, rfl, rfl, rfl, h, hw, hs, List.take_of_length_le (Nat.le_refl _), hn.data⟩⟩
  · have := h.four; show 1 ≤ (M - 2) / 2; omega
  · have := h.four; have := hn.len; show f + 2 + 2 * ((M - 2) / 2) ≤ D.now.length; omega
theorem Mine.open_ {M k : Nat} (h : Mine M k D) (h4 : 4 ≤ M) (hM : M ≤ 60000) : openG D 2 M = some (openedG 2 M 0 0 []) ∧ RInv D (openedG 2 M 0 0 []) 2 M [] := by
  refine rinv_open2 h.good h.dead (by rw [h.firm]; exact sinv_new _ _ _ h4 (by omega) (by omega)) (fun x hx => ?_) rfl (by omega)
  obtain ⟨h1, h2⟩ := h.wait x hx
  simp [outs] at h1
  exact ⟨h2, by omega, by omega, fun j i _ _ hlt => absurd hlt (Nat.not_lt_zero _)⟩
/-! a call leaves all other sectors alone -/
theorem seal_out (half firm p : Nat) (hf : Fits G D) (hd : D.dead = false) (hp : p ≠ markK G) : (sealR D G half firm).1.now[p]? = D.now[p]? := by
  have h2 : (wr1 (syncD D) (markK G) (markS (nextM G.mark) half firm)).now[p]? = D.now[p]? := by
    unfold wr1
    rw [dies_now]
    show ((syncD D).now.set (markK G) _)[p]? = _
    rw [List.getElem?_set_ne (Ne.symm hp), sync_now]
  rw [sealR_is half firm hf hd]
  split
  · show (syncD D).now[p]? = _; rw [sync_now]
  · split
    · exact h2
    · show (syncD (wr1 _ _ _)).now[p]? = _; rw [sync_now]; exact h2
theorem markK_out {p : Nat} (h : p < G.from_ ∨ G.from_ + 2 + 2 * G.size ≤ p) (hs : 1 ≤ G.size) : p ≠ markK G := by unfold markK; omega
theorem half_out {p half j : Nat} (h : p < G.from_ ∨ G.from_ + 2 + 2 * G.size ≤ p) (hh : half < 2) (hj : j < G.size) : p ≠ firstG G half + j := by
  have : half = 0 ∨ half = 1 := by omega
  unfold firstG
  rcases this with rfl | rfl <;> omega
theorem step_out (o : Op5) (ho : Okl D G) {p : Nat} (h : p < G.from_ ∨ G.from_ + 2 + 2 * G.size ≤ p) : (stepL o D G).1.now[p]? = D.now[p]? := by
  unfold stepL
  split
  · show (appD D G o.s).now[p]? = _
    unfold appD
    split
    · rfl
    · rename_i hn
      have hn : appNo G o.s = 0 := Classical.byContradiction hn
      have y4 := app_room hn
      have hbl : (G.b ++ frame o.s).length ≤ G.size * 64 := by rw [List.length_append, frame_len]; omega
      exact (wrAll_fx (b := G.b ++ frame o.s) (G.size + 1) (G.b.length / 64) D (fits_half ho.fits ho.fits.half hbl)).2.2.1 p (fun j _ hj => half_out h ho.fits.half (by omega))
  · split
    · show (lsyD D G).now[p]? = _
      unfold lsyD
      split
      · rfl
      · rename_i hl
        exact seal_out _ _ _ ho.fits (by rw [ho.dead]; simpa using hl) (markK_out h ho.fits.size0)
    · split
      · show (repD D G o.all).now[p]? = _
        unfold repD
        split
        · rfl
        · rename_i hn
          have hn : repNo G o.all = 0 := Classical.byContradiction hn
          obtain ⟨y1, y2, y3⟩ := rep_yes hn
          have hh := ho.fits.half
          have hh1 : 1 - G.half < 2 := by omega
          have hfx := (wrAll_fx (b := encL o.all) (G.size + 1) 0 D (fits_half ho.fits hh1 y3)).2.2.1 p (fun j _ hj => half_out h hh1 (by omega))
          obtain ⟨g1, g2, g3, g4⟩ := wrAll_good (b := encL o.all) (G.size + 1) 0 D ho.good (by rw [ho.dead, y1]) (fits_half ho.fits hh1 y3)
          have e0 : repW D G o.all = wrAll (firstG G (1 - G.half)) (encL o.all) (G.size + 1) 0 D := rfl
          rw [← e0] at hfx g2 g4
          split
          · rename_i hw
            rw [hw] at g4
            exact (seal_out _ _ _ (fits_of ho.fits g2 rfl rfl hh ho.fits.b) g4 (markK_out h ho.fits.size0)).trans hfx
          · exact hfx
      · rfl
def cellsI (M : Nat) : Array Value := #[.int .i64 0, .int .i64 1, .int .i64 ((M : Int) + 2), .int .i64 ((M : Int) + 3)]
theorem cellsI_at {M k p : Nat} (h : (outs M)[k]? = some p) : (cellsI M)[k]? = some (.int .i64 (p : Int)) := by
  match k, h with
  | 0, h => simp [outs] at h; subst h; rfl
  | 1, h => simp [outs] at h; subst h; rfl
  | 2, h => simp [outs] at h; subst h; simp [cellsI]
  | 3, h => simp [outs] at h; subst h; simp [cellsI]
  | k + 4, h => simp [outs] at h
set_option maxRecDepth 100000 in
set_option maxHeartbeats 8000000 in
theorem apart_core (W : World) (m : Int) (a : Option Addr) (len cap : Nat) (xs : List In5) (hO : OpsAt W a len xs) (hm : len ≤ maxLen) :
    Calls Try.prog 5 #[.slice a len cap, .int .i64 m] W fun e W' => e = .returned (.bool true) ∧ Below W.heap.size W W' := by
  have HO := Lib.hid hO
  have C1 := Lib.hid (few_any a len cap xs hO hm)
  have HLX := Lib.hid hO.len
  unfold maxLen at hm
  clear hO
  by_cases h4 : m < 4
  · skip
    go_enter Try.func5, Try.ntmps5
    go_wp2_with fail
    refine (alive_any (w := W)).mono ?_
    rintro e w2 ⟨rfl, b2⟩
    have HB2 := Lib.hid b2
    clear b2
    go_wp2_with fail
    go_ret
    exact ⟨rfl, HB2.out⟩
  by_cases h100 : 100 < m
  · skip
    go_enter Try.func5, Try.ntmps5
    go_wp2_with fail
    refine (alive_any (w := W)).mono ?_
    rintro e w2 ⟨rfl, b2⟩
    have HB2 := Lib.hid b2
    clear b2
    go_wp2_with fail
    go_ret
    exact ⟨rfl, HB2.out⟩
  obtain ⟨M, rfl⟩ := Int.eq_ofNat_of_zero_le (show 0 ≤ m by omega)
  cases hf : fewB xs with
  | false =>
    rw [hf] at C1
    clear hf
    go_enter Try.func5, Try.ntmps5
    go_wp2_with fail
    refine C1.out.mono ?_
    rintro e w1 ⟨rfl, b1⟩
    have HB1 := Lib.hid b1
    clear b1 C1
    go_wp2_with fail
    refine (alive_any (w := w1)).mono ?_
    rintro e w2 ⟨rfl, b2⟩
    have HB2 := Lib.hid (HB1.out.trans (b2.mono HB1.out.size))
    clear b2
    go_wp2_with fail
    go_ret
    exact ⟨rfl, HB2.out⟩
  | true =>
    rw [hf] at C1
    have HF := Lib.hid hf
    have hl120 : len ≤ 120 := by
      unfold fewB at hf
      rw [Bool.and_eq_true, decide_eq_true_iff] at hf
      rw [← HLX.out]; exact hf.1
    have HFA := Lib.hid (show ∀ x ∈ xs, x.o.all.length ≤ 2000 by
      unfold fewB at hf
      rw [Bool.and_eq_true, List.all_eq_true] at hf
      intro x hx
      have := hf.2 x hx
      simp at this
      omega)
    have hM4 : 4 ≤ M := by omega
    have hM1 : M ≤ 100 := by omega
    have e4 : ((M + 4 : Nat) : Int) = (M : Int) + 4 := by omega
    have hm0 := mine_0 M (by omega)
    have C2 := fun w1 : World => new_any (w := w1) ((M + 4 : Nat) : Int)
    obtain ⟨D0, hD0⟩ : ∃ D0, D0 = newD ((M + 4 : Nat) : Int) := ⟨_, rfl⟩
    rw [← hD0] at hm0
    simp only [← hD0] at C2
    simp only [e4] at C2
    have C2 := Lib.hid C2
    have HM0 := Lib.hid hm0
    clear hf hm0 hD0 e4
    go_enter Try.func5, Try.ntmps5
    go_wp2_with fail
    refine C1.out.mono ?_
    rintro e w1 ⟨rfl, b1⟩
    have HB1 := Lib.hid b1
    have HO1 := Lib.hid (HO.out.below HB1.out (Nat.le_refl _))
    clear b1 C1 HO
    go_wp2_with fail
    refine (C2.out w1).mono ?_
    rintro e w2 ⟨nd, VD, rfl, d2, b2⟩
    have hb3 : Below w2.heap.size w2 (w2.alloc (.cells (cellsI M) 3)) := (Below.refl _ _).alloc (Nat.le_refl _) _
    have HD3 := Lib.hid (d2.bel hb3)
    have HB3 := Lib.hid (b2.trans (hb3.mono b2.size))
    have HQ3 := Lib.hid (Box.new w2 3 (cellsI M))
    obtain ⟨bq, hbq⟩ : ∃ bq, bq = w2.heap.size := ⟨_, rfl⟩
    rw [← hbq] at HQ3
    clear d2 b2 hb3 C2
    go_wp2_with fail
    rw [← hbq]
    clear hbq
    go_loopw [39] (fun i wr => ∃ (k : Nat) (VD : Vs) (D : Dk), k ≤ 4 ∧ i = .int .i64 k ∧ Dsk wr w1.heap.size nd VD D ∧ Mine M k D ∧ Box wr bq 3 (cellsI M) ∧ Below w1.heap.size w1 wr) (fun i _ => 4 - (intOf i).toNat)
    case atStart => exact ⟨0, _, _, Nat.zero_le _, rfl, HD3.out, HM0.out, HQ3.out, HB3.out⟩
    case round =>
      clear HD3 HM0 HQ3 HB3
      obtain ⟨k, VDk, D, hk, rfl, hds, hmn, hbq, hbel⟩ := hrel
      have HDS := Lib.hid hds
      have HMN := Lib.hid hmn
      have HBQ := Lib.hid hbq
      have HBEL := Lib.hid hbel
      by_cases hlt : k < 4
      · obtain ⟨p, hp⟩ : ∃ p, (outs M)[k]? = some p := ⟨_, List.getElem?_eq_getElem (by simpa [outs] using hlt)⟩
        have hcell : wr.cell? ⟨bq, k, none⟩ = some (.int .i64 (p : Int)) := (hbq.cell k).trans (cellsI_at hp)
        have hql := hbq.lt
        obtain ⟨n1, n2⟩ := hmn.next hp
        have kc : (convert 32 32 (.slice (some ⟨wr.heap.size, 0, none⟩) 4 4)).run Try.prog (wr.alloc (.cells #[.int .u8 109, .int .u8 105, .int .u8 110, .int .u8 101] 5)) = .ok (.slice (some ⟨wr.heap.size, 0, none⟩) 4 4) (wr.alloc (.cells #[.int .u8 109, .int .u8 105, .int .u8 110, .int .u8 101] 5 (4, 5))) := Lib.run_convert_bytes_const (P := Try.prog) wr 32 5 #[.int .u8 109, .int .u8 105, .int .u8 110, .int .u8 101] 4 4 Try.underlying32 Try.underlying5
        have hba : Below wr.heap.size wr (wr.alloc (.cells #[.int .u8 109, .int .u8 105, .int .u8 110, .int .u8 101] 5 (4, 5))) := (Below.refl _ _).alloc (Nat.le_refl _) _
        have hby : Bys (wr.alloc (.cells #[.int .u8 109, .int .u8 105, .int .u8 110, .int .u8 101] 5 (4, 5))) (some ⟨wr.heap.size, 0, none⟩) 4 mineS := ⟨rfl, by unfold maxLen; omega, .inr ⟨_, 0, rfl, by simp, fun j v hj => by
          rw [Nat.zero_add, cell_of_row _ _ j #[.int .u8 109, .int .u8 105, .int .u8 110, .int .u8 101] 5 (4, 5) (heap_alloc_new wr _)]
          match j, hj with
          | 0, hj => exact hj
          | 1, hj => exact hj
          | 2, hj => exact hj
          | 3, hj => exact hj⟩⟩
        have CW := write_any (p : Int) mineS (some ⟨wr.heap.size, 0, none⟩) 4 4 (hds.bel hba) (Nat.le_trans hbel.size hba.size) hmn.good hby (by have := hmn.few; omega)
        rw [n2] at CW
        have CW := Lib.hid CW
        have HN1 := Lib.hid n1
        have HDA := Lib.hid (hds.bel hba)
        have HQA := Lib.hid (show Box (wr.alloc (.cells #[.int .u8 109, .int .u8 105, .int .u8 110, .int .u8 101] 5 (4, 5))) bq 3 (cellsI M) from (hba.block bq hql).trans hbq)
        have HBA := Lib.hid (hbel.trans (hba.mono hbel.size))
        clear hds hmn hbq hbel hp n1 n2 hba hby
        go_wp2_with fail
        refine CW.out.mono ?_
        rintro e w5 ⟨rfl, VD5, d5, g5⟩
        have HD5 := Lib.hid d5
        have HQ5 := Lib.hid (HQA.out.touch g5.touch (HDA.out.notBox HQA.out (by decide) (by decide) (by decide)))
        have HB5 := Lib.hid (g5.below HBA.out (Nat.le_refl _) HDA.out.of_ge)
        obtain ⟨E, hE⟩ : ∃ E, E = wrE D (p : Int) 4 := ⟨_, rfl⟩
        rw [← hE]
        clear d5 g5 CW hE
        go_wp2_with fail
        go_roundw
        case rel => exact ⟨k + 1, _, _, by omega, by go_num, HD5.out, HN1.out, HQ5.out, HB5.out⟩
        case measure => simp [intOf]; omega
      · obtain rfl : k = 4 := by omega
        obtain ⟨h1, h2⟩ := hmn.open_ hM4 (by omega)
        have CO := Lib.hid (open_any 2 (M : Int) hds hbel.size hmn.good)
        have ht : thereM D 2 (M : Int) = true := by
          have := hmn.len
          unfold thereM
          simp only [Bool.and_eq_true, decide_eq_true_eq]
          omega
        have HTH := Lib.hid ht
        have HOG := Lib.hid h1
        have HRI := Lib.hid h2
        clear hds hmn hbq hbel hlt h1 h2 ht
        obtain ⟨wA, hwA⟩ : ∃ wA : World, wA = wr := ⟨_, rfl⟩
        go_wp2_with fail
        refine CO.out.mono ?_
        rintro e w6 ⟨b6, hP⟩
        have hP' : ∃ n V, e = .returned (.tuple #[.pointer (some ⟨n, 0, none⟩), .int .i64 0]) ∧ Ldg w6 w1.heap.size n nd V VDk D (openedG 2 M 0 0 []) := by
          rcases hP with ⟨h1, _⟩ | ⟨_, h1, _⟩ | ⟨_, _, h1, _⟩ | ⟨n, V, G, _, _, h1, he, hL, _⟩
          · rw [HMN.out.dead] at h1; cases h1
          · rw [HTH.out] at h1; cases h1
          · rw [show (2 : Int).toNat = 2 from rfl, Int.toNat_natCast, HOG.out] at h1; cases h1
          · rw [show (2 : Int).toNat = 2 from rfl, Int.toNat_natCast, HOG.out] at h1
            obtain rfl := Option.some.inj h1
            exact ⟨n, V, he, hL⟩
        obtain ⟨n, V, rfl, hL⟩ := hP'
        have hb6 := HBEL.out.trans (b6.mono HBEL.out.size)
        have HST := Lib.hid (show St5 w1 w1.heap.size n nd M w6 1 ([], []) V VDk D (openedG 2 M 0 0 []) from ⟨hL, HRI.out, rfl, HMN.out.arm, Nat.zero_le _, by have := HMN.out.few; omega, hb6, Nat.le_refl _, hb6.size⟩)
        have HMT := Lib.hid (show ∀ p ∈ outs M, D.now[p]? = some (pad mineS) from fun p hp => HMN.out.there p hp)
        obtain ⟨G0, hG0⟩ : ∃ G0, G0 = openedG 2 M 0 0 [] := ⟨_, rfl⟩
        rw [← hG0] at HST
        clear hP hL b6 hb6 CO hG0 hwA HDS HBQ HBEL HOG HRI HTH HMN
        go_wp2_with fail
        go_loopw [63] (fun i wr => ∃ (k : Nat) (s : List ByteArray × List ByteArray) (V : Vl) (VD : Vs) (D : Dk) (G : Lg), k ≤ len ∧ i = .int .i64 k ∧ St5 w1 w1.heap.size n nd M wr (k + 1) s V VD D G ∧ ∀ p ∈ outs M, D.now[p]? = some (pad mineS)) (fun i _ => len - (intOf i).toNat)
        case atStart => exact ⟨0, _, _, _, _, _, Nat.zero_le _, rfl, HST.out, HMT.out⟩
        case round =>
          clear HST HMT
          obtain ⟨k, s, Vk, VDk, Dk', Gk, hk, rfl, hst, hmine⟩ := hrel
          have HMI := Lib.hid hmine
          clear hmine
          have HST := Lib.hid hst
          by_cases hlt : k < len
          · obtain ⟨b, off, x, rfl, hp, hb, hTx, c0, c1, c2⟩ := HO1.out.get k hlt
            have c0 := (hst.bel.cell (p := ⟨b, off + k * 3, none⟩) hb).trans c0
            have c1 := (hst.bel.cell (p := ⟨b, off + k * 3 + 1, none⟩) hb).trans c1
            have c2 := (hst.bel.cell (p := ⟨b, off + k * 3 + 2, none⟩) hb).trans c2
            have hbl : b < wr.heap.size := Nat.lt_of_lt_of_le hb hst.bel.size
            have hxl := HFA.out x (List.mem_of_getElem? hp)
            have hba : Below wr.heap.size wr (wr.alloc (.cells #[.int .i64 x.o.kd, .string x.o.s, .slice x.ad x.o.all.length x.cap] 49)) := (Below.refl _ _).alloc (Nat.le_refl _) _
            have HNM := Lib.hid (show ∀ p ∈ outs M, (stepL x.o Dk' Gk).1.now[p]? = some (pad mineS) from fun p hp => (step_out x.o hst.inv.ok (by have h1 := hst.inv.fr; have h2 := hst.inv.sz; simp [outs] at hp; omega)).trans (HMI.out p hp))
            have CD := Lib.hid ((hst.below hba).does x.o x.ad x.cap hTx hxl (by omega) (by omega))
            obtain ⟨L, hL⟩ : ∃ L, L = x.o.all.length := ⟨_, rfl⟩
            have hov : ov x.o x.ad x.cap = .agg #[.int .i64 x.o.kd, .string x.o.s, .slice x.ad L x.cap] := by rw [hL]
            rw [hov, ← hL] at CD
            rw [← hL] at c2
            clear hst hp hTx hxl hba hL hov HST
            go_wp2_with fail
            refine CD.out.mono ?_
            rintro e w5 ⟨V5, VD5, rfl, h5, _⟩
            have HST5 := Lib.hid h5
            obtain ⟨r, hr⟩ : ∃ r, r = stepL x.o Dk' Gk := ⟨_, rfl⟩
            rw [← hr] at HST5 HNM
            rw [← hr]
            obtain ⟨rd, rg, re⟩ := r
            clear h5 CD hr
            go_wp2_with fail
            go_roundw
            case rel => exact ⟨k + 1, _, _, _, _, _, by omega, by go_num, HST5.out, HNM.out⟩
            case measure => simp [intOf]; omega
          · obtain rfl : len = k := by omega
            have hb7 : Below wr.heap.size wr (wr.alloc (.cells (cellsI M) 3)) := (Below.refl _ _).alloc (Nat.le_refl _) _
            have HD7 := Lib.hid (hst.ldg.dsk.bel hb7)
            have HB7 := Lib.hid (hst.bel.trans (hb7.mono hst.bel.size))
            have HQ7 := Lib.hid (Box.new wr 3 (cellsI M))
            obtain ⟨bz, hbz⟩ : ∃ bz, bz = wr.heap.size := ⟨_, rfl⟩
            rw [← hbz] at HQ7
            have HGD := Lib.hid hst.inv.ok.good
            have HDD := Lib.hid (show Dk'.dead = false by rw [hst.inv.ok.dead, hst.inv.live])
            clear hst hlt HO1 HFA hb7
            go_wp2_with fail
            rw [← hbz]
            clear hbz
            go_loopw [77] (fun i wr => ∃ k : Nat, k ≤ 4 ∧ i = .int .i64 k ∧ Dsk wr w1.heap.size nd VDk Dk' ∧ Box wr bz 3 (cellsI M) ∧ Below w1.heap.size w1 wr) (fun i _ => 4 - (intOf i).toNat)
            case atStart => exact ⟨0, Nat.zero_le _, rfl, HD7.out, HQ7.out, HB7.out⟩
            case round =>
              clear HD7 HQ7 HB7
              obtain ⟨k, hk, rfl, hds, hbq, hbel⟩ := hrel
              have HDS := Lib.hid hds
              have HBQ := Lib.hid hbq
              have HBEL := Lib.hid hbel
              by_cases hlt : k < 4
              · obtain ⟨p, hp⟩ : ∃ p, (outs M)[k]? = some p := ⟨_, List.getElem?_eq_getElem (by simpa [outs] using hlt)⟩
                have hcell : wr.cell? ⟨bz, k, none⟩ = some (.int .i64 (p : Int)) := (hbq.cell k).trans (cellsI_at hp)
                have hql := hbq.lt
                have hat := HMI.out p (List.mem_of_getElem? hp)
                have CR := Lib.hid (read_any (p : Int) hds HGD.out)
                have hba : Below wr.heap.size wr (wr.alloc (.cells (bc (pad mineS)).toArray 81)) := (Below.refl _ _).alloc (Nat.le_refl _) _
                have hbx := Box.new wr 81 (bc (pad mineS)).toArray
                have hby : Bys (wr.alloc (.cells (bc (pad mineS)).toArray 81)) (some ⟨wr.heap.size, 0, none⟩) 5 ((pad mineS).take 5) := ⟨rfl, by unfold maxLen; omega, .inr ⟨_, 0, rfl, hbx.lt, fun j v hj => by
                  rw [Nat.zero_add, hbx.cell j]
                  have hj5 : j < 5 := by have := (List.getElem?_eq_some_iff.1 hj).1; simpa [bc, pad, mineS] using this
                  rw [List.getElem?_toArray]
                  unfold bc at hj ⊢
                  rw [List.map_take, List.getElem?_take, if_pos hj5] at hj
                  exact hj⟩⟩
                have hcv := conv_any (cap := 64) hby ⟨_, rfl⟩
                have htx : txt ((pad mineS).take 5) = ⟨#[109, 105, 110, 101, 0]⟩ := rfl
                rw [htx] at hcv
                have hsl := slice_to wr.heap.size 64 64 5 (by omega)
                have HDA := Lib.hid (hds.bel hba)
                have HQA := Lib.hid (show Box (wr.alloc (.cells (bc (pad mineS)).toArray 81)) bz 3 (cellsI M) from (hba.block bz hql).trans hbq)
                have HBA := Lib.hid (hbel.trans (hba.mono hbel.size))
                have HAT := Lib.hid hat
                have hmy : mayE Dk' (p : Int) = 0 := may_live HDD.out (List.getElem?_eq_some_iff.1 hat).1
                have HMY := Lib.hid hmy
                clear hds hbq hbel hp hat hba hbx hby htx hmy
                go_wp2_with fail
                refine CR.out.mono ?_
                rintro e w7 hP
                have hP' : e = .returned (.tuple #[.slice (some ⟨wr.heap.size, 0, none⟩) 64 64, .int .i64 0]) ∧ w7 = wr.alloc (.cells (bc (pad mineS)).toArray 81) := by
                  rcases hP with ⟨h1, _⟩ | ⟨_, s', h1, h2, h3⟩
                  · exact absurd HMY.out h1
                  · rw [Int.toNat_natCast, HAT.out] at h1
                    obtain rfl := Option.some.inj h1
                    exact ⟨h2, h3⟩
                obtain ⟨rfl, rfl⟩ := hP'
                clear hP CR
                go_wp2_with fail
                go_roundw
                case rel => exact ⟨k + 1, by omega, by go_num, HDA.out, HQA.out, HBA.out⟩
                case measure => simp [intOf]; omega
              · obtain rfl : k = 4 := by omega
                clear hds hbq hbel hlt
                go_wp2_with fail
                refine (alive_any (w := wr)).mono ?_
                rintro e y2 ⟨rfl, b2⟩
                have HBZ := Lib.hid (HB1.out.trans ((HBEL.out.trans (b2.mono HBEL.out.size)).mono HB1.out.size))
                clear b2
                go_wp2_with fail
                go_ret
                exact ⟨rfl, HBZ.out⟩
theorem ledgerApart_walk {H : Type} {enc : TypeId × Value → H} {base : Nat} {p0 : List MemPlace} (W : World) (v0 : Value) (d0 : DataW H) (hv : Value.okWide Try.prog W .any base 46 v0) (h : DataW.Trod enc Try.prog W 0 (fun _ => true) true 46 v0 d0 p0) (_b : ∀ n ∈ d0.weights Try.prog 46, n ≤ 140737488351232)
    (a1 : Int) (_w1 : (Lit.int .i64 a1).wf = true) : Calls Try.prog 5 #[v0, .int .i64 a1] W fun e W' => e = .returned (.bool true) ∧ Below W.heap.size W W' := by
  obtain ⟨a, len, cap, xs, rfl, hP, h1, h2⟩ := open_ops hv h
  exact apart_core W a1 a len cap xs hP (by omega)
end Go.Proofs.Ytdiboicllolcnaa

/- plays: calls on a table, and on the document's. Conditions: the table lies in the call's own memory, and is good; the script does not. -/
import Derived.Test.YtkgnooogppkieaaLt
namespace Go.Proofs.Ytkgnooogppkieaa
open Go.RowKit
set_option linter.unusedVariables false
set_option linter.unusedSimpArgs false
variable {w w' : World} {base n : Nat} {v v' : Value} {L : List Lz}

theorem Sees.goes {ad : Option Addr} (h : Sees w (Of n v) ad L) (g : Goes w w' n v v') : Sees w' (Of n v') ad L := by
  refine h.imp id ?_
  rintro ⟨b, off, rfl, h1, h2, h3⟩
  have e : ∀ j, w'.cell? ⟨b, j, none⟩ = w.cell? ⟨b, j, none⟩ := fun j => World.cell?_of_block (a := ⟨b, j, none⟩) (g.touch.block b h1 h2)
  exact ⟨b, off, rfl, Nat.lt_of_lt_of_le h1 g.touch.size, fun h => (g.ofs b h).elim h2 (fun h => by omega), fun k p hp => by rw [e, e, e]; exact h3 k p hp⟩
/-- a table behind calls. -/
def playL (os : List Op10) (L : List Lz) : List Lz := os.foldl (fun L o => (stepL o L).2) L
theorem playL_next {os : List Op10} {k : Nat} {o : Op10} (h : os[k]? = some o) (L : List Lz) : playL (os.take (k + 1)) L = (stepL o (playL (os.take k) L)).2 := by
  unfold playL; rw [List.take_add_one, h, List.foldl_append]; rfl
theorem good_play {L : List Lz} (os : List Op10) (h : Good L) : Good (playL os L) := by
  unfold playL
  induction os generalizing L with
  | nil => exact h
  | cons o os ih => exact ih (good_step o h)

/-- what plays hands back. -/
def Played (w : World) (base n : Nat) (v : Value) (M : List Lz) (e : Ending) (w' : World) : Prop :=
  ∃ ad c v', e = .returned (.tuple #[.slice ad M.length c, .bool true]) ∧ M.length ≤ c ∧ Tab w' base n v' M ∧ Goes w w' n v v' ∧ Sees w' (Of n v') ad M
set_option maxRecDepth 100000 in
set_option maxHeartbeats 4000000 in
theorem plays_any (ad : Option Addr) (c : Nat) (pa : Option Addr) (len cap : Nat) (os : List Op10) (hO : OpsAt w pa len os) (hlen : len ≤ 1000) (hpa : ∀ g o s, pa = some ⟨g, o, s⟩ → 0 < len → g < base)
    (h : Tab w base n v L) (hb : base ≤ w.heap.size) (hg : Good L) (hs : Sees w (Of n v) ad L) (hc : L.length ≤ c) :
    Calls Try.prog 13 #[.pointer (some ⟨n, 0, none⟩), .slice ad L.length c, .slice pa len cap] w (Played w base n v (playL os L)) := by
  have HO := Lib.hid hO
  have HPA := Lib.hid hpa
  have HG := Lib.hid hg
  have HT0 := Lib.hid h
  have HS0 := Lib.hid hs
  have HOL : Hid (os.length = len) := by have := hO.1; rwa [List.length_map] at this
  clear hO hpa hg h hs
  go_enter Try.func13, Try.ntmps13
  go_wp2
  go_loopw [1, 14] (fun lv i wr => ∃ (k : Nat) (M : List Lz) (ad' : Option Addr) (c' : Nat) (v' : Value), k ≤ len ∧ i = .int .i64 k ∧ lv = .slice ad' M.length c' ∧ M = playL (os.take k) L ∧ M.length ≤ c' ∧
      Tab wr base n v' M ∧ Goes w wr n v v' ∧ Sees wr (Of n v') ad' M) (fun _ i _ => len - (intOf i).toNat)
  case atStart => exact ⟨0, L, ad, c, v, Nat.zero_le _, rfl, rfl, rfl, hc, HT0.out, Goes.of_below (Below.refl _ _), HS0.out⟩
  case round =>
    obtain ⟨k, M, ad', c', v1, hk, rfl, rfl, hM, hcM, hT, hgo, hse⟩ := hrel
    have HGM : Hid (Good M) := by rw [hM]; exact good_play _ HG.out
    have HM := Lib.hid hM
    have HT := Lib.hid hT
    have HGO := Lib.hid hgo
    have HSE := Lib.hid hse
    clear hM hT hgo hse
    by_cases hlt : k < len
    · obtain ⟨b, off, o, rfl, ho, hbw, d0, d1, d2, d3⟩ := HO.out.get k hlt
      have hbb := HPA.out b off none rfl (by omega)
      have hq : ∀ j, wr.cell? ⟨b, j, none⟩ = w.cell? ⟨b, j, none⟩ := fun j => World.cell?_of_block (a := ⟨b, j, none⟩) (HGO.out.touch.block b hbw (fun h => by have := HT0.out.of_ge b h; omega))
      rw [← hq] at d0 d1 d2 d3
      have HN := Lib.hid (show playL (os.take (k + 1)) L = (stepL o M).2 by rw [playL_next ho, ← HM.out])
      have hsz : w.heap.size ≤ wr.heap.size := HGO.out.touch.size
      have HBe := Lib.hid ((Below.refl wr.heap.size wr).alloc (Nat.le_refl _) (.cells (oc o).toArray 62))
      have C1 := Lib.hid (rdo_any (w := wr.alloc (.cells (oc o).toArray 62)) (bad := Of n v1) o ad' c' (HSE.out.below HBe.out) hcM HGM.out (fun k hk => Nat.lt_of_lt_of_le (HT.out.of_lt k hk) HBe.out.size))
      obtain ⟨r, hr⟩ : ∃ r, stepL o M = r := ⟨_, rfl⟩
      have HR := Lib.hid hr
      rw [hr] at C1 HN
      unfold ov at C1
      unfold oc at C1 HBe
      clear hq ho hr
      have HXo := Lib.hid (Box.new wr 62 #[.int .i64 o.kd, .int .i64 o.id, .int .i64 o.span, .int .i64 o.now])
      go_wp2_with fail
      refine C1.out.mono ?_
      rintro e w2 ⟨ad2, c2, rfl, hc2, hs2, hb2⟩
      have hsa := HBe.out.size
      have HB2 := Lib.hid (HBe.out.trans (hb2.mono hsa))
      have HT2 := Lib.hid (HT.out.below HB2.out (Nat.le_refl _))
      have HS2 := Lib.hid (hs2.mono (bad' := Of n v1) (fun k hk h => ⟨h, Nat.lt_of_lt_of_le (HT.out.of_lt k h) HBe.out.size⟩))
      have hX2 := HXo.out.below hb2 HXo.out.lt
      have e0 : w2.cell? ⟨wr.heap.size, 0, none⟩ = some (.int .i64 o.kd) := hX2.cell 0
      have e1 : w2.cell? ⟨wr.heap.size, 1, none⟩ = some (.int .i64 o.id) := hX2.cell 1
      have e2 : w2.cell? ⟨wr.heap.size, 2, none⟩ = some (.int .i64 o.span) := hX2.cell 2
      have e3 : w2.cell? ⟨wr.heap.size, 3, none⟩ = some (.int .i64 o.now) := hX2.cell 3
      have C2 := Lib.hid (does_any o HT2.out (by have := HB2.out.size; omega) HGM.out)
      rw [HR.out] at C2
      unfold ov at C2
      clear C1 hs2 hb2 hX2 d0 d1 d2 d3
      go_wp2_with fail
      refine C2.out.mono ?_
      rintro e w3 ⟨rfl, v3, hT3, g3⟩
      have hne : (r.1 != r.1) = false := bne_self_eq_false _
      have HT3 := Lib.hid hT3
      have HG3 := Lib.hid (HGO.out.trans (goes_from g3 HB2.out))
      have HS3 := Lib.hid (HS2.out.goes g3)
      clear hT3 g3 e0 e1 e2 e3 C2
      go_wp2
      go_roundw
      case rel => exact ⟨k + 1, r.2, ad2, c2, v3, by omega, by go_num, rfl, HN.out.symm, hc2, HT3.out, HG3.out, HS3.out⟩
      case measure => simp [intOf]; omega
    · obtain rfl : k = len := by omega
      have HM2 : Hid (M = playL os L) := by show M = _; rw [HM.out, ← HOL.out, List.take_length]
      go_wp2
      refine ret_two rfl rfl rfl rfl ?_
      rw [← HM2.out]
      exact ⟨ad', c', v1, rfl, hcM, HT.out, HGO.out, HSE.out⟩
end Go.Proofs.Ytkgnooogppkieaa

/- ledger: the records of bytes. Conditions: the bytes can be read. -/
import Derived.Test.YtdiboicllolcnaaLd
namespace Go.Proofs.Ytdiboicllolcnaa
open Go Go.RowKit
set_option linter.unusedVariables false
set_option linter.unusedSimpArgs false
variable {w w' : World} {base n nd : Nat}

def txt (l : Sec) : ByteArray := ⟨l.toArray⟩
/-- the records of bytes; none: they are not such. -/
def decF : Nat → Sec → Option (List ByteArray)
  | 0, _ => none
  | f + 1, b => if b.length = 0 then some [] else if b.length < 4 then none else
    if 4096 < num (b.take 4) ∨ b.length - 4 < num (b.take 4) then none else (decF f (b.drop (4 + num (b.take 4)))).map (txt ((b.drop 4).take (num (b.take 4))) :: ·)
theorem decF_more : ∀ (f g : Nat) (b : Sec), b.length < f → b.length < g → decF f b = decF g b := by
  intro f
  induction f with
  | zero => intro g b h; omega
  | succ f ih =>
    intro g b h1 h2
    match g, h2 with
    | g + 1, h2 =>
      unfold decF
      split
      · rfl
      · split
        · rfl
        · split
          · rfl
          · rw [ih g _ (by rw [List.length_drop]; omega) (by rw [List.length_drop]; omega)]
def decL (b : Sec) : Option (List ByteArray) := decF (b.length + 1) b
theorem decL_nil {b : Sec} (h : b.length = 0) : decL b = some [] := by unfold decL decF; rw [if_pos h]
theorem decL_short {b : Sec} (h0 : b.length ≠ 0) (h : b.length < 4) : decL b = none := by unfold decL decF; rw [if_neg h0, if_pos h]
theorem decL_bad {b : Sec} (h0 : b.length ≠ 0) (h : ¬ b.length < 4) (hb : 4096 < num (b.take 4) ∨ b.length - 4 < num (b.take 4)) : decL b = none := by unfold decL decF; rw [if_neg h0, if_neg h, if_pos hb]
theorem decL_more {b : Sec} (h0 : b.length ≠ 0) (h : ¬ b.length < 4) (hb : ¬ (4096 < num (b.take 4) ∨ b.length - 4 < num (b.take 4))) : decL b = (decL (b.drop (4 + num (b.take 4)))).map (txt ((b.drop 4).take (num (b.take 4))) :: ·) := by
  show decF (b.length + 1) b = _
  unfold decF
  rw [if_neg h0, if_neg h, if_neg hb]
  congr 1
  exact decF_more _ _ _ (by rw [List.length_drop]; omega) (by omega)
def encL (all : List ByteArray) : Sec := all.flatMap frame
theorem txt_data (s : ByteArray) : txt s.data.toList = s := by unfold txt; rw [Array.toArray_toList]
theorem decL_frame (s : ByteArray) (b : Sec) (h : s.size ≤ 4096) : decL (frame s ++ b) = (decL b).map (s :: ·) := by
  have hl : (frame s ++ b).length = 4 + s.size + b.length := by rw [List.length_append, frame_len]
  have h4 : (frame s ++ b).take 4 = be4 s.size := by
    unfold frame
    rw [List.append_assoc, List.take_append_of_le_length (by rw [be4_len]; omega)]
    exact List.take_of_length_le (by rw [be4_len]; omega)
  have hn : num ((frame s ++ b).take 4) = s.size := by rw [h4, num_be4 _ (by omega)]
  have hd4 : (frame s ++ b).drop 4 = s.data.toList ++ b := by
    unfold frame
    rw [List.append_assoc]
    exact List.drop_left' (be4_len _)
  have hsz : s.data.toList.length = s.size := by rw [Array.length_toList]; rfl
  rw [decL_more (by omega) (by omega) (by rw [hn]; omega), hn, hd4]
  rw [← List.drop_drop, hd4, List.drop_left' hsz, List.take_left' hsz, txt_data]
theorem decL_enc (all : List ByteArray) (h : ∀ s ∈ all, s.size ≤ 4096) : decL (encL all) = some all := by
  induction all with
  | nil => exact decL_nil rfl
  | cons s l ih =>
    show decL (frame s ++ encL l) = _
    rw [decL_frame s _ (h s (by simp)), ih fun t ht => h t (by simp [ht])]
    rfl
theorem addr_add (b off k : Nat) : (⟨b, off, none⟩ : Addr).add k = ⟨b, off + k, none⟩ := by
  unfold Addr.add; split <;> simp_all
/-- a slice of a slice of bytes. -/
theorem slice_mid {ad : Option Addr} {len cap : Nat} {b : Sec} (h : Bys w ad len b) (hc : len ≤ cap) (lo hi : Nat) (h1 : lo ≤ hi) (h2 : hi ≤ len) (h0 : 0 < len) :
    ∃ ad2 c2, (∀ W : World, (Instr.sliceAt 32 (.slice ad len cap) (some (.int .i64 (lo : Int))) (some (.int .i64 (hi : Int))) none).run Try.prog W = .ok (.slice ad2 (hi - lo) c2) W) ∧ hi - lo ≤ c2 ∧ Bys w ad2 (hi - lo) ((b.drop lo).take (hi - lo)) ∧ ∃ x, ad2 = some x := by
  obtain ⟨hb, hm, h3⟩ := h
  obtain ⟨g, off, rfl, hg, hcell⟩ := h3.resolve_left (by omega)
  have e : ∀ W, (sizeOf (Try.prog.elem 32)).run Try.prog W = .ok 1 W := fun W => by kernel_rfl
  have hr : ∀ W : World, (Instr.sliceAt 32 (.slice (some ⟨g, off, none⟩) len cap) (some (.int .i64 (lo : Int))) (some (.int .i64 (hi : Int))) none).run Try.prog W = .ok (sliced (some ⟨g, off, none⟩) lo hi cap 1) W := fun W => by
    rw [run_sliceAt_slice W 32 _ _ _ _ Try.underlying32, run_slice_lh W 32 _ len cap Try.underlying32 .i64 .i64 lo hi (by omega) (by omega) (by omega), e]
    simp only [Result.andThen, Int.toNat_natCast]
  have hL : ((b.drop lo).take (hi - lo)).length = hi - lo := by rw [List.length_take, List.length_drop, hb]; omega
  by_cases hcl : cap = lo
  · have hz : hi - lo = 0 := by omega
    refine ⟨some ⟨g, off, none⟩, cap - lo, fun W => ?_, by omega, ⟨hL, by omega, .inl hz⟩, _, rfl⟩
    rw [hr W]
    simp only [sliced, if_pos hcl]
  · refine ⟨some ⟨g, off + lo, none⟩, cap - lo, fun W => ?_, by omega, ⟨hL, by omega, .inr ⟨g, off + lo, rfl, hg, fun j v hj => ?_⟩⟩, _, rfl⟩
    · rw [hr W]
      simp only [sliced, if_neg hcl, Option.map_some, addr_add, Nat.mul_one]
    · have hj2 : j < hi - lo := by
        have := (List.getElem?_eq_some_iff.1 hj).1
        rw [bc_len, hL] at this
        exact this
      have := hcell (lo + j) v (by
        unfold bc at hj ⊢
        rw [List.getElem?_map, List.getElem?_take_of_lt hj2, List.getElem?_drop] at hj
        rw [List.getElem?_map]
        exact hj)
      rw [Nat.add_assoc]
      exact this
theorem slice_from {ad : Option Addr} {len cap : Nat} {b : Sec} (h : Bys w ad len b) (hc : len ≤ cap) (lo : Nat) (h2 : lo ≤ len) (h0 : 0 < len) :
    ∃ ad2 c2, (∀ W : World, (Instr.sliceAt 32 (.slice ad len cap) (some (.int .i64 (lo : Int))) none none).run Try.prog W = .ok (.slice ad2 (len - lo) c2) W) ∧ len - lo ≤ c2 ∧ Bys w ad2 (len - lo) (b.drop lo) := by
  obtain ⟨hb, hm, h3⟩ := h
  obtain ⟨g, off, rfl, hg, hcell⟩ := h3.resolve_left (by omega)
  have e : ∀ W, (sizeOf (Try.prog.elem 32)).run Try.prog W = .ok 1 W := fun W => by kernel_rfl
  have hr : ∀ W : World, (Instr.sliceAt 32 (.slice (some ⟨g, off, none⟩) len cap) (some (.int .i64 (lo : Int))) none none).run Try.prog W = .ok (sliced (some ⟨g, off, none⟩) lo len cap 1) W := fun W => by
    rw [run_sliceAt_slice W 32 _ _ _ _ Try.underlying32, run_slice_l W 32 _ len cap Try.underlying32 .i64 lo (by omega) (by omega), e]
    simp only [Result.andThen, Int.toNat_natCast]
  have hL : (b.drop lo).length = len - lo := by rw [List.length_drop, hb]
  by_cases hcl : cap = lo
  · have hz : len - lo = 0 := by omega
    refine ⟨some ⟨g, off, none⟩, cap - lo, fun W => ?_, by omega, ⟨hL, by omega, .inl hz⟩⟩
    rw [hr W]
    simp only [sliced, if_pos hcl]
  · refine ⟨some ⟨g, off + lo, none⟩, cap - lo, fun W => ?_, by omega, ⟨hL, by omega, .inr ⟨g, off + lo, rfl, hg, fun j v hj => ?_⟩⟩⟩
    · rw [hr W]
      simp only [sliced, if_neg hcl, Option.map_some, addr_add, Nat.mul_one]
    · have := hcell (lo + j) v (by
        unfold bc at hj ⊢
        rw [List.getElem?_map, List.getElem?_drop] at hj
        rw [List.getElem?_map]
        exact hj)
      rw [Nat.add_assoc]
      exact this
theorem slice_four {ad : Option Addr} {len cap : Nat} {b : Sec} (h : Bys w ad len b) (hc : len ≤ cap) (h4 : 4 ≤ len) :
    ∃ ad2, (∀ W : World, (Instr.sliceAt 32 (.slice ad len cap) none (some (.int .i64 4)) none).run Try.prog W = .ok (.slice ad2 4 cap) W) ∧ Bys w ad2 4 (b.take 4) := by
  obtain ⟨hb, hm, h3⟩ := h
  obtain ⟨g, off, rfl, hg, hcell⟩ := h3.resolve_left (by omega)
  have e : ∀ W, (sizeOf (Try.prog.elem 32)).run Try.prog W = .ok 1 W := fun W => by kernel_rfl
  refine ⟨some ⟨g, off, none⟩, fun W => ?_, ⟨by rw [List.length_take, hb]; omega, by omega, .inr ⟨g, off, rfl, hg, fun j v hj => ?_⟩⟩⟩
  · rw [run_sliceAt_slice W 32 _ _ _ _ Try.underlying32, run_slice_h W 32 _ len cap Try.underlying32 .i64 4 (by omega) (by omega), e]
    simp only [Result.andThen, sliced]
    rw [if_neg (by omega)]
    simp [addr_add]
  · have hj2 : j < 4 := by
      have := (List.getElem?_eq_some_iff.1 hj).1
      rw [bc_len, List.length_take] at this
      omega
    refine hcell j v ?_
    unfold bc at hj ⊢
    rw [List.getElem?_map, List.getElem?_take_of_lt hj2] at hj
    rw [List.getElem?_map]
    exact hj
theorem conv_any {ad : Option Addr} {len cap : Nat} {b : Sec} (h : Bys w ad len b) (hx : ∃ x, ad = some x) : (convert 32 9 (.slice ad len cap)).run Try.prog w = .ok (.string (txt b)) w := by
  obtain ⟨x, rfl⟩ := hx
  obtain ⟨hb, hm, h3⟩ := h
  rw [← hb]
  refine run_convert_bytes_back (P := Try.prog) w 32 9 5 x cap b Try.underlying32 Try.underlying5 Try.underlying9 fun j hj => ?_
  obtain ⟨g, off, e, hg, hcell⟩ := h3.resolve_left (by omega)
  obtain rfl := Option.some.inj e
  rw [addr_add]
  exact hcell j _ (by unfold bc; rw [List.getElem?_map, List.getElem?_eq_getElem hj]; rfl)
def sLen : Value → Nat
  | .slice _ n _ => n
  | _ => 0
/-- what records answers. -/
def RecPost (w : World) (b : Sec) (e : Ending) (w' : World) : Prop :=
  Below w.heap.size w w' ∧ ((decL b = none ∧ e = .returned (.tuple #[.slice none 0 0, .bool false])) ∨ ∃ all v, decL b = some all ∧ e = .returned (.tuple #[v, .bool true]) ∧ w'.ownsRow w.heap.size 9 1 v all.length (all.map Value.string))
set_option maxRecDepth 100000 in
set_option maxHeartbeats 4000000 in
theorem records_any (ad : Option Addr) (len cap : Nat) (b : Sec) (h : Bys w ad len b) (hc : len ≤ cap) (hl : len ≤ 10000000) : Calls Try.prog 49 #[.slice ad len cap] w (RecPost w b) := by
  obtain ⟨i0, hi, hz0, hz1, hz2⟩ := info_parts row9
  have HI := Lib.hid hi
  have HZZ := Lib.hid hz0
  have H := Lib.hid h
  clear h hi hz0
  go_enter Try.func49, Try.ntmps49
  go_wp2_with fail
  go_loopw [0, 4, 5] (fun v l _ wr => ∃ (ad : Option Addr) (len cap : Nat) (bb : Sec) (L : List ByteArray), v = .slice ad len cap ∧ len ≤ cap ∧ len + L.length ≤ 10000000 ∧ Bys w ad len bb ∧ wr.ownsRow w.heap.size 9 1 l L.length (L.map Value.string) ∧ Below w.heap.size w wr ∧ decL b = (decL bb).map (L ++ ·)) (fun v _ _ _ => sLen v)
  case atStart => exact ⟨ad, len, cap, b, [], rfl, hc, by simpa using hl, H.out, World.ownsRow_nil _ _ _ _, Below.refl _ _, by simp⟩
  case round =>
    clear H hc hl
    obtain ⟨ad, len, cap, bb, L, rfl, hc, hl, hB, hO, hb, hD⟩ := hrel
    have hbl := hB.1
    have HB0 := Lib.hid hB
    have HB := Lib.hid (hB.bel hb)
    have HO := Lib.hid hO
    have HW := Lib.hid hb
    have HD := Lib.hid hD
    have HBL := Lib.hid hbl
    obtain ⟨al, cl, rfl, _⟩ := own_shape hO
    have hlz : len ≤ 10000000 := by omega
    clear hB hO hb hD hbl
    by_cases h0 : len = 0
    · have HD0 := Lib.hid (show decL b = some L by rw [HD.out, decL_nil (by rw [HBL.out]; exact h0)]; simp)
      have h1 : ¬ (0 : Int) < (len : Int) := by omega
      clear h0
      go_wp2
      go_ret2
      exact ⟨HW.out, .inr ⟨L, _, HD0.out, rfl, HO.out⟩⟩
    · by_cases h4 : len < 4
      · have HD0 := Lib.hid (show decL b = none by rw [HD.out, decL_short (by rw [HBL.out]; exact h0) (by rw [HBL.out]; exact h4)]; rfl)
        go_wp2
        go_ret2
        exact ⟨HW.out, .inl ⟨HD0.out, rfl⟩⟩
      · obtain ⟨a4, s4, hB4⟩ := slice_four HB.out hc (by omega)
        have C4 := Lib.hid (take_any a4 4 cap (bb.take 4) hB4)
        obtain ⟨N, hN⟩ : ∃ N, N = num (bb.take 4) := ⟨_, rfl⟩
        have hN4 : N < 4294967296 := by rw [hN]; exact num_lt4 _ (by rw [List.length_take, HBL.out]; omega)
        have hwN : IntKind.i64.wrap (N : Int) = (N : Int) := by rw [IntKind.wrap_i64]; omega
        rw [← hN] at C4
        clear hB4 hN4
        by_cases hbad : 4096 < N ∨ len - 4 < N
        · have HD0 := Lib.hid (show decL b = none by rw [HD.out, decL_bad (by rw [HBL.out]; exact h0) (by rw [HBL.out]; exact h4) (by rw [← hN, HBL.out]; exact hbad)]; rfl)
          clear hN
          by_cases hb1 : 4096 < N
          · have hb2 : decide ((4096 : Int) < (N : Int)) = true := decide_eq_true (by omega)
            clear hbad
            go_wp2_with fail
            refine C4.out.mono ?_
            rintro e w4 ⟨rfl, rfl⟩
            go_wp2
            go_ret2
            exact ⟨HW.out, .inl ⟨HD0.out, rfl⟩⟩
          · have hb2 : decide ((4096 : Int) < (N : Int)) = false := decide_eq_false (by omega)
            have hb3 : (len : Int) - 4 < (N : Int) := by omega
            clear hbad
            go_wp2_with fail
            refine C4.out.mono ?_
            rintro e w4 ⟨rfl, rfl⟩
            go_wp2
            go_ret2
            exact ⟨HW.out, .inl ⟨HD0.out, rfl⟩⟩
        · have HD0 := Lib.hid (show decL b = (decL (bb.drop (4 + N))).map ((L ++ [txt ((bb.drop 4).take N)]) ++ ·) by
            rw [HD.out, decL_more (by rw [HBL.out]; exact h0) (by rw [HBL.out]; exact h4) (by rw [← hN, HBL.out]; exact hbad), ← hN]
            cases decL (bb.drop (4 + N)) with
            | none => rfl
            | some l => simp)
          have hb1 : ¬ 4096 < N := fun h => hbad (.inl h)
          have hb2 : decide ((4096 : Int) < (N : Int)) = false := decide_eq_false (by omega)
          have hb3 : ¬ (len : Int) - 4 < (N : Int) := by omega
          obtain ⟨am, cm, sm, hcm, hBm, hxm⟩ := slice_mid HB.out hc 4 (4 + N) (by omega) (by omega) (by omega)
          obtain ⟨af, cf, sf, hcf, hBf⟩ := slice_from HB0.out hc (4 + N) (by omega) (by omega)
          have hcv := conv_any (cap := cm) hBm hxm
          rw [Nat.add_sub_cancel_left] at sm hcv
          have eN : ((4 + N : Nat) : Int) = 4 + (N : Int) := by omega
          rw [eN] at sm sf
          have sm4 : ∀ W : World, (Instr.sliceAt 32 (.slice ad len cap) (some (.int .i64 4)) (some (.int .i64 (4 + (N : Int)))) none).run Try.prog W = .ok (.slice am N cm) W := sm
          have HBF := Lib.hid hBf
          obtain ⟨T, hT⟩ : ∃ T, T = txt ((bb.drop 4).take N) := ⟨_, rfl⟩
          rw [← hT] at hcv
          rw [← hT] at HD0
          have hcv2 : (convert 32 9 (.slice am N cm)).run Try.prog wr = .ok (.string T) wr := hcv
          have hX := Box.new wr 9 #[.string T]
          have HSRC := Lib.hid (show Src (wr.alloc (.cells #[.string T] 9)) (some ⟨wr.heap.size, 0, none⟩) 1 1 [.string T] from ⟨rfl, by simp [Value.oneCell'], .inr ⟨_, rfl, fun j u hj => by rw [Addr.add_lit, Nat.zero_add, hX.cell j]; simpa using hj⟩⟩)
          have HOA := Lib.hid (own_stays HO.out (w' := wr.alloc (.cells #[.string T] 9)) fun k hk => Below.heap_alloc wr _ k (own_lt HO.out k hk))
          have hBA := HW.out.alloc HW.out.size (.cells #[.string T] 9)
          have HBA := Lib.hid hBA
          have HSZ := Lib.hid hBA.size
          have HNLE := Lib.hid (show 4 + N ≤ len by omega)
          clear hbad hN sm hcv hBm hxm hBf hT hX hBA eN
          go_wp2_with fail
          refine C4.out.mono ?_
          rintro e w4 ⟨rfl, rfl⟩
          go_wp2_with (at_builtin; refine wpList_append_at rfl (.tmp 25) (.tmp 31) 42 rfl w.heap.size 9 i0 _ 1 16 Try.underlying42 HI.out HZZ.out hz1 hz2 rfl (by decide) _ _ _ rfl HOA.out _ _ _ _ rfl HSRC.out ?c2 ?c3 HSZ.out ?_)
          case c2 => unfold maxLen; omega
          case c3 => omega
          intro v5 w5 own5 g5 at5
          obtain ⟨a5, c5, rfl, _⟩ := own_shape own5
          have HO5 := Lib.hid own5
          have HB5 := Lib.hid (HBA.out.grown g5 HSZ.out (own_ge HOA.out))
          clear own5 g5 at5 HOA HSRC HBA HO HW HB
          go_wp2_with fail
          go_roundw
          case rel =>
            refine ⟨af, len - (4 + N), cf, bb.drop (4 + N), L ++ [T], rfl, hcf, ?_, HBF.out, ?_, HB5.out, HD0.out⟩
            · rw [List.length_append]; simp; omega
            · have := HO5.out
              rw [List.length_append, List.map_append]
              exact this
          case measure =>
            show len - (4 + N) < len
            omega
end Go.Proofs.Ytdiboicllolcnaa

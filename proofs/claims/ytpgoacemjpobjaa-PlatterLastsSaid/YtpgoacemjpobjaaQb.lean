/- The document's disk: dies, put, New. Conditions: its rows lie in memory. -/
import Derived.Test.YtpgoacemjpobjaaQa
import Derived.Lib.LazyBuf
namespace Go.Proofs.Ytpgoacemjpobjaa
open Go Go.RowKit
set_option linter.unusedVariables false
set_option linter.unusedSimpArgs false
variable {w w' : World} {base n : Nat} {bad bad' : Nat → Prop} {D : Dk}

theorem sofn (s : Sec) : strOfNums (s.map fun b => (b.toNat : Int)) = ⟨s.toArray⟩ := by
  simp [strOfNums, List.map_map, Function.comp_def]
theorem conv_any {ad : Option Addr} {len : Nat} {s : Sec} (h : Bys w ad len s) (cap : Nat) : (convert 36 9 (.slice ad len cap)).run Try.prog w = .ok (st s) w := by
  obtain ⟨hl, _, hc⟩ := h
  rcases hc with rfl | ⟨g, off, rfl, _, hc⟩
  · have hz : s = [] := by simpa using hl
    subst hz
    cases ad with
    | none => rw [run_convert_bytes_nil w 36 5 Try.underlying36 Try.underlying5 0 cap 9 Try.underlying9]; rfl
    | some x =>
      rw [run_convert_bytes_string w 36 9 5 (some x) 0 cap Try.underlying36 Try.underlying5 Try.underlying9, run_bytesToString w x 0 cap [] (by simp [loadCells, loadCellsFrom])]
      rfl
  · rw [run_convert_bytes_arg w 36 5 Try.underlying36 Try.underlying5 g off len cap (s.map fun b => (b.toNat : Int)) (by simpa using hl) (fun i hi => ?_) 9 Try.underlying9, sofn]
    · rfl
    · have h1 : i < s.length := by omega
      rw [hc i (.int .u8 (s[i].toNat : Int)) (by simp [bc, h1])]
      simp [List.getD_eq_getElem?_getD, h1]
theorem bys_new (w : World) (s : Sec) (T : TypeId) (hs : s.length = 64) : Bys (w.alloc (.cells (bc s).toArray T)) (some ⟨w.heap.size, 0, none⟩) 64 s := by
  refine ⟨hs, by decide, .inr ⟨_, 0, rfl, by simp, fun j v hj => ?_⟩⟩
  rw [Nat.zero_add, (Box.new w T (bc s).toArray).cell j]; simpa using hj
theorem mk64 (w : World) : (Instr.makeSlice 36 (.int .i64 64) (.int .i64 64)).run Try.prog w = .ok (.slice (some ⟨w.heap.size, 0, none⟩) 64 64) (w.alloc (.cells zeros 5)) := by kernel_rfl
theorem copy_in5 {ad : Option Addr} {len : Nat} {b : Sec} (w0 : World) (hB : Bys w0 ad len b) (h64 : len ≤ 64) (cap : Nat) :
    (Builtin.copy_ #[36, 36] 3 #[.slice (some ⟨w0.heap.size, 0, none⟩) 64 64, .slice ad len cap]).run Try.prog (w0.alloc (.cells zeros 5)) = .ok (goInt len) (w0.alloc (.cells (bc (pad b)).toArray 5)) := by
  obtain ⟨hl, _, hc⟩ := hB
  rcases hc with rfl | ⟨g, off, rfl, hg, hc⟩
  · have hb : b = [] := by simpa using hl
    subst hb
    rw [run_copy_none _ 36 36 3 5 _ _ _ _ _ _ Try.underlying36 isz5 (by simp)]
    rfl
  · have hn : (bc b).length = Nat.min len 64 * 1 := by rw [bc_len, hl, Nat.mul_one]; exact (Nat.min_eq_left h64).symm
    have h0 := run_copy_rowK (P := Try.prog) (w0.alloc (.cells zeros 5)) 36 36 3 5 1 w0.heap.size 0 64 64 ⟨g, off, none⟩ len cap zeros 5 (bc b) Try.underlying36 isz5 (heap_alloc_new w0 _) hn
      (fun j v hj => by
        rw [Addr.add_mid]
        have := hc j v hj
        unfold World.cell? at this ⊢
        rw [Below.heap_alloc w0 _ g hg]; exact this) (by rw [zeros_size, bc_len]; omega) (bc_one b)
    rw [h0]
    simp only [List.take_zero, List.nil_append, Nat.zero_add]
    rw [World.setRow_alloc_new, bc_pad (by omega), bc_len, show Nat.min len 64 = len from Nat.min_eq_left h64]
set_option maxHeartbeats 1000000 in
theorem rdies_any {af aw : Option Addr} {cf cw : Nat} (hg : 0 ≤ D.armed ∧ D.armed ≤ 9223372036854775807) :
    Calls Try.prog 31 #[rdv af aw cf cw D] w fun e w' => e = .returned (rdv af aw cf cw (diesD D)) ∧ Below w.heap.size w w' := by
  obtain ⟨F, hF⟩ : ∃ F, F = D.firm.length := ⟨_, rfl⟩
  obtain ⟨W, hW⟩ : ∃ W, W = D.wait.length := ⟨_, rfl⟩
  obtain ⟨a, ha⟩ : ∃ a, a = D.armed := ⟨_, rfl⟩
  obtain ⟨q, hq⟩ : ∃ q, q = D.dead := ⟨_, rfl⟩
  have hx : rdv af aw cf cw D = .agg #[.slice af F cf, .slice aw W cw, .int .i64 a, .bool q] := by unfold rdv; rw [hF, hW, ha, hq]
  rw [hx]
  by_cases h0 : a = 0
  · have HE : Hid (rdv af aw cf cw (diesD D) = .agg #[.slice af F cf, .slice aw W cw, .int .i64 0, .bool q]) := by
      have : rdv af aw cf cw (diesD D) = .agg #[.slice af F cf, .slice aw W cw, .int .i64 0, .bool q] := by unfold diesD; rw [if_pos (by rw [← ha]; exact h0), hx, h0]
      exact this
    subst h0
    clear hF hW ha hq hx hg
    go_enter Try.func31, Try.ntmps31
    go_wp2
    refine ret_box28 (b := w.heap.size + 1) (x := .slice af F cf) (y := .slice aw W cw) (z := .int .i64 0) (q := .bool q) Try.results31 rfl rfl ?_ ⟨by rw [HE.out], (((Below.refl w.heap.size w).alloc (Nat.le_refl _) _).alloc (by simp) _)⟩
    have := Box.new (w.alloc (.cells #[.slice af F cf, .slice aw W cw, .int .i64 0, .bool q] 28)) 28 #[.slice af F cf, .slice aw W cw, .int .i64 0, .bool q]
    simpa using this
  · obtain ⟨b, hb⟩ : ∃ b, b = decide (a - 1 = 0) := ⟨_, rfl⟩
    have hb2 : (a - 1 == 0) = b := by rw [hb, Bool.eq_iff_iff]; simp
    have HE : Hid (rdv af aw cf cw (diesD D) = .agg #[.slice af F cf, .slice aw W cw, .int .i64 (a - 1), .bool b]) := by
      have : rdv af aw cf cw (diesD D) = .agg #[.slice af F cf, .slice aw W cw, .int .i64 (a - 1), .bool b] := by unfold diesD; rw [if_neg (by rw [← ha]; exact h0), hF, hW, hb, ha]; rfl
      exact this
    rw [← ha] at hg
    have h1 : 0 < a := by omega
    have h1' : decide (0 < a) = true := by simpa using h1
    have h2 := hg.2
    clear hF hW ha hq hx hg hb h0
    go_enter Try.func31, Try.ntmps31
    go_wp2
    refine ret_box28 (b := w.heap.size + 1) (x := .slice af F cf) (y := .slice aw W cw) (z := .int .i64 (a - 1)) (q := .bool b) Try.results31 rfl rfl ?_ ⟨by rw [HE.out], (((Below.refl w.heap.size w).alloc (Nat.le_refl _) _).alloc (by simp) _)⟩
    have := Box.new (w.alloc (.cells #[.slice af F cf, .slice aw W cw, .int .i64 (a - 1), .bool b] 28)) 28 #[.slice af F cf, .slice aw W cw, .int .i64 (a - 1), .bool b]
    simpa using this
end Go.Proofs.Ytpgoacemjpobjaa

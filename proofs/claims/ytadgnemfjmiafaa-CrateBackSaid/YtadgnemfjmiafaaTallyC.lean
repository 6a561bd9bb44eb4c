/- The sums by their contracts, and bytes in memory. Conditions: the bytes lie in memory. -/
import Derived.Test.YtadgnemfjmiafaaTallyB
import Derived.Test.YtadgnemfjmiafaaOpen
import Derived.Test.YtadgnemfjmiafaaOwn
import Derived.Test.YtadgnemfjmiafaaTouch
import Derived.Lib.SlBytesConst
namespace Go.Proofs.Ytadgnemfjmiafaa
open Go.RowKit

theorem more0_any (a : Option Addr) (len cap : Nat) (zs : List Int) (w : World) (hB : Bytes w a len zs) :
    Calls Try.prog 21 #[.int .u32 0, .slice a len cap] w fun e w' => e = .returned (.int .u32 (Tally.sum zs).toNat) ∧ w = w' :=
  more_any 0#32 a len cap zs w hB
theorem rmore0_any (a : Option Addr) (len cap : Nat) (zs : List Int) (w : World) (hB : Bytes w a len zs) :
    Calls Try.prog 25 #[.int .u32 0, .slice a len cap] w fun e w' => e = .returned (.int .u32 (Tally.sum zs).toNat) ∧ w = w' :=
  rmore_any 0#32 a len cap zs w hB
theorem sum_any (a : Option Addr) (len cap : Nat) (zs : List Int) (w : World) (hB : Bytes w a len zs) :
    Calls Try.prog 15 #[.slice a len cap] w fun e w' => e = .returned (.int .u32 (Tally.sum zs).toNat) ∧ w = w' := by
  go_enter Try.func15, Try.ntmps15
  go_wp2_with (go_at_call 21; refine (more0_any _ _ _ zs _ hB).mono ?_; rintro e w' ⟨rfl, rfl⟩)
  go_ret
  exact ⟨rfl, rfl⟩
theorem rsum_any (a : Option Addr) (len cap : Nat) (zs : List Int) (w : World) (hB : Bytes w a len zs) :
    Calls Try.prog 22 #[.slice a len cap] w fun e w' => e = .returned (.int .u32 (Tally.sum zs).toNat) ∧ w = w' := by
  go_enter Try.func22, Try.ntmps22
  go_wp2_with (go_at_call 25; refine (rmore0_any _ _ _ zs _ hB).mono ?_; rintro e w' ⟨rfl, rfl⟩)
  go_ret
  exact ⟨rfl, rfl⟩
theorem bytes_new (w : World) (C : Array Value) (T : TypeId) (m : Nat × Nat) (zs : List Int) (hC : C = (zs.map (Value.int .u8)).toArray) (hz : ∀ n ∈ zs, 0 ≤ n ∧ n < 256) (hl : zs.length ≤ maxLen) :
    Bytes (w.alloc (.cells C T m)) (some ⟨w.heap.size, 0, none⟩) zs.length zs := by
  refine ⟨rfl, hz, hl, .inr ⟨_, _, rfl, fun i hi => ?_⟩⟩
  rw [World.cell?_alloc_mark, hC]
  simp [hi]
theorem Bytes.alloc {w : World} {a : Option Addr} {len : Nat} {zs : List Int} (h : Bytes w a len zs) (o : Obj) : Bytes (w.alloc o) a len zs := by
  obtain ⟨h1, h2, h3, h4⟩ := h
  refine ⟨h1, h2, h3, h4.imp id ?_⟩
  rintro ⟨b, off, rfl, hc⟩
  exact ⟨b, off, rfl, fun i hi => Lib.cell?_alloc_marked o (hc i hi)⟩
theorem Bytes.below {w w' : World} {a : Option Addr} {len : Nat} {zs : List Int} (h : Bytes w a len zs) (hb : Below w.heap.size w w') : Bytes w' a len zs := by
  obtain ⟨h1, h2, h3, h4⟩ := h
  refine ⟨h1, h2, h3, h4.imp id ?_⟩
  rintro ⟨b, off, rfl, hc⟩
  exact ⟨b, off, rfl, fun i hi => (hb.cell (World.block_lt_of_cell? _ _ (hc i hi))).trans (hc i hi)⟩
theorem forget {P : Program} {f : FuncId} {args : Array Value} {w w0 : World} {v : Ending} {B : Nat} (h : Calls P f args w fun e w' => e = v ∧ w = w') (hb : Below B w0 w) :
    Calls P f args w fun e w' => e = v ∧ Below B w0 w' :=
  h.mono fun _ _ ⟨h1, h2⟩ => ⟨h1, h2 ▸ hb⟩
theorem Bytes.of_ints {w : World} {a : Option Addr} {len : Nat} {zs : List Int} (h : Ints .u8 w a len zs) : Bytes w a len zs := by
  obtain ⟨h1, h2, h3, h4⟩ := h
  refine ⟨h1, fun n hn => ?_, h3, h4⟩
  have := h2 n hn
  simp [Lit.wf, IntKind.min, IntKind.max, IntKind.signed, IntKind.bits] at this
  omega
theorem bv_of_wf {n : Int} (h : (Lit.int .u32 n).wf = true) : ∃ c : BitVec 32, n = (c.toNat : Int) := by
  simp [Lit.wf, IntKind.min, IntKind.max, IntKind.signed, IntKind.bits] at h
  refine ⟨BitVec.ofNat 32 n.toNat, ?_⟩
  rw [BitVec.toNat_ofNat]
  omega
theorem Addr.add0 (a : Addr) : a.add 0 = a := by simp [Addr.add]
theorem run_front (a : Option Addr) (len cap k : Nat) (h : k ≤ cap) (w : World) : (Instr.sliceAt 22 (.slice a len cap) none (some (.int .i64 (k : Int))) none).run Try.prog w = .ok (.slice a k cap) w := by
  have e : (sizeOf (Try.prog.elem 22)).run Try.prog w = .ok 1 w := by kernel_rfl
  rw [run_sliceAt_slice w 22 _ _ _ _ Try.underlying22, run_slice_h w 22 a len cap Try.underlying22 .i64 k (by omega) (by omega), e]
  simp only [Result.andThen, sliced, Nat.zero_mul, Int.toNat_natCast, Nat.sub_zero]
  have : a.map (fun x => x.add 0) = a := by cases a <;> simp [Addr.add0]
  rw [this]
  simp
theorem Bytes.take {w : World} {a : Option Addr} {len : Nat} {zs : List Int} (h : Bytes w a len zs) (n : Nat) (hn : n ≤ len) : Bytes w a n (zs.take n) := by
  obtain ⟨h1, h2, h3, h4⟩ := h
  refine ⟨by simp; omega, fun x hx => h2 x (List.mem_of_mem_take hx), by omega, ?_⟩
  by_cases h0 : n = 0
  · exact .inl h0
  · obtain ⟨b, off, rfl, hc⟩ := h4.resolve_left (by omega)
    refine .inr ⟨b, off, rfl, fun i hi => ?_⟩
    rw [hc i (by omega)]
    simp [List.getD, hi]
theorem Bytes.of_own {w : World} {base e : Nat} {g n cap : Nat} {zs : List Int} (h : w.ownsRow base e 1 (.slice (some ⟨g, 0, none⟩) n cap) n (zs.map (Value.int .u8))) (hr : ∀ x ∈ zs, 0 ≤ x ∧ x < 256) (hm : n ≤ maxLen) : Bytes w (some ⟨g, 0, none⟩) n zs := by
  have hl : zs.length = n := by simpa using h.1
  refine ⟨hl, hr, hm, .inr ⟨g, 0, rfl, fun i hi => ?_⟩⟩
  rw [Nat.zero_add, h.cellAt i (by omega)]
  simp [hl, hi]
theorem Bytes.get {w : World} {a : Option Addr} {len : Nat} {zs : List Int} (hB : Bytes w a len zs) (k : Nat) (h : k < len) :
    ∃ b off x, a = some ⟨b, off, none⟩ ∧ w.cell? ⟨b, off + k, none⟩ = some (.int .u8 x) ∧ 0 ≤ x ∧ x < 256 ∧ x = zs.getD k 0 ∧ b < w.heap.size := by
  obtain ⟨hl, hr, hm, hB⟩ := hB
  obtain ⟨b, off, rfl, hc⟩ := hB.resolve_left (by omega)
  have hr' := getD_range zs _ hr k (by omega)
  exact ⟨b, off, _, rfl, hc k h, hr'.1, hr'.2, rfl, World.block_lt_of_cell? _ _ (hc k h)⟩
theorem sum_own {w : World} {base e n : Nat} {v : Value} {zs : List Int} (h : w.ownsRow base e 1 v n (zs.map (Value.int .u8))) (hr : ∀ x ∈ zs, 0 ≤ x ∧ x < 256) (hm : n ≤ maxLen) :
    Calls Try.prog 15 #[v] w fun e w' => e = .returned (.int .u32 (Tally.sum zs).toNat) ∧ w = w' := by
  rcases h.2 with ⟨rfl, rfl⟩ | ⟨g, cap, cur, rfl, _⟩
  · have : zs = [] := by simpa using h.1
    subst this
    exact sum_any _ _ _ _ _ ⟨rfl, by simp, Nat.zero_le _, .inl rfl⟩
  · exact sum_any _ _ _ _ _ (Bytes.of_own h hr hm)
theorem Bytes.src {w : World} {a : Option Addr} {len : Nat} {zs : List Int} (h : Bytes w a len zs) : Src w a len 1 (zs.map (Value.int .u8)) := by
  obtain ⟨h1, h2, h3, h4⟩ := h
  refine ⟨by simpa using h1, fun u hu => ?_, h4.imp id ?_⟩
  · obtain ⟨x, _, rfl⟩ := List.mem_map.1 hu; rfl
  · rintro ⟨b, off, rfl, hc⟩
    refine ⟨_, rfl, fun j u hj => ?_⟩
    have hj' : j < zs.length := by
      have := List.getElem?_eq_some_iff.1 hj
      obtain ⟨hlt, _⟩ := this
      simpa using hlt
    have := hc j (by omega)
    simp only [List.getElem?_map, List.getElem?_eq_getElem hj', Option.map_some, Option.some.injEq] at hj
    subst hj
    rw [show zs.getD j 0 = zs[j] by simp [hj']] at this
    by_cases e : j = 0
    · subst e; simpa [Addr.add] using this
    · simpa [Addr.add, e] using this
end Go.Proofs.Ytadgnemfjmiafaa

/- ledger: the law's fair: what a call may answer. Conditions: as in each statement. -/
import Derived.Test.YtdiboicllolcnaaMb
namespace Go.Proofs.Ytdiboicllolcnaa
open Go Go.RowKit
set_option linter.unusedVariables false
set_option linter.unusedSimpArgs false
variable {w w' : World} {base n nd b0 : Nat} {V V' : Vl} {VD VD' : Vs} {D D' : Dk} {G G' : Lg}
/-- may a call be answered so? -/
def fairP (o : Op5) (many room e : Int) : Prop :=
  (o.kd = 0 ∧ 4096 < o.s.size ∧ e = 52) ∨ (o.kd = 0 ∧ ¬ 4096 < o.s.size ∧ room < (o.s.size : Int) ∧ e = 51) ∨ (o.kd = 0 ∧ ¬ 4096 < o.s.size ∧ ¬ room < (o.s.size : Int) ∧ e = 0) ∨
  (o.kd = 2 ∧ longB o.all = true ∧ e = 52) ∨ (o.kd = 2 ∧ longB o.all = false ∧ e = 0) ∨ (o.kd = 2 ∧ longB o.all = false ∧ e = 51 ∧ 32 * (many - 2) - 128 < (needL o.all : Int)) ∨ (o.kd ≠ 0 ∧ o.kd ≠ 2 ∧ e = 0)
theorem fair_a (o : Op5) (many room : Int) (ad : Option Addr) (cap len : Nat) (hlen : len = o.all.length) (hx : TxIn w ad cap o.all) (h : 4096 < o.s.size) : Calls Try.prog 25 #[.agg #[.int .i64 0, .string o.s, .slice ad len cap], .int .i64 many, .int .i64 room, .int .i64 52] w fun e w' => e = .returned (.bool true) ∧ Below w.heap.size w w' := by
  have hb : Below w.heap.size w (w.alloc (.cells #[.int .i64 0, .string o.s, .slice ad len cap] 49)) := (Below.refl _ _).alloc (Nat.le_refl _) _
  have HB := Lib.hid hb
  have h1 : (4096 : Int) < (o.s.size : Int) := by omega
  clear hb hx hlen h
  go_enter Try.func25, Try.ntmps25
  go_wp2_with fail
  go_ret
  exact ⟨rfl, HB.out⟩
theorem fair_b (o : Op5) (many room : Int) (ad : Option Addr) (cap len : Nat) (hlen : len = o.all.length) (hx : TxIn w ad cap o.all) (h : ¬ 4096 < o.s.size) (hr : room < (o.s.size : Int)) : Calls Try.prog 25 #[.agg #[.int .i64 0, .string o.s, .slice ad len cap], .int .i64 many, .int .i64 room, .int .i64 51] w fun e w' => e = .returned (.bool true) ∧ Below w.heap.size w w' := by
  have hb : Below w.heap.size w (w.alloc (.cells #[.int .i64 0, .string o.s, .slice ad len cap] 49)) := (Below.refl _ _).alloc (Nat.le_refl _) _
  have HB := Lib.hid hb
  have h1 : ¬ (4096 : Int) < (o.s.size : Int) := by omega
  clear hb hx hlen h
  go_enter Try.func25, Try.ntmps25
  go_wp2_with fail
  go_ret
  exact ⟨rfl, HB.out⟩
theorem fair_c (o : Op5) (many room : Int) (ad : Option Addr) (cap len : Nat) (hlen : len = o.all.length) (hx : TxIn w ad cap o.all) (h : ¬ 4096 < o.s.size) (hr : ¬ room < (o.s.size : Int)) : Calls Try.prog 25 #[.agg #[.int .i64 0, .string o.s, .slice ad len cap], .int .i64 many, .int .i64 room, .int .i64 0] w fun e w' => e = .returned (.bool true) ∧ Below w.heap.size w w' := by
  have hb : Below w.heap.size w (w.alloc (.cells #[.int .i64 0, .string o.s, .slice ad len cap] 49)) := (Below.refl _ _).alloc (Nat.le_refl _) _
  have HB := Lib.hid hb
  have h1 : ¬ (4096 : Int) < (o.s.size : Int) := by omega
  clear hb hx hlen h
  go_enter Try.func25, Try.ntmps25
  go_wp2_with fail
  go_ret
  exact ⟨rfl, HB.out⟩
theorem fair_d (o : Op5) (many room : Int) (ad : Option Addr) (cap len : Nat) (hlen : len = o.all.length) (hx : TxIn w ad cap o.all) (hl : longB o.all = true) : Calls Try.prog 25 #[.agg #[.int .i64 2, .string o.s, .slice ad len cap], .int .i64 many, .int .i64 room, .int .i64 52] w fun e w' => e = .returned (.bool true) ∧ Below w.heap.size w w' := by
  have hb : Below w.heap.size w (w.alloc (.cells #[.int .i64 2, .string o.s, .slice ad len cap] 49)) := (Below.refl _ _).alloc (Nat.le_refl _) _
  have HB := Lib.hid hb
  have CL := long_any ad len cap o.all (by rw [hlen]; exact (hx.below hb (Nat.le_refl _)).at_)
  rw [hl] at CL
  have CL := Lib.hid CL
  clear hb hx hlen hl
  go_enter Try.func25, Try.ntmps25
  go_wp2_with fail
  refine CL.out.mono ?_
  rintro e w1 ⟨rfl, rfl⟩
  go_wp2_with fail
  go_ret
  exact ⟨rfl, HB.out⟩
theorem fair_e (o : Op5) (many room : Int) (ad : Option Addr) (cap len : Nat) (hlen : len = o.all.length) (hx : TxIn w ad cap o.all) (hl : longB o.all = false) : Calls Try.prog 25 #[.agg #[.int .i64 2, .string o.s, .slice ad len cap], .int .i64 many, .int .i64 room, .int .i64 0] w fun e w' => e = .returned (.bool true) ∧ Below w.heap.size w w' := by
  have hb : Below w.heap.size w (w.alloc (.cells #[.int .i64 2, .string o.s, .slice ad len cap] 49)) := (Below.refl _ _).alloc (Nat.le_refl _) _
  have HB := Lib.hid hb
  have CL := long_any ad len cap o.all (by rw [hlen]; exact (hx.below hb (Nat.le_refl _)).at_)
  rw [hl] at CL
  have CL := Lib.hid CL
  clear hb hx hlen hl
  go_enter Try.func25, Try.ntmps25
  go_wp2_with fail
  refine CL.out.mono ?_
  rintro e w1 ⟨rfl, rfl⟩
  go_wp2_with fail
  go_ret
  exact ⟨rfl, HB.out⟩
theorem fair_f (o : Op5) (many room : Int) (ad : Option Addr) (cap len : Nat) (hlen : len = o.all.length) (hx : TxIn w ad cap o.all) (hl : longB o.all = false) (hlm : len ≤ 100000) (h0 : -1000000 ≤ many) (h1 : many ≤ 1000000) (hn : 32 * (many - 2) - 128 < (needL o.all : Int)) : Calls Try.prog 25 #[.agg #[.int .i64 2, .string o.s, .slice ad len cap], .int .i64 many, .int .i64 room, .int .i64 51] w fun e w' => e = .returned (.bool true) ∧ Below w.heap.size w w' := by
  have hb : Below w.heap.size w (w.alloc (.cells #[.int .i64 2, .string o.s, .slice ad len cap] 49)) := (Below.refl _ _).alloc (Nat.le_refl _) _
  have HB := Lib.hid hb
  have CL := long_any ad len cap o.all (by rw [hlen]; exact (hx.below hb (Nat.le_refl _)).at_)
  rw [hl] at CL
  have CL := Lib.hid CL
  have CN := need_any ad len cap o.all (by rw [hlen]; exact (hx.below hb (Nat.le_refl _)).at_) hlm hl
  have HSU := Lib.hid (fun w1 : World => sure_any (w := w1) many h0 h1)
  obtain ⟨N, hN⟩ : ∃ N, N = needL o.all := ⟨_, rfl⟩
  rw [← hN] at CN hn
  have CN := Lib.hid CN
  clear hb hx hlen hl hN h0 h1
  go_enter Try.func25, Try.ntmps25
  go_wp2_with fail
  refine CL.out.mono ?_
  rintro e w1 ⟨rfl, rfl⟩
  go_wp2_with fail
  refine CN.out.mono ?_
  rintro e w1 ⟨rfl, rfl⟩
  go_wp2_with fail
  refine (HSU.out _).mono ?_
  rintro e w1 ⟨rfl, rfl⟩
  go_wp2_with fail
  go_ret
  exact ⟨rfl, HB.out⟩
theorem fair_g (o : Op5) (many room : Int) (ad : Option Addr) (cap len : Nat) (hlen : len = o.all.length) (hx : TxIn w ad cap o.all) (h0 : o.kd ≠ 0) (h2 : o.kd ≠ 2) : Calls Try.prog 25 #[.agg #[.int .i64 o.kd, .string o.s, .slice ad len cap], .int .i64 many, .int .i64 room, .int .i64 0] w fun e w' => e = .returned (.bool true) ∧ Below w.heap.size w w' := by
  have hb : Below w.heap.size w (w.alloc (.cells #[.int .i64 o.kd, .string o.s, .slice ad len cap] 49)) := (Below.refl _ _).alloc (Nat.le_refl _) _
  have HB := Lib.hid hb
  have q0 : (o.kd == 0) = false := by simpa using h0
  have q2 : (o.kd == 2) = false := by simpa using h2
  clear hb hx hlen h0 h2
  go_enter Try.func25, Try.ntmps25
  go_wp2_with fail
  go_ret
  exact ⟨rfl, HB.out⟩
theorem fair_any (o : Op5) (many room e : Int) (ad : Option Addr) (cap : Nat) (hx : TxIn w ad cap o.all) (hlm : o.all.length ≤ 100000) (h0 : -1000000 ≤ many) (h1 : many ≤ 1000000) (h : fairP o many room e) :
    Calls Try.prog 25 #[ov o ad cap, .int .i64 many, .int .i64 room, .int .i64 e] w fun e w' => e = .returned (.bool true) ∧ Below w.heap.size w w' := by
  show Calls Try.prog 25 #[.agg #[.int .i64 o.kd, .string o.s, .slice ad o.all.length cap], .int .i64 many, .int .i64 room, .int .i64 e] w _
  rcases h with ⟨hk, a, rfl⟩ | ⟨hk, a, b, rfl⟩ | ⟨hk, a, b, rfl⟩ | ⟨hk, a, rfl⟩ | ⟨hk, a, rfl⟩ | ⟨hk, a, rfl, b⟩ | ⟨a, b, rfl⟩
  · rw [hk]; exact fair_a o many room ad cap _ rfl hx a
  · rw [hk]; exact fair_b o many room ad cap _ rfl hx a b
  · rw [hk]; exact fair_c o many room ad cap _ rfl hx a b
  · rw [hk]; exact fair_d o many room ad cap _ rfl hx a
  · rw [hk]; exact fair_e o many room ad cap _ rfl hx a
  · rw [hk]; exact fair_f o many room ad cap _ rfl hx a hlm h0 h1 b
  · exact fair_g o many room ad cap _ rfl hx a b
theorem fair_step (o : Op5) (M : Nat) (ho : Okl D G) (hl : G.dead = false) (ha : D.armed = 0) (hs : G.size = (M - 2) / 2) (h4 : 4 ≤ M) : fairP o (M : Int) (roomI G) (stepL o D G).2.2 := by
  unfold stepL
  by_cases h0 : o.kd = 0
  · rw [if_pos h0]
    obtain ⟨a, _, _⟩ := lives_app o.s ho hl ha
    show fairP o M (roomI G) (appE D G o.s)
    rw [a]
    unfold appNo
    rw [hl, if_neg (by decide)]
    split
    · rename_i h; exact .inl ⟨h0, h, rfl⟩
    · rename_i h
      split
      · rename_i h'; exact .inr (.inl ⟨h0, h, h', rfl⟩)
      · rename_i h'; exact .inr (.inr (.inl ⟨h0, h, h', rfl⟩))
  · rw [if_neg h0]
    by_cases h1 : o.kd = 1
    · rw [if_pos h1]
      obtain ⟨a, _, _⟩ := lives_sync ho hl ha
      show fairP o M (roomI G) (if lsyB D G then 0 else 40)
      rw [a]
      exact .inr (.inr (.inr (.inr (.inr (.inr ⟨h0, by omega, rfl⟩)))))
    · rw [if_neg h1]
      by_cases h2 : o.kd = 2
      · rw [if_pos h2]
        obtain ⟨a, _, _, _⟩ := lives_rep o.all ho hl ha
        show fairP o M (roomI G) (repE D G o.all)
        rw [a]
        unfold repNo
        rw [hl, if_neg (by decide)]
        split
        · rename_i h; exact .inr (.inr (.inr (.inl ⟨h2, h, rfl⟩)))
        · rename_i h
          have h' : longB o.all = false := by simpa using h
          split
          · rename_i hn
            refine .inr (.inr (.inr (.inr (.inr (.inl ⟨h2, h', rfl, ?_⟩)))))
            unfold needL
            omega
          · exact .inr (.inr (.inr (.inr (.inl ⟨h2, h', rfl⟩))))
      · rw [if_neg h2]
        exact .inr (.inr (.inr (.inr (.inr (.inr ⟨h0, h2, rfl⟩)))))
end Go.Proofs.Ytdiboicllolcnaa

/- The walk of TallyJoins. Conditions: the bytes lie in memory, and there are at most 1048576 of each text. -/
import Derived.Test.YtncjnalpfhafpaaWe
import Derived.Test.YtncjnalpfhafpaaOwn
namespace Go.Proofs.Ytncjnalpfhafpaa
open Go.RowKit

/-- Sum of what a call owns. -/
theorem sum_own {w : World} {base e n : Nat} {v : Value} {zs : List Int} (h : w.ownsRow base e 1 v n (zs.map (Value.int .u8))) (hr : ∀ x ∈ zs, 0 ≤ x ∧ x < 256) (hm : n ≤ maxLen) :
    Calls Try.prog 11 #[v] w fun e w' => e = .returned (.int .u32 (Tally.sum zs).toNat) ∧ w = w' := by
  rcases h.2 with ⟨rfl, rfl⟩ | ⟨g, cap, cur, rfl, _⟩
  · have : zs = [] := by simpa using h.1
    subst this
    exact sum_any _ _ _ _ _ ⟨rfl, by simp, Nat.zero_le _, .inl rfl⟩
  · exact sum_any _ _ _ _ _ (Bytes.of_own h hr hm)

theorem Bytes.src {w : World} {a : Option Addr} {len : Nat} {zs : List Int} (h : Bytes w a len zs) : Src w a len 1 (zs.map (Value.int .u8)) := by
  obtain ⟨h1, h2, h3, h4⟩ := h
  refine ⟨by simpa using h1, fun u hu => ?_, h4.imp id ?_⟩
  · obtain ⟨x, _, rfl⟩ := List.mem_map.1 hu; rfl
  · rintro ⟨b, off, rfl, hc⟩
    refine ⟨_, rfl, fun j u hj => ?_⟩
    have hj' : j < zs.length := by
      have := List.getElem?_eq_some_iff.1 hj
      obtain ⟨hlt, _⟩ := this
      simpa using hlt
    have := hc j (by omega)
    simp only [List.getElem?_map, List.getElem?_eq_getElem hj', Option.map_some, Option.some.injEq] at hj
    subst hj
    rw [show zs.getD j 0 = zs[j] by simp [hj']] at this
    by_cases e : j = 0
    · subst e; simpa [Addr.add] using this
    · simpa [Addr.add, e] using this

theorem tallyJoins_walk (W : World) (a : Option Addr) (la ca : Nat) (za : List Int) (ha : Ints .u8 W a la za) (_hca : la ≤ ca) (hra : la ≤ 1048576)
    (b : Option Addr) (lb cb : Nat) (zb : List Int) (hb : Ints .u8 W b lb zb) (_hcb : lb ≤ cb) (hrb : lb ≤ 1048576) :
    Calls Try.prog 5 #[.slice a la ca, .slice b lb cb] W fun e W' => e = .returned (.bool true) ∧ Below W.heap.size W W' := by
  obtain ⟨i0, hi, hz0, hz1, hz2⟩ := info_parts info5
  have qa := Bytes.of_ints ha
  have qb := Bytes.of_ints hb
  have HE : Hid (Tally.sum (za ++ zb) = Tally.more (Tally.sum za) zb) := Tally.more_append _ za zb
  clear ha hb
  go_enter Try.func5, Try.ntmps5
  go_wp2_with fail
  refine (alive_any _).mono ?_
  rintro e w1 ⟨rfl, hb1⟩
  have hs1 := hb1.size
  go_wp2_with (at_builtin; refine wpList_append_src rfl (.tmp 7) (.tmp 8) 22 rfl W.heap.size 5 i0 (.int .u8 0) 1 1 Try.underlying22 hi hz0 hz1 hz2 rfl (by decide) _ 0 [] rfl ?c1 a la ca (za.map (Value.int .u8)) rfl ?c2 ?c3 ?c4 ?c5 ?_)
  case c1 => exact World.ownsRow_lit w1 #[] 0 hs1 (Nat.zero_le _) rfl
  case c2 => exact ((qa.below hb1).alloc _).src
  case c3 => unfold maxLen; omega
  case c4 => omega
  case c5 => exact Nat.le_trans hs1 (by simp)
  intro v2 w2 own2 g2
  have hb2 : Below W.heap.size W w2 := (hb1.alloc hs1 _).grown g2 (Nat.le_trans hs1 (by simp)) (by intro k hk; cases hk; exact hs1)
  go_wp2_with (at_builtin; refine wpList_append_src rfl (.tmp 9) (.tmp 10) 22 rfl W.heap.size 5 i0 (.int .u8 0) 1 1 Try.underlying22 hi hz0 hz1 hz2 rfl (by decide) _ _ _ rfl own2 b lb cb (zb.map (Value.int .u8)) rfl ?d2 ?d3 ?d4 ?d5 ?_)
  case d2 => exact (qb.below hb2).src
  case d3 => unfold maxLen; omega
  case d4 => omega
  case d5 => exact hb2.size
  intro v3 w3 own3 g3
  have hb3 : Below W.heap.size W w3 := hb2.grown g3 hb2.size (own_ge own2)
  rw [← List.map_append] at own3
  have c3 := sum_own own3 (by intro x hx; rcases List.mem_append.1 hx with h | h <;> first | exact qa.2.1 _ h | exact qb.2.1 _ h) (by unfold maxLen; omega)
  have qa3 := qa.below hb3
  have qb3 := qb.below hb3
  clear own3 own2 g2 g3 hb2 hb1
  have hE : (((Tally.sum (za ++ zb)).toNat : Int) == ((Tally.more (Tally.sum za) zb).toNat : Int)) = true := by rw [HE.out]; simp
  have sa := sum_any a la ca za w3 qa3
  generalize Tally.sum (za ++ zb) = s1 at c3 hE
  generalize Tally.sum za = s2 at hE sa
  have mb := more_any s2 b lb cb zb w3 qb3
  generalize Tally.more s2 zb = s3 at hE mb
  have C3 := Lib.hid c3
  have SA := Lib.hid sa
  have MB := Lib.hid mb
  clear c3 sa mb
  go_wp2_with fail
  refine C3.out.mono ?_
  rintro e w4 ⟨rfl, rfl⟩
  go_wp2_with fail
  refine SA.out.mono ?_
  rintro e w4 ⟨rfl, rfl⟩
  go_wp2_with fail
  refine MB.out.mono ?_
  rintro e w4 ⟨rfl, rfl⟩
  go_wp2_with fail
  go_ret
  exact ⟨rfl, hb3⟩
end Go.Proofs.Ytncjnalpfhafpaa

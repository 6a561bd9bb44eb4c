/- Bodies that come in; the walk of CrateCuts. Conditions: the bodies lie in memory. -/
import Derived.Test.YtadgnemfjmiafaaWn
import Derived.Test.YtadgnemfjmiafaaOpenS
namespace Go.Proofs.Ytadgnemfjmiafaa
open Go.ChangeShapes Go.WideShapes Go.ChangeAt Go.RowKit Go.Deep

/-- bodies, one behind the other, as slices. -/
def BodiesAt (w : World) (a : Option Addr) (len : Nat) (bs : List Yld) : Prop :=
  RowsAt w 1 a len (bs.map fun x => [yv x]) ∧ ∀ x ∈ bs, Bytes w x.ad x.zs.length x.zs ∧ x.zs.length ≤ x.c
theorem shape22 {H : Type} {enc : TypeId × Value → H} {W : World} {n : Nat} {r : List Value} {y : DataW H × List MemPlace} (h : DataW.trod enc Try.prog W 0 (fun _ => true) true n 22 r = some y) :
    ∃ x : Yld, r = [yv x] ∧ Bytes W x.ad x.zs.length x.zs ∧ x.zs.length ≤ x.c := by
  have key : ∀ (a : Option Addr) (len cap : Nat), r = [.slice a len cap] → ∃ x : Yld, r = [yv x] ∧ Bytes W x.ad x.zs.length x.zs ∧ x.zs.length ≤ x.c := by
    rintro a len cap rfl
    obtain ⟨zs, hz, _, hc⟩ := open_Ints (a := a) (len := len) (cap := cap) (d := y.1) (p := y.2) Try.underlying22 Try.underlying5 (by kernel_rfl) ⟨n, h⟩
    have hb := Bytes.of_ints hz
    have hl := hb.1
    subst hl
    exact ⟨⟨a, cap, zs⟩, rfl, hb, hc⟩
  rcases open_slice Try.underlying22 h with ⟨rfl, _⟩ | ⟨x, l, c, _, _, _, _, rfl, _⟩
  · exact key none 0 0 rfl
  · exact key (some x) l c rfl
theorem rows_bodies {H : Type} {enc : TypeId × Value → H} {W : World} : ∀ (rows : List (List Value)), (∀ r ∈ rows, ∃ n y, DataW.trod enc Try.prog W 0 (fun _ => true) true n 22 r = some y) →
    ∃ bs : List Yld, rows = bs.map (fun x => [yv x]) ∧ ∀ x ∈ bs, Bytes W x.ad x.zs.length x.zs ∧ x.zs.length ≤ x.c := by
  intro rows
  induction rows with
  | nil => exact fun _ => ⟨[], rfl, by simp⟩
  | cons r rows ih =>
    intro h
    obtain ⟨n, y, hy⟩ := h r (by simp)
    obtain ⟨x, rfl, hx⟩ := shape22 hy
    obtain ⟨bs, rfl, hb⟩ := ih (fun r hr => h r (by simp [hr]))
    exact ⟨x :: bs, rfl, fun z hz => (List.mem_cons.1 hz).elim (fun e => e ▸ hx) (hb z)⟩
theorem open_bodies {H : Type} {enc : TypeId × Value → H} {W : World} {base : Nat} {v : Value} {d : DataW H} {p : List MemPlace} (hv : Value.okWide Try.prog W .any base 31 v) (h : DataW.Trod enc Try.prog W 0 (fun _ => true) true 31 v d p) :
    ∃ a len cap bs, v = .slice a len cap ∧ BodiesAt W a len bs ∧ len ≤ cap ∧ cap ≤ maxLen := by
  obtain ⟨a, len, cap, rfl⟩ := okWide_slice Try.underlying31 hv
  obtain ⟨rows, hr, _, h1, h2, hs⟩ := open_rows Try.underlying31 (show Try.prog.cellsOf 22 = 1 by kernel_rfl) (by omega) h
  obtain ⟨bs, rfl, hb⟩ := rows_bodies rows fun r hr => (hs r hr).2
  exact ⟨a, len, cap, bs, rfl, ⟨hr, hb⟩, h1, h2⟩

theorem cutOf_len (cut : Nat) : ∀ (bs : List (List Int)) (s : Nat × Nat × Nat), (cutOf cut s bs).1 = s.1 + (catOf bs).length := by
  intro bs
  induction bs with
  | nil => intro s; rfl
  | cons z bs ih =>
    intro s
    show (cutOf cut (cutStep cut s z) bs).1 = _
    have e : (cutStep cut s z).1 = s.1 + (z.length + 12) := by unfold cutStep; split <;> rfl
    rw [ih, e, show catOf (z :: bs) = crateOf z ++ catOf bs by simp [catOf], List.length_append, crateOf_len]
    omega
theorem catOf_snoc (bs : List (List Int)) (z : List Int) : catOf (bs ++ [z]) = catOf bs ++ crateOf z := by simp [catOf]
theorem cutOf_snoc (cut : Nat) (s : Nat × Nat × Nat) (bs : List (List Int)) (z : List Int) : cutOf cut s (bs ++ [z]) = cutStep cut (cutOf cut s bs) z := by simp [cutOf]
theorem catOf_range {bs : List (List Int)} (h : ∀ z ∈ bs, ∀ x ∈ z, 0 ≤ x ∧ x < 256) : ∀ x ∈ catOf bs, 0 ≤ x ∧ x < 256 := by
  intro x hx
  obtain ⟨l, hl, hx⟩ := List.mem_flatten.1 hx
  obtain ⟨z, hz, rfl⟩ := List.mem_map.1 hl
  exact crateOf_range (h z hz) x hx
end Go.Proofs.Ytadgnemfjmiafaa

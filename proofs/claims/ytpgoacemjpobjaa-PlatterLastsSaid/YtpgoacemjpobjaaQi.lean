/- Scripts of calls on a disk. Conditions: the script lies in memory. -/
import Derived.Test.YtpgoacemjpobjaaQh
import Derived.Test.YtpgoacemjpobjaaOpenS
namespace Go.Proofs.Ytpgoacemjpobjaa
open Go Go.RowKit Go.ChangeShapes Go.WideShapes Go.ChangeAt Go.Deep
set_option linter.unusedVariables false
set_option linter.unusedSimpArgs false

structure In4 where
  o : Op4
  ad : Option Addr
  cap : Nat
def oc (x : In4) : List Value := [.int .i64 x.o.kd, .int .i64 x.o.n, .int .i64 x.o.tear, .slice x.ad x.o.b.length x.cap]
def secOf (zs : List Int) : Sec := zs.map fun n => UInt8.ofNat n.toNat
theorem bys_of_ints {w : World} {a : Option Addr} {len : Nat} {zs : List Int} (h : Ints .u8 w a len zs) : Bys w a len (secOf zs) := by
  obtain ⟨hl, hr, hm, hc⟩ := h
  have hrng : ∀ x ∈ zs, 0 ≤ x ∧ x < 256 := fun x hx => by
    have := hr x hx
    simp [Lit.wf, IntKind.min, IntKind.max, IntKind.signed, IntKind.bits] at this
    omega
  refine ⟨by simp [secOf, hl], hm, ?_⟩
  rcases Nat.eq_zero_or_pos len with h0 | h0
  · exact .inl h0
  · obtain ⟨b, off, rfl, hc'⟩ := hc.resolve_left (by omega)
    refine .inr ⟨b, off, rfl, World.block_lt_of_cell? w _ (hc' 0 h0), fun j v hj => ?_⟩
    have hjl : j < len := by have := (List.getElem?_eq_some_iff.1 hj).1; rw [bc_len] at this; simpa [secOf, hl] using this
    rw [hc' j hjl]
    have hz : j < zs.length := by omega
    have hb := hrng zs[j] (List.getElem_mem hz)
    simp only [bc, secOf, List.map_map, List.getElem?_map, List.getElem?_eq_getElem hz, Option.map_some, Function.comp, Option.some.injEq] at hj
    rw [← hj]
    simp only [List.getD_eq_getElem?_getD, List.getElem?_eq_getElem hz, Option.getD_some]
    congr 2
    simp
    omega
theorem shape36 {H : Type} {enc : TypeId × Value → H} {W : World} {n : Nat} {r : List Value} {y : DataW H × List MemPlace} (h : DataW.trod enc Try.prog W 0 (fun _ => true) true n 36 r = some y) :
    ∃ ad cap b, r = [.slice ad (List.length b) cap] ∧ Bys W ad (List.length b) b := by
  have key : ∀ (a : Option Addr) (len cap : Nat), r = [.slice a len cap] → ∃ ad cap b, r = [.slice ad (List.length b) cap] ∧ Bys W ad (List.length b) b := by
    rintro a len cap rfl
    obtain ⟨zs, hz, _, hc⟩ := open_Ints (a := a) (len := len) (cap := cap) (d := y.1) (p := y.2) Try.underlying36 Try.underlying5 (by kernel_rfl) ⟨n, h⟩
    have hb := bys_of_ints hz
    have hl := hb.1
    exact ⟨a, cap, secOf zs, by rw [hl], by rw [hl]; exact hb⟩
  rcases open_slice Try.underlying36 h with ⟨rfl, _⟩ | ⟨x, l, c, _, _, _, _, rfl, _⟩
  · exact key none 0 0 rfl
  · exact key (some x) l c rfl
theorem shape46 {H : Type} {enc : TypeId × Value → H} {W : World} {n : Nat} {r : List Value} {y : DataW H × List MemPlace} (h : DataW.trod enc Try.prog W 0 (fun _ => true) true n 46 r = some y) (hr : r.length = 4) : ∃ x : In4, r = oc x ∧ Bys W x.ad x.o.b.length x.o.b ∧ Fits x.o := by
  obtain ⟨xs, n', _, _, _, hlen, hg⟩ := DataW.trod_struct Try.underlying46 h
  match r, hr with
  | [c0, c1, c2, c3], _ =>
    match xs, hlen with
    | [y0, y1, y2, y3], _ =>
      have h0 := hg 0 _ rfl
      have h1 := hg 1 _ rfl
      have h2 := hg 2 _ rfl
      have h3 := hg 3 _ rfl
      have k3 : Try.prog.cellsOf 3 = 1 := by kernel_rfl
      have k36 : Try.prog.cellsOf 36 = 1 := by kernel_rfl
      simp [k3, k36] at h0 h1 h2 h3
      obtain ⟨a, ha, _⟩ := DataW.trod_int Try.underlying3 h0
      obtain ⟨b, hb, _, hbw⟩ := DataW.trod_int Try.underlying3 h1
      obtain ⟨c, hc, _⟩ := DataW.trod_int Try.underlying3 h2
      obtain ⟨ad, cap, s, hs, hB⟩ := shape36 h3
      simp at ha hb hc hs
      refine ⟨⟨⟨a, b, c, s⟩, ad, cap⟩, by rw [ha, hb, hc, hs]; rfl, hB, ?_⟩
      unfold Fits
      simp [Lit.wf, IntKind.min, IntKind.max, IntKind.signed, IntKind.bits] at hbw
      show b ≤ _
      omega
theorem rows_in {W : World} : ∀ (l : List (List Value)), (∀ r ∈ l, ∃ x : In4, r = oc x ∧ Bys W x.ad x.o.b.length x.o.b ∧ Fits x.o) → ∃ xs : List In4, l = xs.map oc ∧ ∀ x ∈ xs, Bys W x.ad x.o.b.length x.o.b ∧ Fits x.o := by
  intro l
  induction l with
  | nil => exact fun _ => ⟨[], rfl, by simp⟩
  | cons r l ih =>
    intro h
    obtain ⟨p, rfl, hp⟩ := h r (by simp)
    obtain ⟨ps, rfl, hps⟩ := ih fun r hr => h r (by simp [hr])
    exact ⟨p :: ps, rfl, fun z hz => (List.mem_cons.1 hz).elim (fun e => e ▸ hp) (hps z)⟩
/-- a script that comes in. -/
def OpsAt (w : World) (a : Option Addr) (len : Nat) (xs : List In4) : Prop := RowsAt w 4 a len (xs.map oc) ∧ ∀ x ∈ xs, Bys w x.ad x.o.b.length x.o.b ∧ Fits x.o
theorem OpsAt.len {w : World} {a : Option Addr} {len : Nat} {xs : List In4} (h : OpsAt w a len xs) : xs.length = len := by have := h.1.1; rwa [List.length_map] at this
theorem OpsAt.get {w : World} {a : Option Addr} {len : Nat} {xs : List In4} (h : OpsAt w a len xs) (k : Nat) (hk : k < len) :
    ∃ b off x, a = some ⟨b, off, none⟩ ∧ xs[k]? = some x ∧ b < w.heap.size ∧ Bys w x.ad x.o.b.length x.o.b ∧ Fits x.o ∧ w.cell? ⟨b, off + k * 4, none⟩ = some (.int .i64 x.o.kd) ∧ w.cell? ⟨b, off + k * 4 + 1, none⟩ = some (.int .i64 x.o.n) ∧ w.cell? ⟨b, off + k * 4 + 2, none⟩ = some (.int .i64 x.o.tear) ∧
      w.cell? ⟨b, off + k * 4 + 3, none⟩ = some (.slice x.ad x.o.b.length x.cap) := by
  have hl := h.len
  obtain ⟨⟨h1, h2⟩, hx⟩ := h
  obtain ⟨b, off, rfl, hb, hc⟩ := h2.resolve_left (by omega)
  have hp : xs[k]? = some (xs[k]'(by omega)) := List.getElem?_eq_getElem (by omega)
  have hr : (xs.map oc)[k]? = some (oc (xs[k]'(by omega))) := by rw [List.getElem?_map, hp]; rfl
  have hm := hx _ (List.mem_of_getElem? hp)
  exact ⟨b, off, _, rfl, hp, hb, hm.1, hm.2, hc k _ hr 0 _ rfl, hc k _ hr 1 _ rfl, hc k _ hr 2 _ rfl, hc k _ hr 3 _ rfl⟩
theorem open_ops {H : Type} {enc : TypeId × Value → H} {W : World} {base : Nat} {v : Value} {d : DataW H} {p : List MemPlace} (hv : Value.okWide Try.prog W .any base 22 v) (h : DataW.Trod enc Try.prog W 0 (fun _ => true) true 22 v d p) :
    ∃ a len cap xs, v = .slice a len cap ∧ OpsAt W a len xs ∧ len ≤ cap ∧ cap ≤ maxLen := by
  obtain ⟨a, len, cap, rfl⟩ := okWide_slice Try.underlying22 hv
  obtain ⟨rows, hr, _, h1, h2, hs⟩ := open_rows Try.underlying22 (show Try.prog.cellsOf 46 = 4 by kernel_rfl) (by omega) h
  obtain ⟨xs, rfl, hx⟩ := rows_in (W := W) rows fun r hrm => by
    obtain ⟨hl, n, y, hy⟩ := hs r hrm
    exact shape46 hy hl
  exact ⟨a, len, cap, xs, rfl, ⟨hr, hx⟩, h1, h2⟩
/-- a disk behind calls. -/
def playD (xs : List In4) (D : Dk) : Dk := xs.foldl (fun D x => (stepA x.o D).1) D
theorem playD_next {xs : List In4} {k : Nat} {x : In4} (h : xs[k]? = some x) (D : Dk) : playD (xs.take (k + 1)) D = (stepA x.o (playD (xs.take k) D)).1 := by
  unfold playD; rw [List.take_add_one, h, List.foldl_append]; rfl
theorem good_play {D : Dk} (xs : List In4) (hx : ∀ x ∈ xs, Fits x.o) (h : Good D) : Good (playD xs D) := by
  unfold playD
  induction xs generalizing D with
  | nil => exact h
  | cons o os ih => exact ih (fun x hx' => hx x (by simp [hx'])) (good_step o.o (hx o (by simp)) h)
theorem wait_play {D : Dk} (xs : List In4) : (playD xs D).wait.length ≤ D.wait.length + xs.length := by
  unfold playD
  induction xs generalizing D with
  | nil => exact Nat.le_refl _
  | cons o os ih => have := ih (D := (stepA o.o D).1); have := wait_step (D := D) o.o; simp only [List.foldl_cons, List.length_cons]; omega
end Go.Proofs.Ytpgoacemjpobjaa

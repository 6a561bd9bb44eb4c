/- porter: both porters side by side in memory. Conditions: none (plain lemmas). -/
import Derived.Test.YtlkilkndjfcejaaTg
namespace Go.Proofs.Ytlkilkndjfcejaa
open Go Go.RowKit
set_option linter.unusedVariables false
set_option linter.unusedSimpArgs false
variable {Wb w W W' : World} {n : Nat} {U U' U0 : Vs} {V V' : Vr} {s s' s2 : St} {o : Op21} {A A' : Array Value}

theorem Pt.notBox {base b : Nat} {T : TypeId} {cs : Array Value} (h : Pt W base n U s) (hb : Box W b T cs) (h1 : T ≠ 98) (h2 : T ≠ 3) (h3 : T ≠ 54) (h4 : T ≠ 81) : ¬ Of n U b := by
  rintro (rfl | hv | hv | hv | hv)
  · have h5 := h.box
    unfold Box at hb h5
    rw [hb] at h5
    simp at h5
    exact h1 h5.2
  · exact own_box_ne h.rm hb (Ne.symm h2) hv
  · exact own_box_ne h.rg hb (Ne.symm h2) hv
  · exact own_box_ne h.ro hb (Ne.symm h3) hv
  · exact own_box_ne h.rd hb (Ne.symm h4) hv
/-- the program's side: three boxes of the call's, the client. -/
structure Pw (Wb w W : World) (n : Nat) (U0 U : Vs) (s : St) (A : Array Value) (o : Op21) : Prop where
  a : Box W w.heap.size 46 A
  o : Box W (w.heap.size + 1) 60 (oc o)
  z : Box W (w.heap.size + 1 + 1) 46 #[.int .i64 0, .int .i64 0, .slice none 0 0, .slice none 0 0, .int .i64 0, .int .i64 0, .int .i64 0, .int .i64 0, .int .i64 0, .int .i64 0, .int .i64 0, .int .i64 0, .int .i64 0, .int .i64 0, .string ⟨#[]⟩, .string ⟨#[]⟩, .int .i64 0, .int .i64 0, .int .i64 0, .string ⟨#[]⟩, .bool false, .int .i64 0, .int .i64 0, .int .i64 0, .string ⟨#[]⟩, .int .i64 0, .int .i64 0, .slice none 0 0, .int .i64 0, .int .i64 0, .int .i64 0, .int .i64 0, .int .i64 0, .string ⟨#[]⟩, .int .i64 0, .int .i64 0, .int .i64 0, .int .i64 0, .int .i64 0, .int .i64 0, .int .i64 0, .int .i64 0, .slice none 0 0]
  p : Pt W Wb.heap.size n U s
  bel : Below Wb.heap.size Wb W
  g : Goes w W n U0 U
/-- the document's side. -/
structure Rw (Wb W : World) (V : Vr) (n : Nat) (U : Vs) (s : St) : Prop where
  r : Rt W V s
  rm : ∃ a len cap, V.m = .slice a len cap ∧ Ints .i64 Wb a len s.many
  sep : ∀ k, V.g.ownBlock = some k ∨ V.o.ownBlock = some k → ¬ Of n U k
theorem Pw.below (h : Pw Wb w W n U0 U s A o) (hb : Below W.heap.size W W') : Pw Wb w W' n U0 U s A o :=
  ⟨h.a.below hb h.a.lt, h.o.below hb h.o.lt, h.z.below hb h.z.lt, h.p.below hb (Nat.le_refl _), h.bel.trans (hb.mono h.bel.size), h.g.below_r hb⟩
theorem Pw.drew (h : Pw Wb w W n U0 U s A o) : Pw Wb w W.drew n U0 U s A o := h.below (Below.refl _ _).drew
theorem Pw.row (h : Pw Wb w W n U0 U s A o) (new : Array Value) (hw : Wb.heap.size ≤ w.heap.size) : Pw Wb w (W.setRow w.heap.size new) n U0 U s new o := by
  have hs := h.bel.size
  refine ⟨h.a.setRow new, h.o.setRow_other new (by omega), h.z.setRow_other new (by omega), h.p.stays fun k hk ho => Go.setRow_other _ _ _ _ (by rintro rfl; exact h.p.notBox h.a (by decide) (by decide) (by decide) (by decide) ho), ?_, ?_⟩
  · exact Below.setRow h.bel (g := w.heap.size) hw new
  · exact ⟨h.g.touch.setRow (.inr (Nat.le_refl _)) new, h.g.lies⟩
theorem Pw.does (h : Pw Wb w W n U0 U s A o) (hp : Pt W' Wb.heap.size n U' s') (hg : Goes W W' n U U') : Pw Wb w W' n U0 U' s' A o :=
  ⟨h.a.touch hg.touch (h.p.notBox h.a (by decide) (by decide) (by decide) (by decide)), h.o.touch hg.touch (h.p.notBox h.o (by decide) (by decide) (by decide) (by decide)), h.z.touch hg.touch (h.p.notBox h.z (by decide) (by decide) (by decide) (by decide)), hp,
    hg.below h.bel (Nat.le_refl _) h.p.of_ge, h.g.trans hg⟩
theorem Ints.of_below {k : IntKind} {a : Option Addr} {len : Nat} {zs : List Int} (h : Ints k Wb a len zs) (hb : Below Wb.heap.size Wb W) : Ints k W a len zs := h.below hb
theorem Rw.below (h : Rw Wb W V n U s) (hb : Below W.heap.size W W') : Rw Wb W' V n U s := ⟨h.r.below hb, h.rm, h.sep⟩
theorem Rw.drew (h : Rw Wb W V n U s) : Rw Wb W.drew V n U s := h.below (Below.refl _ _).drew
/-- a box is stored into. -/
theorem Rw.row (h : Rw Wb W V n U s) (hbel : Below Wb.heap.size Wb W) {b : Nat} {T : TypeId} {cs : Array Value} (hb : Box W b T cs) (hB : Wb.heap.size ≤ b) (h1 : T ≠ 3) (h2 : T ≠ 106) (new : Array Value) : Rw Wb (W.setRow b new) V n U s := by
  refine ⟨⟨?_, own_stays h.r.rg fun k hk => Go.setRow_other _ _ _ _ (by rintro rfl; exact own_box_ne h.r.rg hb (Ne.symm h1) hk), own_stays h.r.ro fun k hk => Go.setRow_other _ _ _ _ (by rintro rfl; exact own_box_ne h.r.ro hb (Ne.symm h2) hk)⟩, h.rm, h.sep⟩
  obtain ⟨a, len, cap, e, hi⟩ := h.rm
  exact ⟨a, len, cap, e, hi.of_below (Below.setRow hbel hB new)⟩
/-- behind a call on the program's client. -/
theorem Rw.does (h : Rw Wb W V n U s) (hp : Pt W Wb.heap.size n U s2) (hbel : Below Wb.heap.size Wb W) (hg : Goes W W' n U U') : Rw Wb W' V n U' s := by
  have hb' : Below Wb.heap.size Wb W' := hg.below hbel (Nat.le_refl _) hp.of_ge
  refine ⟨⟨?_, own_touch h.r.rg hg.touch (fun b hb => h.sep b (.inl hb)), own_touch h.r.ro hg.touch (fun b hb => h.sep b (.inr hb))⟩, h.rm, fun k hk ho => ?_⟩
  · obtain ⟨a, len, cap, e, hi⟩ := h.rm
    exact ⟨a, len, cap, e, hi.of_below hb'⟩
  · have hk2 : k < W.heap.size := hk.elim (own_lt h.r.rg k) (own_lt h.r.ro k)
    rcases hg.lies k ho with h1 | h1
    · exact h.sep k hk h1
    · omega
/-- behind a call of the document's. -/
theorem Rw.gives (h : Rw Wb W V n U s) (hp : Pt W Wb.heap.size n U s2) (hr : Rt W' V' s') (ht : RTo W W' V V') (hm : s'.many = s.many) : Rw Wb W' V' n U s' := by
  refine ⟨hr, ?_, fun k hk ho => ?_⟩
  · obtain ⟨a, len, cap, e, hi⟩ := h.rm
    exact ⟨a, len, cap, by rw [ht.m, e], by rw [hm]; exact hi⟩
  · have hk2 : k < W.heap.size := hp.of_lt k ho
    rcases hk with h1 | h1
    · rcases ht.g k h1 with h2 | h2
      · exact h.sep k (.inl h2) ho
      · omega
    · rcases ht.o k h1 with h2 | h2
      · exact h.sep k (.inr h2) ho
      · omega
/-- the state alone is another one, with the same rows. -/
theorem Rw.as (h : Rw Wb W V n U s) (s' : St) (h1 : s'.many = s.many) (h2 : s'.guess = s.guess) (h3 : s'.out = s.out) : Rw Wb W V n U s' :=
  ⟨⟨by rw [h1]; exact h.r.rm, by rw [h2]; exact h.r.rg, by rw [h3]; exact h.r.ro⟩, by rw [h1]; exact h.rm, h.sep⟩
theorem askS_many (s : St) : (askS s).many = s.many := rfl
theorem takeS_many (s : St) (r : Rp) : (takeS s r).many = s.many := by
  unfold takeS
  split
  · split
    · exact onS_many s
    · rfl
  · rfl
theorem tickS_many (s : St) : (tickS s).many = s.many := by
  unfold tickS
  split
  · split
    · exact onS_many _
    · rfl
  · rfl
theorem startS_many (s : St) (v : Int) (c : Cl) : (startS s v c).many = s.many := by
  unfold startS
  split <;> rfl
theorem doneS_many (s : St) : (doneS s).many = s.many := rfl
/-- what a call of a script does. -/
def midS (s : St) (o : Op21) : St := if o.kd = 0 then startS s o.n o.c else if o.kd = 1 ∨ o.kd = 4 then takeS s (ansS s o) else if o.kd = 2 then tickS s else if o.kd = 3 then doneS s else s
def hasB (s : St) (o : Op21) : Bool := if o.kd = 0 then startB s o.n o.c else true
/-- both, behind the call itself. -/
def Dw (Wb w : World) (n : Nat) (U0 : Vs) (o : Op21) (s : St) (W : World) : Prop := ∃ U V z, Pw Wb w W n U0 U s (rcs s V (phS s) z) o ∧ Rw Wb W V n U s ∧ ∀ r, s.done = [r] → z = r
theorem midS_many (s : St) (o : Op21) : (midS s o).many = s.many := by
  unfold midS
  split
  · exact startS_many _ _ _
  · split
    · exact takeS_many _ _
    · split
      · exact tickS_many _
      · split
        · rfl
        · rfl
theorem midS_ok (h : Okay s) (o : Op21) (hn : s.nu < 100000) : Okay (midS s o) := by
  unfold midS
  split
  · exact h.start _ _ hn
  · split
    · exact h.take _
    · split
      · exact h.tick
      · split
        · exact h.done
        · exact h
end Go.Proofs.Ytlkilkndjfcejaa

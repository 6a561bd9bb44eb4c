/- porter: the last request, in plain words and in memory. Conditions: none. -/
import Derived.Test.YtlkilkndjfcejaaTk
namespace Go.Proofs.Ytlkilkndjfcejaa
open Go Go.RowKit
set_option linter.unusedVariables false
set_option linter.unusedSimpArgs false
variable {Wb w w' : World} {s : St}

/-- the last request that was told. -/
structure Last (s : St) (q : Rq) : Prop where
  nu : q.c.nu = s.nu
  same : 0 < s.nu → q.c = s.c ∧ q.vol = s.vol ∧ s.c.cl = s.cl
  bz : s.busy = true → 0 < s.nu
  nu0 : 0 ≤ s.nu
  nuc : 0 < s.nu → s.c.nu = s.nu
/-- what one call asks. -/
def Asks (s s' : St) (q : Rq) : Prop := (s'.out = [] ∧ Last s' q) ∨ ∃ r, s'.out = [r] ∧ Last s' r ∧ r.c.cl = s.cl ∧ s'.cl = s.cl ∧ (r.c.nu = q.c.nu + 1 ∨ (r.c = q.c ∧ r.vol = q.vol))
theorem Last.out {q : Rq} (h : Last s q) : Last (outS s) q := ⟨h.nu, h.same, h.bz, h.nu0, h.nuc⟩
theorem on_asks {q : Rq} (h : Last s q) (ho : s.out = []) (hb : s.busy = true) : Asks s (onS s) q := by
  have hn := h.bz hb
  obtain ⟨h1, h2, h3⟩ := h.same hn
  unfold onS
  split
  · exact .inl ⟨ho, h.nu, h.same, (fun e => by cases e), h.nu0, h.nuc⟩
  · refine .inr ⟨⟨s.vol, gv { s with vain := s.vain + 1, guess := s.guess.set s.vol ((gv s + 1) % mv s) }, s.c⟩, ?_, ⟨h.nuc hn, fun _ => ⟨rfl, rfl, h3⟩, fun _ => hn, h.nu0, h.nuc⟩, h3, rfl, .inr ⟨h1.symm, h2.symm⟩⟩
    show s.out ++ _ = _
    rw [ho]; rfl
theorem mid_asks {q : Rq} (h : Last s q) (ho : s.out = []) (o : Op21) : Asks s (midS s o) q := by
  have idle : Asks s s q := .inl ⟨ho, h⟩
  unfold midS
  split
  · unfold startS
    split
    · have hn := h.nu0
      refine .inr ⟨⟨o.n.toNat, gv { s with nu := s.nu + 1, busy := true, vol := o.n.toNat, c := { o.c with cl := s.cl, nu := s.nu + 1 }, vain := 0 }, { o.c with cl := s.cl, nu := s.nu + 1 }⟩, ?_, ⟨rfl, fun _ => ⟨rfl, rfl, rfl⟩, fun _ => ?_, ?_, fun _ => rfl⟩, rfl, rfl, .inl ?_⟩
      · show s.out ++ _ = _
        rw [ho]; rfl
      · show 0 < s.nu + 1; omega
      · show 0 ≤ s.nu + 1; omega
      · show s.nu + 1 = q.c.nu + 1; rw [h.nu]
    · exact idle
  · split
    · unfold takeS
      split
      · rename_i hm
        have hb : s.busy = true := (meant_all hm).1
        split
        · exact on_asks h ho hb
        · exact .inl ⟨ho, h.nu, h.same, (fun e => by cases e), h.nu0, h.nuc⟩
      · exact idle
    · split
      · unfold tickS
        split
        · rename_i hb
          split
          · exact on_asks (s := { s with wait := s.wait + 1 }) ⟨h.nu, h.same, h.bz, h.nu0, h.nuc⟩ ho hb
          · exact .inl ⟨ho, h.nu, h.same, h.bz, h.nu0, h.nuc⟩
        · exact idle
      · split
        · exact .inl ⟨ho, h.nu, h.same, h.bz, h.nu0, h.nuc⟩
        · exact idle
theorem last_new (cl : Int) (zs : List Int) (pa : Int) : Last (newS cl zs pa) ⟨0, 0, zeroCl⟩ := ⟨rfl, (fun h => by cases h), (fun h => by cases h), Int.le_refl 0, fun h => by cases h⟩
theorem mid_cl (s : St) (o : Op21) : (midS s o).cl = s.cl := by
  have h1 : ∀ t : St, (onS t).cl = t.cl := by
    intro t
    unfold onS
    split <;> rfl
  unfold midS
  split
  · unfold startS
    split <;> rfl
  · split
    · unfold takeS
      split
      · split
        · exact h1 s
        · rfl
      · rfl
    · split
      · unfold tickS
        split
        · split
          · exact h1 _
          · rfl
        · rfl
      · split <;> rfl
/-- the same client, with other requests. -/
def withOut (s : St) (L : List Rq) : St := { s with out := L }
theorem onS_w (s : St) (L : List Rq) : ∃ L', onS (withOut s L) = withOut (onS s) L' ∧ L'.length ≤ L.length + 1 := by
  unfold onS
  show ∃ L', (if 3 * mv s ≤ s.vain + 1 then _ else _) = _ ∧ _
  split
  · exact ⟨L, rfl, by omega⟩
  · exact ⟨L ++ [_], rfl, by simp⟩
theorem midS_w (s : St) (L : List Rq) (o : Op21) : ∃ L', midS (withOut s L) o = withOut (midS s o) L' ∧ L'.length ≤ L.length + 1 := by
  unfold midS
  split
  · unfold startS
    show ∃ L', (if startB s o.n o.c then _ else _) = _ ∧ _
    split
    · exact ⟨L ++ [_], rfl, by simp⟩
    · exact ⟨L, rfl, by omega⟩
  · split
    · have ha : ansS (withOut s L) o = ansS s o := rfl
      rw [ha]
      unfold takeS
      show ∃ L', (if meantB s (ansS s o) then _ else _) = _ ∧ _
      split
      · split
        · exact onS_w s L
        · exact ⟨L, rfl, by omega⟩
      · exact ⟨L, rfl, by omega⟩
    · split
      · unfold tickS
        show ∃ L', (if s.busy then _ else _) = _ ∧ _
        split
        · show ∃ L', (if s.pa ≤ s.wait + 1 then _ else _) = _ ∧ _
          split
          · exact onS_w { s with wait := s.wait + 1 } L
          · exact ⟨L, rfl, by omega⟩
        · exact ⟨L, rfl, by omega⟩
      · split
        · exact ⟨L, rfl, by omega⟩
        · exact ⟨L, rfl, by omega⟩
theorem Okay.with_ (h : Okay s) (L : List Rq) : Okay (withOut s L) := ⟨⟨h.fit.len, h.fit.few, h.fit.vol, h.fit.many, h.fit.guess, h.fit.nu0, h.fit.nu1, h.fit.wait0, h.fit.wait1, h.fit.pa0, h.fit.pa, h.fit.vain0, h.fit.vain1, h.fit.done⟩, h.busy⟩
/-- the law's boxes and the program's client. -/
structure Po (W W0 w : World) (n bq bl : Nat) (cl pa : Int) (x : Addr) (cap : Nat) (zs : List Int) (U : Vs) (s : St) (A : Array Value) (q : Rq) : Prop where
  p : Pt w W0.heap.size n U s
  a : Box w bq 46 A
  who : Box w W.heap.size 24 #[.int .i64 cl, .slice (some x) zs.length cap, .int .i64 pa]
  bel : Below W0.heap.size W0 w
  l : Box w bl 54 (qc q)
  nl : ¬ Of n U bl
  qb : W0.heap.size ≤ bq
  lb : W0.heap.size ≤ bl
section
variable {W W0 : World} {n bq bl : Nat} {cl pa : Int} {x : Addr} {cap : Nat} {zs : List Int} {U U' : Vs} {s' s2 : St} {A : Array Value} {q : Rq} {V V' : Vr}
theorem Po.below (h : Po W W0 w n bq bl cl pa x cap zs U s A q) (hb : Below w.heap.size w w') : Po W W0 w' n bq bl cl pa x cap zs U s A q :=
  ⟨h.p.below hb (Nat.le_refl _), h.a.below hb h.a.lt, h.who.below hb h.who.lt, h.bel.trans (hb.mono h.bel.size), h.l.below hb h.l.lt, h.nl, h.qb, h.lb⟩
theorem Po.drew (h : Po W W0 w n bq bl cl pa x cap zs U s A q) : Po W W0 w.drew n bq bl cl pa x cap zs U s A q := h.below (Below.refl _ _).drew
theorem Po.row (h : Po W W0 w n bq bl cl pa x cap zs U s A q) (new : Array Value) : Po W W0 (w.setRow bq new) n bq bl cl pa x cap zs U s new q :=
  ⟨h.p.stays fun k hk ho => Go.setRow_other _ _ _ _ (by rintro rfl; exact h.p.notBox h.a (by decide) (by decide) (by decide) (by decide) ho), h.a.setRow new, h.who.setRow_other _ (h.who.ne h.a (by decide)), Below.setRow h.bel h.qb new, h.l.setRow_other _ (h.l.ne h.a (by decide)), h.nl, h.qb, h.lb⟩
theorem Po.does (h : Po W W0 w n bq bl cl pa x cap zs U s A q) (hp : Pt w' W0.heap.size n U' s') (hg : Goes w w' n U U') : Po W W0 w' n bq bl cl pa x cap zs U' s' A q :=
  ⟨hp, h.a.touch hg.touch (h.p.notBox h.a (by decide) (by decide) (by decide) (by decide)), h.who.touch hg.touch (h.p.notBox h.who (by decide) (by decide) (by decide) (by decide)), hg.below h.bel (Nat.le_refl _) h.p.of_ge, h.l.touch hg.touch h.nl, (fun ho => by
    rcases hg.lies bl ho with h1 | h1
    · exact h.nl h1
    · have := h.l.lt; omega), h.qb, h.lb⟩
/-- the last request is another one. -/
theorem Po.last (h : Po W W0 w n bq bl cl pa x cap zs U s A q) (r : Rq) : Po W W0 (w.setRow bl (qc r)) n bq bl cl pa x cap zs U s A r :=
  ⟨h.p.stays fun k hk ho => Go.setRow_other _ _ _ _ (by rintro rfl; exact h.nl ho), h.a.setRow_other _ (h.a.ne h.l (by decide)), h.who.setRow_other _ (h.who.ne h.l (by decide)), Below.setRow h.bel h.lb _, h.l.setRow _, h.nl, h.qb, h.lb⟩
theorem Rw.last {n2 : Nat} (hR : Rw W0 w V n2 U s2) (h : Po W W0 w n bq bl cl pa x cap zs U' s A q) (r : Rq) : Rw W0 (w.setRow bl (qc r)) V n2 U s2 := hR.row h.bel h.l h.lb (by decide) (by decide) _
/-- behind the call itself, on both. -/
def Mw (W W0 w : World) (n bq bl : Nat) (cl pa : Int) (x : Addr) (cap : Nat) (zs : List Int) (s t : St) (q : Rq) : Prop := ∃ U V z, Po W W0 w n bq bl cl pa x cap zs U s (rcs t V (phS t) z) q ∧ Rw W0 w V n U t ∧ ∀ r, t.done = [r] → z = r
end
end Go.Proofs.Ytlkilkndjfcejaa

/- porter: calls, requests, results; a client as it lies in memory. Conditions: it lies in the call's own memory. -/
import Derived.Test.YtlkilkndjfcejaaRow
import Derived.Test.YtlkilkndjfcejaaRowW
import Derived.Test.YtlkilkndjfcejaaOpen
import Derived.Test.YtlkilkndjfcejaaOpenS
import Derived.Test.YtlkilkndjfcejaaOwn
import Derived.Test.YtlkilkndjfcejaaTouch
import Derived.Test.YtlkilkndjfcejaaQB
import Derived.Test.YtlkilkndjfcejaaPhase
import Derived.Test.YtlkilkndjfcejaaSteps
import Derived.Test.YtlkilkndjfcejaaMixed
import Derived.Test.YtlkilkndjfcejaaScope
import Derived.Laws.Cover1
namespace Go.Proofs.Ytlkilkndjfcejaa
open Go Go.RowKit
set_option linter.unusedVariables false
set_option linter.unusedSimpArgs false

structure Cl where
  cl : Int
  nu : Int
  kd : Int
  h1 : Int
  h2 : Int
  g1 : Int
  g2 : Int
  nm : ByteArray
  ot : ByteArray
  m1 : Int
  m2 : Int
  m3 : Int
  mt : ByteArray
  fo : Bool
  aa : Int
  nn : Int
  tt : Int
  bb : ByteArray
structure An where
  co : Int
  h1 : Int
  h2 : Int
  b : ByteArray
  i1 : Int
  i2 : Int
  i3 : Int
  i4 : Int
  i5 : Int
  i6 : Int
  i7 : Int
  i8 : Int
  na : Option Addr
  nl : Nat
  nc : Nat
structure Rs where
  nu : Int
  co : Int
  a : An
structure Rq where
  vol : Nat
  srv : Int
  c : Cl
structure Rp where
  vol : Int
  srv : Int
  cl : Int
  nu : Int
  co : Int
  a : An
structure St where
  cl : Int
  pa : Int
  many : List Int
  guess : List Int
  nu : Int
  busy : Bool
  vol : Nat
  c : Cl
  wait : Int
  vain : Int
  out : List Rq
  done : List Rs
structure Vs where
  m : Value
  g : Value
  o : Value
  d : Value
abbrev cc (c : Cl) : Array Value := #[.int .i64 c.cl, .int .i64 c.nu, .int .i64 c.kd, .int .i64 c.h1, .int .i64 c.h2, .int .i64 c.g1, .int .i64 c.g2, .string c.nm, .string c.ot, .int .i64 c.m1, .int .i64 c.m2, .int .i64 c.m3, .string c.mt, .bool c.fo, .int .i64 c.aa, .int .i64 c.nn, .int .i64 c.tt, .string c.bb]
abbrev ac (a : An) : Array Value := #[.int .i64 a.co, .int .i64 a.h1, .int .i64 a.h2, .string a.b, .int .i64 a.i1, .int .i64 a.i2, .int .i64 a.i3, .int .i64 a.i4, .int .i64 a.i5, .int .i64 a.i6, .int .i64 a.i7, .int .i64 a.i8, .slice a.na a.nl a.nc]
abbrev sc (r : Rs) : Array Value := #[.int .i64 r.nu, .int .i64 r.co, .int .i64 r.a.co, .int .i64 r.a.h1, .int .i64 r.a.h2, .string r.a.b, .int .i64 r.a.i1, .int .i64 r.a.i2, .int .i64 r.a.i3, .int .i64 r.a.i4, .int .i64 r.a.i5, .int .i64 r.a.i6, .int .i64 r.a.i7, .int .i64 r.a.i8, .slice r.a.na r.a.nl r.a.nc]
abbrev qc (r : Rq) : Array Value := #[.int .i64 (r.vol : Nat), .int .i64 r.srv, .int .i64 r.c.cl, .int .i64 r.c.nu, .int .i64 r.c.kd, .int .i64 r.c.h1, .int .i64 r.c.h2, .int .i64 r.c.g1, .int .i64 r.c.g2, .string r.c.nm, .string r.c.ot, .int .i64 r.c.m1, .int .i64 r.c.m2, .int .i64 r.c.m3, .string r.c.mt, .bool r.c.fo, .int .i64 r.c.aa, .int .i64 r.c.nn, .int .i64 r.c.tt, .string r.c.bb]
abbrev rp (r : Rp) : Array Value := #[.int .i64 r.vol, .int .i64 r.srv, .int .i64 r.cl, .int .i64 r.nu, .int .i64 r.co, .int .i64 r.a.co, .int .i64 r.a.h1, .int .i64 r.a.h2, .string r.a.b, .int .i64 r.a.i1, .int .i64 r.a.i2, .int .i64 r.a.i3, .int .i64 r.a.i4, .int .i64 r.a.i5, .int .i64 r.a.i6, .int .i64 r.a.i7, .int .i64 r.a.i8, .slice r.a.na r.a.nl r.a.nc]
abbrev pcs (s : St) (V : Vs) : Array Value := #[.int .i64 s.cl, .int .i64 s.pa, V.m, V.g, .int .i64 s.nu, .bool s.busy, .int .i64 (s.vol : Nat), .int .i64 s.c.cl, .int .i64 s.c.nu, .int .i64 s.c.kd, .int .i64 s.c.h1, .int .i64 s.c.h2, .int .i64 s.c.g1, .int .i64 s.c.g2, .string s.c.nm, .string s.c.ot, .int .i64 s.c.m1, .int .i64 s.c.m2, .int .i64 s.c.m3, .string s.c.mt, .bool s.c.fo, .int .i64 s.c.aa, .int .i64 s.c.nn, .int .i64 s.c.tt, .string s.c.bb, .int .i64 s.wait, .int .i64 s.vain, V.o, V.d]
def ql (r : Rq) : List Value := [.int .i64 (r.vol : Nat), .int .i64 r.srv, .int .i64 r.c.cl, .int .i64 r.c.nu, .int .i64 r.c.kd, .int .i64 r.c.h1, .int .i64 r.c.h2, .int .i64 r.c.g1, .int .i64 r.c.g2, .string r.c.nm, .string r.c.ot, .int .i64 r.c.m1, .int .i64 r.c.m2, .int .i64 r.c.m3, .string r.c.mt, .bool r.c.fo, .int .i64 r.c.aa, .int .i64 r.c.nn, .int .i64 r.c.tt, .string r.c.bb]
def sl (r : Rs) : List Value := [.int .i64 r.nu, .int .i64 r.co, .int .i64 r.a.co, .int .i64 r.a.h1, .int .i64 r.a.h2, .string r.a.b, .int .i64 r.a.i1, .int .i64 r.a.i2, .int .i64 r.a.i3, .int .i64 r.a.i4, .int .i64 r.a.i5, .int .i64 r.a.i6, .int .i64 r.a.i7, .int .i64 r.a.i8, .slice r.a.na r.a.nl r.a.nc]
def iv (x : Int) : Value := .int .i64 x
theorem ql_len (r : Rq) : (ql r).length = 20 := rfl
theorem sl_len (r : Rs) : (sl r).length = 15 := rfl

theorem flat_len {α : Type} (f : α → List Value) (n : Nat) (hf : ∀ p, (f p).length = n) (l : List α) : (l.flatMap f).length = l.length * n := by
  induction l with
  | nil => simp
  | cons p l ih => rw [List.flatMap_cons, List.length_append, ih, hf, List.length_cons, Nat.succ_mul]; omega
theorem flat_get {α : Type} (f : α → List Value) (n : Nat) (hf : ∀ p, (f p).length = n) (l : List α) (k : Nat) (p : α) (h : l[k]? = some p) (j : Nat) (hj : j < n) : (l.flatMap f)[k * n + j]? = (f p)[j]? := by
  induction l generalizing k with
  | nil => simp at h
  | cons q l ih =>
    rw [List.flatMap_cons]
    cases k with
    | zero =>
      obtain rfl : q = p := by simpa using h
      rw [Nat.zero_mul, Nat.zero_add, List.getElem?_append_left (by rw [hf]; exact hj)]
    | succ k =>
      have h2 : l[k]? = some p := by simpa using h
      rw [List.getElem?_append_right (by rw [hf, Nat.succ_mul]; omega), hf, ← ih k h2]
      congr 1
      rw [Nat.succ_mul]; omega
variable {w w' : World} {base n : Nat} {V V' : Vs} {s s' : St}
theorem own_at1 {e : TypeId} {l : List Int} {v : Value} {m : Nat} (h : w.ownsRow base e 1 v m (l.map iv)) (k : Nat) (x : Int) (hk : l[k]? = some x) :
    ∃ g cap, v = .slice (some ⟨g, 0, none⟩) m cap ∧ base ≤ g ∧ g < w.heap.size ∧ k < m ∧ m ≤ cap ∧ w.cell? ⟨g, k, none⟩ = some (.int .i64 x) ∧ w.frozen? ⟨g, k, none⟩ = false := by
  have hl := h.1
  rw [List.length_map, Nat.mul_one] at hl
  have hlt := (List.getElem?_eq_some_iff.1 hk).1
  rcases h.2 with ⟨_, h1⟩ | ⟨g, cap, cur, rfl, hb, hg, h1, _⟩
  · omega
  · refine ⟨g, cap, rfl, hb, own_lt h g rfl, by omega, h1, ?_, h.frozenAt k⟩
    have := h.cells (g := g) rfl k (.int .i64 x) (by rw [List.getElem?_map, hk]; rfl)
    rwa [Addr.add_lit, Nat.zero_add] at this
theorem own_atN {α : Type} {e N : Nat} {f : α → List Value} (hf : ∀ p, (f p).length = N) {l : List α} {v : Value} {m : Nat} (h : w.ownsRow base e N v m (l.flatMap f)) (hm : m = l.length) (k : Nat) (x : α) (hk : l[k]? = some x) :
    ∃ g cap, v = .slice (some ⟨g, 0, none⟩) m cap ∧ base ≤ g ∧ g < w.heap.size ∧ k < m ∧ m ≤ cap ∧ ∀ j u, (f x)[j]? = some u → w.cell? ⟨g, k * N + j, none⟩ = some u := by
  have hlt := (List.getElem?_eq_some_iff.1 hk).1
  rcases h.2 with ⟨_, h1⟩ | ⟨g, cap, cur, rfl, hb, hg, h1, _⟩
  · omega
  · refine ⟨g, cap, rfl, hb, own_lt h g rfl, by omega, h1, fun j u hu => ?_⟩
    have hj : j < N := by have := (List.getElem?_eq_some_iff.1 hu).1; rwa [hf] at this
    have := h.cells (g := g) rfl (k * N + j) u (by rw [flat_get f N hf l k x hk j hj]; exact hu)
    rwa [Addr.add_lit, Nat.zero_add] at this

/-- a client. -/
structure Pt (w : World) (base n : Nat) (V : Vs) (s : St) : Prop where
  box : Box w n 98 (pcs s V)
  rm : w.ownsRow base 3 1 V.m s.many.length (s.many.map iv)
  rg : w.ownsRow base 3 1 V.g s.guess.length (s.guess.map iv)
  ro : w.ownsRow base 54 20 V.o s.out.length (s.out.flatMap ql)
  rd : w.ownsRow base 81 15 V.d s.done.length (s.done.flatMap sl)
  dis : ∀ k, V.m.ownBlock = some k → V.g.ownBlock ≠ some k
  hn : base ≤ n
/-- a scalar is put. -/
theorem Pt.put (h : Pt w base n V s) (j : Nat) (u : Value) (s' : St) (he : (pcs s V).setIfInBounds j u = pcs s' V) (h1 : s'.many = s.many) (h2 : s'.guess = s.guess) (h3 : s'.out = s.out) (h4 : s'.done = s.done) : Pt (w.setCell ⟨n, j, none⟩ u) base n V s' := by
  have hk : ∀ (T : TypeId) (N : Nat) (v : Value) (k : Nat) (xs : List Value), T ≠ 98 → w.ownsRow base T N v k xs → (w.setCell ⟨n, j, none⟩ u).ownsRow base T N v k xs := fun T N v k xs hT ho => own_stays ho fun i hi => Below.heap_setCell _ _ _ _ (fun e => own_box_ne ho h.box hT (hi.trans (congrArg some e)))
  refine ⟨by rw [← he]; exact h.box.set j u, ?_, ?_, ?_, ?_, h.dis, h.hn⟩
  · rw [h1]; exact hk _ _ _ _ _ (by decide) h.rm
  · rw [h2]; exact hk _ _ _ _ _ (by decide) h.rg
  · rw [h3]; exact hk _ _ _ _ _ (by decide) h.ro
  · rw [h4]; exact hk _ _ _ _ _ (by decide) h.rd
theorem own_ne {b e s k b' e' s' k' : Nat} {u u' : Value} {xs xs' : List Value} (h : w.ownsRow b e s u k xs) (h' : w.ownsRow b' e' s' u' k' xs') (hne : e ≠ e') : ∀ g, u.ownBlock = some g → u'.ownBlock ≠ some g := by
  intro g hg hg'
  rcases h.2 with ⟨rfl, _⟩ | ⟨g1, c1, cur1, rfl, _, e1, _⟩
  · cases hg
  · rcases h'.2 with ⟨rfl, _⟩ | ⟨g2, c2, cur2, rfl, _, e2, _⟩
    · cases hg'
    · obtain rfl : g1 = g := by simpa [Value.ownBlock] using hg
      obtain rfl : g2 = g1 := by simpa [Value.ownBlock] using hg'
      rw [e1] at e2
      simp at e2
      exact hne e2.2
/-- its blocks. -/
def Of (n : Nat) (V : Vs) (k : Nat) : Prop := k = n ∨ V.m.ownBlock = some k ∨ V.g.ownBlock = some k ∨ V.o.ownBlock = some k ∨ V.d.ownBlock = some k
theorem Pt.stays (h : Pt w base n V s) (hk : ∀ k, k < w.heap.size → Of n V k → w'.heap[k]? = w.heap[k]?) : Pt w' base n V s :=
  ⟨(hk n h.box.lt (.inl rfl)).trans h.box, own_stays h.rm (fun k hv => hk k (own_lt h.rm k hv) (.inr (.inl hv))), own_stays h.rg (fun k hv => hk k (own_lt h.rg k hv) (.inr (.inr (.inl hv)))),
    own_stays h.ro (fun k hv => hk k (own_lt h.ro k hv) (.inr (.inr (.inr (.inl hv))))), own_stays h.rd (fun k hv => hk k (own_lt h.rd k hv) (.inr (.inr (.inr (.inr hv))))), h.dis, h.hn⟩
theorem Pt.below {B : Nat} (h : Pt w base n V s) (hb : Below B w w') (hB : w.heap.size ≤ B) : Pt w' base n V s := h.stays fun k hk _ => hb.block k (by omega)
theorem Pt.alloc (h : Pt w base n V s) (o : Obj) : Pt (w.alloc o) base n V s := h.stays fun k hk _ => Below.heap_alloc w o k hk
theorem Pt.drew (h : Pt w base n V s) : Pt w.drew base n V s := h.stays fun _ _ _ => rfl
theorem Pt.touch {S : Nat → Prop} (h : Pt w base n V s) (ht : Touch S w w') (hd : ∀ k, S k → ¬ Of n V k) : Pt w' base n V s := h.stays fun k hk ho => ht.block k hk (fun hs => hd k hs ho)
theorem Pt.of_ge (h : Pt w base n V s) : ∀ k, Of n V k → base ≤ k := by
  rintro k (rfl | hv | hv | hv | hv)
  · exact h.hn
  · exact own_ge h.rm k hv
  · exact own_ge h.rg k hv
  · exact own_ge h.ro k hv
  · exact own_ge h.rd k hv
theorem Pt.of_lt (h : Pt w base n V s) : ∀ k, Of n V k → k < w.heap.size := by
  rintro k (rfl | hv | hv | hv | hv)
  · exact h.box.lt
  · exact own_lt h.rm k hv
  · exact own_lt h.rg k hv
  · exact own_lt h.ro k hv
  · exact own_lt h.rd k hv
/-- what a call leaves: a client, of the old blocks or of new ones; nothing else is touched. -/
structure Goes (w w' : World) (n : Nat) (V V' : Vs) : Prop where
  touch : Touch (Of n V) w w'
  lies : ∀ k, Of n V' k → Of n V k ∨ w.heap.size ≤ k
theorem Goes.of_below {V : Vs} (h : Below w.heap.size w w') : Goes w w' n V V := ⟨Touch.of_below h, fun _ hk => .inl hk⟩
theorem Goes.trans {w'' : World} {V V' V'' : Vs} (h : Goes w w' n V V') (k : Goes w' w'' n V' V'') : Goes w w'' n V V'' := by
  refine ⟨⟨k.touch.os.trans h.touch.os, k.touch.tape.trans h.touch.tape, k.touch.output.trans h.touch.output, Nat.le_trans h.touch.size k.touch.size, fun i hi hn => ?_⟩, fun i hv => ?_⟩
  · refine (k.touch.block i (Nat.lt_of_lt_of_le hi h.touch.size) (fun ho => ?_)).trans (h.touch.block i hi hn)
    rcases h.lies i ho with h1 | h1
    · exact hn h1
    · omega
  · rcases k.lies i hv with h1 | h1
    · exact h.lies i h1
    · exact .inr (Nat.le_trans h.touch.size h1)
theorem Goes.below {V V' : Vs} {B : Nat} {w0 : World} (h : Goes w w' n V V') (hb : Below B w0 w) (hB : B ≤ w0.heap.size) (hg : ∀ k, Of n V k → B ≤ k) : Below B w0 w' := by
  refine hb.trans ⟨h.touch.os, h.touch.tape, h.touch.output, h.touch.size, fun i hi => ?_⟩
  have hs := hb.size
  exact h.touch.block i (by omega) (fun ho => by have := hg i ho; omega)
theorem Goes.below_l {a b c : World} {V V' : Vs} (k : Below a.heap.size a b) (h : Goes b c n V V') : Goes a c n V V' := (Goes.of_below (n := n) (V := V) k).trans h
theorem Goes.below_r {a b c : World} {V V' : Vs} (h : Goes a b n V V') (k : Below b.heap.size b c) : Goes a c n V V' := h.trans (Goes.of_below (n := n) (V := V') k)
/-- a call on a client. -/
def Does (w : World) (base n : Nat) (V : Vs) (s' : St) (w' : World) : Prop := ∃ V', Pt w' base n V' s' ∧ Goes w w' n V V'

def mv (s : St) : Int := s.many.getD s.vol 0
def gv (s : St) : Int := s.guess.getD s.vol 0
/-- what is true of a client at all times, even in the midst of a call. -/
structure Fit (s : St) : Prop where
  len : s.guess.length = s.many.length
  few : s.many.length ≤ 20
  vol : s.vol < s.many.length
  many : ∀ (i : Nat) (m : Int), s.many[i]? = some m → 1 ≤ m ∧ m ≤ 7
  guess : ∀ (i : Nat) (m g : Int), s.many[i]? = some m → s.guess[i]? = some g → 0 ≤ g ∧ g < m
  nu0 : 0 ≤ s.nu
  nu1 : s.nu ≤ 100000
  wait0 : 0 ≤ s.wait
  wait1 : s.wait ≤ s.pa
  pa0 : 0 < s.pa
  pa : s.pa ≤ 1000
  vain0 : 0 ≤ s.vain
  vain1 : s.vain ≤ 21
  done : s.done.length ≤ 1
/-- between calls. -/
structure Okay (s : St) : Prop where
  fit : Fit s
  busy : s.busy = true → s.wait < s.pa ∧ s.vain < 3 * mv s ∧ s.done = []
theorem Fit.mat (h : Fit s) : s.many[s.vol]? = some (mv s) := by rw [mv, List.getD_eq_getElem?_getD, List.getElem?_eq_getElem h.vol]; rfl
theorem Fit.gat (h : Fit s) : s.guess[s.vol]? = some (gv s) := by rw [gv, List.getD_eq_getElem?_getD, List.getElem?_eq_getElem (by rw [h.len]; exact h.vol)]; rfl
theorem Fit.mv_in (h : Fit s) : 1 ≤ mv s ∧ mv s ≤ 7 := h.many _ _ h.mat
theorem Fit.gv_in (h : Fit s) : 0 ≤ gv s ∧ gv s < mv s := h.guess _ _ _ h.mat h.gat
def zeroAn : An := ⟨0, 0, 0, ⟨#[]⟩, 0, 0, 0, 0, 0, 0, 0, 0, none, 0, 0⟩
def askS (s : St) : St := { s with wait := 0, out := s.out ++ [⟨s.vol, gv s, s.c⟩] }
def endS (s : St) (r : Rs) : St := { s with busy := false, done := [{ r with nu := s.nu }] }
def onS (s : St) : St := if 3 * mv s ≤ s.vain + 1 then endS { s with vain := s.vain + 1 } ⟨0, 210, zeroAn⟩ else askS { s with vain := s.vain + 1, guess := s.guess.set s.vol ((gv s + 1) % mv s) }
def tickS (s : St) : St := if s.busy then (if s.pa ≤ s.wait + 1 then onS { s with wait := s.wait + 1 } else { s with wait := s.wait + 1 }) else s
def meantB (s : St) (r : Rp) : Bool := s.busy && r.vol == (s.vol : Nat) && r.srv == gv s && r.cl == s.cl && r.nu == s.nu
def takeS (s : St) (r : Rp) : St := if meantB s r then (if r.co = 190 ∨ r.co = 191 ∨ r.co = 210 then onS s else endS s ⟨0, r.co, if r.co = 0 then r.a else zeroAn⟩) else s
def thereB (s : St) (v : Int) : Bool := decide (0 ≤ v) && decide (v < s.many.length)
def startB (s : St) (v : Int) (c : Cl) : Bool := !s.busy && s.done.isEmpty && thereB s v && decide (1 ≤ c.kd) && decide (c.kd ≤ 11)
def startS (s : St) (v : Int) (c : Cl) : St := if startB s v c then askS { s with nu := s.nu + 1, busy := true, vol := v.toNat, c := { c with cl := s.cl, nu := s.nu + 1 }, vain := 0 } else s
end Go.Proofs.Ytlkilkndjfcejaa

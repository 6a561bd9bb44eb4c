/- watcher: Fire, Drop. Conditions: the table lies in the call's own memory. -/
import Derived.Test.YtmcjpochpmiipaaDoorVg
namespace Go.Proofs.YtmcjpochpmiipaaDoor
open Go Go.RowKit Zn
set_option linter.unusedVariables false
set_option linter.unusedSimpArgs false
variable {w w' : World} {base n : Nat} {v : Value} {L : List Wt}

def stepT (kd : Int) (pa : ByteArray) (s : List Int) (p : Wt) : List Int := if touchB kd pa p then (if s.getLast? = some p.1 then s else s ++ [p.1]) else s
/-- who is told; the events; who is left. -/
def firedS (kd : Int) (pa : ByteArray) (L : List Wt) : List Int := L.foldl (stepT kd pa) []
def firedE (kd : Int) (pa : ByteArray) (L : List Wt) : List Ev := (firedS kd pa L).map fun x => (x, kd, pa)
def fireL (kd : Int) (pa : ByteArray) (L : List Wt) : List Wt := L.filter fun p => !touchB kd pa p
def dropL (N : Int) (L : List Wt) : List Wt := L.filter fun p => !dropB N p
theorem fold_snd (kd : Int) (pa : ByteArray) : ∀ (L : List Wt) (s : Int × List Int), (L.foldl (stepF kd pa) s).2 = L.foldl (stepT kd pa) s.2
  | [], s => rfl
  | p :: L, s => by
    rw [List.foldl_cons, List.foldl_cons, fold_snd kd pa L]
    congr 1
    unfold stepF stepT
    split <;> rfl
theorem fire_any (e : Ev) (h : Tab w base n v L) (hb : base ≤ w.heap.size) (hl : L.length ≤ 1000) :
    Calls Tryd.prog 15 #[.pointer (some ⟨n, 0, none⟩), ev e] w fun r w' => ∃ vt, r = .returned vt ∧ w'.ownsRow w.heap.size 36 3 vt (firedE e.2.1 e.2.2 L).length (eCells (firedE e.2.1 e.2.2 L)) ∧ ∃ v', Tab w' base n v' (fireL e.2.1 e.2.2 L) ∧ Goes w w' n v v' := by
  obtain ⟨ad, c, rfl, _⟩ := own_shape h.row
  obtain ⟨c0, kd, pa⟩ := e
  have HT := Lib.hid h
  have hB0 : w.heap.size ≤ ((w.alloc (.cells #[.int .i64 c0, .int .i64 kd, .string pa] 36)).alloc (.cells #[.slice none 0 0] 40)).heap.size := by simp; omega
  have HT2 := Lib.hid ((h.alloc (.cells #[.int .i64 c0, .int .i64 kd, .string pa] 36)).alloc (.cells #[.slice none 0 0] 40))
  have HE2 := Lib.hid ((Box.new w 36 #[.int .i64 c0, .int .i64 kd, .string pa]).alloc (.cells #[.slice none 0 0] 40))
  have HB2 := Lib.hid (Box.new (w.alloc (.cells #[.int .i64 c0, .int .i64 kd, .string pa] 36)) 40 #[.slice none 0 0])
  have hs1 : (w.alloc (.cells #[.int .i64 c0, .int .i64 kd, .string pa] 36)).heap.size = w.heap.size + 1 := by simp
  rw [hs1] at HB2
  have HF := Lib.hid (show FSt w.heap.size w.heap.size (w.heap.size + 1) kd pa 0 (c0, []) ((w.alloc (.cells #[.int .i64 c0, .int .i64 kd, .string pa] 36)).alloc (.cells #[.slice none 0 0] 40)) from
    ⟨HE2.out, ⟨_, HB2.out, World.ownsRow_nil _ _ _ _, by simp [Value.ownBlock]⟩, Nat.le_refl _, ⟨Nat.le_refl _, by omega⟩⟩)
  have C1 := Lib.hid (deleteF_any (fire_clos (B := w.heap.size) (be := w.heap.size) (bt := w.heap.size + 1) (kd := kd) (pa := pa)) (c0, []) ad c HT2.out.row hB0 (fun g hg => own_lt h.row g hg) HF.out hl)
  have hn := h.box.lt
  have t0 : ((w.alloc (.cells #[.int .i64 c0, .int .i64 kd, .string pa] 36)).alloc (.cells #[.slice none 0 0] 40)).cell? ⟨n, 0, none⟩ = some (.slice ad L.length c) := HT2.out.box.cell 0
  have c00 : w.cell? ⟨n, 0, none⟩ = some (.slice ad L.length c) := h.box.cell 0
  have BB := Lib.hid (((Below.refl w.heap.size w).alloc (Nat.le_refl _) (.cells #[.int .i64 c0, .int .i64 kd, .string pa] 36)).alloc (by simp) (.cells #[.slice none 0 0] 40))
  unfold ev
  clear h hs1
  go_enter Tryd.func15, Tryd.ntmps15
  go_wp2_with fail
  refine C1.out.mono ?_
  rintro r w3 ⟨v3, rfl, own3, same3, st3, t3⟩
  obtain ⟨ad3, c3, rfl, _⟩ := own_shape own3
  have HO3 := Lib.hid own3
  have HN3 := Lib.hid (show Box w3 n 53 #[.slice ad L.length c] from HT2.out.box.touch t3 (fun h => h.elim (fun h => HT.out.vn h) (fun h => by omega)))
  have hn3 := HN3.out.lt
  have d0 : w3.cell? ⟨n, 0, none⟩ = some (.slice ad L.length c) := HN3.out.cell 0
  have f0 := HN3.out.frozen 0
  obtain ⟨vt, hbt, hot, _⟩ := st3.tbox
  have hlen := st3.len
  rw [fold_snd] at hot
  have T3 := Lib.hid (show Touch (Of n (.slice ad L.length c)) w w3 from ⟨t3.os.trans BB.out.os, t3.tape.trans BB.out.tape, t3.output.trans BB.out.output, Nat.le_trans BB.out.size t3.size, fun k hk hn => (t3.block k (Nat.lt_of_lt_of_le hk BB.out.size) (fun h => h.elim (fun h => hn (.inr h)) (fun h => by omega))).trans (BB.out.block k hk)⟩)
  have HBT := Lib.hid hbt
  have HOT := Lib.hid (show w3.ownsRow w.heap.size 36 3 vt (firedE kd pa L).length (eCells (firedE kd pa L)) by rw [firedE, List.length_map]; exact hot)
  obtain ⟨adt, ct, rfl, _⟩ := own_shape HOT.out
  have b0 : w3.cell? ⟨w.heap.size + 1, 0, none⟩ = some (.slice adt (firedE kd pa L).length ct) := HBT.out.cell 0
  have hbl := HBT.out.lt
  have hnn : n ≠ w.heap.size + 1 := by omega
  have HSAME := Lib.hid same3
  clear C1 own3 same3 st3 t3 hbt hot t0 c00
  go_wp2
  go_ret
  have hne := own_box_ne HO3.out HN3.out (by decide)
  refine ⟨_, rfl, own_stays HOT.out (fun k hk => Below.heap_setCell _ _ _ _ (by have := own_ge HOT.out k hk; show k ≠ n; omega)), .slice ad3 (fireL kd pa L).length c3, ⟨HN3.out.set 0 _, own_stays HO3.out (fun k hk => Below.heap_setCell _ _ _ _ (fun e => hne (hk.trans (congrArg some e)))), HT.out.hn⟩, ⟨T3.out.setCell (.inl rfl) _, fun k hk => .inl (HSAME.out ▸ hk)⟩⟩
theorem drop_any (N : Int) (h : Tab w base n v L) (hb : base ≤ w.heap.size) (hl : L.length ≤ 1000) :
    Calls Tryd.prog 16 #[.pointer (some ⟨n, 0, none⟩), .int .i64 N] w fun r w' => r = .returned (.tuple #[]) ∧ ∃ v', Tab w' base n v' (dropL N L) ∧ Goes w w' n v v' := by
  obtain ⟨ad, c, rfl, _⟩ := own_shape h.row
  have HT := Lib.hid h
  have hB0 : w.heap.size ≤ (w.alloc (.cells #[.int .i64 N] 3)).heap.size := by simp
  have HT2 := Lib.hid (h.alloc (.cells #[.int .i64 N] 3))
  have HE2 := Lib.hid (Box.new w 3 #[.int .i64 N])
  have C1 := Lib.hid (deleteD_any (drop_clos (B := w.heap.size) (bs := w.heap.size) (N := N)) () ad c HT2.out.row hB0 (fun g hg => own_lt h.row g hg) ⟨HE2.out, Nat.le_refl _⟩ hl)
  have hn := h.box.lt
  have c00 : w.cell? ⟨n, 0, none⟩ = some (.slice ad L.length c) := h.box.cell 0
  have BB := Lib.hid ((Below.refl w.heap.size w).alloc (Nat.le_refl _) (.cells #[.int .i64 N] 3))
  clear h
  go_enter Tryd.func16, Tryd.ntmps16
  go_wp2_with fail
  refine C1.out.mono ?_
  rintro r w3 ⟨v3, rfl, own3, same3, st3, t3⟩
  obtain ⟨ad3, c3, rfl, _⟩ := own_shape own3
  have HO3 := Lib.hid own3
  have HN3 := Lib.hid (show Box w3 n 53 #[.slice ad L.length c] from HT2.out.box.touch t3 (fun h => h.elim (fun h => HT.out.vn h) (fun h => by omega)))
  have hn3 := HN3.out.lt
  have d0 : w3.cell? ⟨n, 0, none⟩ = some (.slice ad L.length c) := HN3.out.cell 0
  have f0 := HN3.out.frozen 0
  have T3 := Lib.hid (show Touch (Of n (.slice ad L.length c)) w w3 from ⟨t3.os.trans BB.out.os, t3.tape.trans BB.out.tape, t3.output.trans BB.out.output, Nat.le_trans BB.out.size t3.size, fun k hk hn => (t3.block k (Nat.lt_of_lt_of_le hk BB.out.size) (fun h => h.elim (fun h => hn (.inr h)) (fun h => by omega))).trans (BB.out.block k hk)⟩)
  have HSAME := Lib.hid same3
  clear C1 own3 same3 st3 t3 c00
  go_wp2
  go_end0
  have hne := own_box_ne HO3.out HN3.out (by decide)
  refine ⟨rfl, .slice ad3 (dropL N L).length c3, ⟨HN3.out.set 0 _, own_stays HO3.out (fun k hk => Below.heap_setCell _ _ _ _ (fun e => hne (hk.trans (congrArg some e)))), HT.out.hn⟩, ⟨T3.out.setCell (.inl rfl) _, fun k hk => .inl (HSAME.out ▸ hk)⟩⟩
end Go.Proofs.YtmcjpochpmiipaaDoor

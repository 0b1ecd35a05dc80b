/- feed.Diff's tell: one event more. -/
import Derived.Test.YtdcinodbgbkobaaGreatDoorGf
import Derived.Test.YtdcinodbgbkobaaGreatDoorGd
namespace Go.Proofs.YtdcinodbgbkobaaGreatDoor
open Go.Shelf Go.RowKit Go.Maps
set_option linter.unusedVariables false

theorem ev1_row (w : World) (x : Ev) (t : TypeId) : RowIn (w.alloc (.cells #[.string x.src, .int .i64 x.num, .int .i64 x.tick, .int .i64 x.kind, .string x.person, .string x.item, .int .i64 x.value, .string x.text] t)) (w.heap.size + 1) 8 (some ⟨w.heap.size, 0, none⟩) 1 (evC x) := by
  refine ⟨rfl, Or.inr ⟨w.heap.size, 0, rfl, by omega, fun j u hu => ?_⟩⟩
  rw [(Blk.new w t _).cell]
  rw [← hu, Nat.zero_add]
  simp [evC]
/-- The events that are told so far: the box lb holds a slice that owns them. -/
def TellIn (w : World) (base lb : Nat) (L : List Ev) : Prop := ∃ A c, Blk w lb 23 #[.slice A L.length c] ∧ w.ownsRow base 41 8 (.slice A L.length c) L.length (L.flatMap evC)
theorem TellIn.ne {w : World} {base lb n : Nat} {v : Value} {cs : Array Value} {xs : List Value} (h : Blk w lb 23 cs) (ho : w.ownsRow base 41 8 v n xs) : v.ownBlock ≠ some lb := by
  rcases ho.2 with ⟨h1, _⟩ | ⟨g, cap, cur, h1, _, hgb, _⟩
  · rw [h1]; simp [Value.ownBlock]
  · rw [h1]
    intro e
    obtain rfl : g = lb := by simpa [Value.ownBlock] using e
    unfold Blk at h
    rw [hgb] at h
    cases h

/-- The block of what is told so far. -/
def TellOwn (w : World) (lb q : Nat) : Prop := ∃ A n c, Blk w lb 23 #[.slice A n c] ∧ (Value.slice A n c).ownBlock = some q
theorem TellOwn.of {w w' : World} {base lb q : Nat} {L : List Ev} (h : TellIn w base lb L) (hb : Below w.heap.size w w') (hq : TellOwn w' lb q) : base ≤ q ∧ q < w.heap.size := by
  obtain ⟨A, c, h1, h2⟩ := h
  obtain ⟨A', n', c', h3, h4⟩ := hq
  have h5 : Blk w' lb 23 #[.slice A L.length c] := h1.kept (below_kept (S := fun _ => False) hb (Nat.le_refl _)) (fun h => h)
  unfold Blk at h3 h5
  rw [h5] at h3
  injection h3 with h3
  injection h3 with h3
  have h6 : Value.slice A L.length c = Value.slice A' n' c' := by
    have := congrArg (fun a : Array Value => a[0]?) h3
    simpa using this
  rw [← h6] at h4
  exact h2.lt _ h4
theorem TellIn.below {w w' : World} {base lb : Nat} {L : List Ev} (h : TellIn w base lb L) (hb : Below w.heap.size w w') : TellIn w' base lb L := by
  obtain ⟨A, c, h1, h2⟩ := h
  exact ⟨A, c, h1.kept (below_kept (S := fun _ => False) hb (Nat.le_refl _)) (fun h => h), owns_kept h2 (below_kept (S := fun _ => False) hb (Nat.le_refl _)) (fun _ _ h => h)⟩
set_option maxHeartbeats 2000000 in
set_option maxRecDepth 100000 in
theorem tell_any (w : World) (base sb ab lb : Nat) (src : ByteArray) (t : Int) (L : List Ev) (nm : ByteArray) (k v : Int) (tx : ByteArray) (hs : w.cell? ⟨sb, 0, none⟩ = some (.string src)) (ha : w.cell? ⟨ab, 0, none⟩ = some (.int .i64 t)) (hl : TellIn w base lb L) (hbw : base ≤ w.heap.size) (hn : L.length ≤ 100000) :
    Calls Tryz.prog 24 #[.int .i64 k, .string nm, .int .i64 v, .string tx, .pointer (some ⟨sb, 0, none⟩), .pointer (some ⟨ab, 0, none⟩), .pointer (some ⟨lb, 0, none⟩)] w fun e w' => e = .returned (.tuple #[]) ∧ TellIn w' base lb (L ++ [mkE src 0 t nm (k, v, tx)]) ∧ Kept (fun q => q = lb ∨ TellOwn w lb q) w w' := by
  obtain ⟨A, c, hblk, hown⟩ := hl
  obtain ⟨n, hnn⟩ : ∃ n, L.length = n := ⟨_, rfl⟩
  rw [hnn] at hblk hown hn
  have HNN := Lib.hid hnn
  have hlb : lb < w.heap.size := hblk.lt
  have hne := TellIn.ne hblk hown
  obtain ⟨i0, hi0, hz0, hz1, hz2⟩ := info_parts ev_info
  obtain ⟨x, hx⟩ : ∃ x, mkE src 0 t nm (k, v, tx) = x := ⟨_, rfl⟩
  have HX := Lib.hid hx
  obtain ⟨w1, hw1⟩ : ∃ w1, w.alloc (.cells #[.string src, .int .i64 0, .int .i64 t, .int .i64 k, .string ⟨#[]⟩, .string nm, .int .i64 v, .string tx] 41) = w1 := ⟨_, rfl⟩
  have HK1 : Hid (Blk w1 w.heap.size 41 #[.string src, .int .i64 0, .int .i64 t, .int .i64 k, .string ⟨#[]⟩, .string nm, .int .i64 v, .string tx]) := Lib.hid (by rw [← hw1]; exact Blk.new _ _ _)
  have HB1 : Hid (Kept (fun _ => False) w w1) := Lib.hid (by rw [← hw1]; exact (Kept.refl _ _).alloc _)
  have HL1 : Hid (Blk w1 lb 23 #[.slice A n c]) := Lib.hid (by rw [← hw1]; exact hblk.alloc _)
  have HO1 : Hid (w1.ownsRow base 41 8 (.slice A n c) n (L.flatMap evC)) := Lib.hid (by rw [← hw1]; exact hown.alloc _)
  have d0 : w1.cell? ⟨w.heap.size, 0, none⟩ = some (.string src) := HK1.out.cell 0
  have d1 : w1.cell? ⟨w.heap.size, 1, none⟩ = some (.int .i64 0) := HK1.out.cell 1
  have d2 : w1.cell? ⟨w.heap.size, 2, none⟩ = some (.int .i64 t) := HK1.out.cell 2
  have d3 : w1.cell? ⟨w.heap.size, 3, none⟩ = some (.int .i64 k) := HK1.out.cell 3
  have d4 : w1.cell? ⟨w.heap.size, 4, none⟩ = some (.string ⟨#[]⟩) := HK1.out.cell 4
  have d5 : w1.cell? ⟨w.heap.size, 5, none⟩ = some (.string nm) := HK1.out.cell 5
  have d6 : w1.cell? ⟨w.heap.size, 6, none⟩ = some (.int .i64 v) := HK1.out.cell 6
  have d7 : w1.cell? ⟨w.heap.size, 7, none⟩ = some (.string tx) := HK1.out.cell 7
  have l0 : w1.cell? ⟨lb, 0, none⟩ = some (.slice A n c) := HL1.out.cell 0
  obtain ⟨w2, hw2⟩ : ∃ w2, w1.alloc (.cells #[.string src, .int .i64 0, .int .i64 t, .int .i64 k, .string ⟨#[]⟩, .string nm, .int .i64 v, .string tx] 41) = w2 := ⟨_, rfl⟩
  have HR2 : Hid (RowIn w2 (w1.heap.size + 1) 8 (some ⟨w1.heap.size, 0, none⟩) 1 (evC x)) := Lib.hid (by rw [← hw2, ← hx]; exact ev1_row w1 (mkE src 0 t nm (k, v, tx)) _)
  have HO2 : Hid (w2.ownsRow base 41 8 (.slice A n c) n (L.flatMap evC)) := Lib.hid (by rw [← hw2]; exact HO1.out.alloc _)
  have HL2 : Hid (Blk w2 lb 23 #[.slice A n c]) := Lib.hid (by rw [← hw2]; exact HL1.out.alloc _)
  have HB2 : Hid (Kept (fun _ => False) w w2) := Lib.hid (by rw [← hw2]; exact HB1.out.alloc _)
  have hz2' : w.heap.size ≤ w2.heap.size := HB2.out.size
  have HNE := Lib.hid hne
  have HBL := Lib.hid hblk
  clear hblk hown hnn hx hne
  go_enter Tryz.func24, Tryz.ntmps24
  go_wp2_with (first
    | (at_builtin; refine wpList_append_row _ rfl _ _ 23 rfl base 41 i0 _ 8 96 Tryz.underlying23 hi0 hz0 hz1 hz2 rfl (by omega) (.slice A n c) n _ rfl HO2.out (w1.heap.size + 1) (some ⟨w1.heap.size, 0, none⟩) 1 1 (evC x) rfl HR2.out (fun h => by cases h) (fun u hu => evC_one [x] u (by simpa using hu)) (by unfold maxLen; omega) (by omega) (by omega) ?_; intro v7 w7 ho7 hg7 hv7; obtain ⟨A7, c7, hv⟩ := own_shape ho7; subst hv; have HL7 : Hid (Blk w7 lb 23 #[.slice A n c]) := Lib.hid (HL2.out.grown hg7 (fun e => HNE.out e.symm)); have l7 := HL7.out.cell 0; have f7 := HL7.out.frozen 0; have HO7 := Lib.hid ho7; have HG7 := Lib.hid hg7; clear ho7 hg7 hv7))
  go_end0
  have HK7 : Hid (Kept (fun q => q = lb ∨ TellOwn w lb q) w w7) := Lib.hid ((HB2.out.mono (fun _ _ h => h.elim)).grown HG7.out (fun j hj => Or.inl (Or.inr ⟨A, n, c, HBL.out, hj⟩)))
  refine ⟨rfl, ⟨A7, c7, ?_, ?_⟩, HK7.out.setCell (p := ⟨lb, 0, none⟩) (Or.inl (Or.inl rfl)) _⟩
  · rw [List.length_append, HNN.out]
    exact HL7.out.set_ 0 _
  · rw [List.length_append, HNN.out, List.flatMap_append, HX.out]
    have hn7 := TellIn.ne HL7.out HO7.out
    have ho8 := owns_kept HO7.out ((Kept.refl (fun q => q = lb) w7).setCell (p := ⟨lb, 0, none⟩) (Or.inl rfl) (.slice A7 (n + 1) c7)) (fun g hg e => hn7 (by rw [hg, e]))
    simpa using ho8

end Go.Proofs.YtdcinodbgbkobaaGreatDoor

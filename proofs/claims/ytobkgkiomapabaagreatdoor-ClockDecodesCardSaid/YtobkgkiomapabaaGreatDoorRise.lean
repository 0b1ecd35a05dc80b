/- What rise, New, Tick and name do. -/
import Derived.Test.YtobkgkiomapabaaGreatDoorTold
import Derived.Test.YtobkgkiomapabaaGreatDoorShelf
namespace Go.Proofs.YtobkgkiomapabaaGreatDoor
open Go.RowKit Go.Maps Go.Lib Go.Shelf

/-- The mark is taken up to what the sources tell. -/
def Rose (c c' : Ck) : Prop := ∃ m any, Told c m any ∧ c' = { c with mark := if any then max c.mark m else c.mark }

theorem Told.le {w : World} {cb mb n : Nat} {c : Ck} (h : ClockAt w cb mb n c) {m : Int} {any : Bool} (ht : Told c m any) : -1099511627777 ≤ m ∧ m < 1099511627776 := by
  have h0 := h.ok.s0
  have h1 := h.ok.s1
  rcases ht with ⟨_, rfl, _⟩ | ⟨_, ⟨s, x, hs, _, rfl⟩, _⟩
  · omega
  · obtain ⟨b0, b1, _, _⟩ := h.src_ok hs
    omega

theorem Rose.ok {w : World} {cb mb n : Nat} {c c' : Ck} (h : ClockAt w cb mb n c) (hr : Rose c c') : c'.Ok := by
  obtain ⟨m, any, ht, rfl⟩ := hr
  have := ht.le h
  obtain ⟨s0, s1, i0, i1, n0, n1, m0, m1⟩ := h.ok
  cases any
  · exact ⟨s0, s1, i0, i1, n0, n1, m0, m1⟩
  · exact ⟨s0, s1, i0, i1, n0, n1, by simp; omega, by simp; omega⟩

set_option maxRecDepth 100000 in
theorem rise_any (cb mb n : Nat) (c : Ck) (w : World) (h : ClockAt w cb mb n c) :
    Calls Tryz.prog 32 #[.pointer (some ⟨cb, 0, none⟩)] w fun e w' => ∃ c', e = .returned (.tuple #[]) ∧ Rose c c' ∧ ClockAt w' cb mb n c' ∧ Kept (fun i => i = cb) w w' := by
  have hlt := h.blk.lt
  go_enter Tryz.func32, Tryz.ntmps32
  go_wp2_with fail
  refine (told_any cb mb n c w h).mono ?_
  rintro e w1 ⟨m, any, rfl, ht, hb⟩
  have hm := ht.le h
  have hk : Kept (fun i => i = cb) w w1 := ⟨hb.os, hb.tape, hb.output, hb.size, fun i hi _ => hb.block i hi⟩
  have h1 : ClockAt w1 cb mb n c := h.kept (S := fun _ => False) ⟨hb.os, hb.tape, hb.output, hb.size, fun i hi _ => hb.block i hi⟩ (by simp) (by simp)
  have HT := Lib.hid ht
  clear ht hb
  cases any
  · go_wp2
    go_end0
    have ht := HT.out
    exact ⟨c, rfl, ⟨m, false, ht, rfl⟩, h1, hk⟩
  · have k3 : w1.cell? ⟨cb, 3, none⟩ = some (.int .i64 c.mark) := h1.blk.cell 3
    have f3 : w1.frozen? ⟨cb, 3, none⟩ = false := h1.blk.frozen 3
    have hne : mb ≠ cb := h1.map.ne_blk h1.blk
    go_wp2
    go_end0
    have hR : Rose c { c with mark := max c.mark m } := ⟨m, true, HT.out, rfl⟩
    exact ⟨{ c with mark := max c.mark m }, rfl, hR, ⟨h1.blk.set_ 3 _, h1.map.setCell hne _, hR.ok h⟩, hk.setCell (Or.inl rfl) _⟩

/-- A clock that has heard nothing. -/
def fresh (slack idle : Int) : Ck := { slack := bnd slack, idle := bnd idle, now := 0, mark := -1, src := fun _ => none }

set_option maxRecDepth 100000 in
theorem new_any (slack idle : Int) (w : World) :
    Calls Tryz.prog 9 #[.int .i64 slack, .int .i64 idle] w fun e w' => ∃ cb mb, e = .returned (.pointer (some ⟨cb, 0, none⟩)) ∧ ClockAt w' cb mb 0 (fresh slack idle) ∧ Below w.heap.size w w' ∧ w.heap.size ≤ cb ∧ w.heap.size ≤ mb := by
  have hmm := @run_makeMap Tryz.prog
  go_enter Tryz.func9, Tryz.ntmps9
  go_wp2_with fail
  refine (bound_any slack w).mono ?_
  rintro e w1 ⟨rfl, rfl⟩
  go_wp2_with fail
  refine (bound_any idle w).mono ?_
  rintro e w1 ⟨rfl, rfl⟩
  go_wp2_with fail
  go_ret
  have h1 := bnd_ok slack
  have h2 := bnd_ok idle
  refine ⟨w.heap.size + 1, w.heap.size, rfl, ⟨?_, ?_, ⟨h1.1, h1.2, h2.1, h2.2, by simp [fresh], by simp [fresh], by simp [fresh], by simp [fresh]⟩⟩, ((Below.refl _ _).alloc (Nat.le_refl _) _).alloc (by simp) _, by omega, by omega⟩
  · have := Blk.new (w.alloc (.map #[] 0)) 49 (ckCells (fresh slack idle) w.heap.size)
    rw [show (w.alloc (.map #[] 0)).heap.size = w.heap.size + 1 from by simp] at this
    exact this
  · exact ((MapIs.made w Tryz.prog 9 okSrc).alloc _).congr (fun kl => by cases kl <;> rfl)

/-- The clock ticks. -/
def Ticked (c : Ck) (now : Int) (c' : Ck) : Prop := Rose { c with now := max c.now (bnd now) } c'

set_option maxRecDepth 100000 in
theorem tick_any (cb mb n : Nat) (c : Ck) (now : Int) (w : World) (h : ClockAt w cb mb n c) :
    Calls Tryz.prog 31 #[.pointer (some ⟨cb, 0, none⟩), .int .i64 now] w fun e w' => ∃ c', e = .returned (.int .i64 c'.mark) ∧ Ticked c now c' ∧ ClockAt w' cb mb n c' ∧ Kept (fun i => i = cb) w w' := by
  have hlt := h.blk.lt
  have k2 : w.cell? ⟨cb, 2, none⟩ = some (.int .i64 c.now) := h.blk.cell 2
  have f2 : w.frozen? ⟨cb, 2, none⟩ = false := h.blk.frozen 2
  have hne : mb ≠ cb := h.map.ne_blk h.blk
  go_enter Tryz.func31, Tryz.ntmps31
  go_wp2_with fail
  refine wp_region_still_tail 10 (by kernel_rfl) (by kernel_rfl) ?_
  simp only [List.take_succ_cons, List.take_zero, List.drop_succ_cons, List.drop_zero]
  repeat still_step
  still_call (still_of (bound_any now _))
  repeat still_step
  refine wpStill_nil ?_
  change wpList _ _ _ _ _ w.drew
  go_wp2_with fail
  have hn := bnd_ok now
  have h2 : ClockAt (w.drew.setCell ⟨cb, 2, none⟩ (.int .i64 (max c.now (bnd now)))) cb mb n { c with now := max c.now (bnd now) } :=
    ⟨h.blk.drew.set_ 2 _, h.map.drew.setCell hne _, { h.ok with n0 := by have := h.ok.n0; simp; omega, n1 := by have := h.ok.n1; simp; omega }⟩
  refine (rise_any cb mb n { c with now := max c.now (bnd now) } _ h2).mono ?_
  rintro e w2 ⟨c', rfl, hr, h3, hk⟩
  have hk2 : Kept (fun i => i = cb) w w2 := ((Kept.refl (fun i => i = cb) w).drew.setCell (p := ⟨cb, 2, none⟩) (Or.inl rfl) _).trans hk
  have k3 : w2.cell? ⟨cb, 3, none⟩ = some (.int .i64 c'.mark) := h3.blk.cell 3
  have HR := Lib.hid hr
  clear hr hk k2 f2 h2
  go_wp2
  go_ret
  exact ⟨c', rfl, HR.out, h3, hk2⟩

end Go.Proofs.YtobkgkiomapabaaGreatDoor

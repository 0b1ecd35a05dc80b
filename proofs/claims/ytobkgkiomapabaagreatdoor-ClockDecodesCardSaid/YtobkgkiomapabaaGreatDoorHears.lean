/- What Hear, Heard and Active do. -/
import Derived.Test.YtobkgkiomapabaaGreatDoorHear
namespace Go.Proofs.YtobkgkiomapabaaGreatDoor
open Go.RowKit Go.Maps Go.Lib Go.Shelf

def put (f : List UInt8 → Option (Int × Int)) (k : List UInt8) (x : Int × Int) : List UInt8 → Option (Int × Int) := fun s => if s = k then some x else f s

theorem srcM_put (f : List UInt8 → Option (Int × Int)) (k : List UInt8) (x : Int × Int) (kl : Lit) : upd (srcM f) (.string k) (srcV x) kl = srcM (put f k x) kl := by
  unfold upd
  by_cases h : kl = .string k
  · subst h
    rw [WideAt.sameKey_self (by trivial), if_pos rfl]
    simp [srcM, put]
  · rw [sameKey_ne h, if_neg (by simp)]
    cases kl <;> simp [srcM]
    rename_i s
    simp [put, show s ≠ k from fun e => h (by rw [e])]

/-- May this be heard? -/
def Fits (c : Ck) (s : ByteArray) (at_ : Int) : Prop := nameB s = true ∧ 0 ≤ at_ ∧ at_ ≤ 1099511627776 ∧ c.mark < at_

def Heard' (c : Ck) (s : ByteArray) (at_ : Int) : Ck := { c with src := put c.src s.data.toList (max ((c.src s.data.toList).getD (0, 0)).1 at_, c.now) }

/-- What Hear does, and what it tells. -/
def Hears (c : Ck) (s : ByteArray) (at_ now : Int) (res : Bool) (c' : Ck) : Prop :=
  ∃ c1, Ticked c now c1 ∧ ((res = false ∧ c' = c1 ∧ ¬ Fits c1 s at_) ∨ (res = true ∧ Fits c1 s at_ ∧ Rose (Heard' c1 s at_) c'))

theorem zeroSrc (w : World) : (zeroValue 52).run Tryz.prog w = .ok (.agg #[.int .i64 0, .int .i64 0]) w := by kernel_rfl

theorem src_getD (f : List UInt8 → Option (Int × Int)) (k : List UInt8) : (srcM f (.string k)).getD (.agg #[.int .i64 0, .int .i64 0]) = .agg #[.int .i64 ((f k).getD (0, 0)).1, .int .i64 ((f k).getD (0, 0)).2] := by
  simp only [srcM]
  cases f k <;> rfl

theorem maxLen_ge : (24 : Nat) ≤ maxLen := by unfold maxLen; omega

theorem nameB_size {s : ByteArray} (h : nameB s = true) : s.size ≤ maxLen := by
  have : s.size ≤ 24 := by
    unfold nameB at h
    simp at h
    exact h.1.2
  exact Nat.le_trans this maxLen_ge

theorem getD_ok {w : World} {cb mb n : Nat} {c : Ck} (h : ClockAt w cb mb n c) (k : List UInt8) : 0 ≤ ((c.src k).getD (0, 0)).1 ∧ ((c.src k).getD (0, 0)).1 ≤ 1099511627776 ∧ 0 ≤ ((c.src k).getD (0, 0)).2 ∧ ((c.src k).getD (0, 0)).2 ≤ 1099511627776 := by
  cases hc : c.src k with
  | none => simp
  | some x => exact h.src_ok hc

set_option maxHeartbeats 1000000 in
set_option maxRecDepth 100000 in
theorem hear_any (cb mb n : Nat) (c : Ck) (s : ByteArray) (at_ now : Int) (w : World) (h : ClockAt w cb mb n c) (hn : n < 1000000) :
    Calls Tryz.prog 10 #[.pointer (some ⟨cb, 0, none⟩), .string s, .int .i64 at_, .int .i64 now] w fun e w' => ∃ res c', e = .returned (.bool res) ∧ Hears c s at_ now res c' ∧ ClockAt w' cb mb (n + 1) c' ∧ Kept (fun i => i = cb ∨ i = mb) w w' := by
  have hlt := h.blk.lt
  go_enter Tryz.func10, Tryz.ntmps10
  go_wp2_with fail
  refine (tick_any cb mb n c now w h).mono ?_
  rintro e w1 ⟨c1, rfl, ht, h1, hk1⟩
  have HT := Lib.hid ht
  clear ht
  go_wp2_with fail
  refine (name_any s w1).mono ?_
  rintro e w2 ⟨rfl, hb2⟩
  have hkb : Kept (fun _ => False) w1 w2 := ⟨hb2.os, hb2.tape, hb2.output, hb2.size, fun i hi _ => hb2.block i hi⟩
  have h2 : ClockAt w2 cb mb n c1 := h1.kept hkb (by simp) (by simp)
  have hk2 : Kept (fun i => i = cb ∨ i = mb) w w2 := (hk1.mono (fun i _ hi => Or.inl hi)).trans' hkb (fun _ _ hf => hf.elim)
  have k3 : w2.cell? ⟨cb, 3, none⟩ = some (.int .i64 c1.mark) := h2.blk.cell 3
  clear hk1 hkb hb2 h1
  have fin : ¬ Fits c1 s at_ → Hid (∃ res c', Ending.returned (Value.bool false) = .returned (.bool res) ∧ Hears c s at_ now res c' ∧ ClockAt w2 cb mb (n + 1) c' ∧ Kept (fun i => i = cb ∨ i = mb) w w2) := by
    intro hf
    exact ⟨false, c1, rfl, ⟨c1, HT.out, Or.inl ⟨rfl, rfl, hf⟩⟩, ⟨h2.blk, h2.map.mono (by omega), h2.ok⟩, hk2⟩
  cases hnm : nameB s
  · have hf := fin (by unfold Fits; simp [hnm])
    clear fin
    go_wp2_with fail
    go_ret
    exact hf.out
  · by_cases a0 : at_ < 0
    · have hf := fin (by unfold Fits; omega)
      clear fin
      go_wp2_with fail
      go_ret
      exact hf.out
    · by_cases a1 : 1099511627776 < at_
      · have hf := fin (by unfold Fits; omega)
        clear fin
        go_wp2_with fail
        go_ret
        exact hf.out
      · by_cases a2 : at_ ≤ c1.mark
        · have hf := fin (by unfold Fits; omega)
          clear fin
          go_wp2_with fail
          go_ret
          exact hf.out
        · clear fin
          have hfits : Hid (Fits c1 s at_) := ⟨hnm, by omega, by omega, by omega⟩
          have k4 : w2.cell? ⟨cb, 4, none⟩ = some (.map (some mb)) := h2.blk.cell 4
          have k2 : w2.cell? ⟨cb, 2, none⟩ = some (.int .i64 c1.now) := h2.blk.cell 2
          have hne : mb ≠ cb := h2.map.ne_blk h2.blk
          have hml := h2.map.lt
          have hcl := h2.blk.lt
          have hsz := nameB_size hnm
          have hgd := src_getD c1.src s.data.toList
          have hok0 := getD_ok h2 s.data.toList
          obtain ⟨y, hy⟩ : ∃ y, (c1.src s.data.toList).getD (0, 0) = y := ⟨_, rfl⟩
          rw [hy] at hgd hok0
          obtain ⟨y1, y2⟩ := y
          dsimp only at hgd hok0
          have HY := Lib.hid hy
          have HGD := Lib.hid hgd
          clear hy hgd
          have hmap := h2.map
          go_wp2_with (first
            | (at_lookup; refine wpList_lookM _ rfl _ _ 47 rfl 9 52 (string_keyed Tryz.underlying9) Tryz.underlying47 okSrc _ (zeroSrc _) rfl mb n _ rfl hmap _ _ rfl (WideMaps.keyOf_string_mk Tryz.underlying9 hsz) _ HGD.out ?_)
            | fail)
          go_region
          go_wp2_with fail
          have e3 : ClockAt ((w2.alloc (.cells #[.int .i64 (max y1 at_), .int .i64 c1.now] 52)).drew) cb mb n c1 := ⟨(h2.blk.alloc _).drew, (h2.map.alloc _).drew, h2.ok⟩
          have g3 : Blk ((w2.alloc (.cells #[.int .i64 (max y1 at_), .int .i64 c1.now] 52)).drew) w2.heap.size 52 #[.int .i64 (max y1 at_), .int .i64 c1.now] := (Blk.new _ _ _).drew
          have q3 : Kept (fun i => i = cb ∨ i = mb) w ((w2.alloc (.cells #[.int .i64 (max y1 at_), .int .i64 c1.now] 52)).drew) := (hk2.alloc _).drew
          clear h2 hk2 k2 k3 k4 hmap
          generalize ((w2.alloc (.cells #[.int .i64 (max y1 at_), .int .i64 c1.now] 52)).drew) = w3 at e3 g3 q3 ⊢
          have k4 : w3.cell? ⟨cb, 4, none⟩ = some (.map (some mb)) := e3.blk.cell 4
          have j0 : w3.cell? ⟨w2.heap.size, 0, none⟩ = some (.int .i64 (max y1 at_)) := g3.cell 0
          have j1 : w3.cell? ⟨w2.heap.size, 1, none⟩ = some (.int .i64 c1.now) := g3.cell 1
          refine wp_tail 6 (by kernel_rfl) (by kernel_rfl) ?_
          simp only [List.take_succ_cons, List.take_zero, List.drop_succ_cons, List.drop_zero]
          repeat still_step
          refine wpStill_nil ?_
          have hmx : okSrc (srcV (max y1 at_, c1.now)) = true := okSrc_mk (by omega) (by omega) e3.ok.n0 e3.ok.n1
          refine wpList_storeM _ rfl _ _ _ 47 rfl 9 52 (string_keyed Tryz.underlying9) Tryz.underlying47 okSrc mb n _ rfl e3.map.drew (by unfold maxLen; omega) _ (srcV (max y1 at_, c1.now)) _ rfl rfl (WideMaps.keyOf_string_mk Tryz.underlying9 hsz) hmx ?_
          intro w4 hm4 hg4 hs4
          have h5 : ClockAt w4 cb mb (n + 1) (Heard' c1 s at_) := by
            refine ⟨e3.blk.drew.grown hg4 (by simp; omega), hm4.congr (fun kl => ?_), ⟨e3.ok.s0, e3.ok.s1, e3.ok.i0, e3.ok.i1, e3.ok.n0, e3.ok.n1, e3.ok.m0, e3.ok.m1⟩⟩
            rw [srcM_put]
            simp only [Heard', HY.out]
          have hk4 : Kept (fun i => i = cb ∨ i = mb) w w4 := q3.drew.grown hg4 (fun j hj => by cases hj; exact Or.inl (Or.inr rfl))
          clear hm4 hg4 hs4 e3 g3 q3 k4 j0 j1
          go_wp2_with fail
          refine (rise_any cb mb (n + 1) _ w4 h5).mono ?_
          rintro e w5 ⟨c', rfl, hr, h6, hk5⟩
          have HR := Lib.hid hr
          clear hr
          go_wp2_with fail
          go_ret
          exact ⟨true, c', rfl, ⟨c1, HT.out, Or.inr ⟨rfl, hfits.out, HR.out⟩⟩, h6, hk4.trans' hk5 (fun i _ hi => Or.inl hi)⟩

end Go.Proofs.YtobkgkiomapabaaGreatDoor

/- clock.Decode: a clock, just where the bytes are one's. -/
import Derived.Test.YtobkgkiomapabaaGreatDoorDcV
import Derived.Deep.DeepCutAuto
import Derived.Deep.CutBlock
import Derived.Carry
namespace Go.Proofs.YtobkgkiomapabaaGreatDoor
open Go.Shelf Go.RowKit Go.Maps
set_option linter.unusedVariables false

def mesD (ob rb : Nat) (w : World) : Nat := match w.cell? ⟨ob, 0, none⟩, w.cell? ⟨rb, 0, none⟩ with | some (.bool true), some (.string s) => s.size + 1 | _, _ => 0
theorem mesD_on {ob rb : Nat} {w : World} {s : ByteArray} (h1 : w.cell? ⟨ob, 0, none⟩ = some (.bool true)) (h2 : w.cell? ⟨rb, 0, none⟩ = some (.string s)) : mesD ob rb w = s.size + 1 := by simp [mesD, h1, h2]
theorem mesD_off {ob rb : Nat} {w : World} (h1 : w.cell? ⟨ob, 0, none⟩ = some (.bool false)) : mesD ob rb w = 0 := by simp [mesD, h1]

/-- Where the loop over the lines stands. -/
structure DState (b : ByteArray) (rb ob cb mb : Nat) (w0 : World) (ok : Bool) (c : Ck) (rest : ByteArray) (n : Nat) (wr : World) : Prop where
  cell : Blk wr rb 9 #[.string rest]
  flag : Blk wr ob 4 #[.bool ok]
  track : Track b ok c rest
  on : ok = true → ClockAt wr cb mb n c ∧ GoodSrc c ∧ n + rest.size ≤ b.size
  kept : Below w0.heap.size w0 wr
  blk : Blk wr cb 49 (ckCells c mb)

/-- What Decode hands back. -/
def DecPost (b : ByteArray) (w : World) (e : Ending) (w' : World) : Prop :=
  Below w.heap.size w w' ∧ ((∃ cb mb n c l, e = .returned (.tuple #[.pointer (some ⟨cb, 0, none⟩), .int .i64 0]) ∧ ClockAt w' cb mb n c ∧ CodeOf b c l ∧ (∀ c0 l0, CodeOf b c0 l0 → c0 = c) ∧ n ≤ b.size ∧ w.heap.size ≤ cb ∧ w.heap.size ≤ mb) ∨ (e = .returned (.tuple #[.pointer none, .int .i64 2]) ∧ ∀ c l, ¬ CodeOf b c l))

theorem enc_pos (c : Ck) (ks : List (List UInt8)) : 0 < (encC c ks).length := by unfold encC lineC; simp; omega
theorem ErrAt.on {B : Nat} {w w' : World} (h : ErrAt w) (hb : Below w.heap.size w w') : ErrAt w' := h.keep hb

theorem short_good {c : Ck} (h : GoodSrc c) : Short c := fun s hs => by
  obtain ⟨x, hx⟩ := Option.isSome_iff_exists.1 hs
  obtain ⟨nm, rfl, h1, _⟩ := h s x hx
  have := nameB_24 h1
  simpa using this
set_option maxHeartbeats 8000000 in
set_option maxRecDepth 100000 in
theorem decode_any (A : Option Addr) (N cc : Nat) (b : ByteArray) (w : World) (hb : b.size ≤ 9000)
    (hbk : ∀ V, Below w.heap.size w V → (convert 22 9 (.slice A N cc)).run Tryz.prog V = .ok (.string b) V)
    (htb : TabB w.heap.size w) (he : ErrAt w) (hg : GlobAt w) :
    Calls Tryz.prog 5 #[.slice A N cc] w fun e w' => DecPost b w e w' := by
  have HBK := Lib.hid hbk
  have HGE : Hid (∀ V, Below w.heap.size w V → ErrAt V ∧ GlobAt V) := Lib.hid (fun V hV => ⟨he.keep hV, hg.keep hV (Nat.le_refl _)⟩)
  have hmf : ∀ (fn : Fn) (first cap : Array Value) (w : World), (Instr.makeFunc fn first cap).run Tryz.prog w = .ok (.func fn first cap) w := fun _ _ _ _ => rfl
  have hbk0 := hbk w (Below.refl _ _)
  have HMK4 : Hid (∀ V, (Instr.makeSlice 36 (.int .i64 4) (.int .i64 4)).run Tryz.prog V = .ok (.slice (some ⟨V.heap.size, 0, none⟩) 4 4) (V.alloc (.cells (Array.replicate 4 (Value.int .i64 0)) 3))) := Lib.hid (fun V => by kernel_rfl)
  have HMK2 : Hid (∀ V, (Instr.makeSlice 36 (.int .i64 2) (.int .i64 2)).run Tryz.prog V = .ok (.slice (some ⟨V.heap.size, 0, none⟩) 2 2) (V.alloc (.cells (Array.replicate 2 (Value.int .i64 0)) 3))) := Lib.hid (fun V => by kernel_rfl)
  have HTB : Hid (∀ V, Below w.heap.size w V → TabB V.heap.size V) := Lib.hid (fun V hV w' hw' => (htb.on hV) w' (hw'.mono hV.size))
  clear hbk htb he hg
  go_enter Tryz.func5, Tryz.ntmps5
  go_wp2_with fail
  obtain ⟨w1, hw1⟩ : ∃ w1, (w.alloc (.cells #[.string b] 9)).alloc (.cells #[.bool true] 4) = w1 := ⟨_, rfl⟩
  have HR1 : Hid (Blk w1 w.heap.size 9 #[.string b]) := Lib.hid (by rw [← hw1]; exact (Blk.new w _ _).alloc _)
  have HO1 : Hid (Blk w1 (w.heap.size + 1) 4 #[.bool true]) := Lib.hid (by
    rw [← hw1]
    have := Blk.new (w.alloc (.cells #[.string b] 9)) 4 #[.bool true]
    simpa using this)
  have HB1 : Hid (Below w.heap.size w w1) := Lib.hid (by rw [← hw1]; exact ((Below.refl _ _).alloc (Nat.le_refl _) _).alloc (by simp) _)
  have HZ1 : Hid (w1.heap.size = w.heap.size + 2) := Lib.hid (by rw [← hw1]; simp)
  have HLN := Lib.hid (dline_any 4 w.heap.size w.heap.size (w.heap.size + 1) b true w1 (by omega) (by omega) (by omega) HR1.out HO1.out (by omega) HB1.out.size (Nat.le_refl _) (by omega) (fun V hV => HGE.out V (HB1.out.trans hV)) HMK4.out)
  rw [hw1]
  clear hw1 hbk0
  refine HLN.out.mono ?_
  rintro e w2 ⟨word, lv, s', ok', lb, rfl, hlr, hlb, hrow, hr2, ho2, hk2, hs2, hwd0⟩
  obtain ⟨a0, a1, a2, a3, rfl⟩ : ∃ a0 a1 a2 a3, lv = [a0, a1, a2, a3] := by
    have := hlr.2.2
    match lv, this with
    | [a0, a1, a2, a3], _ => exact ⟨a0, a1, a2, a3, rfl⟩
  have HLR := Lib.hid hlr
  have HR2 := Lib.hid hr2
  have HO2 := Lib.hid ho2
  have HROW := Lib.hid hrow
  have HSZ := Lib.hid hs2
  have HB2 : Hid (Below w.heap.size w w2) := Lib.hid (HB1.out.trans (hk2.toBelow (fun i hi => by rcases hi with rfl | rfl <;> omega) HB1.out.size))
  have HL : Hid (∀ V, Below w2.heap.size w2 V → V.cell? ⟨lb, 0, none⟩ = some (.int .i64 a0) ∧ V.cell? ⟨lb, 1, none⟩ = some (.int .i64 a1) ∧ V.cell? ⟨lb, 2, none⟩ = some (.int .i64 a2) ∧ V.cell? ⟨lb, 3, none⟩ = some (.int .i64 a3)) := Lib.hid (fun V hV => by
    have k : Blk V lb 3 ([a0, a1, a2, a3].map (Value.int .i64)).toArray := (hV.block lb hrow.lt).trans hrow
    exact ⟨k.cell 0, k.cell 1, k.cell 2, k.cell 3⟩)
  have hl2 : w1.heap.size ≤ lb := hlb
  clear hlr hlb hrow hr2 ho2 hk2 hs2 HLN hwd0
  go_wp2_with fail
  have HS0 : Hid (Below w2.heap.size w2 w2.drew) := Lib.hid (Go.Proofs.YtobkgkiomapabaaGreatDoor.below_drew (Below.refl _ _))
  have hmm := @run_makeMap Tryz.prog
  refine wp_plan (fun V => Below w2.heap.size w2 V) [(0, false), (1, false), (2, false), (3, false), (4, false), (5, false), (6, false), (7, false), (8, false), (9, false), (10, false), (11, false), (12, true), (13, false), (14, true), (15, false)] (by kernel_rfl) (by kernel_rfl) HS0.out ?_
  simp only [planL, List.getElem?_cons_zero, List.getElem?_cons_succ]
  repeat (first | (refine plan_on _ (by rfl) (fun W hW => by (obtain ⟨y0, y1, y2, y3⟩ := HL.out W hW; go_simp; try with_reducible rfl)) ?_; simp only [Act.put, List.setIfInBounds_toArray, List.set_cons_zero, List.set_cons_succ]) | (refine plan_off (by rfl) ?_; simp only [Act.put, List.setIfInBounds_toArray, List.set_cons_zero, List.set_cons_succ]))
  refine plan_turn ?_
  go_wp2_with fail
  obtain ⟨w3, hw3⟩ : ∃ w3, (w2.alloc (.map #[] 0)).drew = w3 := ⟨_, rfl⟩
  have HM3 : Hid (MapIs Tryz.prog 9 okSrc w3 w2.heap.size 0 (fun _ => none)) := Lib.hid (by rw [← hw3]; exact (MapIs.made w2 _ _ _).drew)
  have HS3 : Hid (Below w2.heap.size w2 w3) := Lib.hid (by rw [← hw3]; exact Go.Proofs.YtobkgkiomapabaaGreatDoor.below_drew ((Below.refl _ _).alloc (Nat.le_refl _) _))
  have HZ3 : Hid (w3.heap.size = w2.heap.size + 1) := Lib.hid (by rw [← hw3]; simp [World.drew])
  try rw [hw3]
  try clear hw3
  refine ⟨HS3.out, ?_⟩
  repeat (first | (refine plan_on _ (by rfl) (fun W hW => by (obtain ⟨y0, y1, y2, y3⟩ := HL.out W hW; go_simp; try with_reducible rfl)) ?_; simp only [Act.put, List.setIfInBounds_toArray, List.set_cons_zero, List.set_cons_succ]) | (refine plan_off (by rfl) ?_; simp only [Act.put, List.setIfInBounds_toArray, List.set_cons_zero, List.set_cons_succ]))
  refine plan_turn ?_
  go_wp2_with fail
  obtain ⟨w4, hw4⟩ : ∃ w4, w3.alloc (.cells #[.int .i64 a0, .int .i64 a1, .int .i64 a2, .int .i64 a3, .map (some w2.heap.size)] 49) = w4 := ⟨_, rfl⟩
  have HC4 : Hid (Blk w4 w3.heap.size 49 (ckCells ⟨a0, a1, a2, a3, fun _ => none⟩ w2.heap.size)) := Lib.hid (by rw [← hw4]; exact Blk.new _ _ _)
  have HM4 : Hid (MapIs Tryz.prog 9 okSrc w4 w2.heap.size 0 (fun _ => none)) := Lib.hid (by rw [← hw4]; exact HM3.out.alloc _)
  have HS4 : Hid (Below w2.heap.size w2 w4) := Lib.hid (by rw [← hw4]; exact HS3.out.alloc HS3.out.size _)
  have HZ4 : Hid (w4.heap.size = w2.heap.size + 2) := Lib.hid (by rw [← hw4]; have := HZ3.out; simp [this])
  try rw [hw4]
  clear hw4 hmm
  refine ⟨HS4.out, ?_⟩
  repeat (first | (refine plan_on _ (by rfl) (fun W hW => by (obtain ⟨y0, y1, y2, y3⟩ := HL.out W hW; go_simp; try with_reducible rfl)) ?_; simp only [Act.put, List.setIfInBounds_toArray, List.set_cons_zero, List.set_cons_succ]) | (refine plan_off (by rfl) ?_; simp only [Act.put, List.setIfInBounds_toArray, List.set_cons_zero, List.set_cons_succ]))
  refine plan_done ?_
  have HOK : Hid (Blk w4 (w.heap.size + 1) 4 #[.bool ok']) := Lib.hid ((HS4.out.block _ HO2.out.lt).trans HO2.out)
  have HRB : Hid (Blk w4 w.heap.size 9 #[.string s']) := Lib.hid ((HS4.out.block _ HR2.out.lt).trans HR2.out)
  have HB4 : Hid (Below w.heap.size w w4) := Lib.hid (HB2.out.trans (HS4.out.mono HB2.out.size))
  have hob : w.heap.size + 1 < w2.heap.size := HO2.out.lt
  obtain ⟨cb, hcb⟩ : ∃ cb, w3.heap.size = cb := ⟨_, rfl⟩
  obtain ⟨mb, hmb⟩ : ∃ mb, w2.heap.size = mb := ⟨_, rfl⟩
  have HCM : Hid (cb = mb + 1) := Lib.hid (by rw [← hcb, ← hmb]; exact HZ3.out)
  rw [hmb] at HC4 HM4
  rw [hcb] at HC4 ⊢
  have hmo : w.heap.size + 1 < mb := by omega
  have hmc : mb < cb := by have := HCM.out; omega
  have HML := Lib.hid hmb
  clear hcb hmb hob HL HROW HR2 HO2 HM3 HS3 HZ3 HB1 HR1 HO1 HZ1 HS0
  go_upto_region 6 with fail
  go_cut [] (fun wx => Hid (Blk wx (w.heap.size + 1) 4 #[.bool (ok' && decide (0 ≤ a0) && decide (0 ≤ a1) && decide (0 ≤ a2))]) ∧ Hid (Kept (fun i => i = w.heap.size + 1) w4 wx))
  case first =>
    have e5 : w4.cell? ⟨w.heap.size + 1, 0, none⟩ = some (.bool ok') := HOK.out.cell 0
    have f5 : w4.frozen? ⟨w.heap.size + 1, 0, none⟩ = false := HOK.out.frozen 0
    have k0 : w4.cell? ⟨cb, 0, none⟩ = some (.int .i64 a0) := HC4.out.cell 0
    have k1 : w4.cell? ⟨cb, 1, none⟩ = some (.int .i64 a1) := HC4.out.cell 1
    have k2 : w4.cell? ⟨cb, 2, none⟩ = some (.int .i64 a2) := HC4.out.cell 2
    have HBS : Hid (∀ v, v = (ok' && decide (0 ≤ a0) && decide (0 ≤ a1) && decide (0 ≤ a2)) → Blk (w4.setCell ⟨w.heap.size + 1, 0, none⟩ (.bool v)) (w.heap.size + 1) 4 #[.bool (ok' && decide (0 ≤ a0) && decide (0 ≤ a1) && decide (0 ≤ a2))]) := Lib.hid (fun v hv => by subst hv; exact HOK.out.set_ 0 _)
    have HKS : Hid (∀ v, Kept (fun i => i = w.heap.size + 1) w4 (w4.setCell ⟨w.heap.size + 1, 0, none⟩ (.bool v))) := Lib.hid (fun v => (Kept.refl (fun i => i = w.heap.size + 1) w4).setCell (p := ⟨w.heap.size + 1, 0, none⟩) (Or.inl rfl) _)
    clear HML
    cases ok'
    · have HX := Lib.hid (HBS.out false (by simp))
      have HY := Lib.hid (HKS.out false)
      clear HBS HKS
      go_wp2_with fail
      go_meet
      exact ⟨HX, HY⟩
    · by_cases h0 : 0 ≤ a0
      · have q0 : decide (0 ≤ a0) = true := decide_eq_true h0
        by_cases h1 : 0 ≤ a1
        · have q1 : decide (0 ≤ a1) = true := decide_eq_true h1
          by_cases h2 : 0 ≤ a2
          · have q2 : decide (0 ≤ a2) = true := decide_eq_true h2
            have HX := Lib.hid (HBS.out true (by rw [q0, q1, q2]; rfl))
            have HY := Lib.hid (HKS.out true)
            clear HBS HKS
            go_wp2_with fail
            go_meet
            exact ⟨HX, HY⟩
          · have q2 : decide (0 ≤ a2) = false := decide_eq_false h2
            have HX := Lib.hid (HBS.out false (by rw [q2]; simp))
            have HY := Lib.hid (HKS.out false)
            clear HBS HKS
            go_wp2_with fail
            go_meet
            exact ⟨HX, HY⟩
        · have q1 : decide (0 ≤ a1) = false := decide_eq_false h1
          have HX := Lib.hid (HBS.out false (by rw [q1]; simp))
          have HY := Lib.hid (HKS.out false)
          clear HBS HKS
          go_wp2_with fail
          go_meet
          exact ⟨HX, HY⟩
      · have q0 : decide (0 ≤ a0) = false := decide_eq_false h0
        have HX := Lib.hid (HBS.out false (by rw [q0]; simp))
        have HY := Lib.hid (HKS.out false)
        clear HBS HKS
        go_wp2_with fail
        go_meet
        exact ⟨HX, HY⟩
  case rest =>
  obtain ⟨HO5, HK5⟩ := hcut
  obtain ⟨w5, rfl⟩ : ∃ w5 : World, w5 = wc := ⟨_, rfl⟩
  obtain ⟨ok5, hok5⟩ : ∃ ok5, (ok' && decide (0 ≤ a0) && decide (0 ≤ a1) && decide (0 ≤ a2)) = ok5 := ⟨_, rfl⟩
  have HD5 : Hid (DState b w.heap.size (w.heap.size + 1) cb mb w ok5 ⟨a0, a1, a2, a3, fun _ => none⟩ s' 0 w5) := Lib.hid (by
    have h1 := HC4.out.kept HK5.out (show cb ≠ w.heap.size + 1 by omega)
    refine ⟨HRB.out.kept HK5.out (by omega), by rw [← hok5]; exact HO5.out, track_head HLR.out rfl ok5 hok5.symm, fun h => ⟨⟨h1, (HM4.out.kept HK5.out (by omega)).congr (fun kl => by cases kl <;> rfl), head_ok HLR.out rfl (by rw [hok5]; exact h)⟩, (fun s x hx => (by cases hx)), by have := HSZ.out; omega⟩, HB4.out.trans (HK5.out.toBelow (fun i hi => by omega) HB4.out.size), h1⟩)
  clear hok5 HO5 HK5 HC4 HM4 HRB HOK HB4 HS4 HZ4 HB2 HSZ HLR HML HMK4
  go_wp2_with fail
  go_loopw [10] (fun _ wr => ∃ (ok : Bool) (c : Ck) (rest : ByteArray) (n : Nat), Hid (DState b w.heap.size (w.heap.size + 1) cb mb w ok c rest n wr)) (fun _ wr => mesD (w.heap.size + 1) w.heap.size wr)
  case atStart => exact ⟨ok5, _, s', 0, HD5⟩
  case round =>
    clear HD5
    obtain ⟨ok, c, rest, n, hd⟩ := hrel
    have e1 : wr.cell? ⟨w.heap.size + 1, 0, none⟩ = some (.bool ok) := hd.out.flag.cell 0
    have HBR : Hid (Below w.heap.size w wr) := Lib.hid hd.out.kept
    have HSB : Hid (Below w.heap.size w wr.drew) := Lib.hid (Go.Proofs.YtobkgkiomapabaaGreatDoor.below_drew HBR.out)
    have HFL : Hid (Blk wr (w.heap.size + 1) 4 #[.bool ok]) := Lib.hid hd.out.flag
    cases ok
    · have HNO : Hid (∀ c l, ¬ CodeOf b c l) := Lib.hid (fun c0 l0 h => by have := (hd.out.track c0 l0 h).1; cases this)
      clear hd
      go_wp2_with fail
      have HS0 : Hid (Below wr.heap.size wr wr.drew) := Lib.hid (Go.Proofs.YtobkgkiomapabaaGreatDoor.below_drew (Below.refl _ _))
      have HSC : Hid (∀ V, Below wr.heap.size wr V → V.cell? ⟨w.heap.size + 1, 0, none⟩ = some (.bool false)) := Lib.hid (fun V hV => (hV.cell (p := ⟨w.heap.size + 1, 0, none⟩) HFL.out.lt).trans (HFL.out.cell 0))
      refine wp_plan (fun V => Below wr.heap.size wr V) [(0, false), (1, false), (2, false), (3, false), (6, false), (7, false), (4, true), (5, true), (8, false), (9, false)] (by kernel_rfl) (by kernel_rfl) HS0.out ?_
      simp only [planL, List.getElem?_cons_zero, List.getElem?_cons_succ]
      repeat (first | (refine plan_on _ (by rfl) (fun W hW => by (have y0 := HSC.out W hW; go_simp; try with_reducible rfl)) ?_; simp only [Act.put, List.setIfInBounds_toArray, List.set_cons_zero, List.set_cons_succ]) | (refine plan_off (by rfl) ?_; simp only [Act.put, List.setIfInBounds_toArray, List.set_cons_zero, List.set_cons_succ]))
      refine plan_turn ?_
      go_wp2_with fail
      refine ⟨HS0.out, ?_⟩
      refine plan_turn ?_
      go_wp2_with fail
      refine ⟨HS0.out, ?_⟩
      repeat (first | (refine plan_on _ (by rfl) (fun W hW => by (go_simp; try with_reducible rfl)) ?_; simp only [Act.put, List.setIfInBounds_toArray, List.set_cons_zero, List.set_cons_succ]) | (refine plan_off (by rfl) ?_; simp only [Act.put, List.setIfInBounds_toArray, List.set_cons_zero, List.set_cons_succ]))
      refine plan_done ?_
      go_wp2_with fail
      go_ret2
      exact ⟨HSB.out, Or.inr ⟨rfl, HNO.out⟩⟩
    · have e2 : wr.cell? ⟨w.heap.size, 0, none⟩ = some (.string rest) := hd.out.cell.cell 0
      obtain ⟨hca, hgs, hns⟩ := hd.out.on rfl
      have HCA := Lib.hid hca
      have HGS := Lib.hid hgs
      have HNS := Lib.hid hns
      clear hca hgs hns
      by_cases hr : rest = ⟨#[]⟩
      · subst hr
        have HTR : Hid (Track b true c ⟨#[]⟩) := Lib.hid hd.out.track
        have hnb : n ≤ b.size := by have := HNS.out; omega
        clear hd HNS
        go_wp2_with fail
        have HS0 : Hid (Below w.heap.size w wr.drew) := Lib.hid (Go.Proofs.YtobkgkiomapabaaGreatDoor.below_drew HBR.out)
        have HSC : Hid (∀ V, Below wr.heap.size wr V → V.cell? ⟨w.heap.size + 1, 0, none⟩ = some (.bool true)) := Lib.hid (fun V hV => (hV.cell (p := ⟨w.heap.size + 1, 0, none⟩) HFL.out.lt).trans (HFL.out.cell 0))
        have HS1 : Hid (Below wr.heap.size wr wr.drew) := Lib.hid (Go.Proofs.YtobkgkiomapabaaGreatDoor.below_drew (Below.refl _ _))
        have HEN := Lib.hid (encode_any cb mb n c wr.drew HCA.out.drew (by omega) (short_good HGS.out) (HTB.out _ HS0.out))
        refine wp_plan (fun V => Below wr.heap.size wr V) [(0, false), (1, false), (2, false), (3, false), (6, false), (7, false), (4, true), (5, true), (8, false), (9, false)] (by kernel_rfl) (by kernel_rfl) HS1.out ?_
        simp only [planL, List.getElem?_cons_zero, List.getElem?_cons_succ]
        repeat (first | (refine plan_on _ (by rfl) (fun W hW => by (have y0 := HSC.out W hW; have y1 := HBK.out W (HBR.out.trans (hW.mono HBR.out.size)); go_simp; try with_reducible rfl)) ?_; simp only [Act.put, List.setIfInBounds_toArray, List.set_cons_zero, List.set_cons_succ]) | (refine plan_off (by rfl) ?_; simp only [Act.put, List.setIfInBounds_toArray, List.set_cons_zero, List.set_cons_succ]))
        refine plan_turn ?_
        go_wp2_with fail
        refine HEN.out.mono ?_
        rintro e w6 ⟨A6, c6, M, ks, rfl, hk6, hM, ho6, hb6⟩
        have HB6 : Hid (Below wr.heap.size wr w6) := Lib.hid (HS1.out.trans (hb6.mono HS1.out.size))
        have HK6 := Lib.hid hk6
        have hM0 : 0 < M := by rw [← hM]; exact enc_pos c ks
        have hcv := bytes_back ho6 hM0 hM w6 (Below.refl _ _)
        obtain ⟨eb, heb⟩ : ∃ eb : ByteArray, ⟨(encC c ks).toArray⟩ = eb := ⟨_, rfl⟩
        rw [heb] at hcv
        have HEB : Hid (eb.data.toList = encC c ks) := Lib.hid (by rw [← heb])
        clear hk6 hM ho6 hb6 HEN heb
        go_wp2_with fail
        refine ⟨HB6.out, ?_⟩
        refine plan_turn ?_
        go_wp2_with fail
        clear hcv
        refine ⟨HB6.out, ?_⟩
        by_cases he : eb = b
        · have hne : (eb.toList == b.toList) = true := by rw [he]; simp
          have HE := Lib.hid he
          have HC6 : Hid (ClockAt w6 cb mb n c) := Lib.hid (HCA.out.below HB6.out HCA.out.blk.lt HCA.out.map.lt (Nat.le_refl _))
          clear he
          repeat (first | (refine plan_on _ (by rfl) (fun W hW => by (go_simp; try with_reducible rfl)) ?_; simp only [Act.put, List.setIfInBounds_toArray, List.set_cons_zero, List.set_cons_succ]) | (refine plan_off (by rfl) ?_; simp only [Act.put, List.setIfInBounds_toArray, List.set_cons_zero, List.set_cons_succ]))
          refine plan_done ?_
          go_wp2_with fail
          refine (told_any cb mb n c w6 HC6.out).mono ?_
          rintro e w7 ⟨m, any, rfl, ht, hb7⟩
          have HT7 := Lib.hid ht
          have HC7 : Hid (ClockAt w7 cb mb n c) := Lib.hid (HC6.out.below hb7 HC6.out.blk.lt HC6.out.map.lt (Nat.le_refl _))
          have HB7 : Hid (Below w.heap.size w w7) := Lib.hid (HBR.out.trans ((HB6.out.trans (hb7.mono HB6.out.size)).mono HBR.out.size))
          have e7 : w7.cell? ⟨cb, 3, none⟩ = some (.int .i64 c.mark) := HC7.out.blk.cell 3
          have HOKK : Hid ((∀ m', Told c m' true → m' ≤ c.mark) → DecPost b w (.returned (.tuple #[.pointer (some ⟨cb, 0, none⟩), .int .i64 0])) w7) := Lib.hid (fun htl => by
            obtain ⟨l, hr1, hr2, hr3, hr4⟩ := rows_of_keys HGS.out HK6.out
            exact ⟨HB7.out, Or.inl ⟨cb, mb, n, c, l, rfl, HC7.out, ⟨⟨HC7.out.ok, hr1, hr2, hr3, htl⟩, by rw [← HE.out]; exact ba_eq (HEB.out.trans hr4)⟩, fun c0 l0 h => track_end HTR.out h, hnb, by omega, by omega⟩⟩)
          clear ht hb7
          cases any
          · have HX := Lib.hid (HOKK.out (fun m' h' => by have := (HT7.out.unique h').2; cases this))
            clear HOKK
            go_wp2_with fail
            go_ret2
            exact HX.out
          · by_cases hm : c.mark < m
            · have HNO : Hid (∀ c l, ¬ CodeOf b c l) := Lib.hid (fun c0 l0 h => by
                obtain rfl := track_end HTR.out h
                have := h.1.told m HT7.out
                omega)
              have q0 : decide (c.mark < m) = true := decide_eq_true hm
              clear HOKK
              go_wp2_with fail
              go_ret2
              exact ⟨HB7.out, Or.inr ⟨rfl, HNO.out⟩⟩
            · have HX := Lib.hid (HOKK.out (fun m' h' => by have := (HT7.out.unique h').1; omega))
              have q0 : decide (c.mark < m) = false := decide_eq_false hm
              clear HOKK
              go_wp2_with fail
              go_ret2
              exact HX.out
        · have hne : (eb.toList == b.toList) = false := beq_no he
          have HNO : Hid (∀ c l, ¬ CodeOf b c l) := Lib.hid (fun c0 l0 h => he (ba_eq (HEB.out.trans (end_same HTR.out HK6.out h))))
          have HB7 : Hid (Below w.heap.size w w6) := Lib.hid (HBR.out.trans (HB6.out.mono HBR.out.size))
          clear he
          repeat (first | (refine plan_on _ (by rfl) (fun W hW => by (go_simp; try with_reducible rfl)) ?_; simp only [Act.put, List.setIfInBounds_toArray, List.set_cons_zero, List.set_cons_succ]) | (refine plan_off (by rfl) ?_; simp only [Act.put, List.setIfInBounds_toArray, List.set_cons_zero, List.set_cons_succ]))
          refine plan_done ?_
          go_wp2_with fail
          go_ret2
          exact ⟨HB7.out, Or.inr ⟨rfl, HNO.out⟩⟩
      · have hre : rest.toList.isEmpty = false := by
          rw [Lib.toList_data]
          cases h : rest.data.toList with
          | nil => exact absurd (ba_eq h) hr
          | cons a l => rfl
        have HRE := Lib.hid hr
        have HTR : Hid (Track b true c rest) := Lib.hid hd.out.track
        have HME : Hid (mesD (w.heap.size + 1) w.heap.size wr = rest.size + 1) := Lib.hid (mesD_on e1 e2)
        have HLN := Lib.hid (dline_any 2 w.heap.size w.heap.size (w.heap.size + 1) rest true wr (by omega) (by omega) (by have := HNS.out; omega) hd.out.cell hd.out.flag (by omega) HBR.out.size (Nat.le_refl _) (by omega) (fun V hV => HGE.out V (HBR.out.trans hV)) HMK2.out)
        clear hr hd
        go_wp2_with fail
        refine HLN.out.mono ?_
        rintro e w6 ⟨wd, lv2, s1, ok1, lb2, rfl, hlr6, hlb6, hrow6, hr6, ho6, hk6, hs6, hwd6⟩
        obtain ⟨x1, x2, rfl⟩ : ∃ x1 x2, lv2 = [x1, x2] := by
          have := hlr6.2.2
          match lv2, this with
          | [x1, x2], _ => exact ⟨x1, x2, rfl⟩
        have HLR6 := Lib.hid hlr6
        have HR6 := Lib.hid hr6
        have HO6 := Lib.hid ho6
        have HSZ6 := Lib.hid hs6
        have HB6 : Hid (Below w.heap.size w w6) := Lib.hid (HBR.out.trans (hk6.toBelow (fun i hi => by rcases hi with rfl | rfl <;> omega) HBR.out.size))
        have HC6 : Hid (ClockAt w6 cb mb n c) := Lib.hid (HCA.out.kept hk6 (by omega) (by omega))
        have hwd8 : wd.size ≤ maxLen := by have := HNS.out; unfold maxLen; omega
        have hrow : Blk w6 lb2 3 ([x1, x2].map (Value.int .i64)).toArray := hrow6
        have HSC : Hid (∀ V, Below w6.heap.size w6 V → V.cell? ⟨w.heap.size + 1, 0, none⟩ = some (.bool ok1) ∧ V.cell? ⟨lb2, 0, none⟩ = some (.int .i64 x1) ∧ V.cell? ⟨lb2, 1, none⟩ = some (.int .i64 x2) ∧ V.cell? ⟨cb, 2, none⟩ = some (.int .i64 c.now) ∧ V.frozen? ⟨w.heap.size + 1, 0, none⟩ = false) := Lib.hid (fun V hV => by
          have k1 : Blk V (w.heap.size + 1) 4 #[.bool ok1] := (hV.block _ ho6.lt).trans ho6
          have k2 : Blk V lb2 3 ([x1, x2].map (Value.int .i64)).toArray := (hV.block _ hrow.lt).trans hrow
          have k3 : Blk V cb 49 (ckCells c mb) := (hV.block _ HC6.out.blk.lt).trans HC6.out.blk
          exact ⟨k1.cell 0, k2.cell 0, k2.cell 1, k3.cell 2, k1.frozen 0⟩)
        have HLB : Hid (Blk w6 lb2 3 #[.int .i64 x1, .int .i64 x2] ∧ wr.heap.size ≤ lb2) := Lib.hid ⟨hrow6, hlb6⟩
        clear hlr6 hlb6 hrow6 hr6 ho6 hk6 hs6 hrow HLN hwd6
        obtain ⟨nb, hnb⟩ : ∃ nb, (ok1 && nameB wd && decide (0 ≤ x1) && decide (0 ≤ x2) && decide (x2 ≤ c.now)) = nb := ⟨_, rfl⟩
        have HNB := Lib.hid hnb
        go_upto_region 9 with fail
        go_cut [] (fun wx => Hid (Blk wx (w.heap.size + 1) 4 #[.bool nb]) ∧ Hid (Kept (fun i => i = w.heap.size + 1) w6 wx))
        case first =>
          have HS0 : Hid (Below w6.heap.size w6 w6.drew) := Lib.hid (Go.Proofs.YtobkgkiomapabaaGreatDoor.below_drew (Below.refl _ _))
          have HFIN : Hid (∀ V, Below w6.heap.size w6 V → Blk (V.setCell ⟨w.heap.size + 1, 0, none⟩ (.bool nb)) (w.heap.size + 1) 4 #[.bool nb] ∧ Kept (fun i => i = w.heap.size + 1) w6 (V.setCell ⟨w.heap.size + 1, 0, none⟩ (.bool nb))) := Lib.hid (fun V hV => by
            have k1 : Blk V (w.heap.size + 1) 4 #[.bool ok1] := (hV.block _ HO6.out.lt).trans HO6.out
            exact ⟨k1.set_ 0 (.bool nb), ((Kept.refl (fun i => i = w.heap.size + 1) w6).below hV (Nat.le_refl _)).setCell (p := ⟨w.heap.size + 1, 0, none⟩) (Or.inl rfl) _⟩)
          refine wp_planN (fun V => Below w6.heap.size w6 V) [(0, 1), (1, 1), (2, 1), (3, 2), (4, 1), (5, 1), (6, 1), (7, 1), (8, 1), (9, 1), (10, 1), (11, 1), (12, 1), (13, 1), (14, 1), (15, 1), (16, 1), (17, 1), (18, 1), (19, 1), (20, 1), (21, 1), (22, 1), (23, 1), (24, 1), (25, 1), (26, 1), (27, 3)] (by kernel_rfl) (by kernel_rfl) HS0.out ?_
          simp only [planNL, List.getElem?_cons_zero, List.getElem?_cons_succ]
          cases ok1
          · obtain rfl : nb = false := by rw [← hnb]; rfl
            clear hnb
            repeat (first | (refine planN_on _ (by rfl) (fun W hW => by (obtain ⟨y0, y1, y2, y3, y4⟩ := HSC.out W hW; go_simp; try with_reducible rfl)) ?_; simp only [Act.put, List.setIfInBounds_toArray, List.set_cons_zero, List.set_cons_succ]) | (refine planN_off (by rfl) ?_; simp only [Act.put, List.setIfInBounds_toArray, List.set_cons_zero, List.set_cons_succ]))
            refine planN_turn ?_
            go_wp2_with fail
            refine ⟨HS0.out, ?_⟩
            repeat (first | (refine planN_on _ (by rfl) (fun W hW => by (obtain ⟨y0, y1, y2, y3, y4⟩ := HSC.out W hW; go_simp; try with_reducible rfl)) ?_; simp only [Act.put, List.setIfInBounds_toArray, List.set_cons_zero, List.set_cons_succ]) | (refine planN_off (by rfl) ?_; simp only [Act.put, List.setIfInBounds_toArray, List.set_cons_zero, List.set_cons_succ]))
            refine planN_last ?_
            obtain ⟨z0, _, _, _, z4⟩ := HSC.out w6.drew HS0.out
            go_wp2_with fail
            refine planN_done ?_
            have HX := Lib.hid (HFIN.out w6.drew HS0.out).1
            have HY := Lib.hid (HFIN.out w6.drew HS0.out).2
            clear HFIN z0 z4
            go_wp2_with fail
            go_meet
            exact ⟨HX, HY⟩
          · repeat (first | (refine planN_on _ (by rfl) (fun W hW => by (obtain ⟨y0, y1, y2, y3, y4⟩ := HSC.out W hW; go_simp; try with_reducible rfl)) ?_; simp only [Act.put, List.setIfInBounds_toArray, List.set_cons_zero, List.set_cons_succ]) | (refine planN_off (by rfl) ?_; simp only [Act.put, List.setIfInBounds_toArray, List.set_cons_zero, List.set_cons_succ]))
            refine planN_turn ?_
            go_wp2_with fail
            refine (name_any wd w6.drew).mono ?_
            rintro e w7 ⟨rfl, hb7⟩
            have HB7 : Hid (Below w6.heap.size w6 w7) := Lib.hid (HS0.out.trans (hb7.mono HS0.out.size))
            clear hb7
            go_wp2_with fail
            refine ⟨HB7.out, ?_⟩
            cases hnm : nameB wd
            · have hnm2 := Lib.hid hnm
              obtain rfl : nb = false := by rw [← hnb]; rw [hnm]; rfl
              clear hnb
              repeat (first | (refine planN_on _ (by rfl) (fun W hW => by (obtain ⟨y0, y1, y2, y3, y4⟩ := HSC.out W hW; go_simp; try with_reducible rfl)) ?_; simp only [Act.put, List.setIfInBounds_toArray, List.set_cons_zero, List.set_cons_succ]) | (refine planN_off (by rfl) ?_; simp only [Act.put, List.setIfInBounds_toArray, List.set_cons_zero, List.set_cons_succ]))
              refine planN_last ?_
              obtain ⟨z0, _, _, _, z4⟩ := HSC.out w7 HB7.out
              go_wp2_with fail
              refine planN_done ?_
              have HX := Lib.hid (HFIN.out w7 HB7.out).1
              have HY := Lib.hid (HFIN.out w7 HB7.out).2
              clear HFIN z0 z4
              go_wp2_with fail
              go_meet
              exact ⟨HX, HY⟩
            · by_cases h1 : 0 ≤ x1
              · have q1 : decide (0 ≤ x1) = true := decide_eq_true h1
                by_cases h2 : 0 ≤ x2
                · have q2 : decide (0 ≤ x2) = true := decide_eq_true h2
                  by_cases h3 : x2 ≤ c.now
                  · have q3 : decide (x2 ≤ c.now) = true := decide_eq_true h3
                    obtain rfl : nb = true := by rw [← hnb]; rw [hnm, q1, q2, q3]; rfl
                    clear hnb
                    repeat (first | (refine planN_on _ (by rfl) (fun W hW => by (obtain ⟨y0, y1, y2, y3, y4⟩ := HSC.out W hW; go_simp; try with_reducible rfl)) ?_; simp only [Act.put, List.setIfInBounds_toArray, List.set_cons_zero, List.set_cons_succ]) | (refine planN_off (by rfl) ?_; simp only [Act.put, List.setIfInBounds_toArray, List.set_cons_zero, List.set_cons_succ]))
                    refine planN_last ?_
                    obtain ⟨z0, _, _, _, z4⟩ := HSC.out w7 HB7.out
                    go_wp2_with fail
                    refine planN_done ?_
                    have HX := Lib.hid (HFIN.out w7 HB7.out).1
                    have HY := Lib.hid (HFIN.out w7 HB7.out).2
                    clear HFIN z0 z4
                    go_wp2_with fail
                    go_meet
                    exact ⟨HX, HY⟩
                  · have q3 : decide (x2 ≤ c.now) = false := decide_eq_false h3
                    obtain rfl : nb = false := by rw [← hnb]; rw [hnm, q1, q2, q3]; rfl
                    clear hnb
                    repeat (first | (refine planN_on _ (by rfl) (fun W hW => by (obtain ⟨y0, y1, y2, y3, y4⟩ := HSC.out W hW; go_simp; try with_reducible rfl)) ?_; simp only [Act.put, List.setIfInBounds_toArray, List.set_cons_zero, List.set_cons_succ]) | (refine planN_off (by rfl) ?_; simp only [Act.put, List.setIfInBounds_toArray, List.set_cons_zero, List.set_cons_succ]))
                    refine planN_last ?_
                    obtain ⟨z0, _, _, _, z4⟩ := HSC.out w7 HB7.out
                    go_wp2_with fail
                    refine planN_done ?_
                    have HX := Lib.hid (HFIN.out w7 HB7.out).1
                    have HY := Lib.hid (HFIN.out w7 HB7.out).2
                    clear HFIN z0 z4
                    go_wp2_with fail
                    go_meet
                    exact ⟨HX, HY⟩
                · have q2 : decide (0 ≤ x2) = false := decide_eq_false h2
                  obtain rfl : nb = false := by rw [← hnb]; rw [hnm, q1, q2]; rfl
                  clear hnb
                  repeat (first | (refine planN_on _ (by rfl) (fun W hW => by (obtain ⟨y0, y1, y2, y3, y4⟩ := HSC.out W hW; go_simp; try with_reducible rfl)) ?_; simp only [Act.put, List.setIfInBounds_toArray, List.set_cons_zero, List.set_cons_succ]) | (refine planN_off (by rfl) ?_; simp only [Act.put, List.setIfInBounds_toArray, List.set_cons_zero, List.set_cons_succ]))
                  refine planN_last ?_
                  obtain ⟨z0, _, _, _, z4⟩ := HSC.out w7 HB7.out
                  go_wp2_with fail
                  refine planN_done ?_
                  have HX := Lib.hid (HFIN.out w7 HB7.out).1
                  have HY := Lib.hid (HFIN.out w7 HB7.out).2
                  clear HFIN z0 z4
                  go_wp2_with fail
                  go_meet
                  exact ⟨HX, HY⟩
              · have q1 : decide (0 ≤ x1) = false := decide_eq_false h1
                obtain rfl : nb = false := by rw [← hnb]; rw [hnm, q1]; rfl
                clear hnb
                repeat (first | (refine planN_on _ (by rfl) (fun W hW => by (obtain ⟨y0, y1, y2, y3, y4⟩ := HSC.out W hW; go_simp; try with_reducible rfl)) ?_; simp only [Act.put, List.setIfInBounds_toArray, List.set_cons_zero, List.set_cons_succ]) | (refine planN_off (by rfl) ?_; simp only [Act.put, List.setIfInBounds_toArray, List.set_cons_zero, List.set_cons_succ]))
                refine planN_last ?_
                obtain ⟨z0, _, _, _, z4⟩ := HSC.out w7 HB7.out
                go_wp2_with fail
                refine planN_done ?_
                have HX := Lib.hid (HFIN.out w7 HB7.out).1
                have HY := Lib.hid (HFIN.out w7 HB7.out).2
                clear HFIN z0 z4
                go_wp2_with fail
                go_meet
                exact ⟨HX, HY⟩
        case rest =>
        obtain ⟨HO7, HK7⟩ := hcut
        obtain ⟨w7, rfl⟩ : ∃ w7 : World, w7 = wc := ⟨_, rfl⟩
        have HB7 : Hid (Below w.heap.size w w7) := Lib.hid (HB6.out.trans (HK7.out.toBelow (fun i hi => by omega) HB6.out.size))
        have HC7 : Hid (ClockAt w7 cb mb n c) := Lib.hid (HC6.out.kept HK7.out (by omega) (by omega))
        have HR7 : Hid (Blk w7 w.heap.size 9 #[.string s1]) := Lib.hid (HR6.out.kept HK7.out (by omega))
        have HL7 : Hid (Blk w7 lb2 3 #[.int .i64 x1, .int .i64 x2]) := Lib.hid (HLB.out.1.kept HK7.out (by have := HLB.out.2; have := HFL.out.lt; omega))
        have HSC7 : Hid (∀ V, Below w7.heap.size w7 V → V.cell? ⟨lb2, 0, none⟩ = some (.int .i64 x1) ∧ V.cell? ⟨lb2, 1, none⟩ = some (.int .i64 x2) ∧ V.cell? ⟨cb, 4, none⟩ = some (.map (some mb))) := Lib.hid (fun V hV => by
          have k2 : Blk V lb2 3 #[.int .i64 x1, .int .i64 x2] := (hV.block _ HL7.out.lt).trans HL7.out
          have k3 : Blk V cb 49 (ckCells c mb) := (hV.block _ HC7.out.blk.lt).trans HC7.out.blk
          exact ⟨k2.cell 0, k2.cell 1, k3.cell 4⟩)
        have HS7 : Hid (Below w7.heap.size w7 w7.drew) := Lib.hid (Go.Proofs.YtobkgkiomapabaaGreatDoor.below_drew (Below.refl _ _))
        have hml : mb < w7.heap.size := HC7.out.map.lt
        clear HSC HO6 HR6 HLB HC6 HB6 HK7 hnb
        go_wp2_with fail
        refine wp_planN (fun V => Below w7.heap.size w7 V) [(0, 1), (1, 1), (2, 1), (3, 1), (4, 1), (5, 1), (6, 1), (7, 1), (8, 1), (9, 1), (10, 1), (11, 1), (12, 3)] (by kernel_rfl) (by kernel_rfl) HS7.out ?_
        simp only [planNL, List.getElem?_cons_zero, List.getElem?_cons_succ]
        repeat (first | (refine planN_on _ (by rfl) (fun W hW => by (obtain ⟨y0, y1, y2⟩ := HSC7.out W hW; go_simp; try with_reducible rfl)) ?_; simp only [Act.put, List.setIfInBounds_toArray, List.set_cons_zero, List.set_cons_succ]) | (refine planN_off (by rfl) ?_; simp only [Act.put, List.setIfInBounds_toArray, List.set_cons_zero, List.set_cons_succ]))
        refine planN_last ?_
        have HN8 : Hid (∀ (ok : Value → Bool) w8, MapIs Tryz.prog 9 ok w8 mb (n + 1) (upd (srcM c.src) (.string wd.data.toList) (srcV (x1, x2))) → (w7.drew).grownBy w8 (some mb) → w8.heap.size = (w7.drew).heap.size → (nb = true → ok = okSrc) → DState b w.heap.size (w.heap.size + 1) cb mb w nb { c with src := put c.src wd.data.toList (x1, x2) } s1 (n + 1) w8) := Lib.hid (fun ok w8 hm8 hg8 hs8 hok => by
          have h1 : Blk w8 w.heap.size 9 #[.string s1] := HR7.out.drew.grown hg8 (by simp; omega)
          have h2 : Blk w8 (w.heap.size + 1) 4 #[.bool nb] := HO7.out.drew.grown hg8 (by simp; omega)
          have h3 : Blk w8 cb 49 (ckCells c mb) := HC7.out.blk.drew.grown hg8 (by simp; omega)
          refine ⟨h1, h2, track_line HTR.out HRE.out HLR6.out rfl nb HNB.out.symm, fun hn => ?_, (Go.Proofs.YtobkgkiomapabaaGreatDoor.below_drew HB7.out).grown hg8 (by show _ ≤ w7.heap.size; omega) (fun j hj => by cases hj; omega), h3⟩
          obtain ⟨g1, g2, _⟩ := line_good HGS.out HLR6.out rfl (by rw [HNB.out]; exact hn)
          have hmm := hm8.congr (M' := srcM (put c.src wd.data.toList (x1, x2))) (fun kl => srcM_put _ _ _ kl)
          rw [hok hn] at hmm
          exact ⟨⟨h3, hmm, ⟨HC7.out.ok.s0, HC7.out.ok.s1, HC7.out.ok.i0, HC7.out.ok.i1, HC7.out.ok.n0, HC7.out.ok.n1, HC7.out.ok.m0, HC7.out.ok.m1⟩⟩, g1, by have := HNS.out; omega⟩)
        have HLT : Hid (nb = true → s1.size < rest.size ∧ okSrc (srcV (x1, x2)) = true) := Lib.hid (fun hn => by
          obtain ⟨g1, g2, g3, g4, g5, g6, _⟩ := line_good HGS.out HLR6.out rfl (by rw [HNB.out]; exact hn)
          exact ⟨g2, okSrc_mk g5 g3 g6 g4⟩)
        have hn47 : n < maxLen := by have := HNS.out; unfold maxLen; omega
        cases nb
        · refine wpList_storeM _ rfl _ _ _ 47 rfl 9 52 (string_keyed Tryz.underlying9) Tryz.underlying47 anySrc mb n _ rfl (HC7.out.map.drew.weaken anySrc_of) hn47 _ (srcV (x1, x2)) _ rfl rfl (WideMaps.keyOf_string_mk Tryz.underlying9 hwd8) (anySrc_mk x1 x2) ?_
          intro w8 hm8 hg8 hs8
          have HD8 := Lib.hid (HN8.out anySrc w8 hm8 hg8 hs8 (fun h => by cases h))
          have HM8 : Hid (mesD (w.heap.size + 1) w.heap.size w8 = 0) := Lib.hid (mesD_off (HD8.out.flag.cell 0))
          clear hm8 hg8 hs8 HN8
          go_wp2_with fail
          refine planN_done ?_
          simp only [Act.put]
          go_wp2_with fail
          go_roundw
          case rel => exact ⟨false, _, s1, n + 1, HD8⟩
          case measure => rw [HM8.out, HME.out]; omega
        · refine wpList_storeM _ rfl _ _ _ 47 rfl 9 52 (string_keyed Tryz.underlying9) Tryz.underlying47 okSrc mb n _ rfl HC7.out.map.drew hn47 _ (srcV (x1, x2)) _ rfl rfl (WideMaps.keyOf_string_mk Tryz.underlying9 hwd8) (HLT.out rfl).2 ?_
          intro w8 hm8 hg8 hs8
          have HD8 := Lib.hid (HN8.out okSrc w8 hm8 hg8 hs8 (fun _ => rfl))
          have HM8 : Hid (mesD (w.heap.size + 1) w.heap.size w8 = s1.size + 1) := Lib.hid (mesD_on (HD8.out.flag.cell 0) (HD8.out.cell.cell 0))
          have HL8 := Lib.hid (HLT.out rfl).1
          clear hm8 hg8 hs8 HN8 HLT
          go_wp2_with fail
          refine planN_done ?_
          simp only [Act.put]
          go_wp2_with fail
          go_roundw
          case rel => exact ⟨true, _, s1, n + 1, HD8⟩
          case measure => rw [HM8.out, HME.out]; have := HL8.out; omega
end Go.Proofs.YtobkgkiomapabaaGreatDoor

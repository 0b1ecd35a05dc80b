/- Apply of the program. -/
import Derived.Test.YtdcinodbgbkobaaGreatDoorGc
import Derived.Test.YtdcinodbgbkobaaGreatDoorGa
import Derived.Deep.DeepCutAuto
import Derived.Deep.CutBlock
import Derived.Deep.RegionHeld3
namespace Go.Proofs.YtdcinodbgbkobaaGreatDoor
open Go.Shelf Go.RowKit Go.Maps
set_option linter.unusedVariables false

def evArr (e : Ev) : Array Value := #[.string e.src, .int .i64 e.num, .int .i64 e.tick, .int .i64 e.kind, .string e.person, .string e.item, .int .i64 e.value, .string e.text]
def stArr (s : St) : Array Value := #[.int .i64 s.tick, .bool s.isborn, .string s.item.name, .string s.item.maker, .string s.item.tags, .int .i64 s.item.stock, .int .i64 s.item.price, .int .i64 s.item.born, .bool s.item.listed]

/-- The events behind one more. -/
def aftP (es : List Ev) (x : Ev) : List Ev := if takesB es x then es ++ [x] else es
theorem own_nil (w : World) (base e size : Nat) : w.ownsRow base e size (.slice none 0 0) 0 [] := ⟨by simp, Or.inl ⟨rfl, rfl⟩⟩

/-- The world in which the catalog has had one event more. -/
def setEv (w : World) (cb : Nat) (x : Ev) : World := (((((((((w.setCell ⟨cb, 0, none⟩ (.bool true)).setCell ⟨cb, 1, none⟩ (.string x.src)).setCell ⟨cb, 2, none⟩ (.int .i64 x.num)).setCell ⟨cb, 3, none⟩ (.int .i64 x.tick)).setCell ⟨cb, 4, none⟩ (.int .i64 x.kind)).setCell ⟨cb, 5, none⟩ (.string x.person)).setCell ⟨cb, 6, none⟩ (.string x.item)).setCell ⟨cb, 7, none⟩ (.int .i64 x.value)).setCell ⟨cb, 8, none⟩ (.string x.text))
theorem setEv_blk {w : World} {cb mb : Nat} {a : Bool} {l : Ev} (h : Blk w cb 66 (catCells a l mb)) (x : Ev) : Blk (setEv w cb x) cb 66 (catCells true x mb) := by
  have h9 := (((((((((h.set_ 0 (.bool true)).set_ 1 (.string x.src)).set_ 2 (.int .i64 x.num)).set_ 3 (.int .i64 x.tick)).set_ 4 (.int .i64 x.kind)).set_ 5 (.string x.person)).set_ 6 (.string x.item)).set_ 7 (.int .i64 x.value)).set_ 8 (.string x.text))
  simp only [catCells, List.setIfInBounds_toArray, List.set_cons_zero, List.set_cons_succ] at h9
  exact h9
theorem setEv_kept (w : World) (cb : Nat) (x : Ev) : Kept (fun q => q = cb) w (setEv w cb x) := ((((((((((Kept.refl (fun q => q = cb) w).setCell (p := ⟨cb, 0, none⟩) (Or.inl rfl) (.bool true)).setCell (p := ⟨cb, 1, none⟩) (Or.inl rfl) (.string x.src)).setCell (p := ⟨cb, 2, none⟩) (Or.inl rfl) (.int .i64 x.num)).setCell (p := ⟨cb, 3, none⟩) (Or.inl rfl) (.int .i64 x.tick)).setCell (p := ⟨cb, 4, none⟩) (Or.inl rfl) (.int .i64 x.kind)).setCell (p := ⟨cb, 5, none⟩) (Or.inl rfl) (.string x.person)).setCell (p := ⟨cb, 6, none⟩) (Or.inl rfl) (.string x.item)).setCell (p := ⟨cb, 7, none⟩) (Or.inl rfl) (.int .i64 x.value)).setCell (p := ⟨cb, 8, none⟩) (Or.inl rfl) (.string x.text))

theorem cell_drew (w : World) (p : Addr) : w.drew.cell? p = w.cell? p := rfl
theorem ev_drew {W : World} {eb : Nat} {x : Ev} (h : EvAt W eb 0 x) : World.cell? W.drew ⟨eb, 0, none⟩ = some (.string x.src) ∧ World.cell? W.drew ⟨eb, 1, none⟩ = some (.int .i64 x.num) ∧ World.cell? W.drew ⟨eb, 2, none⟩ = some (.int .i64 x.tick) ∧ World.cell? W.drew ⟨eb, 3, none⟩ = some (.int .i64 x.kind) ∧ World.cell? W.drew ⟨eb, 4, none⟩ = some (.string x.person) ∧ World.cell? W.drew ⟨eb, 5, none⟩ = some (.string x.item) ∧ World.cell? W.drew ⟨eb, 6, none⟩ = some (.int .i64 x.value) ∧ World.cell? W.drew ⟨eb, 7, none⟩ = some (.string x.text) := by
  obtain ⟨h0, h1, h2, h3, h4, h5, h6, h7⟩ := h
  exact ⟨(cell_drew _ _).trans h0, (cell_drew _ _).trans h1, (cell_drew _ _).trans h2, (cell_drew _ _).trans h3, (cell_drew _ _).trans h4, (cell_drew _ _).trans h5, (cell_drew _ _).trans h6, (cell_drew _ _).trans h7⟩
theorem setEv_ev {w : World} {eb cb : Nat} {x y : Ev} (h : EvAt w eb 0 x) (hlt : eb < w.heap.size) (hne : eb ≠ cb) : EvAt (setEv w cb y) eb 0 x := h.keep (fun j => (setEv_kept w cb y).cell (p := ⟨eb, j, none⟩) hlt hne)

theorem step12 {s : St} {x : Ev} (h : x.kind = 12) : ((stArr s).setIfInBounds 0 (.int .i64 x.tick)).setIfInBounds 5 (.int .i64 x.value) = stArr (stepSt s x) := by
  simp [stArr, stepSt, h]
theorem step13 {s : St} {x : Ev} (h : x.kind = 13) : ((stArr s).setIfInBounds 0 (.int .i64 x.tick)).setIfInBounds 8 (.bool false) = stArr (stepSt s x) := by
  simp [stArr, stepSt, h]
theorem step11t {s : St} {x : Ev} (h : x.kind = 11) (hb : s.isborn = true) : (((((stArr s).setIfInBounds 0 (.int .i64 x.tick)).setIfInBounds 8 (.bool true)).setIfInBounds 3 (.string (headP x.text))).setIfInBounds 4 (.string (restP x.text))).setIfInBounds 6 (.int .i64 x.value) = stArr (stepSt s x) := by
  simp [stArr, stepSt, h, hb]
theorem step11f {s : St} {x : Ev} (h : x.kind = 11) (hb : s.isborn = false) : (((((((stArr s).setIfInBounds 0 (.int .i64 x.tick)).setIfInBounds 8 (.bool true)).setIfInBounds 3 (.string (headP x.text))).setIfInBounds 4 (.string (restP x.text))).setIfInBounds 6 (.int .i64 x.value)).setIfInBounds 1 (.bool true)).setIfInBounds 7 (.int .i64 x.tick) = stArr (stepSt s x) := by
  simp [stArr, stepSt, h, hb]

theorem info_parts {P : Program} {e : TypeId} {z : Value} {n b : Nat} (h : (P.info? e).map (fun i => (i.zero, i.size, i.bytes)) = some (some z, n, b)) : ∃ i, P.info? e = some i ∧ i.zero = some z ∧ i.size = n ∧ i.bytes = b := by
  cases hq : P.info? e with
  | none => simp [hq] at h
  | some i => simp [hq] at h; exact ⟨i, rfl, h.1, h.2.1, h.2.2⟩
theorem own_shape {w : World} {base n : Nat} {e : TypeId} {size : Nat} {v : Value} {xs : List Value} (h : w.ownsRow base e size v n xs) : ∃ A c, v = .slice A n c := by
  rcases h.2 with ⟨rfl, rfl⟩ | ⟨g, cap, cur, rfl, _⟩
  · exact ⟨_, _, rfl⟩
  · exact ⟨_, _, rfl⟩
theorem one_st (w : World) (s : St) (t : TypeId) : RowIn (w.alloc (.cells (stArr s) t)).drew (w.heap.size + 1) 9 (some ⟨w.heap.size, 0, none⟩) 1 (stC s) := by
  refine ⟨rfl, Or.inr ⟨w.heap.size, 0, rfl, by omega, fun j u hu => ?_⟩⟩
  rw [cell_drew, (Blk.new w t _).cell, Nat.zero_add, ← hu]
  simp [stArr, stC, itC]
/-- The cells that the last statement reads. -/
def ApS (W : World) (cb mb eb sb : Nat) (it : ByteArray) (st : St) : Prop := World.cell? W ⟨cb, 9, none⟩ = some (.map (some mb)) ∧ World.cell? W ⟨eb, 5, none⟩ = some (.string it) ∧ World.cell? W ⟨sb, 0, none⟩ = some (.int .i64 st.tick) ∧ World.cell? W ⟨sb, 1, none⟩ = some (.bool st.isborn) ∧ World.cell? W ⟨sb, 2, none⟩ = some (.string st.item.name) ∧ World.cell? W ⟨sb, 3, none⟩ = some (.string st.item.maker) ∧ World.cell? W ⟨sb, 4, none⟩ = some (.string st.item.tags) ∧ World.cell? W ⟨sb, 5, none⟩ = some (.int .i64 st.item.stock) ∧ World.cell? W ⟨sb, 6, none⟩ = some (.int .i64 st.item.price) ∧ World.cell? W ⟨sb, 7, none⟩ = some (.int .i64 st.item.born) ∧ World.cell? W ⟨sb, 8, none⟩ = some (.bool st.item.listed)
theorem ApS.keep {W W' : World} {cb mb eb sb : Nat} {it : ByteArray} {st : St} {row : Option Nat} (h : ApS W cb mb eb sb it st) (hg : W.grownBy W' row) (h1 : cb < sb) (h2 : eb < sb) (h3 : sb < W.heap.size) (n1 : some cb ≠ row) (n2 : some eb ≠ row) (n3 : some sb ≠ row) : World.cell? W' ⟨cb, 9, none⟩ = some (.map (some mb)) ∧ World.cell? W' ⟨eb, 5, none⟩ = some (.string it) ∧ World.cell? W' ⟨sb, 0, none⟩ = some (.int .i64 st.tick) ∧ World.cell? W' ⟨sb, 1, none⟩ = some (.bool st.isborn) ∧ World.cell? W' ⟨sb, 2, none⟩ = some (.string st.item.name) ∧ World.cell? W' ⟨sb, 3, none⟩ = some (.string st.item.maker) ∧ World.cell? W' ⟨sb, 4, none⟩ = some (.string st.item.tags) ∧ World.cell? W' ⟨sb, 5, none⟩ = some (.int .i64 st.item.stock) ∧ World.cell? W' ⟨sb, 6, none⟩ = some (.int .i64 st.item.price) ∧ World.cell? W' ⟨sb, 7, none⟩ = some (.int .i64 st.item.born) ∧ World.cell? W' ⟨sb, 8, none⟩ = some (.bool st.item.listed) := by
  obtain ⟨a0, a1, a2, a3, a4, a5, a6, a7, a8, a9, a10⟩ := h
  have k : ∀ g j, g < W.heap.size → some g ≠ row → W'.cell? ⟨g, j, none⟩ = W.cell? ⟨g, j, none⟩ := fun g j hl hn => World.cell?_of_block (a := ⟨g, j, none⟩) (hg.block g hl hn)
  exact ⟨(k _ _ (by omega) n1).trans a0, (k _ _ (by omega) n2).trans a1, (k _ _ h3 n3).trans a2, (k _ _ h3 n3).trans a3, (k _ _ h3 n3).trans a4, (k _ _ h3 n3).trans a5, (k _ _ h3 n3).trans a6, (k _ _ h3 n3).trans a7, (k _ _ h3 n3).trans a8, (k _ _ h3 n3).trans a9, (k _ _ h3 n3).trans a10⟩

set_option maxHeartbeats 2000000 in
set_option maxRecDepth 100000 in
theorem apply_any (cb : Nat) (F : Nat → Prop) (es : List Ev) (x : Ev) (w : World) (h : CatAt w cb F es) (hx : EvSh x) (hg : GlobAt w) (hb : es.length ≤ 1000000) (hgf : ∀ i, i ≤ 1 → ¬ F i) :
    Calls Tryz.prog 8 #[.pointer (some ⟨cb, 0, none⟩), evA x] w fun e w' => e = .returned (.bool (takesB es x)) ∧ ∃ F' : Nat → Prop, CatAt w' cb F' (aftP es x) ∧ (∀ q, F q → F' q) ∧ (∀ q, F' q → F q ∨ w.heap.size ≤ q) ∧ Kept F w w' := by
  obtain ⟨mb, G, last, h⟩ := h
  have HE : Hid (evA x = .agg (evArr x)) := Lib.hid rfl
  obtain ⟨w1, hw1⟩ : ∃ w1, w.alloc (.cells (evArr x) 41) = w1 := ⟨_, rfl⟩
  have be1 : Hid (Blk w1 w.heap.size 41 (evArr x)) := Lib.hid (by rw [← hw1]; exact Blk.new _ _ _)
  have HB1 : Hid (Below w.heap.size w w1) := Lib.hid (by rw [← hw1]; exact (Below.refl _ _).alloc (Nat.le_refl _) _)
  have HZ1 : Hid (w1.heap.size = w.heap.size + 1) := Lib.hid (by rw [← hw1]; simp)
  have HM := Lib.hid (may_any x w1 hx (hg.keep HB1.out (Nat.le_refl _)))
  have HI := Lib.hid h
  have hcl : cb < w.heap.size := h.lt _ h.fc
  have HSX := Lib.hid hx
  obtain ⟨hx0, hx1, hx2, hx3⟩ := hx
  have HX := Lib.hid hx2
  have HLE := Lib.hid hb
  have hxt := hx3
  clear hx0 hx1 hx2 hx3
  have HG := Lib.hid hg
  have HNO : Hid (takesB es x = false → ∀ w', Below w.heap.size w w' → ∃ F' : Nat → Prop, CatAt w' cb F' (aftP es x) ∧ (∀ q, F q → F' q) ∧ (∀ q, F' q → F q ∨ w.heap.size ≤ q) ∧ Kept F w w') := Lib.hid (fun ht w' hb => by
    unfold aftP
    rw [ht]
    exact ⟨F, ⟨mb, G, last, h.kept (below_kept (S := fun _ => False) hb (Nat.le_refl _)) (fun _ _ h => h)⟩, fun _ h => h, fun _ h => Or.inl h, below_kept hb (Nat.le_refl _)⟩)
  have HTK : Hid (takesB es x = (catB x && !(match es.getLast? with | none => false | some l => decide (cmpE x l ≠ 1)))) := Lib.hid (by unfold takesB; cases es.getLast? <;> simp)
  have HCT : Hid (catB x = (mayB x && decide (x.kind = 11 ∨ x.kind = 12 ∨ x.kind = 13))) := Lib.hid rfl
  have d0 : w1.cell? ⟨w.heap.size, 0, none⟩ = some (.string x.src) := be1.out.cell 0
  have d1 : w1.cell? ⟨w.heap.size, 1, none⟩ = some (.int .i64 x.num) := be1.out.cell 1
  have d2 : w1.cell? ⟨w.heap.size, 2, none⟩ = some (.int .i64 x.tick) := be1.out.cell 2
  have d3 : w1.cell? ⟨w.heap.size, 3, none⟩ = some (.int .i64 x.kind) := be1.out.cell 3
  have d4 : w1.cell? ⟨w.heap.size, 4, none⟩ = some (.string x.person) := be1.out.cell 4
  have d5 : w1.cell? ⟨w.heap.size, 5, none⟩ = some (.string x.item) := be1.out.cell 5
  have d6 : w1.cell? ⟨w.heap.size, 6, none⟩ = some (.int .i64 x.value) := be1.out.cell 6
  have d7 : w1.cell? ⟨w.heap.size, 7, none⟩ = some (.string x.text) := be1.out.cell 7
  clear h hg
  unfold evA at HM ⊢
  unfold evArr at hw1
  go_enter Tryz.func8, Tryz.ntmps8
  go_upto_region 1 with fail
  clear hw1
  go_cut [24] (fun c wx => c = .bool (!catB x) ∧ Hid (Below w1.heap.size w1 wx))
  case first =>
    go_wp2_with fail
    refine HM.out.mono ?_
    rintro e w2 ⟨rfl, hb2⟩
    have e3 : w2.cell? ⟨w.heap.size, 3, none⟩ = some (.int .i64 x.kind) := (hb2.cell (p := ⟨w.heap.size, 3, none⟩) be1.out.lt).trans d3
    clear HM d0 d1 d2 d3 d4 d5 d6 d7
    have HBB := Lib.hid hb2
    clear hb2
    cases hm : mayB x
    · have HC : Hid (catB x = false) := Lib.hid (by rw [HCT.out, hm]; rfl)
      clear hm
      go_wp2_with fail
      go_meet
      exact ⟨by rw [HC.out]; rfl, HBB⟩
    · by_cases hk : x.kind = 11 ∨ x.kind = 12 ∨ x.kind = 13
      · have HC : Hid (catB x = true) := Lib.hid (by rw [HCT.out, hm, decide_eq_true hk]; rfl)
        clear hm
        rcases hk with hk | hk | hk
        all_goals
          rw [hk] at e3
          clear hk
          go_wp2_with fail
          go_meet
          exact ⟨by rw [HC.out]; rfl, HBB⟩
      · have HC : Hid (catB x = false) := Lib.hid (by rw [HCT.out, decide_eq_false hk]; simp)
        have k1 : (x.kind != 11) = true := by rw [bne_iff_ne]; omega
        have k2 : (x.kind != 12) = true := by rw [bne_iff_ne]; omega
        have k3 : (x.kind != 13) = true := by rw [bne_iff_ne]; omega
        clear hm hk
        go_wp2_with fail
        go_meet
        exact ⟨by rw [HC.out]; rfl, HBB⟩
  case rest =>
  obtain ⟨rfl, HBC⟩ := hcut
  clear HM d0 d1 d2 d3 d4 d5 d6 d7
  obtain ⟨w2, rfl⟩ : ∃ w2 : World, w2 = wc := ⟨_, rfl⟩
  have HB2 : Hid (Below w.heap.size w w2) := Lib.hid (HB1.out.trans (HBC.out.mono HB1.out.size))
  have HE2 : Hid (Blk w2 w.heap.size 41 (evArr x)) := Lib.hid ((HBC.out.block _ be1.out.lt).trans be1.out)
  have HI2 : Hid (CatIn w2 cb mb G last F es) := Lib.hid (HI.out.kept (below_kept (S := fun _ => False) HB2.out (Nat.le_refl _)) (fun _ _ h => h))
  have HG2 : Hid (GlobAt w2) := Lib.hid (HG.out.keep HB2.out (Nat.le_refl _))
  clear HB1 HZ1 be1 HBC
  cases hcb : catB x
  · have HT : Hid (takesB es x = false) := Lib.hid (by rw [HTK.out, hcb]; rfl)
    clear hcb
    go_wp2_with fail
    go_ret
    exact ⟨ret_bool HT.out.symm, HNO.out HT.out _ HB2.out⟩
  have HCB := Lib.hid hcb
  clear hcb
  have HTK2 : Hid (takesB es x = !(match es.getLast? with | none => false | some l => decide (cmpE x l ≠ 1))) := Lib.hid (by rw [HTK.out, HCB.out, Bool.true_and])
  have HKD : Hid (x.kind = 11 ∨ x.kind = 12 ∨ x.kind = 13) := Lib.hid (by have := HCB.out; rw [HCT.out, Bool.and_eq_true] at this; exact of_decide_eq_true this.2)
  clear HTK HCT
  go_upto_region 3 with fail
  generalize hbad : (match es.getLast? with | none => false | some l => decide (cmpE x l ≠ 1)) = bad at HTK2
  have HBAD := Lib.hid hbad
  clear hbad
  go_cut [37] (fun c wx => c = .bool bad ∧ Hid (Below w2.heap.size w2 wx))
  case first =>
    have e0 : w2.cell? ⟨w.heap.size, 0, none⟩ = some (.string x.src) := HE2.out.cell 0
    have e1 : w2.cell? ⟨w.heap.size, 1, none⟩ = some (.int .i64 x.num) := HE2.out.cell 1
    have e2 : w2.cell? ⟨w.heap.size, 2, none⟩ = some (.int .i64 x.tick) := HE2.out.cell 2
    have e3 : w2.cell? ⟨w.heap.size, 3, none⟩ = some (.int .i64 x.kind) := HE2.out.cell 3
    have e4 : w2.cell? ⟨w.heap.size, 4, none⟩ = some (.string x.person) := HE2.out.cell 4
    have e5 : w2.cell? ⟨w.heap.size, 5, none⟩ = some (.string x.item) := HE2.out.cell 5
    have e6 : w2.cell? ⟨w.heap.size, 6, none⟩ = some (.int .i64 x.value) := HE2.out.cell 6
    have e7 : w2.cell? ⟨w.heap.size, 7, none⟩ = some (.string x.text) := HE2.out.cell 7
    have c0 : w2.cell? ⟨cb, 0, none⟩ = some (.bool (!es.isEmpty)) := HI2.out.blk.cell 0
    have c1 : w2.cell? ⟨cb, 1, none⟩ = some (.string last.src) := HI2.out.blk.cell 1
    have c2 : w2.cell? ⟨cb, 2, none⟩ = some (.int .i64 last.num) := HI2.out.blk.cell 2
    have c3 : w2.cell? ⟨cb, 3, none⟩ = some (.int .i64 last.tick) := HI2.out.blk.cell 3
    have c4 : w2.cell? ⟨cb, 4, none⟩ = some (.int .i64 last.kind) := HI2.out.blk.cell 4
    have c5 : w2.cell? ⟨cb, 5, none⟩ = some (.string last.person) := HI2.out.blk.cell 5
    have c6 : w2.cell? ⟨cb, 6, none⟩ = some (.string last.item) := HI2.out.blk.cell 6
    have c7 : w2.cell? ⟨cb, 7, none⟩ = some (.int .i64 last.value) := HI2.out.blk.cell 7
    have c8 : w2.cell? ⟨cb, 8, none⟩ = some (.string last.text) := HI2.out.blk.cell 8
    have HCE := Lib.hid (cmpE_any x last w2.drew)
    unfold evA at HCE
    cases hem : es.isEmpty
    · rw [hem] at c0
      have HL : Hid (bad = decide (cmpE x last ≠ 1)) := Lib.hid (by
        rw [← HBAD.out]
        cases hl : es.getLast? with
        | none => rw [List.getLast?_eq_none_iff] at hl; rw [hl] at hem; cases hem
        | some l => rw [HI2.out.lst l hl])
      clear hem
      refine wp_text [10] (by kernel_rfl) (by kernel_rfl) ?_
      simp only [wpText, Nat.sub_zero, List.take_succ_cons, List.take_zero, List.drop_succ_cons, List.drop_zero, Nat.reduceAdd]
      repeat ((with_reducible refine wpStill_step (fun K hK => ?_)); go_simp; refine hK _ ?_; clear hK K)
      with_reducible refine wpStill_nil ?_
      go_wp2_with fail
      refine HCE.out.mono ?_
      rintro e w3 ⟨rfl, hb3⟩
      have HB3 : Hid (Below w2.heap.size w2 w3) := Lib.hid (below_from 1 hb3)
      clear hb3 HCE
      go_wp2_with fail
      repeat ((with_reducible refine wpStill_step (fun K hK => ?_)); go_simp; refine hK _ ?_; clear hK K)
      (try with_reducible refine wpStill_nil ?_)
      go_wp2_with fail
      go_meet
      exact ⟨by rw [HL.out]; by_cases hq : cmpE x last = 1 <;> simp [hq], HB3⟩
    · rw [hem] at c0
      have HL : Hid (bad = false) := Lib.hid (by
        rw [← HBAD.out]
        rw [List.isEmpty_iff.1 hem]
        rfl)
      clear hem
      go_quiet (fail)
      go_wp2_with fail
      go_meet
      exact ⟨by rw [HL.out], Lib.hid (below_drewN (Below.refl _ _) _)⟩
  case rest =>
  obtain ⟨rfl, HBC⟩ := hcut
  obtain ⟨w3, rfl⟩ : ∃ w3 : World, w3 = wc := ⟨_, rfl⟩
  have HB3 : Hid (Below w.heap.size w w3) := Lib.hid (HB2.out.trans (HBC.out.mono HB2.out.size))
  have HE3 : Hid (Blk w3 w.heap.size 41 (evArr x)) := Lib.hid ((HBC.out.block _ HE2.out.lt).trans HE2.out)
  have HI3 : Hid (CatIn w3 cb mb G last F es) := Lib.hid (HI.out.kept (below_kept (S := fun _ => False) HB3.out (Nat.le_refl _)) (fun _ _ h => h))
  have HG3 : Hid (GlobAt w3) := Lib.hid (HG.out.keep HB3.out (Nat.le_refl _))
  clear HB2 HE2 HI2 HG2 HBC
  cases bad
  rotate_left
  · have HT : Hid (takesB es x = false) := Lib.hid (by rw [HTK2.out]; rfl)
    go_wp2_with fail
    go_ret
    exact ⟨ret_bool HT.out.symm, HNO.out HT.out _ HB3.out⟩
  have HT : Hid (takesB es x = true) := Lib.hid (by rw [HTK2.out]; rfl)
  clear HTK2 HNO HBAD
  go_upto_region 5 with fail
  go_cut [] (fun wx => Hid (Blk wx cb 66 (catCells true x mb)) ∧ Hid (Kept (fun q => q = cb) w3 wx))
  case first =>
    have hne : cb ≠ w.heap.size := by omega
    have hne2 : w.heap.size ≠ cb := by omega
    have e0 : w3.cell? ⟨w.heap.size, 0, none⟩ = some (.string x.src) := HE3.out.cell 0
    have e1 : w3.cell? ⟨w.heap.size, 1, none⟩ = some (.int .i64 x.num) := HE3.out.cell 1
    have e2 : w3.cell? ⟨w.heap.size, 2, none⟩ = some (.int .i64 x.tick) := HE3.out.cell 2
    have e3 : w3.cell? ⟨w.heap.size, 3, none⟩ = some (.int .i64 x.kind) := HE3.out.cell 3
    have e4 : w3.cell? ⟨w.heap.size, 4, none⟩ = some (.string x.person) := HE3.out.cell 4
    have e5 : w3.cell? ⟨w.heap.size, 5, none⟩ = some (.string x.item) := HE3.out.cell 5
    have e6 : w3.cell? ⟨w.heap.size, 6, none⟩ = some (.int .i64 x.value) := HE3.out.cell 6
    have e7 : w3.cell? ⟨w.heap.size, 7, none⟩ = some (.string x.text) := HE3.out.cell 7
    have c0 : w3.cell? ⟨cb, 0, none⟩ = some (.bool (!es.isEmpty)) := HI3.out.blk.cell 0
    have c1 : w3.cell? ⟨cb, 1, none⟩ = some (.string last.src) := HI3.out.blk.cell 1
    have c2 : w3.cell? ⟨cb, 2, none⟩ = some (.int .i64 last.num) := HI3.out.blk.cell 2
    have c3 : w3.cell? ⟨cb, 3, none⟩ = some (.int .i64 last.tick) := HI3.out.blk.cell 3
    have c4 : w3.cell? ⟨cb, 4, none⟩ = some (.int .i64 last.kind) := HI3.out.blk.cell 4
    have c5 : w3.cell? ⟨cb, 5, none⟩ = some (.string last.person) := HI3.out.blk.cell 5
    have c6 : w3.cell? ⟨cb, 6, none⟩ = some (.string last.item) := HI3.out.blk.cell 6
    have c7 : w3.cell? ⟨cb, 7, none⟩ = some (.int .i64 last.value) := HI3.out.blk.cell 7
    have c8 : w3.cell? ⟨cb, 8, none⟩ = some (.string last.text) := HI3.out.blk.cell 8
    have f0 : w3.frozen? ⟨cb, 0, none⟩ = false := HI3.out.blk.frozen 0
    have f1 : w3.frozen? ⟨cb, 1, none⟩ = false := HI3.out.blk.frozen 1
    have f2 : w3.frozen? ⟨cb, 2, none⟩ = false := HI3.out.blk.frozen 2
    have f3 : w3.frozen? ⟨cb, 3, none⟩ = false := HI3.out.blk.frozen 3
    have f4 : w3.frozen? ⟨cb, 4, none⟩ = false := HI3.out.blk.frozen 4
    have f5 : w3.frozen? ⟨cb, 5, none⟩ = false := HI3.out.blk.frozen 5
    have f6 : w3.frozen? ⟨cb, 6, none⟩ = false := HI3.out.blk.frozen 6
    have f7 : w3.frozen? ⟨cb, 7, none⟩ = false := HI3.out.blk.frozen 7
    have f8 : w3.frozen? ⟨cb, 8, none⟩ = false := HI3.out.blk.frozen 8
    have ha : EvAt w3 w.heap.size 0 x := ⟨e0, e1, e2, e3, e4, e5, e6, e7⟩
    have HKP : Hid (World.cell? (w3.setCell ⟨cb, 0, none⟩ (.bool true)).drew ⟨w.heap.size, 0, none⟩ = some (.string x.src) ∧ World.cell? (w3.setCell ⟨cb, 0, none⟩ (.bool true)).drew ⟨w.heap.size, 1, none⟩ = some (.int .i64 x.num) ∧ World.cell? (w3.setCell ⟨cb, 0, none⟩ (.bool true)).drew ⟨w.heap.size, 2, none⟩ = some (.int .i64 x.tick) ∧ World.cell? (w3.setCell ⟨cb, 0, none⟩ (.bool true)).drew ⟨w.heap.size, 3, none⟩ = some (.int .i64 x.kind) ∧ World.cell? (w3.setCell ⟨cb, 0, none⟩ (.bool true)).drew ⟨w.heap.size, 4, none⟩ = some (.string x.person) ∧ World.cell? (w3.setCell ⟨cb, 0, none⟩ (.bool true)).drew ⟨w.heap.size, 5, none⟩ = some (.string x.item) ∧ World.cell? (w3.setCell ⟨cb, 0, none⟩ (.bool true)).drew ⟨w.heap.size, 6, none⟩ = some (.int .i64 x.value) ∧ World.cell? (w3.setCell ⟨cb, 0, none⟩ (.bool true)).drew ⟨w.heap.size, 7, none⟩ = some (.string x.text)) := Lib.hid (ev_drew (ha.keep (fun j => World.cell?_setCell_far w3 ⟨cb, 0, none⟩ ⟨w.heap.size, j, none⟩ _ hne)))
    have HKQ : Hid (World.cell? (((((((((w3.setCell ⟨cb, 0, none⟩ (.bool true)).setCell ⟨cb, 1, none⟩ (.string x.src)).setCell ⟨cb, 2, none⟩ (.int .i64 x.num)).setCell ⟨cb, 3, none⟩ (.int .i64 x.tick)).setCell ⟨cb, 4, none⟩ (.int .i64 x.kind)).setCell ⟨cb, 5, none⟩ (.string x.person)).setCell ⟨cb, 6, none⟩ (.string x.item)).setCell ⟨cb, 7, none⟩ (.int .i64 x.value)).setCell ⟨cb, 8, none⟩ (.string x.text)).drew ⟨w.heap.size, 0, none⟩ = some (.string x.src) ∧ World.cell? (((((((((w3.setCell ⟨cb, 0, none⟩ (.bool true)).setCell ⟨cb, 1, none⟩ (.string x.src)).setCell ⟨cb, 2, none⟩ (.int .i64 x.num)).setCell ⟨cb, 3, none⟩ (.int .i64 x.tick)).setCell ⟨cb, 4, none⟩ (.int .i64 x.kind)).setCell ⟨cb, 5, none⟩ (.string x.person)).setCell ⟨cb, 6, none⟩ (.string x.item)).setCell ⟨cb, 7, none⟩ (.int .i64 x.value)).setCell ⟨cb, 8, none⟩ (.string x.text)).drew ⟨w.heap.size, 1, none⟩ = some (.int .i64 x.num) ∧ World.cell? (((((((((w3.setCell ⟨cb, 0, none⟩ (.bool true)).setCell ⟨cb, 1, none⟩ (.string x.src)).setCell ⟨cb, 2, none⟩ (.int .i64 x.num)).setCell ⟨cb, 3, none⟩ (.int .i64 x.tick)).setCell ⟨cb, 4, none⟩ (.int .i64 x.kind)).setCell ⟨cb, 5, none⟩ (.string x.person)).setCell ⟨cb, 6, none⟩ (.string x.item)).setCell ⟨cb, 7, none⟩ (.int .i64 x.value)).setCell ⟨cb, 8, none⟩ (.string x.text)).drew ⟨w.heap.size, 2, none⟩ = some (.int .i64 x.tick) ∧ World.cell? (((((((((w3.setCell ⟨cb, 0, none⟩ (.bool true)).setCell ⟨cb, 1, none⟩ (.string x.src)).setCell ⟨cb, 2, none⟩ (.int .i64 x.num)).setCell ⟨cb, 3, none⟩ (.int .i64 x.tick)).setCell ⟨cb, 4, none⟩ (.int .i64 x.kind)).setCell ⟨cb, 5, none⟩ (.string x.person)).setCell ⟨cb, 6, none⟩ (.string x.item)).setCell ⟨cb, 7, none⟩ (.int .i64 x.value)).setCell ⟨cb, 8, none⟩ (.string x.text)).drew ⟨w.heap.size, 3, none⟩ = some (.int .i64 x.kind) ∧ World.cell? (((((((((w3.setCell ⟨cb, 0, none⟩ (.bool true)).setCell ⟨cb, 1, none⟩ (.string x.src)).setCell ⟨cb, 2, none⟩ (.int .i64 x.num)).setCell ⟨cb, 3, none⟩ (.int .i64 x.tick)).setCell ⟨cb, 4, none⟩ (.int .i64 x.kind)).setCell ⟨cb, 5, none⟩ (.string x.person)).setCell ⟨cb, 6, none⟩ (.string x.item)).setCell ⟨cb, 7, none⟩ (.int .i64 x.value)).setCell ⟨cb, 8, none⟩ (.string x.text)).drew ⟨w.heap.size, 4, none⟩ = some (.string x.person) ∧ World.cell? (((((((((w3.setCell ⟨cb, 0, none⟩ (.bool true)).setCell ⟨cb, 1, none⟩ (.string x.src)).setCell ⟨cb, 2, none⟩ (.int .i64 x.num)).setCell ⟨cb, 3, none⟩ (.int .i64 x.tick)).setCell ⟨cb, 4, none⟩ (.int .i64 x.kind)).setCell ⟨cb, 5, none⟩ (.string x.person)).setCell ⟨cb, 6, none⟩ (.string x.item)).setCell ⟨cb, 7, none⟩ (.int .i64 x.value)).setCell ⟨cb, 8, none⟩ (.string x.text)).drew ⟨w.heap.size, 5, none⟩ = some (.string x.item) ∧ World.cell? (((((((((w3.setCell ⟨cb, 0, none⟩ (.bool true)).setCell ⟨cb, 1, none⟩ (.string x.src)).setCell ⟨cb, 2, none⟩ (.int .i64 x.num)).setCell ⟨cb, 3, none⟩ (.int .i64 x.tick)).setCell ⟨cb, 4, none⟩ (.int .i64 x.kind)).setCell ⟨cb, 5, none⟩ (.string x.person)).setCell ⟨cb, 6, none⟩ (.string x.item)).setCell ⟨cb, 7, none⟩ (.int .i64 x.value)).setCell ⟨cb, 8, none⟩ (.string x.text)).drew ⟨w.heap.size, 6, none⟩ = some (.int .i64 x.value) ∧ World.cell? (((((((((w3.setCell ⟨cb, 0, none⟩ (.bool true)).setCell ⟨cb, 1, none⟩ (.string x.src)).setCell ⟨cb, 2, none⟩ (.int .i64 x.num)).setCell ⟨cb, 3, none⟩ (.int .i64 x.tick)).setCell ⟨cb, 4, none⟩ (.int .i64 x.kind)).setCell ⟨cb, 5, none⟩ (.string x.person)).setCell ⟨cb, 6, none⟩ (.string x.item)).setCell ⟨cb, 7, none⟩ (.int .i64 x.value)).setCell ⟨cb, 8, none⟩ (.string x.text)).drew ⟨w.heap.size, 7, none⟩ = some (.string x.text)) := Lib.hid (ev_drew (W := (((((((((w3.setCell ⟨cb, 0, none⟩ (.bool true)).setCell ⟨cb, 1, none⟩ (.string x.src)).setCell ⟨cb, 2, none⟩ (.int .i64 x.num)).setCell ⟨cb, 3, none⟩ (.int .i64 x.tick)).setCell ⟨cb, 4, none⟩ (.int .i64 x.kind)).setCell ⟨cb, 5, none⟩ (.string x.person)).setCell ⟨cb, 6, none⟩ (.string x.item)).setCell ⟨cb, 7, none⟩ (.int .i64 x.value)).setCell ⟨cb, 8, none⟩ (.string x.text))) (setEv_ev ha HE3.out.lt hne2))
    have HKR : Hid (World.cell? w3.drew ⟨w.heap.size, 0, none⟩ = some (.string x.src) ∧ World.cell? w3.drew ⟨w.heap.size, 1, none⟩ = some (.int .i64 x.num) ∧ World.cell? w3.drew ⟨w.heap.size, 2, none⟩ = some (.int .i64 x.tick) ∧ World.cell? w3.drew ⟨w.heap.size, 3, none⟩ = some (.int .i64 x.kind) ∧ World.cell? w3.drew ⟨w.heap.size, 4, none⟩ = some (.string x.person) ∧ World.cell? w3.drew ⟨w.heap.size, 5, none⟩ = some (.string x.item) ∧ World.cell? w3.drew ⟨w.heap.size, 6, none⟩ = some (.int .i64 x.value) ∧ World.cell? w3.drew ⟨w.heap.size, 7, none⟩ = some (.string x.text)) := Lib.hid (ev_drew ha)
    clear ha
    go_region_held3 (fun W => World.cell? W ⟨w.heap.size, 0, none⟩ = some (.string x.src) ∧ World.cell? W ⟨w.heap.size, 1, none⟩ = some (.int .i64 x.num) ∧ World.cell? W ⟨w.heap.size, 2, none⟩ = some (.int .i64 x.tick) ∧ World.cell? W ⟨w.heap.size, 3, none⟩ = some (.int .i64 x.kind) ∧ World.cell? W ⟨w.heap.size, 4, none⟩ = some (.string x.person) ∧ World.cell? W ⟨w.heap.size, 5, none⟩ = some (.string x.item) ∧ World.cell? W ⟨w.heap.size, 6, none⟩ = some (.int .i64 x.value) ∧ World.cell? W ⟨w.heap.size, 7, none⟩ = some (.string x.text))
      (first | with_reducible exact HKR.out | with_reducible exact HKP.out | with_reducible exact HKQ.out)
      (first | fail)
    go_wp2_with fail
    go_meet
    exact ⟨Lib.hid (setEv_blk HI3.out.blk x).drew, Lib.hid ((Kept.refl (fun q => q = cb) w3).trans (setEv_kept w3 cb x)).drew⟩
  case rest =>
  obtain ⟨HC4, HK4⟩ := hcut
  obtain ⟨w4, rfl⟩ : ∃ w4 : World, w4 = wc := ⟨_, rfl⟩
  have HE4 : Hid (Blk w4 w.heap.size 41 (evArr x)) := Lib.hid (HE3.out.kept HK4.out (by omega))
  have hmc : mb ≠ cb := HI3.out.map.ne_blk HI3.out.blk
  have HM4 : Hid (MapIs Tryz.prog 9 okSl w4 mb es.length (mapG G)) := Lib.hid (HI3.out.map.kept HK4.out hmc)
  have HS4 : Hid (w3.heap.size ≤ w4.heap.size) := Lib.hid HK4.out.size
  have HS3 : Hid (w.heap.size < w3.heap.size) := Lib.hid HE3.out.lt
  have hls : w.heap.size < w4.heap.size := Nat.lt_of_lt_of_le HS3.out HS4.out
  have hlc : cb < w4.heap.size := by omega
  have HK40 : Hid (Kept (fun q => q = cb) w w4) := Lib.hid ((below_kept HB3.out (Nat.le_refl _)).trans HK4.out)
  obtain ⟨A0, N, cap0, HGV, HN, HOW, HBK⟩ : ∃ A0 N cap0, Hid ((G x.item).getD (.slice none 0 0) = .slice A0 N cap0) ∧ Hid ((rowOf es x.item).length = N) ∧ Hid (w4.ownsRow 0 72 9 (.slice A0 N cap0) N ((rowOf es x.item).flatMap stC)) ∧ Hid (∀ g, (Value.slice A0 N cap0).ownBlock = some g → F g ∧ g ≠ cb ∧ g ≠ mb) := by
    by_cases hr : rowOf es x.item = []
    · exact ⟨none, 0, 0, Lib.hid (by rw [HI.out.none_ _ hr]; rfl), Lib.hid (by rw [hr]; rfl), Lib.hid (by rw [hr]; exact own_nil _ _ _ _), Lib.hid (fun g hg => by cases hg)⟩
    · obtain ⟨g, cap, h1, h2, h3, h4, h5⟩ := HI3.out.some_ _ hr
      refine ⟨_, _, _, Lib.hid (by rw [h1]; rfl), Lib.hid rfl, Lib.hid (owns_kept h2 HK4.out (fun g' hg => ?_)), Lib.hid (fun g' hg => ?_)⟩
      · cases hg; exact h4
      · cases hg; exact ⟨h3, h4, h5⟩
  have hNb : N ≤ 1000000 := by have := rowOf_le es x.item; rw [HN.out] at this; omega
  have hlk := fun q => (HM4.out.drewN q).look (string_keyed Tryz.underlying9) Tryz.underlying64 (zeroSl (w4.drewN q)) rfl (WideMaps.keyOf_string_mk Tryz.underlying9 (s := x.item) (by unfold maxLen; have := HX.out; omega))
  simp only [mapG_at, HGV.out] at hlk
  have c9 : w4.cell? ⟨cb, 9, none⟩ = some (.map (some mb)) := HC4.out.cell 9
  have e5 : w4.cell? ⟨w.heap.size, 5, none⟩ = some (.string x.item) := HE4.out.cell 5
  go_wp2_with fail
  go_quiet (fail)
  clear hlk e5 c9
  obtain ⟨w5, hw5⟩ : ∃ w5, w4.drewN nq = w5 := ⟨_, rfl⟩
  rw [hw5]
  have HE5 : Hid (Blk w5 w.heap.size 41 (evArr x)) := Lib.hid (by rw [← hw5]; exact HE4.out.drewN _)
  have HC5 : Hid (Blk w5 cb 66 (catCells true x mb)) := Lib.hid (by rw [← hw5]; exact HC4.out.drewN _)
  have HM5 : Hid (MapIs Tryz.prog 9 okSl w5 mb es.length (mapG G)) := Lib.hid (by rw [← hw5]; exact HM4.out.drewN _)
  have HO5 : Hid (w5.ownsRow 0 72 9 (.slice A0 N cap0) N ((rowOf es x.item).flatMap stC)) := Lib.hid (by rw [← hw5]; exact HOW.out)
  have HK5 : Hid (Kept (fun q => q = cb) w w5) := Lib.hid (by rw [← hw5]; exact HK40.out.drewN _)
  have hz5 : w5.heap.size = w4.heap.size := by rw [← hw5]; rfl
  rw [← hz5] at hls hlc
  clear HE4 HC4 HM4 HOW HK40 HK4 hw5 hz5 HS4 HS3
  have e5 : w5.cell? ⟨w.heap.size, 5, none⟩ = some (.string x.item) := HE5.out.cell 5
  go_upto_if 58 with fail
  generalize hs0 : (rowOf es x.item).getLast?.getD (st0 x.item) = s0
  have HS0 := Lib.hid hs0
  clear hs0
  go_cut [] (fun wx => Hid (Blk wx w5.heap.size 72 (stArr s0)) ∧ Hid (Below w5.heap.size w5 wx) ∧ Hid (wx.heap.size = w5.heap.size + 1))
  case first =>
    by_cases h0 : N = 0
    · have HR : Hid (s0 = st0 x.item) := Lib.hid (by
        have := HN.out
        rw [h0] at this
        rw [← HS0.out, List.eq_nil_of_length_eq_zero this]; rfl)
      subst h0
      go_wp2_with fail
      go_meet
      refine ⟨Lib.hid ?_, Lib.hid ((Below.refl _ _).alloc (Nat.le_refl _) _), Lib.hid (by simp)⟩
      rw [HR.out]
      exact Blk.new _ _ _
    · obtain ⟨s, hs⟩ : ∃ s, (rowOf es x.item)[N - 1]? = some s := ⟨(rowOf es x.item)[N - 1]'(by rw [HN.out]; omega), List.getElem?_eq_getElem _⟩
      have HR : Hid (s0 = s) := Lib.hid (by rw [← HS0.out, List.getLast?_eq_getElem?, HN.out, hs]; rfl)
      obtain ⟨g, cap, hv, _, hgl⟩ := HO5.out.form (by omega)
      injection hv with hA _ hC
      subst hA
      subst hC
      obtain ⟨b0, b1, b2, b3, b4, b5, b6, b7, b8⟩ := own_st HO5.out _ s hs
      have hd : decide ((0 : Int) < (N : Int)) = true := decide_eq_true (by omega)
      have hk1 : (0 : Int) ≤ (N : Int) - 1 := by omega
      have hk2 : (N : Int) - 1 < (N : Int) := by omega
      have hk3 : ((N : Int) - 1).toNat = N - 1 := by omega
      clear h0 hs
      go_wp2_with fail
      go_meet
      refine ⟨Lib.hid ?_, Lib.hid ((Below.refl _ _).alloc (Nat.le_refl _) _), Lib.hid (by simp)⟩
      rw [HR.out]
      exact Blk.new _ _ _
  case rest =>
  obtain ⟨HB6, HL6, HZ6⟩ := hcut
  obtain ⟨w6, rfl⟩ : ∃ w6 : World, w6 = wc := ⟨_, rfl⟩
  have hkk := HKD.out
  have HE6 : Hid (Blk w6 w.heap.size 41 (evArr x)) := Lib.hid ((HL6.out.block _ hls).trans HE5.out)
  have hgl0 : 1 < w.heap.size := HG.out.1
  have HG6 : Hid (GlobAt w6) := Lib.hid ((HG.out.kept HK5.out (fun i hi e => hgf i hi (by rw [e]; exact HI.out.fc))).keep HL6.out (Nat.le_refl _))
  clear HB3 HE3 HI3 HG3 e5
  obtain ⟨sb, hsb⟩ : ∃ sb, w5.heap.size = sb := ⟨_, rfl⟩
  rw [hsb] at HB6 HL6 HZ6 hls hlc ⊢
  have HSB := Lib.hid hsb
  clear hsb
  have hes : w.heap.size ≠ sb := by omega
  have hse : sb ≠ w.heap.size := by omega
  have e2 : w6.cell? ⟨w.heap.size, 2, none⟩ = some (.int .i64 x.tick) := HE6.out.cell 2
  have e3 : w6.cell? ⟨w.heap.size, 3, none⟩ = some (.int .i64 x.kind) := HE6.out.cell 3
  have e6 : w6.cell? ⟨w.heap.size, 6, none⟩ = some (.int .i64 x.value) := HE6.out.cell 6
  have e7 : w6.cell? ⟨w.heap.size, 7, none⟩ = some (.string x.text) := HE6.out.cell 7
  have b0 : w6.cell? ⟨sb, 0, none⟩ = some (.int .i64 s0.tick) := HB6.out.cell 0
  have b1 : w6.cell? ⟨sb, 1, none⟩ = some (.bool s0.isborn) := HB6.out.cell 1
  have b2 : w6.cell? ⟨sb, 2, none⟩ = some (.string s0.item.name) := HB6.out.cell 2
  have b3 : w6.cell? ⟨sb, 3, none⟩ = some (.string s0.item.maker) := HB6.out.cell 3
  have b4 : w6.cell? ⟨sb, 4, none⟩ = some (.string s0.item.tags) := HB6.out.cell 4
  have b5 : w6.cell? ⟨sb, 5, none⟩ = some (.int .i64 s0.item.stock) := HB6.out.cell 5
  have b6 : w6.cell? ⟨sb, 6, none⟩ = some (.int .i64 s0.item.price) := HB6.out.cell 6
  have b7 : w6.cell? ⟨sb, 7, none⟩ = some (.int .i64 s0.item.born) := HB6.out.cell 7
  have b8 : w6.cell? ⟨sb, 8, none⟩ = some (.bool s0.item.listed) := HB6.out.cell 8
  have f0 : w6.frozen? ⟨sb, 0, none⟩ = false := HB6.out.frozen 0
  have f1 : w6.frozen? ⟨sb, 1, none⟩ = false := HB6.out.frozen 1
  have f2 : w6.frozen? ⟨sb, 2, none⟩ = false := HB6.out.frozen 2
  have f3 : w6.frozen? ⟨sb, 3, none⟩ = false := HB6.out.frozen 3
  have f4 : w6.frozen? ⟨sb, 4, none⟩ = false := HB6.out.frozen 4
  have f5 : w6.frozen? ⟨sb, 5, none⟩ = false := HB6.out.frozen 5
  have f6 : w6.frozen? ⟨sb, 6, none⟩ = false := HB6.out.frozen 6
  have f7 : w6.frozen? ⟨sb, 7, none⟩ = false := HB6.out.frozen 7
  have f8 : w6.frozen? ⟨sb, 8, none⟩ = false := HB6.out.frozen 8
  have HX3 := Lib.hid hxt
  clear hkk
  go_upto_block 0 with fail
  go_cut [] (fun wx => Hid (Blk wx sb 72 (stArr (stepSt s0 x))) ∧ Hid (Below sb w6 wx) ∧ Hid (wx.heap.size = w6.heap.size))
  case first =>
    rcases HKD.out with hk | hk | hk
    · have k1 : (x.kind == 11) = true := by rw [hk]; rfl
      have HKK := Lib.hid hk
      have HGW : Hid (GlobAt ((w6.setCell ⟨sb, 0, none⟩ (.int .i64 x.tick)).setCell ⟨sb, 8, none⟩ (.bool true))) := Lib.hid ((HG6.out.kept ((Kept.refl (fun q => q = sb) w6).setCell (p := ⟨sb, 0, none⟩) (Or.inl rfl) _) (fun i hi e => by omega)).kept ((Kept.refl (fun q => q = sb) _).setCell (p := ⟨sb, 8, none⟩) (Or.inl rfl) _) (fun i hi e => by omega))
      have HCU := Lib.hid (cut_any x.text _ (by have := HX3.out; omega) HGW.out)
      clear hk
      go_wp2_with fail
      refine HCU.out.mono ?_
      rintro e w7 ⟨rfl, q7, hw7⟩
      have HB7 : Hid (Blk w7 sb 72 (((stArr s0).setIfInBounds 0 (.int .i64 x.tick)).setIfInBounds 8 (.bool true))) := Lib.hid (by rw [hw7]; exact ((HB6.out.set_ 0 _).set_ 8 _).drewN _)
      have HL7 : Hid (Below sb w6 w7) := Lib.hid (by rw [hw7]; exact below_drewN (((Below.refl sb w6).setCell (p := ⟨sb, 0, none⟩) (Nat.le_refl _) _).setCell (p := ⟨sb, 8, none⟩) (Nat.le_refl _) _) _)
      have HZ7 : Hid (w7.heap.size = w6.heap.size) := Lib.hid (by rw [hw7]; simp [World.setCell])
      clear hw7 HCU HGW b0 b1 b2 b3 b4 b5 b6 b7 b8 f0 f1 f2 f3 f4 f5 f6 f7 f8 e2 e3 e6 e7
      have e2 : w7.cell? ⟨w.heap.size, 2, none⟩ = some (.int .i64 x.tick) := (HL7.out.cell (p := ⟨w.heap.size, 2, none⟩) hls).trans (HE6.out.cell 2)
      have e6 : w7.cell? ⟨w.heap.size, 6, none⟩ = some (.int .i64 x.value) := (HL7.out.cell (p := ⟨w.heap.size, 6, none⟩) hls).trans (HE6.out.cell 6)
      have b1 : w7.cell? ⟨sb, 1, none⟩ = some (.bool s0.isborn) := HB7.out.cell 1
      have b3 : w7.cell? ⟨sb, 3, none⟩ = some (.string s0.item.maker) := HB7.out.cell 3
      have b4 : w7.cell? ⟨sb, 4, none⟩ = some (.string s0.item.tags) := HB7.out.cell 4
      have b6 : w7.cell? ⟨sb, 6, none⟩ = some (.int .i64 s0.item.price) := HB7.out.cell 6
      have b7 : w7.cell? ⟨sb, 7, none⟩ = some (.int .i64 s0.item.born) := HB7.out.cell 7
      have f1 : w7.frozen? ⟨sb, 1, none⟩ = false := HB7.out.frozen 1
      have f3 : w7.frozen? ⟨sb, 3, none⟩ = false := HB7.out.frozen 3
      have f4 : w7.frozen? ⟨sb, 4, none⟩ = false := HB7.out.frozen 4
      have f6 : w7.frozen? ⟨sb, 6, none⟩ = false := HB7.out.frozen 6
      have f7 : w7.frozen? ⟨sb, 7, none⟩ = false := HB7.out.frozen 7
      cases hbn : s0.isborn
      · rw [hbn] at b1
        have HBN := Lib.hid hbn
        clear hbn
        go_wp2_with fail
        go_region
        all_goals
          go_wp2_with fail
          go_meet
          refine ⟨Lib.hid ?_, Lib.hid ?_, Lib.hid ?_⟩
          · rw [← step11f HKK.out HBN.out]
            exact (((((HB7.out.set_ 3 _).set_ 4 _).set_ 6 _).set_ 1 _).set_ 7 _).drew
          · exact (((((HL7.out.setCell (p := ⟨sb, 3, none⟩) (Nat.le_refl _) _).setCell (p := ⟨sb, 4, none⟩) (Nat.le_refl _) _).setCell (p := ⟨sb, 6, none⟩) (Nat.le_refl _) _).setCell (p := ⟨sb, 1, none⟩) (Nat.le_refl _) _).setCell (p := ⟨sb, 7, none⟩) (Nat.le_refl _) _).drew
          · simp [World.setCell, World.drew, HZ7.out]
      · rw [hbn] at b1
        have HBN := Lib.hid hbn
        clear hbn
        go_wp2_with fail
        go_meet
        refine ⟨Lib.hid ?_, Lib.hid ?_, Lib.hid ?_⟩
        · rw [← step11t HKK.out HBN.out]
          exact ((HB7.out.set_ 3 _).set_ 4 _).set_ 6 _
        · exact ((HL7.out.setCell (p := ⟨sb, 3, none⟩) (Nat.le_refl _) _).setCell (p := ⟨sb, 4, none⟩) (Nat.le_refl _) _).setCell (p := ⟨sb, 6, none⟩) (Nat.le_refl _) _
        · simp [World.setCell, HZ7.out]
    · have k1 : (x.kind == 11) = false := by rw [hk]; rfl
      have k2 : (x.kind == 12) = true := by rw [hk]; rfl
      have HKK := Lib.hid hk
      clear hk
      go_wp2_with fail
      go_meet
      refine ⟨Lib.hid ?_, Lib.hid ?_, Lib.hid ?_⟩
      · rw [← step12 HKK.out]
        exact (HB6.out.set_ 0 _).set_ 5 _
      · exact ((Below.refl sb w6).setCell (p := ⟨sb, 0, none⟩) (Nat.le_refl _) _).setCell (p := ⟨sb, 5, none⟩) (Nat.le_refl _) _
      · simp [World.setCell]
    · have k1 : (x.kind == 11) = false := by rw [hk]; rfl
      have k2 : (x.kind == 12) = false := by rw [hk]; rfl
      have k3 : (x.kind == 13) = true := by rw [hk]; rfl
      have HKK := Lib.hid hk
      clear hk
      go_wp2_with fail
      go_meet
      refine ⟨Lib.hid ?_, Lib.hid ?_, Lib.hid ?_⟩
      · rw [← step13 HKK.out]
        exact (HB6.out.set_ 0 _).set_ 8 _
      · exact ((Below.refl sb w6).setCell (p := ⟨sb, 0, none⟩) (Nat.le_refl _) _).setCell (p := ⟨sb, 8, none⟩) (Nat.le_refl _) _
      · simp [World.setCell]
  case rest =>
  obtain ⟨HB8, HL8, HZ8⟩ := hcut
  obtain ⟨w8, rfl⟩ : ∃ w8 : World, w8 = wc := ⟨_, rfl⟩
  clear b0 b1 b2 b3 b4 b5 b6 b7 b8 f0 f1 f2 f3 f4 f5 f6 f7 f8 e2 e3 e6 e7
  generalize hst0 : stepSt s0 x = st at HB8
  have HST0 := Lib.hid hst0
  clear hst0 hb hxt
  have HB58 : Hid (Below sb w5 w8) := Lib.hid (HL6.out.trans HL8.out)
  have HZ8' : Hid (w8.heap.size = sb + 1) := Lib.hid (by rw [HZ8.out, HZ6.out])
  have HC8 : Hid (Blk w8 cb 66 (catCells true x mb)) := Lib.hid ((HB58.out.block _ hlc).trans HC5.out)
  have HE8 : Hid (Blk w8 w.heap.size 41 (evArr x)) := Lib.hid ((HB58.out.block _ hls).trans HE5.out)
  have hmw : mb < w.heap.size := HI.out.lt _ HI.out.fm
  have HK58 : Hid (Kept (fun _ => False) w5 w8) := Lib.hid (below_kept HB58.out (by rw [HSB.out]; exact Nat.le_refl _))
  have HM8 : Hid (MapIs Tryz.prog 9 okSl w8 mb es.length (mapG G)) := Lib.hid (HM5.out.kept HK58.out (fun h => h))
  have HO8 : Hid (w8.ownsRow 0 72 9 (.slice A0 N cap0) N ((rowOf es x.item).flatMap stC)) := Lib.hid (owns_kept HO5.out HK58.out (fun _ _ h => h))
  have HGL : Hid (∀ g, (Value.slice A0 N cap0).ownBlock = some g → g < w.heap.size) := Lib.hid (fun g hg => HI.out.lt _ (HBK.out g hg).1)
  have R1 : Hid (some cb ≠ (Value.slice A0 N cap0).ownBlock) := Lib.hid (fun e => (HBK.out cb e.symm).2.1 rfl)
  have R2 : Hid (some w.heap.size ≠ (Value.slice A0 N cap0).ownBlock) := Lib.hid (fun e => by have := HGL.out _ e.symm; omega)
  have R3 : Hid (some sb ≠ (Value.slice A0 N cap0).ownBlock) := Lib.hid (fun e => by have := HGL.out _ e.symm; omega)
  have R4 : Hid (some mb ≠ (Value.slice A0 N cap0).ownBlock) := Lib.hid (fun e => (HBK.out mb e.symm).2.2 rfl)
  have R5 : Hid (some cb ≠ some mb) := Lib.hid (fun e => hmc (Option.some.inj e).symm)
  have R6 : Hid (some w.heap.size ≠ some mb) := Lib.hid (fun e => by have := Option.some.inj e; omega)
  have R7 : Hid (some sb ≠ some mb) := Lib.hid (fun e => by have := Option.some.inj e; omega)
  have HA0 : Hid (ApS w8 cb mb w.heap.size sb x.item st) := Lib.hid ⟨HC8.out.cell 9, HE8.out.cell 5, HB8.out.cell 0, HB8.out.cell 1, HB8.out.cell 2, HB8.out.cell 3, HB8.out.cell 4, HB8.out.cell 5, HB8.out.cell 6, HB8.out.cell 7, HB8.out.cell 8⟩
  have HGR : Hid (w8.grownBy w8.drew none) := Lib.hid ⟨rfl, rfl, rfl, Nat.le_refl _, fun _ _ _ => rfl⟩
  have HKR : Hid (World.cell? w8.drew ⟨cb, 9, none⟩ = some (.map (some mb)) ∧ World.cell? w8.drew ⟨w.heap.size, 5, none⟩ = some (.string x.item) ∧ World.cell? w8.drew ⟨sb, 0, none⟩ = some (.int .i64 st.tick) ∧ World.cell? w8.drew ⟨sb, 1, none⟩ = some (.bool st.isborn) ∧ World.cell? w8.drew ⟨sb, 2, none⟩ = some (.string st.item.name) ∧ World.cell? w8.drew ⟨sb, 3, none⟩ = some (.string st.item.maker) ∧ World.cell? w8.drew ⟨sb, 4, none⟩ = some (.string st.item.tags) ∧ World.cell? w8.drew ⟨sb, 5, none⟩ = some (.int .i64 st.item.stock) ∧ World.cell? w8.drew ⟨sb, 6, none⟩ = some (.int .i64 st.item.price) ∧ World.cell? w8.drew ⟨sb, 7, none⟩ = some (.int .i64 st.item.born) ∧ World.cell? w8.drew ⟨sb, 8, none⟩ = some (.bool st.item.listed)) := Lib.hid (HA0.out.keep HGR.out hlc hls (by rw [HZ8'.out]; omega) (by simp) (by simp) (by simp))
  have HKA : Hid (World.cell? (w8.alloc (.cells #[.int .i64 st.tick, .bool st.isborn, .string st.item.name, .string st.item.maker, .string st.item.tags, .int .i64 st.item.stock, .int .i64 st.item.price, .int .i64 st.item.born, .bool st.item.listed] 72)).drew ⟨cb, 9, none⟩ = some (.map (some mb)) ∧ World.cell? (w8.alloc (.cells #[.int .i64 st.tick, .bool st.isborn, .string st.item.name, .string st.item.maker, .string st.item.tags, .int .i64 st.item.stock, .int .i64 st.item.price, .int .i64 st.item.born, .bool st.item.listed] 72)).drew ⟨w.heap.size, 5, none⟩ = some (.string x.item) ∧ World.cell? (w8.alloc (.cells #[.int .i64 st.tick, .bool st.isborn, .string st.item.name, .string st.item.maker, .string st.item.tags, .int .i64 st.item.stock, .int .i64 st.item.price, .int .i64 st.item.born, .bool st.item.listed] 72)).drew ⟨sb, 0, none⟩ = some (.int .i64 st.tick) ∧ World.cell? (w8.alloc (.cells #[.int .i64 st.tick, .bool st.isborn, .string st.item.name, .string st.item.maker, .string st.item.tags, .int .i64 st.item.stock, .int .i64 st.item.price, .int .i64 st.item.born, .bool st.item.listed] 72)).drew ⟨sb, 1, none⟩ = some (.bool st.isborn) ∧ World.cell? (w8.alloc (.cells #[.int .i64 st.tick, .bool st.isborn, .string st.item.name, .string st.item.maker, .string st.item.tags, .int .i64 st.item.stock, .int .i64 st.item.price, .int .i64 st.item.born, .bool st.item.listed] 72)).drew ⟨sb, 2, none⟩ = some (.string st.item.name) ∧ World.cell? (w8.alloc (.cells #[.int .i64 st.tick, .bool st.isborn, .string st.item.name, .string st.item.maker, .string st.item.tags, .int .i64 st.item.stock, .int .i64 st.item.price, .int .i64 st.item.born, .bool st.item.listed] 72)).drew ⟨sb, 3, none⟩ = some (.string st.item.maker) ∧ World.cell? (w8.alloc (.cells #[.int .i64 st.tick, .bool st.isborn, .string st.item.name, .string st.item.maker, .string st.item.tags, .int .i64 st.item.stock, .int .i64 st.item.price, .int .i64 st.item.born, .bool st.item.listed] 72)).drew ⟨sb, 4, none⟩ = some (.string st.item.tags) ∧ World.cell? (w8.alloc (.cells #[.int .i64 st.tick, .bool st.isborn, .string st.item.name, .string st.item.maker, .string st.item.tags, .int .i64 st.item.stock, .int .i64 st.item.price, .int .i64 st.item.born, .bool st.item.listed] 72)).drew ⟨sb, 5, none⟩ = some (.int .i64 st.item.stock) ∧ World.cell? (w8.alloc (.cells #[.int .i64 st.tick, .bool st.isborn, .string st.item.name, .string st.item.maker, .string st.item.tags, .int .i64 st.item.stock, .int .i64 st.item.price, .int .i64 st.item.born, .bool st.item.listed] 72)).drew ⟨sb, 6, none⟩ = some (.int .i64 st.item.price) ∧ World.cell? (w8.alloc (.cells #[.int .i64 st.tick, .bool st.isborn, .string st.item.name, .string st.item.maker, .string st.item.tags, .int .i64 st.item.stock, .int .i64 st.item.price, .int .i64 st.item.born, .bool st.item.listed] 72)).drew ⟨sb, 7, none⟩ = some (.int .i64 st.item.born) ∧ World.cell? (w8.alloc (.cells #[.int .i64 st.tick, .bool st.isborn, .string st.item.name, .string st.item.maker, .string st.item.tags, .int .i64 st.item.stock, .int .i64 st.item.price, .int .i64 st.item.born, .bool st.item.listed] 72)).drew ⟨sb, 8, none⟩ = some (.bool st.item.listed)) := Lib.hid (HA0.out.keep (W' := (w8.alloc (.cells #[.int .i64 st.tick, .bool st.isborn, .string st.item.name, .string st.item.maker, .string st.item.tags, .int .i64 st.item.stock, .int .i64 st.item.price, .int .i64 st.item.born, .bool st.item.listed] 72)).drew) (row := none) ⟨rfl, rfl, rfl, by simp [World.drew], fun k hk _ => Below.heap_alloc w8 _ k hk⟩ hlc hls (by rw [HZ8'.out]; omega) (by simp) (by simp) (by simp))
  have hwk : x.item.size ≤ maxLen := by unfold maxLen; have := HX.out; omega
  have P1 : Hid (N + 1 ≤ maxLen) := Lib.hid (by unfold maxLen; omega)
  have P2 : Hid ((N + 1) * 96 ≤ 140737488355328) := Lib.hid (by omega)
  have P3 : Hid (es.length < maxLen) := Lib.hid (by unfold maxLen; have := HLE.out; omega)
  have P4 : Hid (∀ u ∈ stC st, u.oneCell' = true) := Lib.hid (fun u hu => stC_one [st] u (by simpa using hu))
  obtain ⟨i0, hi0, hz0, hz1, hz2⟩ := info_parts st_info
  go_upto_region 22 with fail
  go_region_held3 (fun W => World.cell? W ⟨cb, 9, none⟩ = some (.map (some mb)) ∧ World.cell? W ⟨w.heap.size, 5, none⟩ = some (.string x.item) ∧ World.cell? W ⟨sb, 0, none⟩ = some (.int .i64 st.tick) ∧ World.cell? W ⟨sb, 1, none⟩ = some (.bool st.isborn) ∧ World.cell? W ⟨sb, 2, none⟩ = some (.string st.item.name) ∧ World.cell? W ⟨sb, 3, none⟩ = some (.string st.item.maker) ∧ World.cell? W ⟨sb, 4, none⟩ = some (.string st.item.tags) ∧ World.cell? W ⟨sb, 5, none⟩ = some (.int .i64 st.item.stock) ∧ World.cell? W ⟨sb, 6, none⟩ = some (.int .i64 st.item.price) ∧ World.cell? W ⟨sb, 7, none⟩ = some (.int .i64 st.item.born) ∧ World.cell? W ⟨sb, 8, none⟩ = some (.bool st.item.listed))
    (first | with_reducible exact HKR.out | with_reducible exact HKA.out | exact HK10.out | exact HK11.out)
    ((refine step_append_row _ (by rfl) (.tmp 113) (.tmp 115) 70 (by rfl) 0 72 i0 _ 9 96 Tryz.underlying70 hi0 hz0 hz1 hz2 rfl (by decide) (.slice A0 N cap0) N _ (by rfl) ((HO8.out.alloc _).drew) (w8.heap.size + 1) (some ⟨w8.heap.size, 0, none⟩) 1 1 (stC st) (by rfl) (one_st w8 st _) (fun h => by cases h) P4.out P1.out P2.out (Nat.zero_le _) ?_; intro v10 w10 ho10 hg10 hv10; have Q1 : Hid (sb < ((w8.alloc (.cells #[.int .i64 st.tick, .bool st.isborn, .string st.item.name, .string st.item.maker, .string st.item.tags, .int .i64 st.item.stock, .int .i64 st.item.price, .int .i64 st.item.born, .bool st.item.listed] 72)).drew).heap.size) := Lib.hid (by simp [World.drew, HZ8'.out]; omega); have Q2 : Hid (sb < w10.heap.size) := Lib.hid (Nat.lt_of_lt_of_le Q1.out hg10.size); have HK10 : Hid (ApS w10 cb mb w.heap.size sb x.item st) := Lib.hid (ApS.keep HKA.out hg10 hlc hls Q1.out R1.out R2.out R3.out); obtain ⟨A10, c10, rfl⟩ := own_shape ho10; obtain ⟨w11, hst11, hm11, hg11, hz11⟩ := ((HM8.out.alloc (.cells (stArr st) 72)).drew.grown hg10 R4.out).store (string_keyed Tryz.underlying9) Tryz.underlying64 P3.out (WideMaps.keyOf_string_mk Tryz.underlying9 hwk) (val := .slice A10 (N + 1) c10) rfl; have HK11 : Hid (ApS w11 cb mb w.heap.size sb x.item st) := Lib.hid (ApS.keep HK10.out hg11 hlc hls Q2.out R5.out R6.out R7.out)))
  have HC11 : Hid (Blk w11 cb 66 (catCells true x mb)) := Lib.hid ((((HC8.out.alloc _).drew).grown hg10 R1.out).grown hg11 R5.out)
  have HO11 : Hid (w11.ownsRow 0 72 9 (.slice A10 (N + 1) c10) (N + 1) ((rowOf es x.item).flatMap stC ++ stC st)) := Lib.hid (owns_kept ho10 (Kept.grown (S := fun q => q = mb) (Kept.refl _ w10) hg11 (fun j hj => Or.inl (Option.some.inj hj).symm)) (fun g hg e => by
    subst e
    rcases hv10 with hv | hv
    · exact R4.out (hg.symm.trans hv)
    · rw [hg] at hv
      have := Option.some.inj hv
      simp only [World.drew, World.size_alloc, HZ8'.out] at this
      omega))
  have HKX : Hid (Kept (fun q => q = cb ∨ q = mb ∨ (Value.slice A0 N cap0).ownBlock = some q) w w11) := Lib.hid ((((((HK5.out.mono (fun i _ h => Or.inl h)).below HB58.out (by have := HSB.out; have := hls; omega)).alloc _).drew.grown hg10 (fun j hj => Or.inl (Or.inr (Or.inr hj))))).grown hg11 (fun j hj => Or.inl (Or.inr (Or.inl (Option.some.inj hj).symm))))
  have HVN : Hid ((Value.slice A10 (N + 1) c10).ownBlock = (Value.slice A0 N cap0).ownBlock ∨ ∃ g, (Value.slice A10 (N + 1) c10).ownBlock = some g ∧ w.heap.size ≤ g) := Lib.hid (by
    rcases hv10 with hv | hv
    · exact Or.inl hv
    · refine Or.inr ⟨_, hv, ?_⟩
      simp only [World.drew, World.size_alloc, HZ8'.out]
      omega)
  have HM11 := Lib.hid hm11
  clear hm11 hst11 ho10 hv10 hg10 hg11
  go_wp2_with fail
  go_ret
  refine ⟨ret_bool HT.out.symm, (fun q => F q ∨ (Value.slice A10 (N + 1) c10).ownBlock = some q), ?_, fun q hq => Or.inl hq, ?_, HKX.out.mono ?_⟩
  · refine ⟨mb, updG G x.item (.slice A10 (N + 1) c10), x, ?_⟩
    unfold aftP
    rw [HT.out, if_pos rfl]
    have ho := HO11.out
    rw [← HST0.out, ← HS0.out] at ho
    exact HI.out.more HC11.out HM11.out HKX.out HGV.out HN.out ho HVN.out HT.out hmc HSX.out
  · rintro q (hq | hq)
    · exact Or.inl hq
    · rcases HVN.out with hv | ⟨g, hv, hg⟩
      · exact Or.inl (HBK.out q (hv.symm.trans hq)).1
      · rw [hv] at hq
        cases hq
        exact Or.inr hg
  · rintro i _ (hq | hq | hq)
    · rw [hq]; exact HI.out.fc
    · rw [hq]; exact HI.out.fm
    · exact (HBK.out i hq).1

end Go.Proofs.YtdcinodbgbkobaaGreatDoor

/- The document's At. -/
import Derived.Test.YtikbckpphkpaiaaDoorRefS
import Derived.Deep.RegionHeld3
namespace Go.Proofs.YtikbckpphkpaiaaDoor
open Go.Shelf Go.RowKit Go.Maps
set_option linter.unusedVariables false

/-- The last state of a thing, of the events up to a tick. -/
def rst (l : List Ev) (nm : ByteArray) (t : Int) : Option St := (rowOf (l.filter fun e => decide (e.tick ≤ t)) nm).getLast?
theorem rst_snoc (l : List Ev) (x : Ev) (nm : ByteArray) (t : Int) : rst (l ++ [x]) nm t = if x.item = nm ∧ x.tick ≤ t then some (stepSt ((rst l nm t).getD (st0 nm)) x) else rst l nm t := by
  unfold rst
  rw [List.filter_append]
  by_cases h1 : x.tick ≤ t
  · rw [List.filter_cons_of_pos (by simpa using h1), List.filter_nil, rowOf_snoc]
    by_cases h2 : x.item = nm
    · rw [if_pos h2, if_pos ⟨h2, h1⟩, h2.symm]
      unfold rowStep
      rw [List.getLast?_concat]
    · rw [if_neg h2, if_neg (fun h => h2 h.1)]
  · rw [List.filter_cons_of_neg (by simpa using h1), List.filter_nil, List.append_nil, if_neg (fun h => h1 h.2)]
theorem fold_name (n : ByteArray) (l : List Ev) (h : ∀ e ∈ l, e.item = n) : ∀ r : List St, (∀ s ∈ r, s.item.name = n) → ∀ s ∈ l.foldl rowStep r, s.item.name = n := by
  induction l with
  | nil => intro r hr; exact hr
  | cons e l ih =>
    intro r hr
    rw [List.foldl_cons]
    refine ih (fun x hx => h x (List.mem_cons_of_mem _ hx)) _ (fun s hs => ?_)
    unfold rowStep at hs
    rcases List.mem_append.1 hs with hs | hs
    · exact hr s hs
    · obtain rfl : s = _ := by simpa using hs
      rw [stepSt_name]
      cases hl : r.getLast? with
      | none => exact h e (by simp)
      | some y => exact hr y (List.mem_of_getLast? hl)
theorem rst_name {l : List Ev} {nm : ByteArray} {t : Int} {s : St} (h : rst l nm t = some s) : s.item.name = nm := by
  unfold rst at h
  exact fold_name nm _ (fun e he => of_decide_eq_true (List.mem_filter.1 he).2) [] (fun s hs => by cases hs) s (List.mem_of_getLast? h)
def rx (o : Option St) : It := (o.map (·.item)).getD it0
def rb (o : Option St) : Bool := (o.map (·.isborn)).getD false
theorem set_name {l : List Ev} {nm : ByteArray} {t : Int} : (itArr (rx (rst l nm t))).setIfInBounds 0 (.string nm) = itArr ((rst l nm t).getD (st0 nm)).item := by
  cases h : rst l nm t with
  | none => simp [rx, itArr, it0, st0]
  | some s =>
    have := rst_name h
    simp [rx, itArr, this]
theorem rb_born (o : Option St) (nm : ByteArray) : rb o = (o.getD (st0 nm)).isborn := by
  cases o <;> rfl
theorem rstep12 {s : St} {x : Ev} (h : x.kind = 12) : (itArr s.item).setIfInBounds 3 (.int .i64 x.value) = itArr (stepSt s x).item := by
  simp [itArr, stepSt, h]
theorem rstep13 {s : St} {x : Ev} (h : x.kind = 13) : (itArr s.item).setIfInBounds 6 (.bool false) = itArr (stepSt s x).item := by
  simp [itArr, stepSt, h]
theorem rstep11t {s : St} {x : Ev} (h : x.kind = 11) (hb : s.isborn = true) : ((((itArr s.item).setIfInBounds 6 (.bool true)).setIfInBounds 1 (.string (headP x.text))).setIfInBounds 2 (.string (restP x.text))).setIfInBounds 4 (.int .i64 x.value) = itArr (stepSt s x).item := by
  simp [itArr, stepSt, h, hb]
theorem rstep11f {s : St} {x : Ev} (h : x.kind = 11) (hb : s.isborn = false) : (((((itArr s.item).setIfInBounds 6 (.bool true)).setIfInBounds 1 (.string (headP x.text))).setIfInBounds 2 (.string (restP x.text))).setIfInBounds 4 (.int .i64 x.value)).setIfInBounds 5 (.int .i64 x.tick) = itArr (stepSt s x).item := by
  simp [itArr, stepSt, h, hb]
theorem step_born {s : St} {x : Ev} : (stepSt s x).isborn = if x.kind = 11 then true else s.isborn := by
  unfold stepSt
  split
  · rfl
  · split <;> rfl
theorem cell_drew' {w : World} {p : Addr} {u : Value} (h : w.cell? p = some u) : w.drew.cell? p = some u := h

/-- What the document tells of a thing. -/
def rtoldP (o : Option St) : Value := .tuple #[itA (rx o), .bool o.isSome]

set_option maxHeartbeats 4000000 in
set_option maxRecDepth 100000 in
theorem refat_any (w : World) (B : Nat) (A : Option Addr) (l : List Ev) (n c : Nat) (nm : ByteArray) (t : Int) (hn : l.length = n) (hl : EvsAt w B A l) (hB : B ≤ w.heap.size) (hb : n ≤ 1000000) (hsh : ∀ e ∈ l, EvSh e) (hkd : ∀ e ∈ l, e.kind = 11 ∨ e.kind = 12 ∨ e.kind = 13) :
    Calls Tryd.prog 34 #[.slice A n c, .string nm, .int .i64 t] w fun e w' => e = .returned (rtoldP (rst l nm t)) ∧ Below w.heap.size w w' := by
  have HN := Lib.hid hn
  have HL := Lib.hid hl
  have HS := Lib.hid hsh
  have HKD := Lib.hid hkd
  clear hn hl hsh hkd
  obtain ⟨w1, hw1⟩ : ∃ w1, w.alloc (.cells (itArr it0) 67) = w1 := ⟨_, rfl⟩
  have HZ1 : Hid (w1.heap.size = w.heap.size + 1) := Lib.hid (by rw [← hw1]; simp)
  unfold itArr it0 at hw1
  dsimp only at hw1
  go_enter Tryd.func34, Tryd.ntmps34
  go_wp2_with fail
  obtain ⟨w2, hw2⟩ : ∃ w2, w1.alloc (.cells (itArr it0) 67) = w2 := ⟨_, rfl⟩
  have HX2 : Hid (Blk w2 w1.heap.size 67 (itArr it0)) := Lib.hid (by rw [← hw2]; exact Blk.new _ _ _)
  have HR2 : Hid (Blk w2 w.heap.size 67 (itArr it0)) := Lib.hid (by rw [← hw2]; exact Blk.alloc (by rw [← hw1]; exact Blk.new _ _ _) _)
  have HB2 : Hid (Below w.heap.size w w2) := Lib.hid (by rw [← hw2, ← hw1]; exact ((Below.refl _ _).alloc (Nat.le_refl _) _).alloc (by simp) _)
  have HZ2 : Hid (w2.heap.size = w.heap.size + 2) := Lib.hid (by rw [← hw2, World.size_alloc, HZ1.out])
  unfold itArr it0 at hw2
  dsimp only at hw2
  (try rw [hw2])
  generalize hxb : w1.heap.size = xb at *
  obtain rfl : xb = w.heap.size + 1 := HZ1.out
  clear hw1 hw2 hxb
  go_loopw [9, 10, 11] (fun th bn i wr => ∃ k : Nat, k ≤ n ∧ i = .int .i64 k ∧ th = .bool (rst (l.take k) nm t).isSome ∧ bn = .bool (rb (rst (l.take k) nm t)) ∧ Hid (Blk wr (w.heap.size + 1) 67 (itArr (rx (rst (l.take k) nm t)))) ∧ Hid (Blk wr w.heap.size 67 (itArr it0)) ∧ Hid (Below w.heap.size w wr)) (fun _ _ i _ => n - (intOf i).toNat)
  case atStart => exact ⟨0, Nat.zero_le _, rfl, rfl, rfl, HX2, HR2, HB2⟩
  case round =>
    obtain ⟨k, hk, rfl, rfl, rfl, hbx, hbr, hbw⟩ := hrel
    have hxl := hbx.out.lt
    by_cases hlt : k < n
    · obtain ⟨x, hx⟩ : ∃ x, l[k]? = some x := ⟨l[k]'(by rw [HN.out]; exact hlt), List.getElem?_eq_getElem _⟩
      obtain ⟨g, o, rfl, hgB, hcl⟩ := HL.out.at (by rw [HN.out]; omega)
      obtain ⟨c0, c1, c2, c3, c4, c5, c6, c7⟩ : EvAt wr g (o + k * 8) x := (hcl k x hx).keep (fun j => hbw.out.cell (p := ⟨g, j, none⟩) (by show g < w.heap.size; omega))
      have hxt : x.text.size ≤ 281474976710656 := by have := (HS.out x (List.mem_of_getElem? hx)).2.2.2; omega
      have HXK := Lib.hid (HKD.out x (List.mem_of_getElem? hx))
      have htk : l.take (k + 1) = l.take k ++ [x] := by rw [List.take_add_one, hx]; rfl
      have HST : Hid (rst (l.take (k + 1)) nm t = if x.item = nm ∧ x.tick ≤ t then some (stepSt ((rst (l.take k) nm t).getD (st0 nm)) x) else rst (l.take k) nm t) := Lib.hid (by rw [htk, rst_snoc])
      have HSN : Hid ((itArr (rx (rst (l.take k) nm t))).setIfInBounds 0 (.string nm) = itArr ((rst (l.take k) nm t).getD (st0 nm)).item) := Lib.hid set_name
      have hk8 : (k : Int) < (n : Int) := by omega
      have hk9 : (0 : Int) ≤ (k : Int) := by omega
      clear hcl hx htk
      generalize rst (l.take k) nm t = o1 at *
      obtain ⟨w5, hw5⟩ : ∃ w5, wr.alloc (.cells #[.string x.src, .int .i64 x.num, .int .i64 x.tick, .int .i64 x.kind, .string x.person, .string x.item, .int .i64 x.value, .string x.text] 37) = w5 := ⟨_, rfl⟩
      have HE5 : Hid (Blk w5 wr.heap.size 37 (evArr x)) := Lib.hid (by rw [← hw5]; exact Blk.new _ _ _)
      have HX5 : Hid (Blk w5 (w.heap.size + 1) 67 (itArr (rx o1))) := Lib.hid (by rw [← hw5]; exact hbx.out.alloc _)
      have HR5 : Hid (Blk w5 w.heap.size 67 (itArr it0)) := Lib.hid (by rw [← hw5]; exact hbr.out.alloc _)
      have HB5 : Hid (Below w.heap.size w w5) := Lib.hid (by rw [← hw5]; exact hbw.out.alloc hbw.out.size _)
      have hel : wr.heap.size < w5.heap.size := HE5.out.lt
      have e2 : w5.cell? ⟨wr.heap.size, 2, none⟩ = some (.int .i64 x.tick) := HE5.out.cell 2
      have e3 : w5.cell? ⟨wr.heap.size, 3, none⟩ = some (.int .i64 x.kind) := HE5.out.cell 3
      have e5 : w5.cell? ⟨wr.heap.size, 5, none⟩ = some (.string x.item) := HE5.out.cell 5
      have e6 : w5.cell? ⟨wr.heap.size, 6, none⟩ = some (.int .i64 x.value) := HE5.out.cell 6
      have e7 : w5.cell? ⟨wr.heap.size, 7, none⟩ = some (.string x.text) := HE5.out.cell 7
      have x0 : w5.cell? ⟨w.heap.size + 1, 0, none⟩ = some (.string (rx o1).name) := HX5.out.cell 0
      have x1 : w5.cell? ⟨w.heap.size + 1, 1, none⟩ = some (.string (rx o1).maker) := HX5.out.cell 1
      have x2 : w5.cell? ⟨w.heap.size + 1, 2, none⟩ = some (.string (rx o1).tags) := HX5.out.cell 2
      have x3 : w5.cell? ⟨w.heap.size + 1, 3, none⟩ = some (.int .i64 (rx o1).stock) := HX5.out.cell 3
      have x4 : w5.cell? ⟨w.heap.size + 1, 4, none⟩ = some (.int .i64 (rx o1).price) := HX5.out.cell 4
      have x5 : w5.cell? ⟨w.heap.size + 1, 5, none⟩ = some (.int .i64 (rx o1).born) := HX5.out.cell 5
      have x6 : w5.cell? ⟨w.heap.size + 1, 6, none⟩ = some (.bool (rx o1).listed) := HX5.out.cell 6
      have f0 : w5.frozen? ⟨w.heap.size + 1, 0, none⟩ = false := HX5.out.frozen 0
      have f1 : w5.frozen? ⟨w.heap.size + 1, 1, none⟩ = false := HX5.out.frozen 1
      have f2 : w5.frozen? ⟨w.heap.size + 1, 2, none⟩ = false := HX5.out.frozen 2
      have f3 : w5.frozen? ⟨w.heap.size + 1, 3, none⟩ = false := HX5.out.frozen 3
      have f4 : w5.frozen? ⟨w.heap.size + 1, 4, none⟩ = false := HX5.out.frozen 4
      have f5 : w5.frozen? ⟨w.heap.size + 1, 5, none⟩ = false := HX5.out.frozen 5
      have f6 : w5.frozen? ⟨w.heap.size + 1, 6, none⟩ = false := HX5.out.frozen 6
      have hne : wr.heap.size ≠ w.heap.size + 1 := by omega
      have hne2 : w.heap.size + 1 ≠ wr.heap.size := by omega
      by_cases hi : x.item = nm
      rotate_left
      · have HO : Hid (rst (l.take (k + 1)) nm t = o1) := Lib.hid (by rw [HST.out, if_neg (fun h => hi h.1)])
        have q1 : (x.item.toList == nm.toList) = false := Bool.eq_false_iff.2 (fun e => hi ((beq_list x.item nm).1 e))
        have q2 : (x.item.toList != nm.toList) = true := by unfold bne; rw [q1]; rfl
        clear hi
        go_wp2_with fail
        go_roundw
        case rel => exact ⟨k + 1, by omega, by go_num, by rw [HO.out], by rw [HO.out], by rw [HO.out]; exact HX5, HR5, HB5⟩
        case measure => simp [intOf]; omega
      by_cases hti : x.tick ≤ t
      rotate_left
      · have HO : Hid (rst (l.take (k + 1)) nm t = o1) := Lib.hid (by rw [HST.out, if_neg (fun h => hti h.2)])
        have q1 : (x.item.toList == nm.toList) = true := (beq_list x.item nm).2 hi
        have q2 : (x.item.toList != nm.toList) = false := by unfold bne; rw [q1]; rfl
        clear hi
        go_wp2_with fail
        go_roundw
        case rel => exact ⟨k + 1, by omega, by go_num, by rw [HO.out], by rw [HO.out], by rw [HO.out]; exact HX5, HR5, HB5⟩
        case measure => simp [intOf]; omega
      have HO : Hid (rst (l.take (k + 1)) nm t = some (stepSt (o1.getD (st0 nm)) x)) := Lib.hid (by rw [HST.out, if_pos ⟨hi, hti⟩])
      have q1 : (x.item.toList == nm.toList) = true := (beq_list x.item nm).2 hi
      have q2 : (x.item.toList != nm.toList) = false := by unfold bne; rw [q1]; rfl
      have HBN : Hid (rb o1 = (o1.getD (st0 nm)).isborn) := Lib.hid (rb_born o1 nm)
      generalize o1.getD (st0 nm) = s at *
      generalize rb o1 = b1 at *
      clear hi HST
      obtain ⟨w6, hw6⟩ : ∃ w6, w5.setCell ⟨w.heap.size + 1, 0, none⟩ (.string nm) = w6 := ⟨_, rfl⟩
      have HX6 : Hid (Blk w6 (w.heap.size + 1) 67 (itArr s.item)) := Lib.hid (by rw [← hw6, ← HSN.out]; exact HX5.out.set_ 0 _)
      have HR6 : Hid (Blk w6 w.heap.size 67 (itArr it0)) := Lib.hid (by rw [← hw6]; exact HR5.out.far (by simp) _)
      have HE6 : Hid (Blk w6 wr.heap.size 37 (evArr x)) := Lib.hid (by rw [← hw6]; exact HE5.out.far hne _)
      have HB6 : Hid (Below w.heap.size w w6) := Lib.hid (by rw [← hw6]; exact HB5.out.setCell (p := ⟨w.heap.size + 1, 0, none⟩) (by show w.heap.size ≤ w.heap.size + 1; omega) _)
      have d2 : w6.cell? ⟨wr.heap.size, 2, none⟩ = some (.int .i64 x.tick) := HE6.out.cell 2
      have d3 : w6.cell? ⟨wr.heap.size, 3, none⟩ = some (.int .i64 x.kind) := HE6.out.cell 3
      have d5 : w6.cell? ⟨wr.heap.size, 5, none⟩ = some (.string x.item) := HE6.out.cell 5
      have d6 : w6.cell? ⟨wr.heap.size, 6, none⟩ = some (.int .i64 x.value) := HE6.out.cell 6
      have d7 : w6.cell? ⟨wr.heap.size, 7, none⟩ = some (.string x.text) := HE6.out.cell 7
      have y0 : w6.cell? ⟨w.heap.size + 1, 0, none⟩ = some (.string s.item.name) := HX6.out.cell 0
      have y1 : w6.cell? ⟨w.heap.size + 1, 1, none⟩ = some (.string s.item.maker) := HX6.out.cell 1
      have y2 : w6.cell? ⟨w.heap.size + 1, 2, none⟩ = some (.string s.item.tags) := HX6.out.cell 2
      have y3 : w6.cell? ⟨w.heap.size + 1, 3, none⟩ = some (.int .i64 s.item.stock) := HX6.out.cell 3
      have y4 : w6.cell? ⟨w.heap.size + 1, 4, none⟩ = some (.int .i64 s.item.price) := HX6.out.cell 4
      have y5 : w6.cell? ⟨w.heap.size + 1, 5, none⟩ = some (.int .i64 s.item.born) := HX6.out.cell 5
      have y6 : w6.cell? ⟨w.heap.size + 1, 6, none⟩ = some (.bool s.item.listed) := HX6.out.cell 6
      have j0 : w6.frozen? ⟨w.heap.size + 1, 0, none⟩ = false := HX6.out.frozen 0
      have j1 : w6.frozen? ⟨w.heap.size + 1, 1, none⟩ = false := HX6.out.frozen 1
      have j2 : w6.frozen? ⟨w.heap.size + 1, 2, none⟩ = false := HX6.out.frozen 2
      have j3 : w6.frozen? ⟨w.heap.size + 1, 3, none⟩ = false := HX6.out.frozen 3
      have j4 : w6.frozen? ⟨w.heap.size + 1, 4, none⟩ = false := HX6.out.frozen 4
      have j5 : w6.frozen? ⟨w.heap.size + 1, 5, none⟩ = false := HX6.out.frozen 5
      have j6 : w6.frozen? ⟨w.heap.size + 1, 6, none⟩ = false := HX6.out.frozen 6
      have hxw : w.heap.size ≤ w.heap.size + 1 := by omega
      have hxr : w.heap.size ≠ w.heap.size + 1 := by omega
      rcases HXK.out with hkk | hkk | hkk
      · have k1 : (x.kind == 11) = true := by rw [hkk]; rfl
        have HKK := Lib.hid hkk
        clear hkk
        have HS0 : Hid (World.cell? w6 ⟨wr.heap.size, 7, none⟩ = some (.string x.text) ∧ World.cell? w6 ⟨wr.heap.size, 6, none⟩ = some (.int .i64 x.value)) := Lib.hid ⟨d7, d6⟩
        have HK0 : Hid (World.cell? w6.drew ⟨wr.heap.size, 7, none⟩ = some (.string x.text) ∧ World.cell? w6.drew ⟨wr.heap.size, 6, none⟩ = some (.int .i64 x.value)) := Lib.hid ⟨cell_drew' HS0.out.1, cell_drew' HS0.out.2⟩
        have HS1 : Hid (World.cell? (w6.setCell ⟨w.heap.size + 1, 6, none⟩ (.bool true)) ⟨wr.heap.size, 7, none⟩ = some (.string x.text) ∧ World.cell? (w6.setCell ⟨w.heap.size + 1, 6, none⟩ (.bool true)) ⟨wr.heap.size, 6, none⟩ = some (.int .i64 x.value)) := Lib.hid ⟨(World.cell?_setCell_far _ ⟨w.heap.size + 1, _, none⟩ ⟨wr.heap.size, 7, none⟩ _ hne2).trans HS0.out.1, (World.cell?_setCell_far _ ⟨w.heap.size + 1, _, none⟩ ⟨wr.heap.size, 6, none⟩ _ hne2).trans HS0.out.2⟩
        have HK1 : Hid (World.cell? (w6.setCell ⟨w.heap.size + 1, 6, none⟩ (.bool true)).drew ⟨wr.heap.size, 7, none⟩ = some (.string x.text) ∧ World.cell? (w6.setCell ⟨w.heap.size + 1, 6, none⟩ (.bool true)).drew ⟨wr.heap.size, 6, none⟩ = some (.int .i64 x.value)) := Lib.hid ⟨cell_drew' HS1.out.1, cell_drew' HS1.out.2⟩
        have HS2 : Hid (World.cell? ((w6.setCell ⟨w.heap.size + 1, 6, none⟩ (.bool true)).setCell ⟨w.heap.size + 1, 1, none⟩ (.string (headP x.text))) ⟨wr.heap.size, 7, none⟩ = some (.string x.text) ∧ World.cell? ((w6.setCell ⟨w.heap.size + 1, 6, none⟩ (.bool true)).setCell ⟨w.heap.size + 1, 1, none⟩ (.string (headP x.text))) ⟨wr.heap.size, 6, none⟩ = some (.int .i64 x.value)) := Lib.hid ⟨(World.cell?_setCell_far _ ⟨w.heap.size + 1, _, none⟩ ⟨wr.heap.size, 7, none⟩ _ hne2).trans HS1.out.1, (World.cell?_setCell_far _ ⟨w.heap.size + 1, _, none⟩ ⟨wr.heap.size, 6, none⟩ _ hne2).trans HS1.out.2⟩
        have HK2 : Hid (World.cell? ((w6.setCell ⟨w.heap.size + 1, 6, none⟩ (.bool true)).setCell ⟨w.heap.size + 1, 1, none⟩ (.string (headP x.text))).drew ⟨wr.heap.size, 7, none⟩ = some (.string x.text) ∧ World.cell? ((w6.setCell ⟨w.heap.size + 1, 6, none⟩ (.bool true)).setCell ⟨w.heap.size + 1, 1, none⟩ (.string (headP x.text))).drew ⟨wr.heap.size, 6, none⟩ = some (.int .i64 x.value)) := Lib.hid ⟨cell_drew' HS2.out.1, cell_drew' HS2.out.2⟩
        have HS3 : Hid (World.cell? (((w6.setCell ⟨w.heap.size + 1, 6, none⟩ (.bool true)).setCell ⟨w.heap.size + 1, 1, none⟩ (.string (headP x.text))).setCell ⟨w.heap.size + 1, 2, none⟩ (.string (restP x.text))) ⟨wr.heap.size, 7, none⟩ = some (.string x.text) ∧ World.cell? (((w6.setCell ⟨w.heap.size + 1, 6, none⟩ (.bool true)).setCell ⟨w.heap.size + 1, 1, none⟩ (.string (headP x.text))).setCell ⟨w.heap.size + 1, 2, none⟩ (.string (restP x.text))) ⟨wr.heap.size, 6, none⟩ = some (.int .i64 x.value)) := Lib.hid ⟨(World.cell?_setCell_far _ ⟨w.heap.size + 1, _, none⟩ ⟨wr.heap.size, 7, none⟩ _ hne2).trans HS2.out.1, (World.cell?_setCell_far _ ⟨w.heap.size + 1, _, none⟩ ⟨wr.heap.size, 6, none⟩ _ hne2).trans HS2.out.2⟩
        have HK3 : Hid (World.cell? (((w6.setCell ⟨w.heap.size + 1, 6, none⟩ (.bool true)).setCell ⟨w.heap.size + 1, 1, none⟩ (.string (headP x.text))).setCell ⟨w.heap.size + 1, 2, none⟩ (.string (restP x.text))).drew ⟨wr.heap.size, 7, none⟩ = some (.string x.text) ∧ World.cell? (((w6.setCell ⟨w.heap.size + 1, 6, none⟩ (.bool true)).setCell ⟨w.heap.size + 1, 1, none⟩ (.string (headP x.text))).setCell ⟨w.heap.size + 1, 2, none⟩ (.string (restP x.text))).drew ⟨wr.heap.size, 6, none⟩ = some (.int .i64 x.value)) := Lib.hid ⟨cell_drew' HS3.out.1, cell_drew' HS3.out.2⟩
        have HS4 : Hid (World.cell? ((((w6.setCell ⟨w.heap.size + 1, 6, none⟩ (.bool true)).setCell ⟨w.heap.size + 1, 1, none⟩ (.string (headP x.text))).setCell ⟨w.heap.size + 1, 2, none⟩ (.string (restP x.text))).setCell ⟨w.heap.size + 1, 4, none⟩ (.int .i64 x.value)) ⟨wr.heap.size, 7, none⟩ = some (.string x.text) ∧ World.cell? ((((w6.setCell ⟨w.heap.size + 1, 6, none⟩ (.bool true)).setCell ⟨w.heap.size + 1, 1, none⟩ (.string (headP x.text))).setCell ⟨w.heap.size + 1, 2, none⟩ (.string (restP x.text))).setCell ⟨w.heap.size + 1, 4, none⟩ (.int .i64 x.value)) ⟨wr.heap.size, 6, none⟩ = some (.int .i64 x.value)) := Lib.hid ⟨(World.cell?_setCell_far _ ⟨w.heap.size + 1, _, none⟩ ⟨wr.heap.size, 7, none⟩ _ hne2).trans HS3.out.1, (World.cell?_setCell_far _ ⟨w.heap.size + 1, _, none⟩ ⟨wr.heap.size, 6, none⟩ _ hne2).trans HS3.out.2⟩
        have HK4 : Hid (World.cell? ((((w6.setCell ⟨w.heap.size + 1, 6, none⟩ (.bool true)).setCell ⟨w.heap.size + 1, 1, none⟩ (.string (headP x.text))).setCell ⟨w.heap.size + 1, 2, none⟩ (.string (restP x.text))).setCell ⟨w.heap.size + 1, 4, none⟩ (.int .i64 x.value)).drew ⟨wr.heap.size, 7, none⟩ = some (.string x.text) ∧ World.cell? ((((w6.setCell ⟨w.heap.size + 1, 6, none⟩ (.bool true)).setCell ⟨w.heap.size + 1, 1, none⟩ (.string (headP x.text))).setCell ⟨w.heap.size + 1, 2, none⟩ (.string (restP x.text))).setCell ⟨w.heap.size + 1, 4, none⟩ (.int .i64 x.value)).drew ⟨wr.heap.size, 6, none⟩ = some (.int .i64 x.value)) := Lib.hid ⟨cell_drew' HS4.out.1, cell_drew' HS4.out.2⟩
        have HM := Lib.hid (rmaker_any x.text w6.drew hxt)
        have HH := Lib.hid (behind_any x.text w6.drew hxt)
        have HX7 : Hid (Blk ((((w6.setCell ⟨w.heap.size + 1, 6, none⟩ (.bool true)).setCell ⟨w.heap.size + 1, 1, none⟩ (.string (headP x.text))).setCell ⟨w.heap.size + 1, 2, none⟩ (.string (restP x.text))).setCell ⟨w.heap.size + 1, 4, none⟩ (.int .i64 x.value)) (w.heap.size + 1) 67 ((((itArr s.item).setIfInBounds 6 (.bool true)).setIfInBounds 1 (.string (headP x.text))).setIfInBounds 2 (.string (restP x.text)) |>.setIfInBounds 4 (.int .i64 x.value))) := Lib.hid ((((HX6.out.set_ 6 _).set_ 1 _).set_ 2 _).set_ 4 _)
        have HR7 : Hid (Blk ((((w6.setCell ⟨w.heap.size + 1, 6, none⟩ (.bool true)).setCell ⟨w.heap.size + 1, 1, none⟩ (.string (headP x.text))).setCell ⟨w.heap.size + 1, 2, none⟩ (.string (restP x.text))).setCell ⟨w.heap.size + 1, 4, none⟩ (.int .i64 x.value)) w.heap.size 67 (itArr it0)) := Lib.hid ((((HR6.out.far hxr _).far hxr _).far hxr _).far hxr _)
        have HB7 : Hid (Below w.heap.size w ((((w6.setCell ⟨w.heap.size + 1, 6, none⟩ (.bool true)).setCell ⟨w.heap.size + 1, 1, none⟩ (.string (headP x.text))).setCell ⟨w.heap.size + 1, 2, none⟩ (.string (restP x.text))).setCell ⟨w.heap.size + 1, 4, none⟩ (.int .i64 x.value))) := Lib.hid ((((HB6.out.setCell (p := ⟨w.heap.size + 1, 6, none⟩) hxw _).setCell (p := ⟨w.heap.size + 1, 1, none⟩) hxw _).setCell (p := ⟨w.heap.size + 1, 2, none⟩) hxw _).setCell (p := ⟨w.heap.size + 1, 4, none⟩) hxw _)
        have HE7 : Hid (Blk ((((w6.setCell ⟨w.heap.size + 1, 6, none⟩ (.bool true)).setCell ⟨w.heap.size + 1, 1, none⟩ (.string (headP x.text))).setCell ⟨w.heap.size + 1, 2, none⟩ (.string (restP x.text))).setCell ⟨w.heap.size + 1, 4, none⟩ (.int .i64 x.value)) wr.heap.size 37 (evArr x)) := Lib.hid ((((HE6.out.far hne _).far hne _).far hne _).far hne _)
        go_wp2_with fail
        go_region_held3 (fun W => World.cell? W ⟨wr.heap.size, 7, none⟩ = some (.string x.text) ∧ World.cell? W ⟨wr.heap.size, 6, none⟩ = some (.int .i64 x.value))
          (first | with_reducible exact HK0.out | with_reducible exact HK1.out | with_reducible exact HK2.out | with_reducible exact HK3.out | with_reducible exact HK4.out)
          (first | (go_at_call 56; refine HM.out.mono ?_; rintro e v1 ⟨rfl, rfl⟩) | (go_at_call 57; refine HH.out.mono ?_; rintro e v1 ⟨rfl, rfl⟩))
        obtain ⟨w7, hw7⟩ : ∃ w7, ((((w6.setCell ⟨w.heap.size + 1, 6, none⟩ (.bool true)).setCell ⟨w.heap.size + 1, 1, none⟩ (.string (headP x.text))).setCell ⟨w.heap.size + 1, 2, none⟩ (.string (restP x.text))).setCell ⟨w.heap.size + 1, 4, none⟩ (.int .i64 x.value)).drew = w7 := ⟨_, rfl⟩
        rw [hw7]
        have HX8 : Hid (Blk w7 (w.heap.size + 1) 67 ((((itArr s.item).setIfInBounds 6 (.bool true)).setIfInBounds 1 (.string (headP x.text))).setIfInBounds 2 (.string (restP x.text)) |>.setIfInBounds 4 (.int .i64 x.value))) := Lib.hid (by rw [← hw7]; exact HX7.out.drew)
        have HR8 : Hid (Blk w7 w.heap.size 67 (itArr it0)) := Lib.hid (by rw [← hw7]; exact HR7.out.drew)
        have HB8 : Hid (Below w.heap.size w w7) := Lib.hid (by rw [← hw7]; exact HB7.out.drew)
        have HE8 : Hid (Blk w7 wr.heap.size 37 (evArr x)) := Lib.hid (by rw [← hw7]; exact HE7.out.drew)
        have t2 : w7.cell? ⟨wr.heap.size, 2, none⟩ = some (.int .i64 x.tick) := HE8.out.cell 2
        have u5 : w7.cell? ⟨w.heap.size + 1, 5, none⟩ = some (.int .i64 s.item.born) := HX8.out.cell 5
        have v5 : w7.frozen? ⟨w.heap.size + 1, 5, none⟩ = false := HX8.out.frozen 5
        clear hw7 HX7 HR7 HB7 HE7 HK0 HK1 HK2 HK3 HK4 HS0 HS1 HS2 HS3 HS4 HM HH
        cases b1
        · have HBB : Hid (s.isborn = false) := Lib.hid HBN.out.symm
          go_wp2_with fail
          go_roundw
          case rel =>
            refine ⟨k + 1, by omega, by go_num, by rw [HO.out]; rfl, by rw [HO.out]; simp [rb, step_born, HKK.out], Lib.hid ?_, Lib.hid (HR8.out.far hxr _), Lib.hid (HB8.out.setCell (p := ⟨w.heap.size + 1, 5, none⟩) hxw _)⟩
            rw [HO.out]
            show Blk _ _ _ (itArr (stepSt s x).item)
            rw [← rstep11f HKK.out HBB.out]
            exact HX8.out.set_ 5 _
          case measure => simp [intOf]; omega
        · have HBB : Hid (s.isborn = true) := Lib.hid HBN.out.symm
          go_wp2_with fail
          go_roundw
          case rel =>
            refine ⟨k + 1, by omega, by go_num, by rw [HO.out]; rfl, by rw [HO.out]; simp [rb, step_born, HKK.out], Lib.hid ?_, HR8, HB8⟩
            rw [HO.out]
            show Blk _ _ _ (itArr (stepSt s x).item)
            rw [← rstep11t HKK.out HBB.out]
            exact HX8.out
          case measure => simp [intOf]; omega
      · have k1 : (x.kind == 11) = false := by rw [hkk]; rfl
        have k2 : (x.kind == 13) = false := by rw [hkk]; rfl
        have k3 : (x.kind == 12) = true := by rw [hkk]; rfl
        have HKK := Lib.hid hkk
        clear hkk
        go_wp2_with fail
        go_roundw
        case rel =>
          refine ⟨k + 1, by omega, by go_num, by rw [HO.out]; rfl, by rw [HO.out, HBN.out]; simp [rb, step_born, HKK.out], Lib.hid ?_, Lib.hid (HR6.out.far hxr _), Lib.hid (HB6.out.setCell (p := ⟨w.heap.size + 1, 3, none⟩) hxw _)⟩
          rw [HO.out]
          show Blk _ _ _ (itArr (stepSt s x).item)
          rw [← rstep12 HKK.out]
          exact HX6.out.set_ 3 _
        case measure => simp [intOf]; omega
      · have k1 : (x.kind == 11) = false := by rw [hkk]; rfl
        have k2 : (x.kind == 13) = true := by rw [hkk]; rfl
        have HKK := Lib.hid hkk
        clear hkk
        go_wp2_with fail
        go_roundw
        case rel =>
          refine ⟨k + 1, by omega, by go_num, by rw [HO.out]; rfl, by rw [HO.out, HBN.out]; simp [rb, step_born, HKK.out], Lib.hid ?_, Lib.hid (HR6.out.far hxr _), Lib.hid (HB6.out.setCell (p := ⟨w.heap.size + 1, 6, none⟩) hxw _)⟩
          rw [HO.out]
          show Blk _ _ _ (itArr (stepSt s x).item)
          rw [← rstep13 HKK.out]
          exact HX6.out.set_ 6 _
        case measure => simp [intOf]; omega
    · obtain rfl : n = k := by omega
      have htl : l.take n = l := by rw [← HN.out, List.take_length]
      rw [htl] at hbx ⊢
      generalize hrt : rst l nm t = o1 at *
      have HRT := Lib.hid hrt
      clear hrt
      have x0 : wr.cell? ⟨w.heap.size + 1, 0, none⟩ = some (.string (rx o1).name) := hbx.out.cell 0
      have x1 : wr.cell? ⟨w.heap.size + 1, 1, none⟩ = some (.string (rx o1).maker) := hbx.out.cell 1
      have x2 : wr.cell? ⟨w.heap.size + 1, 2, none⟩ = some (.string (rx o1).tags) := hbx.out.cell 2
      have x3 : wr.cell? ⟨w.heap.size + 1, 3, none⟩ = some (.int .i64 (rx o1).stock) := hbx.out.cell 3
      have x4 : wr.cell? ⟨w.heap.size + 1, 4, none⟩ = some (.int .i64 (rx o1).price) := hbx.out.cell 4
      have x5 : wr.cell? ⟨w.heap.size + 1, 5, none⟩ = some (.int .i64 (rx o1).born) := hbx.out.cell 5
      have x6 : wr.cell? ⟨w.heap.size + 1, 6, none⟩ = some (.bool (rx o1).listed) := hbx.out.cell 6
      have r0 : wr.cell? ⟨w.heap.size, 0, none⟩ = some (.string it0.name) := hbr.out.cell 0
      have r1 : wr.cell? ⟨w.heap.size, 1, none⟩ = some (.string it0.maker) := hbr.out.cell 1
      have r2 : wr.cell? ⟨w.heap.size, 2, none⟩ = some (.string it0.tags) := hbr.out.cell 2
      have r3 : wr.cell? ⟨w.heap.size, 3, none⟩ = some (.int .i64 it0.stock) := hbr.out.cell 3
      have r4 : wr.cell? ⟨w.heap.size, 4, none⟩ = some (.int .i64 it0.price) := hbr.out.cell 4
      have r5 : wr.cell? ⟨w.heap.size, 5, none⟩ = some (.int .i64 it0.born) := hbr.out.cell 5
      have r6 : wr.cell? ⟨w.heap.size, 6, none⟩ = some (.bool it0.listed) := hbr.out.cell 6
      have f0 : wr.frozen? ⟨w.heap.size, 0, none⟩ = false := hbr.out.frozen 0
      have f1 : wr.frozen? ⟨w.heap.size, 1, none⟩ = false := hbr.out.frozen 1
      have f2 : wr.frozen? ⟨w.heap.size, 2, none⟩ = false := hbr.out.frozen 2
      have f3 : wr.frozen? ⟨w.heap.size, 3, none⟩ = false := hbr.out.frozen 3
      have f4 : wr.frozen? ⟨w.heap.size, 4, none⟩ = false := hbr.out.frozen 4
      have f5 : wr.frozen? ⟨w.heap.size, 5, none⟩ = false := hbr.out.frozen 5
      have f6 : wr.frozen? ⟨w.heap.size, 6, none⟩ = false := hbr.out.frozen 6
      go_wp2_with fail
      refine bodyPost_ret (v := .tuple #[.agg #[.string (rx o1).name, .string (rx o1).maker, .string (rx o1).tags, .int .i64 (rx o1).stock, .int .i64 (rx o1).price, .int .i64 (rx o1).born, .bool (rx o1).listed], .bool o1.isSome]) (by simp [results, Tryd.results34, go_sem, r0, r1, r2, r3, r4, r5, r6]) rfl ⟨by rw [HRT.out]; rfl, ?_⟩
      exact (((((((hbw.out.setCell (p := ⟨w.heap.size, 0, none⟩) (Nat.le_refl _) _).setCell (p := ⟨w.heap.size, 1, none⟩) (Nat.le_refl _) _).setCell (p := ⟨w.heap.size, 2, none⟩) (Nat.le_refl _) _).setCell (p := ⟨w.heap.size, 3, none⟩) (Nat.le_refl _) _).setCell (p := ⟨w.heap.size, 4, none⟩) (Nat.le_refl _) _).setCell (p := ⟨w.heap.size, 5, none⟩) (Nat.le_refl _) _).setCell (p := ⟨w.heap.size, 6, none⟩) (Nat.le_refl _) _)

end Go.Proofs.YtikbckpphkpaiaaDoor

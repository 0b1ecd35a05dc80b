/- slices.Contains of strings; the closures of Names, ByMaker and ByTag. -/
import Derived.Test.YtpnfnmpohacnoaaDoorNamesP
import Derived.Deep.RegionHeld3
namespace Go.Proofs.YtpnfnmpohacnoaaDoor
open Go.Shelf Go.RowKit Go.Maps
set_option linter.unusedVariables false

theorem beq_list (a b : ByteArray) : (a.toList == b.toList) = true ↔ a = b := by
  rw [beq_iff_eq, Lib.toList_data, Lib.toList_data]
  constructor
  · intro h
    exact ba_eq h
  · rintro rfl; rfl
theorem str_eqB (x y : ByteArray) : (x.toList == y.toList) = decide (x = y) := by
  by_cases h : x = y
  · subst h; simp
  · rw [Bool.eq_false_iff.2 (fun e => h ((beq_list x y).1 e))]; simp [h]

/-- Is it among them? -/
def memB (x : ByteArray) (l : List ByteArray) : Bool := l.any fun y => decide (y = x)
theorem memB_iff (x : ByteArray) (l : List ByteArray) : memB x l = true ↔ x ∈ l := by
  unfold memB
  rw [List.any_eq_true]
  constructor
  · rintro ⟨y, hy, h⟩
    obtain rfl := of_decide_eq_true h
    exact hy
  · intro h; exact ⟨x, h, by simp⟩

set_option maxHeartbeats 1000000 in
set_option maxRecDepth 100000 in
theorem indexS_any (w : World) (B : Nat) (A : Option Addr) (l : List ByteArray) (n c : Nat) (x : ByteArray) (hn : l.length = n) (hl : RowIn w B 1 A n (l.map .string)) (hb : n ≤ 281474976710656) :
    Calls Tryd.prog 46 #[.slice A n c, .string x] w fun e w' => ∃ r : Int, e = .returned (.int .i64 r) ∧ (0 ≤ r ↔ x ∈ l) ∧ w = w' := by
  have HN := Lib.hid hn
  have HL := Lib.hid hl
  clear hn hl
  go_enter Tryd.func46, Tryd.ntmps46
  go_wp2_with fail
  go_loopw [8] (fun i wr => ∃ k : Nat, k ≤ n ∧ i = .int .i64 k ∧ Hid (∀ j y, j < k → l[j]? = some y → y ≠ x) ∧ wr = w) (fun i _ => n - (intOf i).toNat)
  case atStart => exact ⟨0, Nat.zero_le _, rfl, Lib.hid (fun j y hj => by omega), rfl⟩
  case round =>
    obtain ⟨k, hk, rfl, hno, rfl⟩ := hrel
    by_cases hlt : k < n
    · obtain ⟨y, hy⟩ : ∃ y, l[k]? = some y := ⟨l[k]'(by rw [HN.out]; exact hlt), List.getElem?_eq_getElem _⟩
      obtain ⟨g, o, rfl, _, hc⟩ := HL.out.at (by omega)
      have e0 : wr.cell? ⟨g, o + k, none⟩ = some (.string y) := hc k _ (by simp [hy])
      have HY := Lib.hid hy
      have hk8 : (k : Int) < (n : Int) := by omega
      have hk9 : (0 : Int) ≤ (k : Int) := by omega
      clear hy hc
      cases hq : (x.toList == y.toList)
      · have HQ : Hid (x ≠ y) := Lib.hid (fun e => by rw [(beq_list x y).2 e] at hq; cases hq)
        go_wp2_with fail
        go_roundw
        case rel =>
          refine ⟨k + 1, by omega, by go_num, Lib.hid (fun j z hj hz => ?_), by first | rfl | trivial⟩
          by_cases e : j = k
          · subst e
            rw [HY.out] at hz
            cases hz
            exact fun h => HQ.out h.symm
          · exact hno.out j z (by omega) hz
        case measure => simp [intOf]; omega
      · have HQ : Hid (x = y) := Lib.hid ((beq_list x y).1 hq)
        go_wp2_with fail
        go_ret
        refine ⟨(k : Int), rfl, ⟨fun _ => ?_, fun _ => by omega⟩, rfl⟩
        rw [HQ.out]
        exact List.mem_of_getElem? HY.out
    · go_wp2_with fail
      go_ret
      refine ⟨-1, rfl, ⟨fun h => (by omega), fun h => ?_⟩, rfl⟩
      obtain ⟨j, hj⟩ := List.mem_iff_getElem?.1 h
      exact absurd rfl (hno.out j _ (by have := (List.getElem?_eq_some_iff.1 hj).1; rw [HN.out] at this; omega) hj)

set_option maxHeartbeats 1000000 in
set_option maxRecDepth 100000 in
theorem containsS_any (w : World) (B : Nat) (A : Option Addr) (l : List ByteArray) (n c : Nat) (x : ByteArray) (hn : l.length = n) (hl : RowIn w B 1 A n (l.map .string)) (hb : n ≤ 281474976710656) :
    Calls Tryd.prog 32 #[.slice A n c, .string x] w fun e w' => e = .returned (.bool (memB x l)) ∧ w = w' := by
  have HI := Lib.hid (indexS_any w B A l n c x hn hl hb)
  clear hl hn
  go_enter Tryd.func32, Tryd.ntmps32
  go_wp2_with fail
  refine HI.out.mono ?_
  rintro e w1 ⟨r, rfl, hr, rfl⟩
  have hd : decide (0 ≤ r) = memB x l := by rw [Bool.eq_iff_iff, decide_eq_true_iff, memB_iff]; exact hr
  have HD := Lib.hid hd
  clear hd hr HI
  go_wp2_with fail
  go_ret
  exact ⟨ret_bool (by rw [← HD.out]), rfl⟩

theorem names1_any (x : It) (w : World) : Calls Tryd.prog 29 #[.agg #[.string x.name, .string x.maker, .string x.tags, .int .i64 x.stock, .int .i64 x.price, .int .i64 x.born, .bool x.listed]] w fun e w' => e = .returned (.bool true) ∧ Below w.heap.size w w' := by
  go_enter Tryd.func29, Tryd.ntmps29
  go_wp2_with fail
  go_ret
  exact ⟨rfl, (Below.refl _ _).alloc (Nat.le_refl _) _⟩

theorem maker1_any (x : It) (kb : Nat) (mk : ByteArray) (w : World) (hk : w.cell? ⟨kb, 0, none⟩ = some (.string mk)) (hkb : kb < w.heap.size) : Calls Tryd.prog 30 #[.agg #[.string x.name, .string x.maker, .string x.tags, .int .i64 x.stock, .int .i64 x.price, .int .i64 x.born, .bool x.listed], .pointer (some ⟨kb, 0, none⟩)] w fun e w' => e = .returned (.bool (decide (x.maker = mk))) ∧ Below w.heap.size w w' := by
  obtain ⟨w1, hw1⟩ : ∃ w1, w.alloc (.cells #[.string x.name, .string x.maker, .string x.tags, .int .i64 x.stock, .int .i64 x.price, .int .i64 x.born, .bool x.listed] 30) = w1 := ⟨_, rfl⟩
  have bi : Blk w1 w.heap.size 30 #[.string x.name, .string x.maker, .string x.tags, .int .i64 x.stock, .int .i64 x.price, .int .i64 x.born, .bool x.listed] := by rw [← hw1]; exact Blk.new _ _ _
  have HB1 : Hid (Below w.heap.size w w1) := Lib.hid (by rw [← hw1]; exact (Below.refl _ _).alloc (Nat.le_refl _) _)
  have k0 : w1.cell? ⟨kb, 0, none⟩ = some (.string mk) := (HB1.out.cell (p := ⟨kb, 0, none⟩) hkb).trans hk
  have i1 : w1.cell? ⟨w.heap.size, 1, none⟩ = some (.string x.maker) := bi.cell 1
  clear bi hk
  go_enter Tryd.func30, Tryd.ntmps30
  go_wp2_with fail
  go_ret
  exact ⟨ret_bool (str_eqB _ _), HB1.out⟩

/-- The tags of a thing. -/
def tagsOf (t : ByteArray) : List ByteArray := evTags (⟨#[59]⟩ ++ t)
theorem semi_size (t : ByteArray) : ((⟨#[59]⟩ : ByteArray) ++ t).size = t.size + 1 := by
  rw [ByteArray.size_append]
  show 1 + t.size = t.size + 1
  omega
theorem tags_few (t : ByteArray) : (tagsOf t).length ≤ t.size + 2 := by
  unfold tagsOf evTags
  split
  · simp
  · have h1 := Lib.splitB_length_le ⟨#[44]⟩ 0 (Lib.countB (restP (⟨#[59]⟩ ++ t)) ⟨#[44]⟩) (restP (⟨#[59]⟩ ++ t))
    have h2 := cut_le (⟨#[59]⟩ ++ t)
    rw [semi_size] at h2
    have h3 : Lib.countB (restP (⟨#[59]⟩ ++ t)) ⟨#[44]⟩ ≤ (restP (⟨#[59]⟩ ++ t)).size := Lib.countB_le ⟨#[44]⟩ (by decide) _ _ (Nat.le_refl _)
    unfold parts
    omega

set_option maxHeartbeats 1000000 in
set_option maxRecDepth 100000 in
theorem tag1_any (x : It) (kb : Nat) (tg : ByteArray) (w : World) (hk : w.cell? ⟨kb, 0, none⟩ = some (.string tg)) (hkb : kb < w.heap.size) (ht : x.tags.size ≤ 1000000) (hg : GlobAt w) : Calls Tryd.prog 31 #[.agg #[.string x.name, .string x.maker, .string x.tags, .int .i64 x.stock, .int .i64 x.price, .int .i64 x.born, .bool x.listed], .pointer (some ⟨kb, 0, none⟩)] w fun e w' => e = .returned (.bool (memB tg (tagsOf x.tags))) ∧ Below w.heap.size w w' := by
  obtain ⟨w1, hw1⟩ : ∃ w1, w.alloc (.cells #[.string x.name, .string x.maker, .string x.tags, .int .i64 x.stock, .int .i64 x.price, .int .i64 x.born, .bool x.listed] 30) = w1 := ⟨_, rfl⟩
  have bi : Blk w1 w.heap.size 30 #[.string x.name, .string x.maker, .string x.tags, .int .i64 x.stock, .int .i64 x.price, .int .i64 x.born, .bool x.listed] := by rw [← hw1]; exact Blk.new _ _ _
  have HB1 : Hid (Below w.heap.size w w1) := Lib.hid (by rw [← hw1]; exact (Below.refl _ _).alloc (Nat.le_refl _) _)
  have HG1 : Hid (GlobAt w1) := Lib.hid (hg.keep HB1.out (Nat.le_refl _))
  have k0 : w1.cell? ⟨kb, 0, none⟩ = some (.string tg) := (HB1.out.cell (p := ⟨kb, 0, none⟩) hkb).trans hk
  have i2 : w1.cell? ⟨w.heap.size, 2, none⟩ = some (.string x.tags) := bi.cell 2
  have hil := bi.lt
  have HT := Lib.hid (evtags_any (⟨#[59]⟩ ++ x.tags) w1.drew (by rw [semi_size]; omega) HG1.out.drew)
  have HFW := Lib.hid (tags_few x.tags)
  have hadd : ∀ (u : World), (Op.stringOp .add ⟨#[59]⟩ x.tags).run Tryd.prog u = .ok (.string (⟨#[59]⟩ ++ x.tags)) u := fun u => run_string_add_sum _ _ _ (by show 1 + x.tags.size ≤ 9223372036854775807; omega)
  have HTG : Hid (tagsOf x.tags = evTags (⟨#[59]⟩ ++ x.tags)) := Lib.hid rfl
  clear bi hk hg
  go_enter Tryd.func31, Tryd.ntmps31
  go_wp2_with fail
  clear hw1
  have HKR : Hid (World.cell? w1.drew ⟨kb, 0, none⟩ = some (.string tg) ∧ World.cell? w1.drew ⟨w.heap.size, 2, none⟩ = some (.string x.tags)) := Lib.hid ⟨k0, i2⟩
  go_region_held3 (fun W => World.cell? W ⟨kb, 0, none⟩ = some (.string tg) ∧ World.cell? W ⟨w.heap.size, 2, none⟩ = some (.string x.tags))
    (first | with_reducible exact HKR.out | with_reducible exact HK2.out)
    (first
     | (refine HT.out.mono ?_; rintro e w2 ⟨A2, c2, rfl, hr2, hn2, hb2⟩; have HB2 : Hid (Below w.heap.size w w2) := Lib.hid (HB1.out.trans ((below_from 1 hb2).mono HB1.out.size)); have HR2 := Lib.hid hr2; have HK2 : Hid (World.cell? w2 ⟨kb, 0, none⟩ = some (.string tg) ∧ World.cell? w2 ⟨w.heap.size, 2, none⟩ = some (.string x.tags)) := Lib.hid ⟨(hb2.cell (p := ⟨kb, 0, none⟩) (Nat.lt_of_lt_of_le hkb HB1.out.size)).trans k0, (hb2.cell (p := ⟨w.heap.size, 2, none⟩) hil).trans i2⟩; clear hr2 hb2 hn2)
     | (refine (containsS_any w2 w2.heap.size A2 (tagsOf x.tags) _ c2 tg rfl HR2.out (by have := HFW.out; omega)).mono ?_; rintro e w3 ⟨rfl, rfl⟩))
  go_wp2_with fail
  go_ret
  exact ⟨rfl, HB2.out⟩

end Go.Proofs.YtpnfnmpohacnoaaDoor

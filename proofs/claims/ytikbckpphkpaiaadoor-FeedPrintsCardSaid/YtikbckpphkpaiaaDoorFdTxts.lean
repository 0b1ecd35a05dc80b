/- Texts, plain: what stands between signs; numbers in digits; the line of a row. The document's Digits. The document's Line. The document's Print. -/
import Derived.Test.YtikbckpphkpaiaaDoorFdRef
import Derived.Lib.Join
import Derived.Lib.ItoaLen
import Derived.Lib.AtoiTie
namespace Go.Proofs.YtikbckpphkpaiaaDoor
/-! FdTxt -/
open Go.Shelf Go.RowKit Go.Maps
set_option linter.unusedVariables false

/-! ### numbers -/
def itoaB (n : Int) : ByteArray := ⟨(Lib.itoa n).toArray⟩
def digB (n : Nat) : ByteArray := ⟨(Lib.decDigits n).toArray⟩
theorem itoa_dig (n : Nat) : itoaB (n : Int) = digB n := by unfold itoaB digB; rw [Lib.itoa_nonneg]
theorem dig_data (n : Nat) : (digB n).data.toList = Lib.decDigits n := by unfold digB; simp
theorem itoaB_data (n : Int) : (itoaB n).data.toList = Lib.itoa n := by unfold itoaB; simp
theorem itoaB_size {n : Int} (h0 : -9223372036854775808 ≤ n) (h1 : n ≤ 9223372036854775807) : (itoaB n).size ≤ 21 := by
  have := Lib.itoa_length_le n h0 h1
  show (Lib.itoa n).toArray.size ≤ 21
  simpa using this
/-- What stands behind so far: the digits of m are those of n, and s. -/
def DigTo (m n : Nat) (s : ByteArray) : Prop := digB m = digB n ++ s
theorem DigTo.start (m : Nat) : DigTo m m ⟨#[]⟩ := by
  unfold DigTo
  apply ba_eq
  simp [ByteArray.data_append]
theorem DigTo.next {m n : Nat} {s : ByteArray} (h : DigTo m n s) (hn : 10 ≤ n) : DigTo m (n / 10) (⟨#[UInt8.ofNat (48 + n % 10)]⟩ ++ s) := by
  unfold DigTo at h ⊢
  rw [h]
  apply ba_eq
  simp only [ByteArray.data_append, Array.toList_append, dig_data]
  conv => lhs; rw [Lib.decDigits, dif_neg (by omega)]
  simp
theorem DigTo.fin {m n : Nat} {s : ByteArray} (h : DigTo m n s) (hn : n < 10) : digB m = ⟨#[UInt8.ofNat (48 + n)]⟩ ++ s := by
  unfold DigTo at h
  rw [h]
  apply ba_eq
  simp only [ByteArray.data_append, Array.toList_append, dig_data]
  rw [Lib.decDigits, dif_pos hn]

/-! ### lines -/
def tagsT (t : ByteArray) : ByteArray := if t = ⟨#[]⟩ then ⟨#[46]⟩ else t
def spB : ByteArray := ⟨#[32]⟩
def nlB : ByteArray := ⟨#[10]⟩
def lineW (r : Ro) : List ByteArray := [r.name, r.maker, tagsT r.tags, itoaB r.price, itoaB r.stock]
def lineL (r : Ro) : List UInt8 := Lib.join ((lineW r).map (·.data.toList)) [32]
def lineB (r : Ro) : ByteArray := ⟨(lineL r).toArray⟩
theorem line_eq (r : Ro) : lineB r = r.name ++ spB ++ r.maker ++ spB ++ tagsT r.tags ++ spB ++ itoaB r.price ++ spB ++ itoaB r.stock := by
  apply ba_eq
  unfold lineB lineL lineW spB
  simp [Lib.join, List.intercalate, ByteArray.data_append]
/-- All lines, one behind the other. -/
def linesB : List Ro → ByteArray
  | [] => ⟨#[]⟩
  | r :: l => lineB r ++ nlB ++ linesB l
theorem ba_assoc (a b c : ByteArray) : a ++ b ++ c = a ++ (b ++ c) := by
  apply ba_eq
  simp [ByteArray.data_append]
theorem ba_nil (a : ByteArray) : a ++ (⟨#[]⟩ : ByteArray) = a := by
  apply ba_eq
  simp [ByteArray.data_append]
theorem ba_nil' (a : ByteArray) : (⟨#[]⟩ : ByteArray) ++ a = a := by
  apply ba_eq
  simp [ByteArray.data_append]
theorem text_snoc (l : List Ro) (r : Ro) : linesB (l ++ [r]) = linesB l ++ (lineB r ++ nlB) := by
  induction l with
  | nil => show lineB r ++ nlB ++ (⟨#[]⟩ : ByteArray) = ⟨#[]⟩ ++ _; rw [ba_nil, ba_nil']
  | cons a l ih => show lineB a ++ nlB ++ linesB (l ++ [r]) = lineB a ++ nlB ++ linesB l ++ _; rw [ih, ← ba_assoc]
def printB (l : List Ro) : ByteArray := if okL l = true then linesB l else ⟨#[]⟩
theorem ba_size (a b : ByteArray) : (a ++ b).size = a.size + b.size := by
  show (a ++ b).data.size = _
  rw [ByteArray.data_append, Array.size_append]
  rfl
theorem tagsT_size (t : ByteArray) : (tagsT t).size ≤ t.size + 1 := by
  unfold tagsT
  split
  · show 1 ≤ _; omega
  · omega
theorem line_size {r : Ro} {n : Nat} (hp : -9223372036854775808 ≤ r.price ∧ r.price ≤ 9223372036854775807) (hs : -9223372036854775808 ≤ r.stock ∧ r.stock ≤ 9223372036854775807) (h : r.name.size + r.maker.size + r.tags.size ≤ n) : (lineB r).size ≤ n + 47 := by
  rw [line_eq]
  simp only [ba_size]
  have h1 := itoaB_size hp.1 hp.2
  have h2 := itoaB_size hs.1 hs.2
  have h3 := tagsT_size r.tags
  have h4 : spB.size = 1 := rfl
  omega
theorem text_size {l : List Ro} {n : Nat} (h : ∀ r ∈ l, (lineB r).size ≤ n) : (linesB l).size ≤ l.length * (n + 1) := by
  induction l with
  | nil => show 0 ≤ _; omega
  | cons a l ih =>
    show (lineB a ++ nlB ++ linesB l).size ≤ _
    rw [ba_size, ba_size]
    have h1 := h a (by simp)
    have h2 := ih (fun r hr => h r (by simp [hr]))
    have h3 : nlB.size = 1 := rfl
    rw [List.length_cons, Nat.succ_mul]
    omega

/-! FdDig -/
open Go.Shelf Go.RowKit Go.Maps
set_option linter.unusedVariables false

theorem dig_small {n : Nat} (hn : n ≤ 1000000000) : (digB n).size ≤ 21 := by
  have := itoaB_size (n := (n : Int)) (by omega) (by omega)
  rwa [itoa_dig] at this
theorem DigTo.few {m n : Nat} {s : ByteArray} (h : DigTo m n s) (hm : m ≤ 1000000000) : s.size ≤ 21 := by
  have h1 := dig_small hm
  unfold DigTo at h
  rw [h, ba_size] at h1
  omega
theorem one_back (w : World) (b : UInt8) (z : Int) (hz : z = (b.toNat : Int)) : (convert 86 9 (.slice (some ⟨w.heap.size, 0, none⟩) 1 1)).run Tryd.prog (w.alloc (.cells #[.int .u8 z] 5)) = .ok (.string ⟨#[b]⟩) (w.alloc (.cells #[.int .u8 z] 5)) := by
  subst hz
  have HK : Blk (w.alloc (.cells #[.int .u8 (b.toNat : Int)] 5)) w.heap.size 5 #[.int .u8 (b.toNat : Int)] := Blk.new _ _ _
  exact run_convert_bytes_back (P := Tryd.prog) _ 86 9 5 ⟨w.heap.size, 0, none⟩ 1 [b] Tryd.underlying86 Tryd.underlying5 Tryd.underlying9 (fun j hj => by
    obtain rfl : j = 0 := by simpa using hj
    exact HK.cell 0)
set_option maxHeartbeats 2000000 in
set_option maxRecDepth 100000 in
theorem rdigits_any (n : Nat) (w : World) (hn : n ≤ 1000000000) :
    Calls Tryd.prog 67 #[.int .i64 n] w fun e w' => e = .returned (.string (digB n)) ∧ Below w.heap.size w w' := by
  go_enter Tryd.func67, Tryd.ntmps67
  go_wp2_with fail
  go_loopw [0, 3] (fun i s wr => ∃ (k : Nat) (t : ByteArray), k ≤ n ∧ i = .int .i64 k ∧ s = .string t ∧ t.size ≤ 21 ∧ Hid (DigTo n k t) ∧ Hid (Below w.heap.size w wr)) (fun i _ _ => (intOf i).toNat)
  case atStart => exact ⟨n, ⟨#[]⟩, Nat.le_refl _, rfl, rfl, by decide, Lib.hid (DigTo.start n), Lib.hid (Below.refl _ _)⟩
  case round =>
    obtain ⟨k, t, hk, rfl, rfl, hts, hdg, hbw⟩ := hrel
    have hzw := hbw.out.size
    by_cases hlt : 9 < k
    · have h9 : (9 : Int) < (k : Int) := by omega
      obtain ⟨b, hb⟩ : ∃ b : UInt8, UInt8.ofNat (48 + k % 10) = b := ⟨_, rfl⟩
      have hbn : 48 + (k : Int) % 10 = (b.toNat : Int) := by
        rw [← hb, UInt8.toNat_ofNat_of_lt' (by show _ < 256; omega)]
        omega
      have hcv := one_back wr b _ hbn
      have HD : Hid (DigTo n (k / 10) (⟨#[b]⟩ ++ t)) := Lib.hid (by rw [← hb]; exact hdg.out.next (by omega))
      have HS : Hid ((⟨#[b]⟩ ++ t : ByteArray).size ≤ 21) := Lib.hid (HD.out.few hn)
      have HBW : Hid (Below w.heap.size w (wr.alloc (.cells #[.int .u8 (48 + (k : Int) % 10)] 5))) := Lib.hid (hbw.out.alloc hzw _)
      have hb1 : (⟨#[b]⟩ : ByteArray).size = 1 := rfl
      clear hbn hb
      go_wp2_with fail
      go_roundw
      case rel => exact ⟨k / 10, _, by omega, by go_num, rfl, HS.out, HD, HBW⟩
      case measure => simp [intOf]; omega
    · obtain ⟨b, hb⟩ : ∃ b : UInt8, UInt8.ofNat (48 + k) = b := ⟨_, rfl⟩
      have hbn : 48 + (k : Int) = (b.toNat : Int) := by
        rw [← hb, UInt8.toNat_ofNat_of_lt' (by show _ < 256; omega)]
        omega
      have hcv := one_back wr b _ hbn
      have HD : Hid (digB n = ⟨#[b]⟩ ++ t) := Lib.hid (by rw [← hb]; exact hdg.out.fin (by omega))
      have HBW : Hid (Below w.heap.size w (wr.alloc (.cells #[.int .u8 (48 + (k : Int))] 5))) := Lib.hid (hbw.out.alloc hzw _)
      have hb1 : (⟨#[b]⟩ : ByteArray).size = 1 := rfl
      clear hbn hb
      go_wp2_with fail
      go_ret
      exact ⟨congrArg (fun s => Ending.returned (Value.string s)) HD.out.symm, HBW.out⟩

/-! FdRLine -/
open Go.Shelf Go.RowKit Go.Maps
set_option linter.unusedVariables false

set_option maxHeartbeats 8000000 in
set_option maxRecDepth 100000 in
theorem rline_any (nm mk tg : ByteArray) (p s : Nat) (w : World) (hn : nm.size ≤ 1000000) (hm : mk.size ≤ 1000000) (ht : tg.size ≤ 1000000) (hp : p ≤ 1000000000) (hst : s ≤ 1000000000) :
    Calls Tryd.prog 48 #[.agg #[.string nm, .string mk, .string tg, .int .i64 p, .int .i64 s]] w fun e w' => e = .returned (.string (lineB ⟨nm, mk, tg, p, s⟩ ++ nlB)) ∧ Below w.heap.size w w' := by
  obtain ⟨w1, hw1⟩ : ∃ w1, w.alloc (.cells #[.string nm, .string mk, .string tg, .int .i64 p, .int .i64 s] 46) = w1 := ⟨_, rfl⟩
  have HK1 : Hid (Blk w1 w.heap.size 46 #[.string nm, .string mk, .string tg, .int .i64 p, .int .i64 s]) := Lib.hid (by rw [← hw1]; exact Blk.new _ _ _)
  have HB1 : Hid (Below w.heap.size w w1) := Lib.hid (by rw [← hw1]; exact (Below.refl _ _).alloc (Nat.le_refl _) _)
  have HZ1 : Hid (w.heap.size ≤ w1.heap.size) := Lib.hid HB1.out.size
  have c2 : w1.cell? ⟨w.heap.size, 2, none⟩ = some (.string tg) := HK1.out.cell 2
  have HSC : Hid (∀ W, Below w1.heap.size w1 W → W.cell? ⟨w.heap.size, 0, none⟩ = some (.string nm) ∧ W.cell? ⟨w.heap.size, 1, none⟩ = some (.string mk) ∧ W.cell? ⟨w.heap.size, 2, none⟩ = some (.string tg) ∧ W.cell? ⟨w.heap.size, 3, none⟩ = some (.int .i64 p) ∧ W.cell? ⟨w.heap.size, 4, none⟩ = some (.int .i64 s)) := Lib.hid (fun W hW =>
    ⟨(hW.cell (p := ⟨w.heap.size, _, none⟩) HK1.out.lt).trans (HK1.out.cell 0), (hW.cell (p := ⟨w.heap.size, _, none⟩) HK1.out.lt).trans (HK1.out.cell 1), (hW.cell (p := ⟨w.heap.size, _, none⟩) HK1.out.lt).trans (HK1.out.cell 2), (hW.cell (p := ⟨w.heap.size, _, none⟩) HK1.out.lt).trans (HK1.out.cell 3), (hW.cell (p := ⟨w.heap.size, _, none⟩) HK1.out.lt).trans (HK1.out.cell 4)⟩)
  have HS0 : Hid (Below w1.heap.size w1 w1.drew) := Lib.hid (below_drew (Below.refl _ _))
  have HI1 := Lib.hid (rdigits_any p w1.drew hp)
  have sp1 : (⟨#[32]⟩ : ByteArray).size = 1 := rfl
  have sp2 : (⟨#[10]⟩ : ByteArray).size = 1 := rfl
  have sp3 : (⟨#[46]⟩ : ByteArray).size = 1 := rfl
  have dz1 := dig_small hp
  have dz2 := dig_small hst
  go_enter Tryd.func48, Tryd.ntmps48
  by_cases ht0 : tg = ⟨#[]⟩
  · have q0 : tg.toList.isEmpty = true := by rw [emp_iff]; exact decide_eq_true ht0
    have HLW : Hid (nm ++ ⟨#[32]⟩ ++ mk ++ ⟨#[32]⟩ ++ ⟨#[46]⟩ ++ ⟨#[32]⟩ ++ digB p ++ ⟨#[32]⟩ ++ digB s ++ ⟨#[10]⟩ = lineB ⟨nm, mk, tg, p, s⟩ ++ nlB) := Lib.hid (by
      rw [line_eq]
      rw [show tagsT (⟨nm, mk, tg, p, s⟩ : Ro).tags = ⟨#[46]⟩ from if_pos ht0]
      simp only [itoa_dig]
      rfl)
    clear ht0
    go_wp2_with fail
    refine wp_plan (fun W => Below w1.heap.size w1 W) [(0, false), (1, false), (2, false), (3, false), (4, false), (5, false), (6, false), (7, false), (8, false), (9, false), (10, false), (11, false), (15, false), (16, false), (12, true), (13, false), (14, false), (17, true), (18, false), (19, false), (20, false)] (by kernel_rfl) (by kernel_rfl) HS0.out ?_
    simp only [planL, List.getElem?_cons_zero, List.getElem?_cons_succ]
    repeat (first | (refine plan_on _ (by rfl) (fun W hW => by (obtain ⟨x0, x1, x2, x3, x4⟩ := HSC.out W hW; go_simp; try (first | with_reducible rfl | rw [if_neg (by omega)]))) ?_; simp only [Act.put, List.setIfInBounds_toArray, List.set_cons_zero, List.set_cons_succ]) | (refine plan_off (by rfl) ?_; simp only [Act.put, List.setIfInBounds_toArray, List.set_cons_zero, List.set_cons_succ]))
    refine plan_turn ?_
    go_wp2_with fail
    refine HI1.out.mono ?_
    rintro e w3 ⟨rfl, hb3⟩
    have HB3 : Hid (Below w1.heap.size w1 w3) := Lib.hid (HS0.out.trans (hb3.mono HS0.out.size))
    have HI2 := Lib.hid (rdigits_any s w3 hst)
    clear hb3 HI1
    go_wp2_with fail
    refine ⟨HB3.out, ?_⟩
    repeat (first | (refine plan_on _ (by rfl) (fun W hW => by (obtain ⟨x0, x1, x2, x3, x4⟩ := HSC.out W hW; go_simp; try (first | with_reducible rfl | rw [if_neg (by omega)]))) ?_; simp only [Act.put, List.setIfInBounds_toArray, List.set_cons_zero, List.set_cons_succ]) | (refine plan_off (by rfl) ?_; simp only [Act.put, List.setIfInBounds_toArray, List.set_cons_zero, List.set_cons_succ]))
    refine plan_turn ?_
    go_wp2_with fail
    refine HI2.out.mono ?_
    rintro e w4 ⟨rfl, hb4⟩
    have HB4 : Hid (Below w1.heap.size w1 w4) := Lib.hid (HB3.out.trans (hb4.mono HB3.out.size))
    clear hb4 HI2
    go_wp2_with fail
    refine ⟨HB4.out, ?_⟩
    repeat (first | (refine plan_on _ (by rfl) (fun W hW => by (obtain ⟨x0, x1, x2, x3, x4⟩ := HSC.out W hW; go_simp; try (first | with_reducible rfl | rw [if_neg (by omega)]))) ?_; simp only [Act.put, List.setIfInBounds_toArray, List.set_cons_zero, List.set_cons_succ]) | (refine plan_off (by rfl) ?_; simp only [Act.put, List.setIfInBounds_toArray, List.set_cons_zero, List.set_cons_succ]))
    refine plan_done ?_
    go_wp2_with fail
    go_ret
    exact ⟨congrArg (fun s => Ending.returned (Value.string s)) HLW.out, HB1.out.trans (HB4.out.mono HZ1.out)⟩
  · have q0 : tg.toList.isEmpty = false := by rw [emp_iff]; exact decide_eq_false ht0
    have HLW : Hid (nm ++ ⟨#[32]⟩ ++ mk ++ ⟨#[32]⟩ ++ tg ++ ⟨#[32]⟩ ++ digB p ++ ⟨#[32]⟩ ++ digB s ++ ⟨#[10]⟩ = lineB ⟨nm, mk, tg, p, s⟩ ++ nlB) := Lib.hid (by
      rw [line_eq]
      rw [show tagsT (⟨nm, mk, tg, p, s⟩ : Ro).tags = tg from if_neg ht0]
      simp only [itoa_dig]
      rfl)
    clear ht0
    go_wp2_with fail
    refine wp_plan (fun W => Below w1.heap.size w1 W) [(0, false), (1, false), (2, false), (3, false), (4, false), (5, false), (6, false), (7, false), (8, false), (9, false), (10, false), (11, false), (15, false), (16, false), (12, true), (13, false), (14, false), (17, true), (18, false), (19, false), (20, false)] (by kernel_rfl) (by kernel_rfl) HS0.out ?_
    simp only [planL, List.getElem?_cons_zero, List.getElem?_cons_succ]
    repeat (first | (refine plan_on _ (by rfl) (fun W hW => by (obtain ⟨x0, x1, x2, x3, x4⟩ := HSC.out W hW; go_simp; try (first | with_reducible rfl | rw [if_neg (by omega)]))) ?_; simp only [Act.put, List.setIfInBounds_toArray, List.set_cons_zero, List.set_cons_succ]) | (refine plan_off (by rfl) ?_; simp only [Act.put, List.setIfInBounds_toArray, List.set_cons_zero, List.set_cons_succ]))
    refine plan_turn ?_
    go_wp2_with fail
    refine HI1.out.mono ?_
    rintro e w3 ⟨rfl, hb3⟩
    have HB3 : Hid (Below w1.heap.size w1 w3) := Lib.hid (HS0.out.trans (hb3.mono HS0.out.size))
    have HI2 := Lib.hid (rdigits_any s w3 hst)
    clear hb3 HI1
    go_wp2_with fail
    refine ⟨HB3.out, ?_⟩
    repeat (first | (refine plan_on _ (by rfl) (fun W hW => by (obtain ⟨x0, x1, x2, x3, x4⟩ := HSC.out W hW; go_simp; try (first | with_reducible rfl | rw [if_neg (by omega)]))) ?_; simp only [Act.put, List.setIfInBounds_toArray, List.set_cons_zero, List.set_cons_succ]) | (refine plan_off (by rfl) ?_; simp only [Act.put, List.setIfInBounds_toArray, List.set_cons_zero, List.set_cons_succ]))
    refine plan_turn ?_
    go_wp2_with fail
    refine HI2.out.mono ?_
    rintro e w4 ⟨rfl, hb4⟩
    have HB4 : Hid (Below w1.heap.size w1 w4) := Lib.hid (HB3.out.trans (hb4.mono HB3.out.size))
    clear hb4 HI2
    go_wp2_with fail
    refine ⟨HB4.out, ?_⟩
    repeat (first | (refine plan_on _ (by rfl) (fun W hW => by (obtain ⟨x0, x1, x2, x3, x4⟩ := HSC.out W hW; go_simp; try (first | with_reducible rfl | rw [if_neg (by omega)]))) ?_; simp only [Act.put, List.setIfInBounds_toArray, List.set_cons_zero, List.set_cons_succ]) | (refine plan_off (by rfl) ?_; simp only [Act.put, List.setIfInBounds_toArray, List.set_cons_zero, List.set_cons_succ]))
    refine plan_done ?_
    go_wp2_with fail
    go_ret
    exact ⟨congrArg (fun s => Ending.returned (Value.string s)) HLW.out, HB1.out.trans (HB4.out.mono HZ1.out)⟩

/-! FdRPrint -/
open Go.Shelf Go.RowKit Go.Maps
set_option linter.unusedVariables false

theorem rolines_next {l : List Ro} {k : Nat} {x : Ro} (h : l[k]? = some x) : linesB (l.take (k + 1)) = linesB (l.take k) ++ (lineB x ++ nlB) := by
  rw [List.take_add_one, h]
  exact text_snoc _ _
theorem mayR_num {r : Ro} (h : mayR r = true) : (0 ≤ r.price ∧ r.price ≤ 1048576) ∧ (0 ≤ r.stock ∧ r.stock ≤ 1048576) := by
  unfold mayR withB at h
  simp only [Bool.and_eq_true, decide_eq_true_eq] at h
  exact ⟨h.2.2.1, h.2.2.2.1⟩
theorem roline_few {r : Ro} (h : RoFew r) (hm : mayR r = true) : (lineB r).size ≤ 1000047 := by
  have hn := mayR_num hm
  unfold RoFew at h
  exact line_size ⟨by omega, by omega⟩ ⟨by omega, by omega⟩ (by omega)
theorem rolines_few {l : List Ro} (h : ∀ x ∈ l, (lineB x).size ≤ 1000047) (hn : l.length ≤ 1000) (k : Nat) : (linesB (l.take k)).size ≤ 1000048000 := by
  have h1 := text_size (l := l.take k) (n := 1000047) (fun r hr => h r (List.mem_of_mem_take hr))
  have h2 : (l.take k).length ≤ 1000 := by
    rw [List.length_take]; omega
  have h3 := Nat.mul_le_mul_right (1000047 + 1) h2
  omega

set_option maxHeartbeats 8000000 in
set_option maxRecDepth 100000 in
theorem rprint_any (w : World) (B : Nat) (A : Option Addr) (l : List Ro) (n c : Nat) (hn : l.length = n) (hl : RowIn w B 5 A n (l.flatMap roC)) (hB : B ≤ w.heap.size) (hb : n ≤ 1000) (hc : n ≤ c) (hsz : ∀ r ∈ l, RoFew r) :
    Calls Tryd.prog 20 #[.slice A n c] w fun e w' => e = .returned (.string (printB l)) ∧ Below w.heap.size w w' := by
  have HN := Lib.hid hn
  have HL := Lib.hid hl
  have HS := Lib.hid hsz
  have HAL := Lib.hid (rall_any w B A l n c hn hl hB hb hc hsz)
  clear hn hl hsz
  go_enter Tryd.func20, Tryd.ntmps20
  go_wp2_with fail
  refine HAL.out.mono ?_
  rintro e w2 ⟨rfl, hb2⟩
  have HB2 := Lib.hid hb2
  clear hb2 HAL
  cases hok : okL l
  · have HOK : Hid (printB l = ⟨#[]⟩) := Lib.hid (by unfold printB; rw [if_neg]; rw [hok]; decide)
    clear hok
    go_wp2_with fail
    go_ret
    exact ⟨congrArg (fun s => Ending.returned (Value.string s)) HOK.out.symm, HB2.out⟩
  have HOK : Hid (printB l = linesB l) := Lib.hid (by unfold printB; rw [if_pos]; exact hok)
  have HMY : Hid (∀ r ∈ l, mayR r = true) := Lib.hid ((okL_iff l).1 hok).1
  have HLF : Hid (∀ r ∈ l, (lineB r).size ≤ 1000047) := Lib.hid (fun r hr => roline_few (HS.out r hr) (HMY.out r hr))
  have HFW : Hid (∀ k, (linesB (l.take k)).size ≤ 1000048000) := Lib.hid (fun k => rolines_few HLF.out (by rw [HN.out]; omega) k)
  clear hok
  go_wp2_with fail
  go_loopw [3, 4] (fun s i wr => ∃ (k : Nat) (t : ByteArray), k ≤ n ∧ i = .int .i64 k ∧ s = .string t ∧ t.size ≤ 1000048000 ∧ Hid (t = linesB (l.take k)) ∧ Hid (Below w.heap.size w wr)) (fun _ i _ => n - (intOf i).toNat)
  case atStart => exact ⟨0, ⟨#[]⟩, Nat.zero_le _, rfl, rfl, by decide, Lib.hid rfl, HB2⟩
  case round =>
    clear HB2
    obtain ⟨k, t, hk, rfl, rfl, hts, htk, hbw⟩ := hrel
    have hwz := hbw.out.size
    by_cases hlt : k < n
    · obtain ⟨x, hx⟩ : ∃ x, l[k]? = some x := ⟨l[k]'(by rw [HN.out]; exact hlt), List.getElem?_eq_getElem _⟩
      have HX := Lib.hid hx
      obtain ⟨g, o, rfl, hgB, hcl⟩ := ro_at HL.out (by omega)
      have hgw : g < w.heap.size := Nat.lt_of_lt_of_le hgB hB
      have hmem := List.mem_of_getElem? hx
      obtain ⟨⟨hp0, hp1⟩, hs0, hs1⟩ := mayR_num (HMY.out x hmem)
      have hls := HLF.out x hmem
      have hfx := HS.out x hmem
      have hks := HFW.out (k + 1)
      obtain ⟨nm, mk, tg, pr, st⟩ := x
      simp only at hp0 hp1 hs0 hs1
      obtain ⟨p, rfl⟩ : ∃ p : Nat, pr = (p : Int) := ⟨pr.toNat, by omega⟩
      obtain ⟨s, rfl⟩ : ∃ s : Nat, st = (s : Int) := ⟨st.toNat, by omega⟩
      obtain ⟨f0, f1, f2, f3, f4⟩ : wr.cell? ⟨g, o + k * 5, none⟩ = some (.string nm) ∧ wr.cell? ⟨g, o + k * 5 + 1, none⟩ = some (.string mk) ∧ wr.cell? ⟨g, o + k * 5 + 2, none⟩ = some (.string tg) ∧ wr.cell? ⟨g, o + k * 5 + 3, none⟩ = some (.int .i64 p) ∧ wr.cell? ⟨g, o + k * 5 + 4, none⟩ = some (.int .i64 s) := by
        obtain ⟨f0, f1, f2, f3, f4⟩ := hcl k _ hx
        exact ⟨(hbw.out.cell (p := ⟨g, _, none⟩) hgw).trans f0, (hbw.out.cell (p := ⟨g, _, none⟩) hgw).trans f1, (hbw.out.cell (p := ⟨g, _, none⟩) hgw).trans f2, (hbw.out.cell (p := ⟨g, _, none⟩) hgw).trans f3, (hbw.out.cell (p := ⟨g, _, none⟩) hgw).trans f4⟩
      unfold RoFew at hfx
      simp only at hfx
      have HLN := Lib.hid (rline_any nm mk tg p s wr (by omega) (by omega) (by omega) (by omega) (by omega))
      have HTN : Hid (t ++ (lineB ⟨nm, mk, tg, p, s⟩ ++ nlB) = linesB (l.take (k + 1))) := Lib.hid (by rw [htk.out, rolines_next HX.out])
      obtain ⟨ln, hln⟩ : ∃ ln, lineB ⟨nm, mk, tg, p, s⟩ ++ nlB = ln := ⟨_, rfl⟩
      have hlz : ln.size ≤ 1000048 := by rw [← hln, ba_size]; have h3 : nlB.size = 1 := rfl; omega
      have HTZ : Hid ((t ++ ln).size ≤ 1000048000) := Lib.hid (by rw [← hln, HTN.out]; exact hks)
      rw [hln] at HTN HLN
      have hk8 : (k : Int) < (n : Int) := by omega
      have hk9 : (0 : Int) ≤ (k : Int) := by omega
      clear hcl hx hmem hp0 hp1 hs0 hs1 hls hfx hks hln
      go_wp2_with fail
      refine HLN.out.mono ?_
      rintro e w5 ⟨rfl, hb5⟩
      have HB5 : Hid (Below w.heap.size w w5) := Lib.hid (hbw.out.trans (hb5.mono hwz))
      clear hb5 HLN
      go_wp2_with fail
      go_roundw
      case rel => exact ⟨k + 1, _, by omega, by go_num, rfl, HTZ.out, HTN, HB5⟩
      case measure => simp [intOf]; omega
    · obtain rfl : n = k := by omega
      have htl : l.take n = l := by rw [← HN.out, List.take_length]
      have HTT : Hid (t = printB l) := Lib.hid (by rw [HOK.out, htk.out, htl])
      go_wp2_with fail
      go_ret
      exact ⟨congrArg (fun s => Ending.returned (Value.string s)) HTT.out, hbw.out⟩

end Go.Proofs.YtikbckpphkpaiaaDoor

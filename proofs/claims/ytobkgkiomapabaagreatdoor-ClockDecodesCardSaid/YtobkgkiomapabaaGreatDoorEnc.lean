/- clock.Encode: a line. -/
import Derived.Test.YtobkgkiomapabaaGreatDoorOrderP
import Derived.Test.YtobkgkiomapabaaGreatDoorPlan
import Derived.Shelf.Strconv.AppendIntPublic10
import Derived.Lib.AppendStr
import Derived.Lib.ItoaLen
import Derived.Lib.BufferWrite
import Derived.Lib.OthersKept
namespace Go.Proofs.YtobkgkiomapabaaGreatDoor
open Go.RowKit Go.Maps Go.Shelf
set_option linter.unusedVariables false

/-- The name of the library's table, out of the program. -/
noncomputable def tabN : String := ((Tryz.prog.globals[3]?).map (·.name)).getD ""
/-- The table of powers of ten is there, whatever is done from block B on. -/
def TabB (B : Nat) (w : World) : Prop := Lib.TabBelow Tryz.prog B w tabN .u64 Lib.pow10Tab
theorem TabB.on {B : Nat} {w w' : World} (h : TabB B w) (hb : Below B w w') : TabB B w' := Lib.TabBelow.on h hb
theorem tabN_is {B : Nat} {w : World} {s : String} (hs : tabN = s) (h : TabB B w) : Lib.TabBelow Tryz.prog B w s .u64 Lib.pow10Tab := hs ▸ h
theorem appint_any (B n : Nat) (i : Int) (h0 : -9223372036854775808 ≤ i) (h1 : i ≤ 9223372036854775807) (sv : Value) (xs : List Value) (w : World) (hown : w.ownsRow B 5 1 sv n xs) (hBw : B ≤ w.heap.size) (hlim : n + 21 ≤ 140737488355328) (htab : TabB B w) :
    Calls Tryz.prog 29 #[sv, .int .i64 i, .int .i64 10] w fun e w' => ∃ v', e = .returned v' ∧ w'.ownsRow B 5 1 v' (n + (Lib.itoa i).length) (xs ++ Lib.byteCells (Lib.itoa i)) ∧ Below B w w' ∧ Lib.OthersKept 5 none w w' :=
  Any.strconv_AppendInt_10 Tryz.laysM176 B n i h0 h1 sv xs w hown hBw hlim (tabN_is (by unfold tabN; kernel_rfl) htab)

/-- The line of a word and numbers. -/
def lineC (word : ByteArray) (ns : List Int) : List UInt8 := word.data.toList ++ ns.flatMap (fun n => 32 :: Lib.itoa n) ++ [10]
/-- The box lb holds a slice that owns these bytes. -/
def LineIn (w : World) (B lb n : Nat) (bs : List UInt8) : Prop := ∃ A c, bs.length = n ∧ Blk w lb 22 #[.slice A n c] ∧ w.ownsRow B 5 1 (.slice A n c) n (Lib.byteCells bs)
theorem byte_info : (Tryz.prog.info? 5).map (fun i => (i.zero, i.size, i.bytes)) = some (some (.int .u8 0), 1, 1) := by kernel_rfl
theorem own_ne {w : World} {B lb n : Nat} {v : Value} {cs : Array Value} {xs : List Value} (h : Blk w lb 22 cs) (ho : w.ownsRow B 5 1 v n xs) : v.ownBlock ≠ some lb := by
  rcases ho.2 with ⟨h1, _⟩ | ⟨g, cap, cur, h1, _, hgb, _⟩
  · rw [h1]; simp [Value.ownBlock]
  · rw [h1]
    intro e
    obtain rfl : g = lb := by simpa [Value.ownBlock] using e
    unfold Blk at h
    rw [hgb] at h
    cases h
theorem own_kind {w : World} {B n : Nat} {v : Value} {xs : List Value} (ho : w.ownsRow B 5 1 v n xs) : ∀ g, v.ownBlock = some g → ∃ c fz, w.heap[g]? = some (.cells c 5 fz) := by
  intro g hg
  rcases ho.2 with ⟨h1, _⟩ | ⟨g', cap, cur, h1, _, hgb, _⟩
  · rw [h1] at hg; simp [Value.ownBlock] at hg
  · rw [h1] at hg
    obtain rfl : g' = g := by simpa [Value.ownBlock] using hg
    exact ⟨_, _, hgb⟩
theorem own_set {w : World} {B lb n : Nat} {v : Value} {cs : Array Value} {xs : List Value} (h : Blk w lb 22 cs) (ho : w.ownsRow B 5 1 v n xs) (i : Nat) (u : Value) : (w.setCell ⟨lb, i, none⟩ u).ownsRow B 5 1 v n xs := by
  have hne := own_ne h ho
  refine ⟨ho.1, ?_⟩
  rcases ho.2 with hn | ⟨g, cap, cur, hv, hb, hg, rest⟩
  · exact .inl hn
  · refine .inr ⟨g, cap, cur, hv, hb, ?_, rest⟩
    rw [Below.heap_setCell _ _ _ _ (fun e => hne (by rw [hv]; simp [Value.ownBlock]; exact e))]
    exact hg
theorem oth_blk {w w' : World} {lb g : Nat} {t : TypeId} {cs : Array Value} (h : Lib.OthersKept 5 (some lb) w w') (hb : Blk w g t cs) (hg : g ≠ lb) (ht : t ≠ 5) : Blk w' g t cs := h g _ hb (fun e => hg (by injection e)) (fun c fz e => ht (by injection e))
theorem oth_none {w w' : World} {lb : Nat} (h : Lib.OthersKept 5 none w w') : Lib.OthersKept 5 (some lb) w w' := fun k o hk _ ho => h k o hk (by simp) ho
/-- How far the numbers are, at k. -/
def numsTo (ns : List Int) (k : Nat) : List UInt8 := (ns.take k).flatMap fun n => 32 :: Lib.itoa n
theorem nums_next {ns : List Int} {k : Nat} {n : Int} (h : ns[k]? = some n) : numsTo ns (k + 1) = numsTo ns k ++ (32 :: Lib.itoa n) := by
  unfold numsTo
  rw [List.take_add_one, h, List.flatMap_append]
  simp
theorem nums_few {ns : List Int} (h : ∀ n ∈ ns, -9223372036854775808 ≤ n ∧ n ≤ 9223372036854775807) (k : Nat) : (numsTo ns k).length ≤ 22 * k := by
  unfold numsTo
  induction k generalizing ns with
  | zero => simp
  | succ k ih =>
    cases ns with
    | nil => simp
    | cons a l =>
      rw [List.take_succ_cons, List.flatMap_cons, List.length_append, List.length_cons]
      have h1 := Lib.itoa_length_le a (h a (by simp)).1 (h a (by simp)).2
      have h2 := ih (ns := l) (fun n hn => h n (by simp [hn]))
      omega

theorem own_shape {w : World} {base n : Nat} {e : TypeId} {size : Nat} {v : Value} {xs : List Value} (h : w.ownsRow base e size v n xs) : ∃ A c, v = .slice A n c := by
  rcases h.2 with ⟨h1, h2⟩ | ⟨g, cap, cur, h1, _⟩
  · subst h1 h2; exact ⟨_, _, rfl⟩
  · subst h1; exact ⟨_, _, rfl⟩
/-- What a line leaves as it was. -/
def Fr (B lb : Nat) (w w' : World) : Prop := Below B w w' ∧ Lib.OthersKept 5 (some lb) w w'
theorem Fr.refl (B lb : Nat) (w : World) : Fr B lb w w := ⟨Below.refl _ _, Lib.OthersKept.refl _ _ _⟩
theorem Fr.trans {B lb : Nat} {a b c : World} (h : Fr B lb a b) (k : Fr B lb b c) : Fr B lb a c := ⟨h.1.trans k.1, h.2.trans k.2⟩
theorem Fr.alloc {B lb : Nat} {w w' : World} (h : Fr B lb w w') (hB : B ≤ w'.heap.size) (o : Obj) : Fr B lb w (w'.alloc o) := ⟨h.1.alloc hB o, h.2.alloc o⟩
theorem line_put {w w' : World} {B lb n n' : Nat} {v v' x : Value} {xs : List Value} {bs : List UInt8} (hB : B ≤ w.heap.size) (hBl : B ≤ lb) (hblk : Blk w lb 22 #[x]) (hown : w.ownsRow B 5 1 v n xs) (ho : w'.ownsRow B 5 1 v' n' (Lib.byteCells bs)) (hl : bs.length = n') (hg : w.grownBy w' v.ownBlock) :
    LineIn (w'.setCell ⟨lb, 0, none⟩ v') B lb n' bs ∧ Fr B lb w (w'.setCell ⟨lb, 0, none⟩ v') := by
  have hb' : Blk w' lb 22 #[x] := hblk.grown hg (fun e => own_ne hblk hown e.symm)
  obtain ⟨A, c, rfl⟩ := own_shape ho
  refine ⟨⟨A, c, hl, hb'.set_ 0 _, own_set hb' ho 0 _⟩, ?_, ?_⟩
  · exact ((Below.refl B w).grown hg hB (fun j hj => (hown.lt _ hj).1)).setCell (p := ⟨lb, 0, none⟩) hBl _
  · exact ((Lib.OthersKept.refl _ _ _).grown hg (own_kind hown)).setCell ⟨lb, 0, none⟩ rfl _
theorem line_put2 {w w' : World} {B lb n' : Nat} {v' x : Value} {bs : List UInt8} (hBl : B ≤ lb) (hblk : Blk w lb 22 #[x]) (ho : w'.ownsRow B 5 1 v' n' (Lib.byteCells bs)) (hl : bs.length = n') (hb : Below B w w') (hk : Lib.OthersKept 5 none w w') :
    LineIn (w'.setCell ⟨lb, 0, none⟩ v') B lb n' bs ∧ Fr B lb w (w'.setCell ⟨lb, 0, none⟩ v') := by
  have hb' : Blk w' lb 22 #[x] := hk lb _ hblk (by simp) (fun c fz e => by injection e with _ e2; exact absurd e2 (by decide))
  obtain ⟨A, c, rfl⟩ := own_shape ho
  exact ⟨⟨A, c, hl, hb'.set_ 0 _, own_set hb' ho 0 _⟩, hb.setCell (p := ⟨lb, 0, none⟩) hBl _, (oth_none hk).setCell ⟨lb, 0, none⟩ rfl _⟩
theorem one_row (w : World) (b : UInt8) (t : TypeId) : RowIn (w.alloc (.cells #[.int .u8 (b.toNat : Int)] t)) (w.heap.size + 1) 1 (some ⟨w.heap.size, 0, none⟩) 1 (Lib.byteCells [b]) := by
  refine ⟨rfl, Or.inr ⟨w.heap.size, 0, rfl, by omega, fun j u hu => ?_⟩⟩
  rw [(Blk.new w t _).cell]
  rw [← hu, Nat.zero_add]
  simp [Lib.byteCells]
theorem str_cells (s : ByteArray) : Lib.strCells s = Lib.byteCells s.data.toList := rfl

set_option maxHeartbeats 4000000 in
set_option maxRecDepth 100000 in
theorem line_any (w : World) (B lb N : Nat) (bs : List UInt8) (word : ByteArray) (ns : List Int) (ab m c : Nat) (hm : ns.length = m) (hab : Blk w ab 3 (ns.map (Value.int .i64)).toArray) (hne : ab ≠ lb) (hin : ∀ n ∈ ns, -9223372036854775808 ≤ n ∧ n ≤ 9223372036854775807) (hl : LineIn w B lb N bs) (hB : B ≤ w.heap.size) (hBl : B ≤ lb) (hN : N ≤ 1000000) (hw : word.size ≤ 1000000) (hm2 : m ≤ 100) (ht : TabB B w) :
    Calls Tryz.prog 28 #[.string word, .slice (some ⟨ab, 0, none⟩) m c, .pointer (some ⟨lb, 0, none⟩)] w fun e w' => e = .returned (.tuple #[]) ∧ LineIn w' B lb (N + (lineC word ns).length) (bs ++ lineC word ns) ∧ Below B w w' ∧ Lib.OthersKept 5 (some lb) w w' := by
  obtain ⟨A, cc, hbn, hblk, hown⟩ := hl
  have HBN := Lib.hid hbn
  have HBK := Lib.hid hblk
  have HOW := Lib.hid hown
  have HAB := Lib.hid hab
  have HNE := Lib.hid hne
  have HIN := Lib.hid hin
  have HT := Lib.hid ht
  have HM := Lib.hid hm
  have HFW : Hid (∀ k, (numsTo ns k).length ≤ 22 * k) := Lib.hid (nums_few hin)
  have l0 : w.cell? ⟨lb, 0, none⟩ = some (.slice A N cc) := HBK.out.cell 0
  obtain ⟨i0, hi0, hz0, hz1, hz2⟩ := info_parts byte_info
  clear hbn hblk hown hab hne hin ht hm
  go_enter Tryz.func28, Tryz.ntmps28
  go_wp2_with (first
    | (at_builtin; refine Lib.wpList_append_own_string _ rfl _ _ 22 9 rfl B 5 i0 Tryz.underlying22 Tryz.underlying9 hi0 hz0 hz1 hz2 (.slice A N cc) N _ rfl HOW.out word rfl (by unfold maxLen; omega) (by omega) hB ?_; intro v1 w1 ho1 hg1 hv1; refine Hid.out ?_))
  obtain ⟨A1, c1, hv⟩ := own_shape ho1
  subst hv
  obtain ⟨hp1, hf1⟩ := line_put (bs := bs ++ word.data.toList) hB hBl HBK.out HOW.out (by rw [Lib.byteCells_append]; exact ho1) (by rw [List.length_append, HBN.out]; simp) hg1
  have HP1 := Lib.hid hp1
  have HF1 := Lib.hid hf1
  have z1 : w1.frozen? ⟨lb, 0, none⟩ = false := (HBK.out.grown hg1 (fun e => own_ne HBK.out HOW.out e.symm)).frozen 0
  have k1 : w1.cell? ⟨lb, 0, none⟩ = some (.slice A N cc) := (HBK.out.grown hg1 (fun e => own_ne HBK.out HOW.out e.symm)).cell 0
  clear ho1 hg1 hv1 hp1 hf1 l0
  obtain ⟨w2, hw2⟩ : ∃ w2, w1.setCell ⟨lb, 0, none⟩ (.slice A1 (N + word.size) c1) = w2 := ⟨_, rfl⟩
  rw [hw2] at HP1 HF1
  refine Lib.hid ?_
  go_wp2_with fail
  try clear hw2
  try clear z1 k1
  go_loopw [12] (fun i wr => ∃ k n5 : Nat, k ≤ m ∧ i = .int .i64 k ∧ n5 ≤ 2000000 + 22 * k ∧ Hid (LineIn wr B lb n5 (bs ++ word.data.toList ++ numsTo ns k)) ∧ Hid (Fr B lb w wr)) (fun i _ => m - (intOf i).toNat)
  case atStart => exact ⟨0, N + word.size, Nat.zero_le _, rfl, by omega, Lib.hid (by have := HP1.out; unfold numsTo; simpa using this), HF1⟩
  case round =>
    clear HP1 HF1
    obtain ⟨k, n5, hk, rfl, hn5, hli, hfr⟩ := hrel
    have hBr : B ≤ wr.heap.size := Nat.le_trans hB hfr.out.1.size
    obtain ⟨A5, c5, hl5, hb5, ho5⟩ := hli.out
    have HL5 := Lib.hid hl5
    have HB5 := Lib.hid hb5
    have HO5 := Lib.hid ho5
    have l0 : wr.cell? ⟨lb, 0, none⟩ = some (.slice A5 n5 c5) := hb5.cell 0
    clear hl5 hb5 ho5
    by_cases hlt : k < m
    · obtain ⟨x, hx⟩ : ∃ x, ns[k]? = some x := ⟨ns[k]'(by rw [HM.out]; exact hlt), List.getElem?_eq_getElem _⟩
      have HNX := Lib.hid (nums_next hx)
      have HXI := Lib.hid (HIN.out x (List.mem_of_getElem? hx))
      have HAR : Hid (Blk wr ab 3 (ns.map (Value.int .i64)).toArray) := Lib.hid (oth_blk hfr.out.2 HAB.out HNE.out (by decide))
      have e0 : wr.cell? ⟨ab, k, none⟩ = some (.int .i64 x) := by rw [HAR.out.cell]; simp [hx]
      have hk8 : (k : Int) < (m : Int) := by omega
      have hk9 : (0 : Int) ≤ (k : Int) := by omega
      have HR6 := Lib.hid (one_row wr 32 5)
      have HO6 := Lib.hid (HO5.out.alloc (.cells #[.int .u8 32] 5))
      have HB6 := Lib.hid (HB5.out.alloc (.cells #[.int .u8 32] 5))
      have hz6 : B ≤ (wr.alloc (.cells #[.int .u8 32] 5)).heap.size := by simp; omega
      clear hx
      go_wp2_with (first
        | (at_builtin; refine wpList_append_row _ rfl _ _ 22 rfl B 5 i0 _ 1 1 Tryz.underlying22 hi0 hz0 hz1 hz2 rfl (by omega) (.slice A5 n5 c5) n5 _ rfl HO6.out (wr.heap.size + 1) (some ⟨wr.heap.size, 0, none⟩) 1 1 _ rfl HR6.out (fun h => by cases h) (Lib.byteCells_one _) (by unfold maxLen; omega) (by omega) hz6 ?_; intro v7 w7 ho7 hg7 hv7; refine Hid.out ?_))
      obtain ⟨A7, c7, hv⟩ := own_shape ho7
      subst hv
      obtain ⟨hp7, hf7⟩ := line_put (bs := bs ++ word.data.toList ++ numsTo ns k ++ [32]) hz6 hBl HB6.out HO6.out (by rw [Lib.byteCells_append]; exact ho7) (by rw [List.length_append, HL5.out]; rfl) hg7
      have hb7 : Blk w7 lb 22 #[.slice A5 n5 c5] := HB6.out.grown hg7 (fun e => own_ne HB6.out HO6.out e.symm)
      have z1 : w7.frozen? ⟨lb, 0, none⟩ = false := hb7.frozen 0
      have k1 : w7.cell? ⟨lb, 0, none⟩ = some (.slice A5 n5 c5) := hb7.cell 0
      have HP7 := Lib.hid hp7
      have HF7 : Hid (Fr B lb w (w7.setCell ⟨lb, 0, none⟩ (.slice A7 (n5 + 1) c7))) := Lib.hid ((hfr.out.alloc hBr _).trans hf7)
      obtain ⟨w8, hw8⟩ : ∃ w8, w7.setCell ⟨lb, 0, none⟩ (.slice A7 (n5 + 1) c7) = w8 := ⟨_, rfl⟩
      rw [hw8] at HP7 HF7
      obtain ⟨A8, c8, hl8, hb8, ho8⟩ := HP7.out
      have HB8 := Lib.hid hb8
      have l8 : w8.cell? ⟨lb, 0, none⟩ = some (.slice A8 (n5 + 1) c8) := hb8.cell 0
      have hz8 : B ≤ w8.heap.size := Nat.le_trans hB HF7.out.1.size
      have HL8 := Lib.hid hl8
      have HAI := Lib.hid (appint_any B (n5 + 1) x HXI.out.1 HXI.out.2 (.slice A8 (n5 + 1) c8) _ w8 ho8 hz8 (by omega) (HT.out.on HF7.out.1))
      have HEQ : Hid (A8 = A7 ∧ c8 = c7) := Lib.hid (by
        have h1 : w8.cell? ⟨lb, 0, none⟩ = some (.slice A7 (n5 + 1) c7) := by rw [← hw8]; exact (hb7.set_ 0 _).cell 0
        rw [l8] at h1
        injection h1 with h1
        injection h1 with h1 h2 h3
        exact ⟨h1, h3⟩)
      clear ho7 hg7 hv7 hp7 hf7 hb7 hl8 hb8 ho8 l0
      refine Lib.hid ?_
      go_wp2_with fail
      try clear hw8
      refine HAI.out.mono ?_
      rintro e w9 ⟨v9, rfl, ho9, hb9, hk9o⟩
      obtain ⟨A9, c9, hv⟩ := own_shape ho9
      subst hv
      obtain ⟨hp9, hf9⟩ := line_put2 (bs := bs ++ word.data.toList ++ numsTo ns k ++ [32] ++ Lib.itoa x) hBl HB8.out (by rw [Lib.byteCells_append]; exact ho9) (by rw [List.length_append, HL8.out]) hb9 hk9o
      have hb9' : Blk w9 lb 22 #[.slice A8 (n5 + 1) c8] := hk9o lb _ HB8.out (by simp) (fun c fz e => by injection e with _ e2; exact absurd e2 (by decide))
      have z9 : w9.frozen? ⟨lb, 0, none⟩ = false := hb9'.frozen 0
      have k9 : w9.cell? ⟨lb, 0, none⟩ = some (.slice A8 (n5 + 1) c8) := hb9'.cell 0
      have HP9 : Hid (LineIn (w9.setCell ⟨lb, 0, none⟩ (.slice A9 (n5 + 1 + (Lib.itoa x).length) c9)) B lb (n5 + 1 + (Lib.itoa x).length) (bs ++ word.data.toList ++ numsTo ns (k + 1))) := Lib.hid (by
        rw [HNX.out]
        have e : bs ++ word.data.toList ++ numsTo ns k ++ [32] ++ Lib.itoa x = bs ++ word.data.toList ++ (numsTo ns k ++ 32 :: Lib.itoa x) := by simp
        rw [← e]
        exact hp9)
      have HF9 : Hid (Fr B lb w (w9.setCell ⟨lb, 0, none⟩ (.slice A9 (n5 + 1 + (Lib.itoa x).length) c9))) := Lib.hid (HF7.out.trans hf9)
      have hil := Lib.itoa_length_le x HXI.out.1 HXI.out.2
      obtain ⟨wa, hwa⟩ : ∃ wa, w9.setCell ⟨lb, 0, none⟩ (.slice A9 (n5 + 1 + (Lib.itoa x).length) c9) = wa := ⟨_, rfl⟩
      rw [hwa] at HP9 HF9
      have hn9 : n5 + 1 + (Lib.itoa x).length ≤ 2000000 + 22 * (k + 1) := by omega
      clear ho9 hb9 hk9o hp9 hf9 hb9' HAI l8
      go_wp2_with fail
      try clear hwa
      go_roundw
      case rel => exact ⟨k + 1, _, by omega, by go_num, hn9, HP9, HF9⟩
      case measure => simp [intOf]; omega
    · obtain rfl : m = k := by omega
      have HTK : Hid (bs ++ word.data.toList ++ numsTo ns m ++ [10] = bs ++ lineC word ns) := Lib.hid (by
        unfold numsTo lineC
        rw [← HM.out, List.take_length]
        simp)
      have HR6 := Lib.hid (one_row wr 10 5)
      have HO6 := Lib.hid (HO5.out.alloc (.cells #[.int .u8 10] 5))
      have HB6 := Lib.hid (HB5.out.alloc (.cells #[.int .u8 10] 5))
      have hz6 : B ≤ (wr.alloc (.cells #[.int .u8 10] 5)).heap.size := by simp; omega
      go_wp2_with (first
        | (at_builtin; refine wpList_append_row _ rfl _ _ 22 rfl B 5 i0 _ 1 1 Tryz.underlying22 hi0 hz0 hz1 hz2 rfl (by omega) (.slice A5 n5 c5) n5 _ rfl HO6.out (wr.heap.size + 1) (some ⟨wr.heap.size, 0, none⟩) 1 1 _ rfl HR6.out (fun h => by cases h) (Lib.byteCells_one _) (by unfold maxLen; omega) (by omega) hz6 ?_; intro v7 w7 ho7 hg7 hv7; refine Hid.out ?_))
      obtain ⟨A7, c7, hv⟩ := own_shape ho7
      subst hv
      have HLN : Hid (n5 + 1 = N + (lineC word ns).length) := Lib.hid (by
        have h1 := congrArg List.length HTK.out
        have h2 := HL5.out
        have h3 := HBN.out
        simp only [List.length_append, List.length_cons, List.length_nil] at h1 h2
        omega)
      obtain ⟨hp7, hf7⟩ := line_put (bs := bs ++ lineC word ns) hz6 hBl HB6.out HO6.out (by rw [← HTK.out, Lib.byteCells_append]; exact ho7) (by rw [List.length_append, HBN.out]; exact HLN.out.symm) hg7
      have hb7 : Blk w7 lb 22 #[.slice A5 n5 c5] := HB6.out.grown hg7 (fun e => own_ne HB6.out HO6.out e.symm)
      have z1 : w7.frozen? ⟨lb, 0, none⟩ = false := hb7.frozen 0
      have k1 : w7.cell? ⟨lb, 0, none⟩ = some (.slice A5 n5 c5) := hb7.cell 0
      have HP7 := Lib.hid hp7
      have HF7 : Hid (Fr B lb w (w7.setCell ⟨lb, 0, none⟩ (.slice A7 (n5 + 1) c7))) := Lib.hid ((hfr.out.alloc hBr _).trans hf7)
      clear ho7 hg7 hv7 hp7 hf7 hb7 l0
      refine Lib.hid ?_
      go_wp2_with fail
      go_end0
      rw [← HLN.out]
      exact ⟨rfl, HP7.out, HF7.out.1, HF7.out.2⟩

end Go.Proofs.YtobkgkiomapabaaGreatDoor

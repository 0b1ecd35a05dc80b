/- marks of the program. -/
import Derived.Test.YtiaklkfdgnhonaaDoorMark
import Derived.Shelf.Strings.SplitShaped
namespace Go.Proofs.YtiaklkfdgnhonaaDoor
open Go.Shelf Go.RowKit Go.Lib Go.Sort Go.Maps
set_option linter.unusedVariables false

/-- internal/bytealg.MaxLen holds an int. -/
def GlobAt (w : World) : Prop := 0 < w.heap.size ∧ ∃ m, w.cell? ⟨0, 0, none⟩ = some (.int .i64 m)
theorem GlobAt.keep {w w' : World} (h : GlobAt w) {B : Nat} (hb : Below B w w') (hB : w.heap.size ≤ B) : GlobAt w' := by
  obtain ⟨h0, m, hm⟩ := h
  exact ⟨Nat.lt_of_lt_of_le h0 hb.size, m, by rw [← hm]; exact hb.cell (p := ⟨0, 0, none⟩) (Nat.lt_of_lt_of_le h0 hB)⟩
theorem GlobAt.alloc {w : World} (h : GlobAt w) (o : Obj) : GlobAt (w.alloc o) := h.keep ((Below.refl w.heap.size w).alloc (Nat.le_refl _) o) (Nat.le_refl _)
theorem GlobAt.drewN {w : World} (h : GlobAt w) (n : Nat) : GlobAt (w.drewN n) := h

/-- What stands between commas. -/
def parts (s : ByteArray) : List ByteArray := splitB ⟨#[44]⟩ 0 (countB s ⟨#[44]⟩) s
theorem parts_len (s : ByteArray) : (parts s).length = countB s ⟨#[44]⟩ + 1 := splitB_all ⟨#[44]⟩ (by decide) 0 _ s rfl
theorem parts_le (s : ByteArray) : (parts s).length ≤ s.size + 1 := by
  rw [parts_len]
  have := countB_le ⟨#[44]⟩ (by decide) s.size s (Nat.le_refl _)
  omega
theorem splitB_le : ∀ (k : Nat) (s : ByteArray), ∀ t ∈ splitB ⟨#[44]⟩ 0 k s, t.size ≤ s.size
  | 0, s, t, h => by
    simp [splitB] at h
    rw [h]; exact Nat.le_refl _
  | k + 1, s, t, h => by
    unfold splitB at h
    split at h
    · simp at h
      rw [h]; exact Nat.le_refl _
    · rcases List.mem_cons.1 h with rfl | h
      · simp [ByteArray.size_extract]; omega
      · have := splitB_le k _ t h
        simp [ByteArray.size_extract] at this
        omega
theorem parts_size (s : ByteArray) : ∀ t ∈ parts s, t.size ≤ s.size := splitB_le _ s

theorem split_any (s : ByteArray) (w : World) (hs : s.size < 4294967281) (hg : GlobAt w) :
    Calls Tryd.prog 37 #[.string s, .string ⟨#[44]⟩] w fun e w' => e = .returned (.slice (some ⟨w.heap.size, 0, none⟩) (parts s).length (parts s).length) ∧ w' = w.alloc (.cells ((parts s).map Value.string).toArray 9) := by
  obtain ⟨_, m, hm⟩ := hg
  rw [parts_len]
  exact Any.strings_Split { Tryd.laysSplit with } Tryd.laysSplit.i9 s ⟨#[44]⟩ m w hs hm (by decide)

def addM (acc : List Mk) (t : ByteArray) : List Mk := if t = ⟨#[]⟩ ∨ (⟨true, t⟩ : Mk) ∈ acc then acc else acc ++ [⟨true, t⟩]
def startM (m : ByteArray) : List Mk := if m = ⟨#[]⟩ then [] else [⟨false, m⟩]
def marksP (x : Ch) : List Mk := (parts x.tags).foldl addM (startM x.maker)

theorem emp_iff (t : ByteArray) : t.toList.isEmpty = decide (t = ⟨#[]⟩) := by
  rw [Lib.toList_data]
  by_cases h : t = ⟨#[]⟩
  · subst h; rfl
  · have : t.data.toList ≠ [] := fun e => h (by cases t; simpa using e)
    rw [List.isEmpty_eq_false_iff.2 this]
    simp [h]
theorem startM_len (m : ByteArray) : (startM m).length ≤ 1 := by unfold startM; split <;> simp

set_option maxHeartbeats 8000000 in
set_option maxRecDepth 100000 in
theorem marks_any (x : Ch) (w : World) (hg : GlobAt w) (h1 : x.maker.size ≤ 300) (h2 : x.tags.size ≤ 300) :
    Calls Tryd.prog 28 #[.agg #[.string x.item, .string x.maker, .string x.tags, .int .i64 x.score]] w fun e w' => ∃ v, e = .returned v ∧ w'.ownsRow w.heap.size 47 2 v (marksP x).length ((marksP x).flatMap mkC) ∧ Below w.heap.size w w' := by
  obtain ⟨i0, hi0, hz0, hz1, hz2⟩ := info_parts mk_info
  obtain ⟨xi, xm, xt, xs⟩ := x
  dsimp only at h1 h2 ⊢
  by_cases hm : xm = ⟨#[]⟩
  · have hb0 : (!xm.toList.isEmpty) = false := by rw [emp_iff]; simp [hm]
    have hst : startM xm = [] := by simp [startM, hm]
    obtain ⟨w1, hw1⟩ : ∃ w1, w.alloc (.cells #[.string xi, .string xm, .string xt, .int .i64 xs] 32) = w1 := ⟨_, rfl⟩
    have own1 : Hid (w1.ownsRow (w.heap.size + 1) 47 2 (.slice none 0 0) (startM xm).length ((startM xm).flatMap mkC)) := Lib.hid (by rw [hst]; exact own_nil _ _ _ _)
    have hB1 : Below w.heap.size w w1 := by rw [← hw1]; exact (Below.refl _ _).alloc (Nat.le_refl _) _
    have hg1 : GlobAt w1 := by rw [← hw1]; exact hg.alloc _
    have bx1 : Blk w1 w.heap.size 32 #[.string xi, .string xm, .string xt, .int .i64 xs] := by rw [← hw1]; exact Blk.new _ _ _
    have c1 : w1.cell? ⟨w.heap.size, 1, none⟩ = some (.string xm) := bx1.cell 1
    have c2 : w1.cell? ⟨w.heap.size, 2, none⟩ = some (.string xt) := bx1.cell 2
    clear hm hst hg bx1
    go_enter Tryd.func28, Tryd.ntmps28
    go_wp2_with fail
    (try rw [hw1])
    clear hw1 c1 c2
    refine (split_any xt w1 (by omega) hg1).mono ?_
    rintro e w2 ⟨rfl, hw2⟩
    have bs := Blk.new w1 9 ((parts xt).map Value.string).toArray
    have own2 := own1.out.alloc (.cells ((parts xt).map Value.string).toArray 9)
    have hB2 := hB1.alloc hB1.size (.cells ((parts xt).map Value.string).toArray 9)
    have hne1 : (Value.slice none 0 0).ownBlock ≠ some w1.heap.size := fun e => by have := (own1.out.lt _ e).2; omega
    rw [← hw2] at bs own2 hB2
    have z2 : w1.heap.size < w2.heap.size := by rw [hw2]; simp
    have hpl := parts_le xt
    have hps := parts_size xt
    have HO2 := Lib.hid own2
    have HB2 := Lib.hid bs
    have HNE := Lib.hid hne1
    have HMP : Hid (marksP ⟨xi, xm, xt, xs⟩ = (parts xt).foldl addM (startM xm)) := Lib.hid rfl
    clear own1 own2 bs hw2 hg1 hne1
    generalize parts xt = P at hpl hps HB2 HMP
    have HPS := Lib.hid hps
    have z1 := hB1.size
    obtain ⟨B0, hB0⟩ : ∃ B0, w1.heap.size = B0 := ⟨_, rfl⟩
    rw [hB0] at HB2 HNE z1 z2
    clear hps hB1
    go_wp2_with fail
    (try rw [hB0])
    clear hB0
    go_loopw [3, 20] (fun r i wr => ∃ (k : Nat) (acc : List Mk), k ≤ P.length ∧ i = .int .i64 k ∧ Hid (acc = (P.take k).foldl addM (startM xm)) ∧ acc.length ≤ k + 1 ∧ Hid (wr.ownsRow (w.heap.size + 1) 47 2 r acc.length (acc.flatMap mkC)) ∧ Hid (r.ownBlock ≠ some B0) ∧ Hid (Blk wr B0 9 (P.map Value.string).toArray) ∧ Below w.heap.size w wr) (fun _ i _ => P.length - (intOf i).toNat)
    case atStart => exact ⟨0, startM xm, Nat.zero_le _, rfl, Lib.hid (by simp), by have := startM_len xm; omega, HO2, HNE, HB2, hB2⟩
    case round =>
      obtain ⟨k, acc, hk, rfl, hacc, hal, hrow, hne, hbl, hBw⟩ := hrel
      by_cases hlt : k < P.length
      · obtain ⟨t, ht⟩ : ∃ t, P[k]? = some t := ⟨P[k]'hlt, List.getElem?_eq_getElem _⟩
        have htk : P.take (k + 1) = P.take k ++ [t] := by rw [List.take_add_one, ht]; rfl
        have HTK := Lib.hid htk
        have hts := HPS.out t (List.mem_of_getElem? ht)
        have e0 : wr.cell? ⟨B0, k, none⟩ = some (.string t) := by rw [hbl.out.cell]; simp [ht]
        have hk8 : (k : Int) < (P.length : Int) := by omega
        have hk9 : (0 : Int) ≤ (k : Int) := by omega
        have hBl := hbl.out.lt
        have hzw := hBw.size
        obtain ⟨A5, c5, hr⟩ := own_shape hrow.out
        rw [hr] at hrow hne ⊢
        clear hr ht htk
        by_cases hte : t = ⟨#[]⟩
        · have hb1 : (!t.toList.isEmpty) = false := by rw [emp_iff]; simp [hte]
          have HTE := Lib.hid hte
          clear hte
          go_wp2_with fail
          go_roundw
          case rel =>
            refine ⟨k + 1, acc, by omega, by go_num, Lib.hid ?_, by omega, Lib.hid (hrow.out.alloc _), hne, Lib.hid (hbl.out.alloc _), hBw.alloc hzw _⟩
            rw [HTK.out, List.foldl_append, ← hacc.out]
            simp [addM, HTE.out]
          case measure => simp [intOf]; omega
        · have hb1 : (!t.toList.isEmpty) = true := by rw [emp_iff]; simp [hte]
          have HTE := Lib.hid hte
          have hrow3 := RowIn.of_own (hrow.out.alloc (.cells #[.bool true, .string t] 47))
          have HC := Lib.hid (contains_any (wr.alloc (.cells #[.bool true, .string t] 47)) _ A5 acc acc.length c5 ⟨true, t⟩ rfl hrow3 (Nat.le_refl _) (by omega))
          clear hte hrow3
          go_wp2_with fail
          refine HC.out.mono ?_
          rintro e w4 ⟨rfl, hb4⟩
          have bx : Blk w4 wr.heap.size 47 #[.bool true, .string t] := (hb4.block _ (by simp)).trans (Blk.new wr _ _)
          have d0 : w4.cell? ⟨wr.heap.size, 0, none⟩ = some (.bool true) := bx.cell 0
          have d1 : w4.cell? ⟨wr.heap.size, 1, none⟩ = some (.string t) := bx.cell 1
          have HO4 : Hid (w4.ownsRow (w.heap.size + 1) 47 2 (.slice A5 acc.length c5) acc.length (acc.flatMap mkC)) := Lib.hid ((hrow.out.alloc _).kept (row := none) ⟨hb4.os, hb4.tape, hb4.output, hb4.size, fun i hi _ => hb4.block i hi⟩ (Classical.em _))
          have HL4 : Hid (Blk w4 B0 9 (P.map Value.string).toArray) := Lib.hid ((hb4.block _ (by simp; omega)).trans (hbl.out.alloc _))
          have hB4 : Below w.heap.size w w4 := (hBw.alloc hzw (.cells #[.bool true, .string t] 47)).trans (hb4.mono (by simp; omega))
          have Z4 : Hid (wr.heap.size + 1 ≤ w4.heap.size) := Lib.hid (by have := hb4.size; simpa using this)
          clear HC bx hb4 hrow hbl hBw e0
          by_cases hin : (⟨true, t⟩ : Mk) ∈ acc
          · have hb2 : decide ((⟨true, t⟩ : Mk) ∈ acc) = true := decide_eq_true hin
            have HIN := Lib.hid hin
            clear hin
            go_wp2_with fail
            go_roundw
            case rel =>
              refine ⟨k + 1, acc, by omega, by go_num, Lib.hid ?_, by omega, HO4, hne, HL4, hB4⟩
              rw [HTK.out, List.foldl_append, ← hacc.out]
              simp [addM, HIN.out]
            case measure => simp [intOf]; omega
          · have hb2 : decide ((⟨true, t⟩ : Mk) ∈ acc) = false := decide_eq_false hin
            have HIN := Lib.hid hin
            clear hin
            go_wp2_with (first
              | (at_builtin; go_loud (refine wpList_append_row _ rfl _ _ 49 rfl (w.heap.size + 1) 47 i0 _ 2 24 Tryd.underlying49 hi0 hz0 hz1 hz2 rfl (by omega) (.slice A5 acc.length c5) acc.length (acc.flatMap mkC) rfl (HO4.out.alloc _) (w4.heap.size + 1) (some ⟨w4.heap.size, 0, none⟩) 1 1 (mkC ⟨true, t⟩) rfl (one_mk w4 ⟨true, t⟩ _) (fun h => by cases h) (fun u hu => mkC_one [⟨true, t⟩] u (by simpa using hu)) (by unfold maxLen; omega) (by omega) (by have := Z4.out; simp; omega) ?_); intro v7 w7 ho7 hg7 hv7)
              | fail)
            go_roundw
            case rel =>
              have hz4 := Z4.out
              refine ⟨k + 1, acc ++ [⟨true, t⟩], by omega, by go_num, Lib.hid ?_, by simp; omega, Lib.hid ?_, Lib.hid ?_, Lib.hid ?_, ?_⟩
              · rw [HTK.out, List.foldl_append, ← hacc.out]
                simp [addM, HIN.out, HTE.out]
              · rw [List.flatMap_append, List.length_append]
                rw [show [(⟨true, t⟩ : Mk)].flatMap mkC = mkC ⟨true, t⟩ from by simp]
                exact ho7
              · rcases hv7 with e | e <;> rw [e]
                · exact hne.out
                · simp; omega
              · exact (HL4.out.alloc _).grown hg7 (fun e => hne.out e.symm)
              · have k4 : Kept (fun i => w.heap.size ≤ i) w w4 := ⟨hB4.os, hB4.tape, hB4.output, hB4.size, fun i hi _ => hB4.block i hi⟩
                have k7 := (k4.alloc (.cells #[.bool true, .string t] 47)).grown hg7 (fun j hj => Or.inr (by have := (HO4.out.lt _ hj).1; omega))
                exact k7.toBelow (fun i hi => hi) (Nat.le_refl _)
            case measure => simp [intOf]; omega
      · go_wp2_with fail
        go_ret
        refine ⟨_, rfl, ?_, hBw⟩
        rw [HMP.out]
        have hz := hacc.out
        rw [List.take_of_length_le (by omega)] at hz
        rw [← hz]
        exact hrow.out.mono (by omega)
  · have hb0 : (!xm.toList.isEmpty) = true := by rw [emp_iff]; simp [hm]
    have hst : startM xm = [⟨false, xm⟩] := by simp [startM, hm]
    have HST := Lib.hid hst
    clear hst hm
    have hone := fun u (hu : u ∈ mkC ⟨false, xm⟩) => mkC_one [⟨false, xm⟩] u (by simpa using hu)
    have HONE := Lib.hid hone
    clear hone
    go_enter Tryd.func28, Tryd.ntmps28
    obtain ⟨w0, hw0⟩ : ∃ w0, w.alloc (.cells #[.string xi, .string xm, .string xt, .int .i64 xs] 32) = w0 := ⟨_, rfl⟩
    have bx0 : Blk w0 w.heap.size 32 #[.string xi, .string xm, .string xt, .int .i64 xs] := by rw [← hw0]; exact Blk.new _ _ _
    have z0 : w0.heap.size = w.heap.size + 1 := by rw [← hw0]; simp
    have hB0 : Below w.heap.size w w0 := by rw [← hw0]; exact (Below.refl _ _).alloc (Nat.le_refl _) _
    have hg0 : GlobAt w0 := by rw [← hw0]; exact hg.alloc _
    have c1 : w0.cell? ⟨w.heap.size, 1, none⟩ = some (.string xm) := bx0.cell 1
    have c2 : w0.cell? ⟨w.heap.size, 2, none⟩ = some (.string xt) := bx0.cell 2
    have Z0 := Lib.hid z0
    have HBX := Lib.hid bx0
    clear z0 bx0
    go_wp2_with (first
      | (at_builtin; go_loud (refine wpList_append_row _ rfl _ _ 49 rfl (w.heap.size + 1) 47 i0 _ 2 24 Tryd.underlying49 hi0 hz0 hz1 hz2 rfl (by omega) (.slice none 0 0) 0 [] rfl (own_nil _ _ _ _) (w0.heap.size + 1) (some ⟨w0.heap.size, 0, none⟩) 1 1 (mkC ⟨false, xm⟩) rfl (one_mk w0 ⟨false, xm⟩ _) (fun h => by cases h) HONE.out (by unfold maxLen; omega) (by omega) (by have := Z0.out; simp; omega) ?_); intro v1 w1 ho1 hg1' hv1; have hx2 : w1.cell? ⟨w.heap.size, 2, none⟩ = some (.string xt) := ((HBX.out.alloc _).grown hg1' (by simp [Value.ownBlock])).cell 2)
      | fail)
    have k1 : Kept (fun i => w.heap.size ≤ i) w w1 := (Kept.alloc ⟨hB0.os, hB0.tape, hB0.output, hB0.size, fun i hi _ => hB0.block i hi⟩ _).grown hg1' (fun j hj => by cases hj)
    have hB1 : Below w.heap.size w w1 := k1.toBelow (fun i hi => hi) (Nat.le_refl _)
    have hg1 : GlobAt w1 := hg.keep hB1 (Nat.le_refl _)
    have own1 : Hid (w1.ownsRow (w.heap.size + 1) 47 2 v1 (startM xm).length ((startM xm).flatMap mkC)) := Lib.hid (by
      rw [HST.out, show [(⟨false, xm⟩ : Mk)].flatMap mkC = mkC ⟨false, xm⟩ from by simp]
      simpa using ho1)
    clear ho1 hg1' hv1 k1 hB0 hg0 hg c1 c2 hw0 hx2 HBX Z0
    refine (split_any xt w1 (by omega) hg1).mono ?_
    rintro e w2 ⟨rfl, hw2⟩
    have bs := Blk.new w1 9 ((parts xt).map Value.string).toArray
    have own2 := own1.out.alloc (.cells ((parts xt).map Value.string).toArray 9)
    have hB2 := hB1.alloc hB1.size (.cells ((parts xt).map Value.string).toArray 9)
    have hne1 : v1.ownBlock ≠ some w1.heap.size := fun e => by have := (own1.out.lt _ e).2; omega
    rw [← hw2] at bs own2 hB2
    have z2 : w1.heap.size < w2.heap.size := by rw [hw2]; simp
    have hpl := parts_le xt
    have hps := parts_size xt
    have HO2 := Lib.hid own2
    have HB2 := Lib.hid bs
    have HNE := Lib.hid hne1
    have HMP : Hid (marksP ⟨xi, xm, xt, xs⟩ = (parts xt).foldl addM (startM xm)) := Lib.hid rfl
    clear own1 own2 bs hw2 hg1 hne1
    generalize parts xt = P at hpl hps HB2 HMP
    have HPS := Lib.hid hps
    have z1 := hB1.size
    obtain ⟨B0, hB0⟩ : ∃ B0, w1.heap.size = B0 := ⟨_, rfl⟩
    rw [hB0] at HB2 HNE z1 z2
    clear hps hB1
    go_wp2_with fail
    (try rw [hB0])
    clear hB0
    go_loopw [3, 20] (fun r i wr => ∃ (k : Nat) (acc : List Mk), k ≤ P.length ∧ i = .int .i64 k ∧ Hid (acc = (P.take k).foldl addM (startM xm)) ∧ acc.length ≤ k + 1 ∧ Hid (wr.ownsRow (w.heap.size + 1) 47 2 r acc.length (acc.flatMap mkC)) ∧ Hid (r.ownBlock ≠ some B0) ∧ Hid (Blk wr B0 9 (P.map Value.string).toArray) ∧ Below w.heap.size w wr) (fun _ i _ => P.length - (intOf i).toNat)
    case atStart => exact ⟨0, startM xm, Nat.zero_le _, rfl, Lib.hid (by simp), by have := startM_len xm; omega, HO2, HNE, HB2, hB2⟩
    case round =>
      obtain ⟨k, acc, hk, rfl, hacc, hal, hrow, hne, hbl, hBw⟩ := hrel
      by_cases hlt : k < P.length
      · obtain ⟨t, ht⟩ : ∃ t, P[k]? = some t := ⟨P[k]'hlt, List.getElem?_eq_getElem _⟩
        have htk : P.take (k + 1) = P.take k ++ [t] := by rw [List.take_add_one, ht]; rfl
        have HTK := Lib.hid htk
        have hts := HPS.out t (List.mem_of_getElem? ht)
        have e0 : wr.cell? ⟨B0, k, none⟩ = some (.string t) := by rw [hbl.out.cell]; simp [ht]
        have hk8 : (k : Int) < (P.length : Int) := by omega
        have hk9 : (0 : Int) ≤ (k : Int) := by omega
        have hBl := hbl.out.lt
        have hzw := hBw.size
        obtain ⟨A5, c5, hr⟩ := own_shape hrow.out
        rw [hr] at hrow hne ⊢
        clear hr ht htk
        by_cases hte : t = ⟨#[]⟩
        · have hb1 : (!t.toList.isEmpty) = false := by rw [emp_iff]; simp [hte]
          have HTE := Lib.hid hte
          clear hte
          go_wp2_with fail
          go_roundw
          case rel =>
            refine ⟨k + 1, acc, by omega, by go_num, Lib.hid ?_, by omega, Lib.hid (hrow.out.alloc _), hne, Lib.hid (hbl.out.alloc _), hBw.alloc hzw _⟩
            rw [HTK.out, List.foldl_append, ← hacc.out]
            simp [addM, HTE.out]
          case measure => simp [intOf]; omega
        · have hb1 : (!t.toList.isEmpty) = true := by rw [emp_iff]; simp [hte]
          have HTE := Lib.hid hte
          have hrow3 := RowIn.of_own (hrow.out.alloc (.cells #[.bool true, .string t] 47))
          have HC := Lib.hid (contains_any (wr.alloc (.cells #[.bool true, .string t] 47)) _ A5 acc acc.length c5 ⟨true, t⟩ rfl hrow3 (Nat.le_refl _) (by omega))
          clear hte hrow3
          go_wp2_with fail
          refine HC.out.mono ?_
          rintro e w4 ⟨rfl, hb4⟩
          have bx : Blk w4 wr.heap.size 47 #[.bool true, .string t] := (hb4.block _ (by simp)).trans (Blk.new wr _ _)
          have d0 : w4.cell? ⟨wr.heap.size, 0, none⟩ = some (.bool true) := bx.cell 0
          have d1 : w4.cell? ⟨wr.heap.size, 1, none⟩ = some (.string t) := bx.cell 1
          have HO4 : Hid (w4.ownsRow (w.heap.size + 1) 47 2 (.slice A5 acc.length c5) acc.length (acc.flatMap mkC)) := Lib.hid ((hrow.out.alloc _).kept (row := none) ⟨hb4.os, hb4.tape, hb4.output, hb4.size, fun i hi _ => hb4.block i hi⟩ (Classical.em _))
          have HL4 : Hid (Blk w4 B0 9 (P.map Value.string).toArray) := Lib.hid ((hb4.block _ (by simp; omega)).trans (hbl.out.alloc _))
          have hB4 : Below w.heap.size w w4 := (hBw.alloc hzw (.cells #[.bool true, .string t] 47)).trans (hb4.mono (by simp; omega))
          have Z4 : Hid (wr.heap.size + 1 ≤ w4.heap.size) := Lib.hid (by have := hb4.size; simpa using this)
          clear HC bx hb4 hrow hbl hBw e0
          by_cases hin : (⟨true, t⟩ : Mk) ∈ acc
          · have hb2 : decide ((⟨true, t⟩ : Mk) ∈ acc) = true := decide_eq_true hin
            have HIN := Lib.hid hin
            clear hin
            go_wp2_with fail
            go_roundw
            case rel =>
              refine ⟨k + 1, acc, by omega, by go_num, Lib.hid ?_, by omega, HO4, hne, HL4, hB4⟩
              rw [HTK.out, List.foldl_append, ← hacc.out]
              simp [addM, HIN.out]
            case measure => simp [intOf]; omega
          · have hb2 : decide ((⟨true, t⟩ : Mk) ∈ acc) = false := decide_eq_false hin
            have HIN := Lib.hid hin
            clear hin
            go_wp2_with (first
              | (at_builtin; go_loud (refine wpList_append_row _ rfl _ _ 49 rfl (w.heap.size + 1) 47 i0 _ 2 24 Tryd.underlying49 hi0 hz0 hz1 hz2 rfl (by omega) (.slice A5 acc.length c5) acc.length (acc.flatMap mkC) rfl (HO4.out.alloc _) (w4.heap.size + 1) (some ⟨w4.heap.size, 0, none⟩) 1 1 (mkC ⟨true, t⟩) rfl (one_mk w4 ⟨true, t⟩ _) (fun h => by cases h) (fun u hu => mkC_one [⟨true, t⟩] u (by simpa using hu)) (by unfold maxLen; omega) (by omega) (by have := Z4.out; simp; omega) ?_); intro v7 w7 ho7 hg7 hv7)
              | fail)
            go_roundw
            case rel =>
              have hz4 := Z4.out
              refine ⟨k + 1, acc ++ [⟨true, t⟩], by omega, by go_num, Lib.hid ?_, by simp; omega, Lib.hid ?_, Lib.hid ?_, Lib.hid ?_, ?_⟩
              · rw [HTK.out, List.foldl_append, ← hacc.out]
                simp [addM, HIN.out, HTE.out]
              · rw [List.flatMap_append, List.length_append]
                rw [show [(⟨true, t⟩ : Mk)].flatMap mkC = mkC ⟨true, t⟩ from by simp]
                exact ho7
              · rcases hv7 with e | e <;> rw [e]
                · exact hne.out
                · simp; omega
              · exact (HL4.out.alloc _).grown hg7 (fun e => hne.out e.symm)
              · have k4 : Kept (fun i => w.heap.size ≤ i) w w4 := ⟨hB4.os, hB4.tape, hB4.output, hB4.size, fun i hi _ => hB4.block i hi⟩
                have k7 := (k4.alloc (.cells #[.bool true, .string t] 47)).grown hg7 (fun j hj => Or.inr (by have := (HO4.out.lt _ hj).1; omega))
                exact k7.toBelow (fun i hi => hi) (Nat.le_refl _)
            case measure => simp [intOf]; omega
      · go_wp2_with fail
        go_ret
        refine ⟨_, rfl, ?_, hBw⟩
        rw [HMP.out]
        have hz := hacc.out
        rw [List.take_of_length_le (by omega)] at hz
        rw [← hz]
        exact hrow.out.mono (by omega)

end Go.Proofs.YtiaklkfdgnhonaaDoor

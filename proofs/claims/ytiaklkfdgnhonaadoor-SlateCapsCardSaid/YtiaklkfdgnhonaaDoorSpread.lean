/- Spread of the program. -/
import Derived.Test.YtiaklkfdgnhonaaDoorLawsP
import Derived.Test.YtiaklkfdgnhonaaDoorMapSz
namespace Go.Proofs.YtiaklkfdgnhonaaDoor
open Go.Shelf Go.RowKit Go.Lib Go.Sort Go.Maps
set_option linter.unusedVariables false

def addU (acc : List Mk) (m : Mk) : List Mk := if m ∈ acc then acc else acc ++ [m]
/-- All marks, each once. -/
def allM (s : List Ch) : List Mk := s.foldl (fun acc y => (marksP y).foldl addU acc) []
theorem addU_len (acc : List Mk) (m : Mk) : (addU acc m).length ≤ acc.length + 1 := by unfold addU; split <;> simp
theorem foldU_len : ∀ (l acc : List Mk), (l.foldl addU acc).length ≤ acc.length + l.length
  | [], _ => by simp
  | m :: l, acc => by
    have := foldU_len l (addU acc m)
    have := addU_len acc m
    simp only [List.foldl_cons, List.length_cons]; omega

open Classical in
/-- M holds just the marks of sn. -/
noncomputable def MSet (sn : List Mk) : Lit → Option Value := fun kl => if kl ∈ sn.map litM then some (.bool true) else none
theorem MSet.get (sn : List Mk) (m : Mk) : (MSet sn (litM m)).isSome = decide (m ∈ sn) := by
  unfold MSet
  have e : litM m ∈ sn.map litM ↔ m ∈ sn := ⟨fun h => by obtain ⟨x, hx, h2⟩ := List.mem_map.1 h; exact litM_inj h2 ▸ hx, fun h => List.mem_map.2 ⟨m, h, rfl⟩⟩
  by_cases h : m ∈ sn
  · rw [if_pos (e.2 h)]; simp [h]
  · rw [if_neg (fun h2 => h (e.1 h2))]; simp [h]
theorem MSet.add (sn : List Mk) (m : Mk) (kl : Lit) : upd (MSet sn) (litM m) (.bool true) kl = MSet (addU sn m) kl := by
  unfold upd
  by_cases h : kl = litM m
  · subst h
    rw [WideAt.sameKey_self (by trivial), if_pos rfl]
    unfold MSet addU
    rw [if_pos]
    split
    · rename_i h; exact List.mem_map.2 ⟨m, h, rfl⟩
    · simp
  · rw [sameKey_ne h, if_neg (by simp)]
    unfold MSet addU
    by_cases hm : m ∈ sn
    · rw [if_pos hm]
    · rw [if_neg hm]
      have : kl ∈ (sn ++ [m]).map litM ↔ kl ∈ sn.map litM := by simp [h]
      by_cases h2 : kl ∈ sn.map litM
      · rw [if_pos h2, if_pos (this.2 h2)]
      · rw [if_neg h2, if_neg (fun h3 => h2 (this.1 h3))]
theorem addU_sz (sn : List Mk) (m : Mk) : (if (MSet sn (litM m)).isSome then sn.length else sn.length + 1) = (addU sn m).length := by
  rw [MSet.get]
  unfold addU
  by_cases h : m ∈ sn <;> simp [h]

set_option maxHeartbeats 2000000 in
set_option maxRecDepth 100000 in
theorem spread_any (w : World) (B : Nat) (A : Option Addr) (s : List Ch) (n c : Nat) (hn : s.length = n) (hl : ChsAt w B A s) (hB : B ≤ w.heap.size) (hb : n ≤ 1000) (hok : Okc s) (hg : GlobAt w) :
    Calls Tryd.prog 20 #[.slice A n c] w fun e w' => e = .returned (.int .i64 (allM s).length) ∧ Below w.heap.size w w' := by
  have hmm := @run_makeMap Tryd.prog
  have HN := Lib.hid hn
  have HOK := Lib.hid hok
  obtain ⟨w1, hw1⟩ : ∃ w1, w.alloc (.map #[] 0) = w1 := ⟨_, rfl⟩
  have hz1 : MapSz Tryd.prog 47 okBool w1 w.heap.size ([] : List Mk).length (MSet []) := by rw [← hw1]; exact (MapSz.made _ _ _ _).congr (fun kl => by simp [MSet])
  have hB1 : Below w.heap.size w w1 := by rw [← hw1]; exact (Below.refl _ _).alloc (Nat.le_refl _) _
  have HL1 := Lib.hid (hl.below (hB1.mono hB))
  have HG1 := Lib.hid (hg.keep hB1 (Nat.le_refl _))
  have hz0 := hz1.lt
  have hg0 := hg.1
  have HZ1 := Lib.hid hz1
  clear hl hn hok hg hz1
  go_enter Tryd.func20, Tryd.ntmps20
  go_wp2_with fail
  clear hw1
  go_loopw [11] (fun iv wr => ∃ (k : Nat) (sn : List Mk), k ≤ n ∧ iv = .int .i64 k ∧ Hid (allM s = (s.drop k).foldl (fun acc y => (marksP y).foldl addU acc) sn) ∧ sn.length ≤ k * 310 ∧ Hid (MapSz Tryd.prog 47 okBool wr w.heap.size sn.length (MSet sn)) ∧ Hid (Kept (fun q => q = w.heap.size) w1 wr)) (fun iv _ => n - (intOf iv).toNat)
  case atStart => exact ⟨0, [], Nat.zero_le _, rfl, Lib.hid rfl, Nat.le_refl _, HZ1, Lib.hid (Kept.refl _ _)⟩
  case round =>
    obtain ⟨k, sn, hk, rfl, hall, hsl, hmz, hkw⟩ := hrel
    obtain ⟨wo, rfl⟩ : ∃ wo : World, wo = wr := ⟨_, rfl⟩
    have HBo : Hid (Below w.heap.size w wo) := Lib.hid (hB1.trans (hkw.out.toBelow (fun i hi => by omega) (by omega)))
    by_cases hkl : k < n
    · obtain ⟨x, hx⟩ : ∃ x, s[k]? = some x := ⟨s[k]'(by rw [HN.out]; exact hkl), List.getElem?_eq_getElem _⟩
      obtain ⟨hx1, hx2, hx3⟩ := HOK.out x (List.mem_of_getElem? hx)
      have hlo : ChsAt wo B A s := HL1.out.kept hkw.out (by omega) (fun i hi e => by omega)
      obtain ⟨g, o, rfl, hgB, hcl⟩ := hlo.at (by rw [HN.out]; omega)
      obtain ⟨e0, e1, e2, e3⟩ := hcl k x hx
      have hdr : s.drop k = x :: s.drop (k + 1) := by
        obtain ⟨hlt', hx'⟩ := List.getElem?_eq_some_iff.1 hx
        rw [List.drop_eq_getElem_cons hlt', hx']
      have HALL : Hid (allM s = (s.drop (k + 1)).foldl (fun acc y => (marksP y).foldl addU acc) ((marksP x).foldl addU sn)) := Lib.hid (by rw [hall.out, hdr, List.foldl_cons])
      have hk8 : (k : Int) < (n : Int) := by omega
      have hk9 : (0 : Int) ≤ (k : Int) := by omega
      obtain ⟨w5, hw5⟩ : ∃ w5, wo.alloc (.cells #[.string x.item, .string x.maker, .string x.tags, .int .i64 x.score] 32) = w5 := ⟨_, rfl⟩
      have bx : Blk w5 wo.heap.size 32 #[.string x.item, .string x.maker, .string x.tags, .int .i64 x.score] := by rw [← hw5]; exact Blk.new _ _ _
      have HK5 : Hid (Kept (fun q => q = w.heap.size) w1 w5) := Lib.hid (by rw [← hw5]; exact hkw.out.alloc _)
      have HZ5 : Hid (MapSz Tryd.prog 47 okBool w5 w.heap.size sn.length (MSet sn)) := Lib.hid (by rw [← hw5]; exact hmz.out.alloc _)
      have hg5 : GlobAt w5 := HG1.out.kept HK5.out (fun i hi e => by omega)
      have d0 : w5.cell? ⟨wo.heap.size, 0, none⟩ = some (.string x.item) := bx.cell 0
      have d1 : w5.cell? ⟨wo.heap.size, 1, none⟩ = some (.string x.maker) := bx.cell 1
      have d2 : w5.cell? ⟨wo.heap.size, 2, none⟩ = some (.string x.tags) := bx.cell 2
      have d3 : w5.cell? ⟨wo.heap.size, 3, none⟩ = some (.int .i64 x.score) := bx.cell 3
      have HMs := Lib.hid (marks_any x w5 hg5 hx2 hx3)
      have hz5 := HZ5.out.lt
      clear hcl hx hdr bx hlo hg5
      go_wp2_with fail
      clear hw5
      refine HMs.out.mono ?_
      rintro e w6 ⟨v6, rfl, hown6, hb6⟩
      obtain ⟨A6, c6, rfl⟩ := own_shape hown6
      have hml := marksP_len x
      have HMS : Hid (∀ m ∈ marksP x, m.name.size ≤ maxLen) := Lib.hid (fun m hm => by
        have := marksP_size hm
        unfold maxLen
        omega)
      have HS6 := Lib.hid (fun h => own_at2 hown6 h rfl)
      have HK6 : Hid (Kept (fun q => q = w.heap.size) w1 w6) := Lib.hid (HK5.out.below hb6 HK5.out.size)
      have HZ6 : Hid (MapSz Tryd.prog 47 okBool w6 w.heap.size sn.length (MSet sn)) := Lib.hid (HZ5.out.kept (below_kept (S := fun _ => False) hb6 (Nat.le_refl _)) (by simp))
      have zz6 := hb6.size
      have zo5 : w1.heap.size ≤ w5.heap.size := HK5.out.size
      clear HMs hown6 hb6 HZ5 HK5 d0 d1 d2 d3 e0 e1 e2 e3 hmz
      generalize marksP x = ms at *
      obtain ⟨nm, hnm⟩ : ∃ nm, ms.length = nm := ⟨_, rfl⟩
      have HNM := Lib.hid hnm
      rw [hnm] at hml HS6 ⊢
      clear hnm
      go_wp2_with fail
      go_loopw [18] (fun jv wi => ∃ (j : Nat) (acc : List Mk), j ≤ nm ∧ jv = .int .i64 j ∧ Hid (acc = (ms.take j).foldl addU sn) ∧ acc.length ≤ sn.length + j ∧ Hid (MapSz Tryd.prog 47 okBool wi w.heap.size acc.length (MSet acc)) ∧ Hid (Kept (fun q => q = w.heap.size) w6 wi)) (fun jv _ => nm - (intOf jv).toNat)
      case atStart => exact ⟨0, sn, Nat.zero_le _, rfl, Lib.hid rfl, Nat.le_refl _, HZ6, Lib.hid (Kept.refl _ _)⟩
      case round =>
        obtain ⟨j, acc, hj, rfl, hacc, hal, hmz, hki⟩ := hrel
        have z8 := hki.out.size
        by_cases hjl : j < nm
        · obtain ⟨m, hm⟩ : ∃ m, ms[j]? = some m := ⟨ms[j]'(by rw [HNM.out]; exact hjl), List.getElem?_eq_getElem _⟩
          obtain ⟨g6, rfl, hg6, hgl6, hcl6⟩ := HS6.out (by omega)
          obtain ⟨e0, e1⟩ := hcl6 j m hm
          have f0 : wr.cell? ⟨g6, j * 2, none⟩ = some (.bool m.tag) := (hki.out.cell (p := ⟨g6, j * 2, none⟩) hgl6 (by show ¬ g6 = w.heap.size; omega)).trans e0
          have f1 : wr.cell? ⟨g6, j * 2 + 1, none⟩ = some (.string m.name) := (hki.out.cell (p := ⟨g6, j * 2 + 1, none⟩) hgl6 (by show ¬ g6 = w.heap.size; omega)).trans e1
          have hms1 := HMS.out m (List.mem_of_getElem? hm)
          have HTK : Hid (addU acc m = (ms.take (j + 1)).foldl addU sn) := Lib.hid (by rw [List.take_add_one, hm, Option.toList_some, List.foldl_append, ← hacc.out]; rfl)
          have hj8 : (j : Int) < (nm : Int) := by omega
          have hj9 : (0 : Int) ≤ (j : Int) := by omega
          have HZ8 := Lib.hid (hmz.out.alloc (.cells #[.bool m.tag, .string m.name] 47))
          have HAL := Lib.hid (addU_len acc m)
          have HASZ := Lib.hid (addU_sz acc m)
          have HMA := Lib.hid (MSet.add acc m)
          clear hm hcl6 e0 e1
          go_wp2_with (first
            | (at_mapUpdate; go_loud (refine wpList_storeZ _ rfl _ _ _ 53 rfl 47 4 mkKeyed Tryd.underlying53 okBool w.heap.size acc.length _ rfl HZ8.out (by unfold maxLen; omega) _ (.bool true) (litM m) rfl rfl (mk_keyOf m hms1) rfl ?_); intro w9 hm9 hg9 hs9; have Z9 := Lib.hid hs9; have HM9 := Lib.hid hm9; clear hs9 hm9)
            | fail)
          go_roundw
          case rel =>
            refine ⟨j + 1, addU acc m, by omega, by go_num, HTK, by have := HAL.out; omega, Lib.hid ?_, Lib.hid ((hki.out.alloc _).grown hg9 (fun i hi => by cases hi; exact Or.inl rfl))⟩
            rw [← HASZ.out]
            exact HM9.out.congr HMA.out
          case measure => simp [intOf]; omega
        · have HACC : Hid (acc = ms.foldl addU sn) := Lib.hid (by
            have := hacc.out
            rwa [List.take_of_length_le (by rw [HNM.out]; omega)] at this)
          go_wp2_with fail
          go_roundw
          case rel =>
            refine ⟨k + 1, acc, by omega, by go_num, Lib.hid (by rw [HALL.out, HACC.out]), by omega, hmz, Lib.hid (HK6.out.trans hki.out)⟩
          case measure => simp [intOf]; omega
    · have HFIN : Hid (allM s = sn) := Lib.hid (by
        have := hall.out
        rw [List.drop_of_length_le (by rw [HN.out]; omega)] at this
        exact this)
      go_wp2_with (first
        | (at_len; go_loud (refine wpList_lenZ _ rfl _ 53 rfl 47 4 Tryd.underlying53 okBool w.heap.size sn.length _ rfl hmz.out ?_))
        | fail)
      go_ret
      exact ⟨by rw [HFIN.out]; rfl, HBo.out⟩

end Go.Proofs.YtiaklkfdgnhonaaDoor

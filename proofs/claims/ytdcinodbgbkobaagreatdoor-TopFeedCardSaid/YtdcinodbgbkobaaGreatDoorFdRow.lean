/- feed.row. -/
import Derived.Test.YtdcinodbgbkobaaGreatDoorFdNum
import Derived.Test.YtdcinodbgbkobaaGreatDoorGa
namespace Go.Proofs.YtdcinodbgbkobaaGreatDoor
open Go.Shelf Go.RowKit Go.Maps
set_option linter.unusedVariables false

def RowPost (s : ByteArray) (x : It) (b : Bool) : Prop := (b = true → rowP s = some (roOf x) ∧ x.born = 0 ∧ x.listed = true ∧ ItFew x) ∧ (b = false → rowP s = none)
open Classical in
theorem row_prog {s a b g p q : ByteArray} {v1 v2 : Int} {ok1 ok2 : Bool} (hp : partsS s = [a, b, g, p, q]) (h1 : AtoiR p v1 ok1) (h2 : AtoiR q v2 ok2) :
    rowP s = if (true && ok1 && ok2) = true ∧ mayR ⟨a, b, tagsU g, v1, v2⟩ = true ∧ lineB ⟨a, b, tagsU g, v1, v2⟩ = s then some ⟨a, b, tagsU g, v1, v2⟩ else none := by
  by_cases h : (true && ok1 && ok2) = true ∧ mayR ⟨a, b, tagsU g, v1, v2⟩ = true ∧ lineB ⟨a, b, tagsU g, v1, v2⟩ = s
  · rw [if_pos h]
    exact rowP_some ⟨h.2.1, h.2.2⟩
  · rw [if_neg h]
    refine rowP_none (fun r hr => h ?_)
    have hw := row_words hr
    rw [hp] at hw
    simp only [List.cons.injEq, and_true] at hw
    obtain ⟨rfl, rfl, rfl, rfl, rfl⟩ := hw
    obtain ⟨k1, k2⟩ := mayR_atoi hr.1
    have o1 : ok1 = true := by
      cases ho : ok1
      · exact absurd k1 (h1.2.2 ho _)
      · rfl
    have o2 : ok2 = true := by
      cases ho : ok2
      · exact absurd k2 (h2.2.2 ho _)
      · rfl
    have e1 : v1 = r.price := by have := (h1.2.1 o1).symm.trans k1; injection this
    have e2 : v2 = r.stock := by have := (h2.2.1 o2).symm.trans k2; injection this
    subst o1 o2 e1 e2
    rw [tagsU_T hr.1]
    exact ⟨rfl, hr.1, hr.2⟩
theorem blk_of {B : Nat} {w w' : World} (h : Below B w w') {g : Nat} {t : TypeId} {cs : Array Value} (hg : g < B) (hb : Blk w g t cs) : Blk w' g t cs := (h.block g hg).trans hb
theorem dot_list : (⟨#[46]⟩ : ByteArray).toList = [46] := by kernel_rfl
theorem tagsU_size (t : ByteArray) : (tagsU t).size ≤ t.size := by
  unfold tagsU
  split
  · show 0 ≤ _; omega
  · omega

set_option maxHeartbeats 12000000 in
set_option maxRecDepth 100000 in
theorem row_any (s : ByteArray) (w : World) (hs : s.size ≤ 100000) (hg : GlobAt w) (ht : TabAt w) (he : ErrAt w) :
    Calls Tryz.prog 34 #[.string s] w fun e w' => ∃ (x : It) (bb : Bool), e = .returned (.tuple #[itA x, .bool bb]) ∧ RowPost s x bb ∧ Below w.heap.size w w' := by
  obtain ⟨w1, hw1⟩ : ∃ w1, w.alloc (.cells #[.string ⟨#[]⟩, .string ⟨#[]⟩, .string ⟨#[]⟩, .int .i64 0, .int .i64 0, .int .i64 0, .bool false] 47) = w1 := ⟨_, rfl⟩
  have HK1 : Hid (Blk w1 w.heap.size 47 #[.string ⟨#[]⟩, .string ⟨#[]⟩, .string ⟨#[]⟩, .int .i64 0, .int .i64 0, .int .i64 0, .bool false]) := Lib.hid (by rw [← hw1]; exact Blk.new _ _ _)
  have HB1 : Hid (Below w.heap.size w w1) := Lib.hid (by rw [← hw1]; exact (Below.refl _ _).alloc (Nat.le_refl _) _)
  have HSP := Lib.hid (splitS_any s w1 (by omega) (hg.keep HB1.out (Nat.le_refl _)))
  have HG := Lib.hid hg
  have HT := Lib.hid ht
  have HE := Lib.hid he
  have hmf : ∀ (fn : Fn) (first cap : Array Value) (w : World), (Instr.makeFunc fn first cap).run Tryz.prog w = .ok (.func fn first cap) w := fun _ _ _ _ => rfl
  clear hg ht he
  go_enter Tryz.func34, Tryz.ntmps34
  go_wp2_with fail
  clear hw1
  refine HSP.out.mono ?_
  rintro e w2 ⟨rfl, hw2⟩
  have HSZ : Hid (∀ t ∈ partsS s, t.size ≤ 100000) := Lib.hid (fun t h => by have := split_le ⟨#[32]⟩ _ s t h; omega)
  have HB2 : Hid (Below w1.heap.size w1 w2) := Lib.hid (by rw [hw2]; exact (Below.refl _ _).alloc (Nat.le_refl _) _)
  have HZ1 : Hid (w.heap.size < w1.heap.size) := Lib.hid HK1.out.lt
  by_cases h5 : (partsS s).length = 5
  rotate_left
  · have q5 : ((((partsS s).length : Nat) : Int) == 5) = false := by
      rw [Bool.eq_false_iff]; intro e; have := beq_iff_eq.1 e; omega
    have HN : Hid (rowP s = none) := Lib.hid (rowP_none (fun r hr => h5 (by rw [row_words hr]; rfl)))
    have HK2 : Hid (Blk w2 w.heap.size 47 #[.string ⟨#[]⟩, .string ⟨#[]⟩, .string ⟨#[]⟩, .int .i64 0, .int .i64 0, .int .i64 0, .bool false]) := Lib.hid (HK1.out.kept (below_kept (S := fun _ => False) HB2.out (Nat.le_refl _)) (fun h => h))
    clear hw2 h5
    have c0 := HK2.out.cell 0
    have z0 := HK2.out.frozen 0
    have c1 := HK2.out.cell 1
    have z1 := HK2.out.frozen 1
    have c2 := HK2.out.cell 2
    have z2 := HK2.out.frozen 2
    have c3 := HK2.out.cell 3
    have z3 := HK2.out.frozen 3
    have c4 := HK2.out.cell 4
    have z4 := HK2.out.frozen 4
    have c5 := HK2.out.cell 5
    have z5 := HK2.out.frozen 5
    have c6 := HK2.out.cell 6
    have z6 := HK2.out.frozen 6
    go_wp2_with fail
    clear c0 c1 c2 c3 c4 c5 c6 z0 z1 z2 z3 z4 z5 z6
    have HC : Hid (Blk (((((((w2.setCell ⟨w.heap.size, 0, none⟩ (.string ⟨#[]⟩)).setCell ⟨w.heap.size, 1, none⟩ (.string ⟨#[]⟩)).setCell ⟨w.heap.size, 2, none⟩ (.string ⟨#[]⟩)).setCell ⟨w.heap.size, 3, none⟩ (.int .i64 0)).setCell ⟨w.heap.size, 4, none⟩ (.int .i64 0)).setCell ⟨w.heap.size, 5, none⟩ (.int .i64 0)).setCell ⟨w.heap.size, 6, none⟩ (.bool false)) w.heap.size 47 (itArr it0)) := Lib.hid (((((((HK2.out.set_ 0 _).set_ 1 _).set_ 2 _).set_ 3 _).set_ 4 _).set_ 5 _).set_ 6 _)
    have HBC : Hid (Below w.heap.size w (((((((w2.setCell ⟨w.heap.size, 0, none⟩ (.string ⟨#[]⟩)).setCell ⟨w.heap.size, 1, none⟩ (.string ⟨#[]⟩)).setCell ⟨w.heap.size, 2, none⟩ (.string ⟨#[]⟩)).setCell ⟨w.heap.size, 3, none⟩ (.int .i64 0)).setCell ⟨w.heap.size, 4, none⟩ (.int .i64 0)).setCell ⟨w.heap.size, 5, none⟩ (.int .i64 0)).setCell ⟨w.heap.size, 6, none⟩ (.bool false))) := Lib.hid ((((((((HB1.out.trans (HB2.out.mono HB1.out.size)).setCell (p := ⟨w.heap.size, 0, none⟩) (Nat.le_refl _) _).setCell (p := ⟨w.heap.size, 1, none⟩) (Nat.le_refl _) _).setCell (p := ⟨w.heap.size, 2, none⟩) (Nat.le_refl _) _).setCell (p := ⟨w.heap.size, 3, none⟩) (Nat.le_refl _) _).setCell (p := ⟨w.heap.size, 4, none⟩) (Nat.le_refl _) _).setCell (p := ⟨w.heap.size, 5, none⟩) (Nat.le_refl _) _).setCell (p := ⟨w.heap.size, 6, none⟩) (Nat.le_refl _) _)
    refine bodyPost_ret (results_ct (rb := w.heap.size) rfl rfl (load_item HC.out)) rfl ?_
    exact ⟨it0, false, rfl, ⟨fun h => (by cases h), fun _ => HN.out⟩, HBC.out⟩
  obtain ⟨a, b, g, p, q, hps⟩ : ∃ a b g p q, partsS s = [a, b, g, p, q] := by
    match hp : partsS s, h5 with
    | [a, b, g, p, q], _ => exact ⟨a, b, g, p, q, rfl⟩
  have HP := Lib.hid hps
  rw [hps] at HSZ hw2
  rw [show (partsS s).length = 5 from h5]
  have HWZ : Hid (a.size ≤ 100000 ∧ b.size ≤ 100000 ∧ g.size ≤ 100000 ∧ p.size ≤ 100000 ∧ q.size ≤ 100000) := Lib.hid ⟨HSZ.out a (by simp), HSZ.out b (by simp), HSZ.out g (by simp), HSZ.out p (by simp), HSZ.out q (by simp)⟩
  have HK2 : Hid (Blk w2 w1.heap.size 9 #[.string a, .string b, .string g, .string p, .string q]) := Lib.hid (by rw [hw2]; exact Blk.new _ _ _)
  have HR2 : Hid (Blk w2 w.heap.size 47 #[.string ⟨#[]⟩, .string ⟨#[]⟩, .string ⟨#[]⟩, .int .i64 0, .int .i64 0, .int .i64 0, .bool false]) := Lib.hid (HK1.out.kept (below_kept (S := fun _ => False) HB2.out (Nat.le_refl _)) (fun h => h))
  clear hw2 h5 hps HSZ
  obtain ⟨w3, hw3⟩ : ∃ w3, w2.alloc (.cells #[.bool true] 4) = w3 := ⟨_, rfl⟩
  have HB3 : Hid (Below w2.heap.size w2 w3) := Lib.hid (by rw [← hw3]; exact (Below.refl _ _).alloc (Nat.le_refl _) _)
  have HOw3 : Hid (Blk w3 w2.heap.size 4 #[.bool true]) := Lib.hid (by rw [← hw3]; exact Blk.new _ _ _)
  have HK3 : Hid (Blk w3 w1.heap.size 9 #[.string a, .string b, .string g, .string p, .string q]) := Lib.hid (HK2.out.kept (below_kept (S := fun _ => False) HB3.out (Nat.le_refl _)) (fun h => h))
  have HR3 : Hid (Blk w3 w.heap.size 47 #[.string ⟨#[]⟩, .string ⟨#[]⟩, .string ⟨#[]⟩, .int .i64 0, .int .i64 0, .int .i64 0, .bool false]) := Lib.hid (HR2.out.kept (below_kept (S := fun _ => False) HB3.out (Nat.le_refl _)) (fun h => h))
  have HZ2 : Hid (w1.heap.size < w2.heap.size) := Lib.hid HK2.out.lt
  have HZO : Hid (w.heap.size < w2.heap.size) := Lib.hid (Nat.lt_trans HZ1.out HZ2.out)
  have HBW : Hid (Below w.heap.size w w3) := Lib.hid ((HB1.out.trans (HB2.out.mono HB1.out.size)).trans (HB3.out.mono (Nat.le_of_lt HZO.out)))
  have HSC4 : Hid (∀ V, Below w2.heap.size w3 V → V.cell? ⟨w1.heap.size, 0, none⟩ = some (.string a) ∧ V.cell? ⟨w1.heap.size, 1, none⟩ = some (.string b) ∧ V.cell? ⟨w1.heap.size, 2, none⟩ = some (.string g) ∧ V.cell? ⟨w1.heap.size, 3, none⟩ = some (.string p) ∧ V.cell? ⟨w1.heap.size, 4, none⟩ = some (.string q)) := Lib.hid (fun V hV => by
    have k := blk_of hV HZ2.out HK3.out
    exact ⟨k.cell 0, k.cell 1, k.cell 2, k.cell 3, k.cell 4⟩)
  have HSC : Hid (∀ V, Below w2.heap.size w3 V → V.cell? ⟨w1.heap.size, 0, none⟩ = some (.string a) ∧ V.cell? ⟨w1.heap.size, 1, none⟩ = some (.string b) ∧ V.cell? ⟨w1.heap.size, 3, none⟩ = some (.string p) ∧ V.cell? ⟨w1.heap.size, 4, none⟩ = some (.string q)) := Lib.hid (fun V hV => by
    obtain ⟨y0, y1, y2, y3, y4⟩ := HSC4.out V hV
    exact ⟨y0, y1, y3, y4⟩)
  have HSw3d : Hid (Below w2.heap.size w3 w3.drew) := Lib.hid (below_drew (Below.refl _ _))
  have HOw3d : Hid (Blk w3.drew w2.heap.size 4 #[.bool true]) := Lib.hid HOw3.out.drew
  go_wp2_with fail
  clear hw3
  refine wp_planT (fun V => Below w2.heap.size w3 V) (.take 0 (.take 1 (.take 2 (.take 3 (.take 4 (.take 5 (.take 6 (.take 7 (.take 8 (.take 9 (.take 11 (.take 12 (.take 13 (.take 14 (.fork 10 (.fork 15 (.take 16 (.turn 17 (.turn 18 .done))) 17 (.turn 15 (.take 16 (.turn 18 .done)))) 17 (.turn 10 (.turn 15 (.take 16 (.turn 18 .done))))))))))))))))))) (by kernel_rfl) (by kernel_rfl) HSw3d.out ?_
  simp only [planTL, List.getElem?_cons_zero, List.getElem?_cons_succ]
  repeat (first | (refine planT_on _ (by rfl) (fun W hW => by (obtain ⟨x0, x1, x2, x3⟩ := HSC.out W hW; go_simp; try with_reducible rfl)) ?_; simp only [Act.put, List.setIfInBounds_toArray, List.set_cons_zero, List.set_cons_succ]) | (refine planT_off (by rfl) ?_; simp only [Act.put, List.setIfInBounds_toArray, List.set_cons_zero, List.set_cons_succ]))
  obtain ⟨wd, hwd⟩ : ∃ W, w3.drew = W := ⟨_, rfl⟩
  rw [hwd] at HSw3d HOw3d ⊢
  have HSwd := HSw3d
  have HOwd := HOw3d
  clear hwd HSw3d HOw3d
  refine planT_fork ?_ ?_
  · have HC1 := Lib.hid (rownum_any p wd w2.heap.size true (by have := HWZ.out; omega) HOwd.out (HE.out.keep (HBW.out.trans (HSwd.out.mono (Nat.le_of_lt HZO.out)))))
    go_wp2_with fail
    refine HC1.out.mono ?_
    rintro e W1 ⟨v1, ok1, rfl, hr1, hbk1, hkp1⟩
    have HR1 := Lib.hid hr1
    have HOW1 := Lib.hid hbk1
    have HSW1 : Hid (Below w2.heap.size w3 W1) := Lib.hid (HSwd.out.trans (hkp1.toBelow (fun i hi => Nat.le_of_eq hi.symm) (Nat.le_of_lt HOwd.out.lt)))
    clear hr1 hbk1 hkp1 HC1
    go_wp2_with fail
    refine ⟨HSW1.out, ?_⟩
    repeat (first | (refine planT_on _ (by rfl) (fun W hW => by (obtain ⟨x0, x1, x2, x3⟩ := HSC.out W hW; go_simp; try with_reducible rfl)) ?_; simp only [Act.put, List.setIfInBounds_toArray, List.set_cons_zero, List.set_cons_succ]) | (refine planT_off (by rfl) ?_; simp only [Act.put, List.setIfInBounds_toArray, List.set_cons_zero, List.set_cons_succ]))
    refine planT_fork ?_ ?_
    · have HC2 := Lib.hid (rownum_any q W1 w2.heap.size (true && ok1) (by have := HWZ.out; omega) HOW1.out (HE.out.keep (HBW.out.trans (HSW1.out.mono (Nat.le_of_lt HZO.out)))))
      go_wp2_with fail
      refine HC2.out.mono ?_
      rintro e W2 ⟨v2, ok2, rfl, hr2, hbk2, hkp2⟩
      have HR2 := Lib.hid hr2
      have HOW2 := Lib.hid hbk2
      have HSW2 : Hid (Below w2.heap.size w3 W2) := Lib.hid (HSW1.out.trans (hkp2.toBelow (fun i hi => Nat.le_of_eq hi.symm) (Nat.le_of_lt HOW1.out.lt)))
      clear hr2 hbk2 hkp2 HC2
      go_wp2_with fail
      refine ⟨HSW2.out, ?_⟩
      repeat (first | (refine planT_on _ (by rfl) (fun W hW => by (obtain ⟨x0, x1, x2, x3⟩ := HSC.out W hW; go_simp; try with_reducible rfl)) ?_; simp only [Act.put, List.setIfInBounds_toArray, List.set_cons_zero, List.set_cons_succ]) | (refine planT_off (by rfl) ?_; simp only [Act.put, List.setIfInBounds_toArray, List.set_cons_zero, List.set_cons_succ]))
      refine planT_turn ?_
      obtain ⟨ib, hib⟩ : ∃ ib, W2.heap.size = ib := ⟨_, rfl⟩
      obtain ⟨W3, hal⟩ : ∃ W, W2.alloc (.cells #[.string ⟨#[]⟩, .string ⟨#[]⟩, .string ⟨#[]⟩, .int .i64 0, .int .i64 0, .int .i64 0, .bool false] 47) = W := ⟨_, rfl⟩
      have HIW3 : Hid (Blk W3 ib 47 #[.string ⟨#[]⟩, .string ⟨#[]⟩, .string ⟨#[]⟩, .int .i64 0, .int .i64 0, .int .i64 0, .bool false]) := Lib.hid (by rw [← hal, ← hib]; exact Blk.new _ _ _)
      have HOW3 : Hid (Blk W3 w2.heap.size 4 #[.bool (true && ok1 && ok2)]) := Lib.hid (by rw [← hal]; exact HOW2.out.alloc _)
      have HSW3 : Hid (Below w2.heap.size w3 W3) := Lib.hid (by rw [← hal]; exact HSW2.out.alloc (Nat.le_of_lt HOW2.out.lt) _)
      have HNE : Hid (w2.heap.size < ib) := Lib.hid (by rw [← hib]; exact HOW2.out.lt)
      go_wp2_with fail
      try rw [hib]
      try rw [hal]
      clear hib hal
      refine ⟨HSW3.out, ?_⟩
      refine planT_turn ?_
      have hib0 : W3.cell? ⟨ib, 0, none⟩ = some (.string ⟨#[]⟩) := HIW3.out.cell 0
      refine wpList_store_blk W3 rfl 47 _ _ rfl 0 #[.string a, .string b, .string ⟨#[]⟩, .int .i64 v2, .int .i64 v1, .int .i64 0, .bool true] rfl rfl HIW3.out (by show 0 + 7 ≤ 7; omega) (by kernel_rfl) (by simp [Value.oneCell']) ?_
      intro W7 hi7 hk7 hz7
      have HI7 : Hid (Blk W7 ib 47 #[.string a, .string b, .string ⟨#[]⟩, .int .i64 v2, .int .i64 v1, .int .i64 0, .bool true]) := Lib.hid hi7
      have HO7 : Hid (Blk W7 w2.heap.size 4 #[.bool (true && ok1 && ok2)]) := Lib.hid (HOW3.out.kept hk7 (fun h => by have := HNE.out; omega))
      have HS7 : Hid (Below w2.heap.size w3 W7) := Lib.hid (HSW3.out.trans (hk7.toBelow (fun i hi => by have := HNE.out; omega) (Nat.le_of_lt HOW3.out.lt)))
      clear hi7 hk7 hz7 hib0
      go_wp2_with fail
      refine ⟨HS7.out, ?_⟩
      refine planT_done ?_
      have HX := Lib.hid (row_prog HP.out HR1.out HR2.out)
      obtain ⟨x0, x1, x2, x3, x4⟩ := HSC4.out W7 HS7.out
      clear x0 x1 x3 x4
      have zi : W7.frozen? ⟨ib, 2, none⟩ = false := HI7.out.frozen 2
      have ci : W7.cell? ⟨ib, 2, none⟩ = some (.string ⟨#[]⟩) := HI7.out.cell 2
      by_cases hdot : g = ⟨#[46]⟩
      · have q1 : (g.toList == [46]) = true := by rw [← dot_list]; exact (beq_list _ _).2 hdot
        have HU : Hid (tagsU g = ⟨#[]⟩) := Lib.hid (if_pos hdot)
        have HI9 : Hid (Blk W7 ib 47 #[.string a, .string b, .string (tagsU g), .int .i64 v2, .int .i64 v1, .int .i64 0, .bool true]) := Lib.hid (by rw [HU.out]; exact HI7.out)
        have HO9 := HO7
        have HS9 := HS7
        clear hdot HU
        go_wp2_with fail
        obtain ⟨W9, hw9⟩ : ∃ W, W7 = W := ⟨_, rfl⟩
        rw [hw9] at HI9 HO9 HS9 ⊢
        clear hw9
        obtain ⟨ok, hok⟩ : ∃ ok, (true && ok1 && ok2) = ok := ⟨_, rfl⟩
        rw [hok] at HO9 HX
        clear hok
        have HRB : Hid (Blk W9 w.heap.size 47 #[.string ⟨#[]⟩, .string ⟨#[]⟩, .string ⟨#[]⟩, .int .i64 0, .int .i64 0, .int .i64 0, .bool false]) := Lib.hid (blk_of HS9.out HZO.out HR3.out)
        have HBW9 : Hid (Below w.heap.size w W9) := Lib.hid (HBW.out.trans (HS9.out.mono (Nat.le_of_lt HZO.out)))
        have HSC9 : Hid (∀ V, Kept (fun q => q = w.heap.size) W9 V → V.cell? ⟨ib, 0, none⟩ = some (.string a) ∧ V.cell? ⟨ib, 1, none⟩ = some (.string b) ∧ V.cell? ⟨ib, 2, none⟩ = some (.string (tagsU g)) ∧ V.cell? ⟨ib, 3, none⟩ = some (.int .i64 v2) ∧ V.cell? ⟨ib, 4, none⟩ = some (.int .i64 v1) ∧ V.cell? ⟨ib, 5, none⟩ = some (.int .i64 0) ∧ V.cell? ⟨ib, 6, none⟩ = some (.bool true) ∧ V.cell? ⟨w2.heap.size, 0, none⟩ = some (.bool ok)) := Lib.hid (fun V hV => by
          have k1 := HI9.out.kept hV (fun h => by have := HNE.out; have := HZO.out; omega)
          have k2 := HO9.out.kept hV (fun h => by have := HZO.out; omega)
          exact ⟨k1.cell 0, k1.cell 1, k1.cell 2, k1.cell 3, k1.cell 4, k1.cell 5, k1.cell 6, k2.cell 0⟩)
        have HS0 : Hid (Kept (fun q => q = w.heap.size) W9 W9.drew) := Lib.hid (Kept.refl _ _).drew
        have HXF : Hid (ItFew ⟨a, b, tagsU g, v2, v1, 0, true⟩) := Lib.hid ⟨by have h1 := HWZ.out; have h2 := tagsU_size g; show a.size + b.size + (tagsU g).size ≤ 1000000; omega, HR1.out.1, HR2.out.1⟩
        have HMY := Lib.hid (by have h := fmay_any ⟨a, b, tagsU g, v2, v1, 0, true⟩ W9.drew HXF.out.sh.1 HXF.out.sh.2.1 HXF.out.sh.2.2 (HG.out.keep (below_drew HBW9.out) (Nat.le_refl _)); unfold itA at h; exact h)
        go_wp2_with fail
        refine wp_plan (fun V => Kept (fun q => q = w.heap.size) W9 V) [(0, false), (1, false), (2, false), (3, false), (4, true), (5, false), (6, false), (7, false), (9, false), (8, true), (10, false), (11, false), (12, true), (13, false)] (by kernel_rfl) (by kernel_rfl) HS0.out ?_
        simp only [planL, List.getElem?_cons_zero, List.getElem?_cons_succ]
        cases ok
        · have HNO : Hid (rowP s = none) := Lib.hid (by rw [HX.out, if_neg (fun h => by cases h.1)])
          repeat (first | (refine plan_on _ (by rfl) (fun W hW => by (obtain ⟨x0, x1, x2, x3, x4, x5, x6, x7⟩ := HSC9.out W hW; go_simp; try with_reducible rfl)) ?_; simp only [Act.put, List.setIfInBounds_toArray, List.set_cons_zero, List.set_cons_succ]) | (refine plan_off (by rfl) ?_; simp only [Act.put, List.setIfInBounds_toArray, List.set_cons_zero, List.set_cons_succ]))
          refine plan_turn ?_
          go_wp2_with fail
          refine ⟨HS0.out, ?_⟩
          repeat (first | (refine plan_on _ (by rfl) (fun W hW => by (obtain ⟨x0, x1, x2, x3, x4, x5, x6, x7⟩ := HSC9.out W hW; go_simp; try with_reducible rfl)) ?_; simp only [Act.put, List.setIfInBounds_toArray, List.set_cons_zero, List.set_cons_succ]) | (refine plan_off (by rfl) ?_; simp only [Act.put, List.setIfInBounds_toArray, List.set_cons_zero, List.set_cons_succ]))
          refine plan_turn ?_
          go_wp2_with fail
          refine ⟨HS0.out, ?_⟩
          repeat (first | (refine plan_on _ (by rfl) (fun W hW => by (obtain ⟨x0, x1, x2, x3, x4, x5, x6, x7⟩ := HSC9.out W hW; go_simp; try with_reducible rfl)) ?_; simp only [Act.put, List.setIfInBounds_toArray, List.set_cons_zero, List.set_cons_succ]) | (refine plan_off (by rfl) ?_; simp only [Act.put, List.setIfInBounds_toArray, List.set_cons_zero, List.set_cons_succ]))
          refine plan_turn ?_
          refine wpList_store_blk W9.drew rfl 47 _ _ rfl 0 #[.string a, .string b, .string (tagsU g), .int .i64 v2, .int .i64 v1, .int .i64 0, .bool true] rfl rfl HRB.out.drew (by show 0 + 7 ≤ 7; omega) (by kernel_rfl) (by simp [Value.oneCell']) ?_
          intro Wf hbf hkf hzf
          have HBF : Hid (Blk Wf w.heap.size 47 (itArr ⟨a, b, tagsU g, v2, v1, 0, true⟩)) := Lib.hid hbf
          have HSF : Hid (Kept (fun q => q = w.heap.size) W9 Wf) := Lib.hid (HS0.out.trans hkf)
          have HBW : Hid (Below w.heap.size w Wf) := Lib.hid (HBW9.out.trans (HSF.out.toBelow (fun i hi => Nat.le_of_eq hi.symm) HBW9.out.size))
          have HPT : Hid (RowPost s ⟨a, b, tagsU g, v2, v1, 0, true⟩ false) := Lib.hid (⟨fun h => (by cases h), fun _ => HNO.out⟩)
          clear hbf hkf hzf
          go_wp2_with fail
          refine ⟨HSF.out, ?_⟩
          repeat (first | (refine plan_on _ (by rfl) (fun W hW => by (obtain ⟨x0, x1, x2, x3, x4, x5, x6, x7⟩ := HSC9.out W hW; go_simp; try with_reducible rfl)) ?_; simp only [Act.put, List.setIfInBounds_toArray, List.set_cons_zero, List.set_cons_succ]) | (refine plan_off (by rfl) ?_; simp only [Act.put, List.setIfInBounds_toArray, List.set_cons_zero, List.set_cons_succ]))
          refine plan_done ?_
          go_wp2_with fail
          refine bodyPost_ret (results_ct (rb := w.heap.size) rfl rfl (load_item HBF.out)) rfl ?_
          exact ⟨⟨a, b, tagsU g, v2, v1, 0, true⟩, false, rfl, HPT.out, HBW.out⟩
        · repeat (first | (refine plan_on _ (by rfl) (fun W hW => by (obtain ⟨x0, x1, x2, x3, x4, x5, x6, x7⟩ := HSC9.out W hW; go_simp; try with_reducible rfl)) ?_; simp only [Act.put, List.setIfInBounds_toArray, List.set_cons_zero, List.set_cons_succ]) | (refine plan_off (by rfl) ?_; simp only [Act.put, List.setIfInBounds_toArray, List.set_cons_zero, List.set_cons_succ]))
          refine plan_turn ?_
          go_wp2_with fail
          refine HMY.out.mono ?_
          rintro e V1 ⟨rfl, hv1⟩
          have HS1 : Hid (Kept (fun q => q = w.heap.size) W9 V1) := Lib.hid (HS0.out.below hv1 (Nat.le_refl _))
          have HB1 : Hid (Below w.heap.size w V1) := Lib.hid ((below_drew HBW9.out).trans (hv1.mono HBW9.out.size))
          have HRB1 : Hid (Blk V1 w.heap.size 47 #[.string ⟨#[]⟩, .string ⟨#[]⟩, .string ⟨#[]⟩, .int .i64 0, .int .i64 0, .int .i64 0, .bool false]) := Lib.hid (HRB.out.drew.kept (below_kept (S := fun _ => False) hv1 (Nat.le_refl _)) (fun h => h))
          clear HMY hv1
          rw [show roOf ⟨a, b, tagsU g, v2, v1, 0, true⟩ = ⟨a, b, tagsU g, v1, v2⟩ from rfl]
          cases hm : mayR ⟨a, b, tagsU g, v1, v2⟩
          · have HNO : Hid (rowP s = none) := Lib.hid (by rw [HX.out, if_neg (fun h => by rw [hm] at h; first | cases h.2.1 | cases h.1)])
            clear hm
            go_wp2_with fail
            refine ⟨HS1.out, ?_⟩
            repeat (first | (refine plan_on _ (by rfl) (fun W hW => by (obtain ⟨x0, x1, x2, x3, x4, x5, x6, x7⟩ := HSC9.out W hW; go_simp; try with_reducible rfl)) ?_; simp only [Act.put, List.setIfInBounds_toArray, List.set_cons_zero, List.set_cons_succ]) | (refine plan_off (by rfl) ?_; simp only [Act.put, List.setIfInBounds_toArray, List.set_cons_zero, List.set_cons_succ]))
            refine plan_turn ?_
            go_wp2_with fail
            refine ⟨HS1.out, ?_⟩
            repeat (first | (refine plan_on _ (by rfl) (fun W hW => by (obtain ⟨x0, x1, x2, x3, x4, x5, x6, x7⟩ := HSC9.out W hW; go_simp; try with_reducible rfl)) ?_; simp only [Act.put, List.setIfInBounds_toArray, List.set_cons_zero, List.set_cons_succ]) | (refine plan_off (by rfl) ?_; simp only [Act.put, List.setIfInBounds_toArray, List.set_cons_zero, List.set_cons_succ]))
            refine plan_turn ?_
            refine wpList_store_blk V1 rfl 47 _ _ rfl 0 #[.string a, .string b, .string (tagsU g), .int .i64 v2, .int .i64 v1, .int .i64 0, .bool true] rfl rfl HRB1.out (by show 0 + 7 ≤ 7; omega) (by kernel_rfl) (by simp [Value.oneCell']) ?_
            intro Wf hbf hkf hzf
            have HBF : Hid (Blk Wf w.heap.size 47 (itArr ⟨a, b, tagsU g, v2, v1, 0, true⟩)) := Lib.hid hbf
            have HSF : Hid (Kept (fun q => q = w.heap.size) W9 Wf) := Lib.hid (HS1.out.trans hkf)
            have HBW : Hid (Below w.heap.size w Wf) := Lib.hid (HBW9.out.trans (HSF.out.toBelow (fun i hi => Nat.le_of_eq hi.symm) HBW9.out.size))
            have HPT : Hid (RowPost s ⟨a, b, tagsU g, v2, v1, 0, true⟩ false) := Lib.hid (⟨fun h => (by cases h), fun _ => HNO.out⟩)
            clear hbf hkf hzf
            go_wp2_with fail
            refine ⟨HSF.out, ?_⟩
            repeat (first | (refine plan_on _ (by rfl) (fun W hW => by (obtain ⟨x0, x1, x2, x3, x4, x5, x6, x7⟩ := HSC9.out W hW; go_simp; try with_reducible rfl)) ?_; simp only [Act.put, List.setIfInBounds_toArray, List.set_cons_zero, List.set_cons_succ]) | (refine plan_off (by rfl) ?_; simp only [Act.put, List.setIfInBounds_toArray, List.set_cons_zero, List.set_cons_succ]))
            refine plan_done ?_
            go_wp2_with fail
            refine bodyPost_ret (results_ct (rb := w.heap.size) rfl rfl (load_item HBF.out)) rfl ?_
            exact ⟨⟨a, b, tagsU g, v2, v1, 0, true⟩, false, rfl, HPT.out, HBW.out⟩
          · have HMT := Lib.hid hm
            have HLN := Lib.hid (by have h := line_any ⟨a, b, tagsU g, v2, v1, 0, true⟩ V1 HXF.out.1 HXF.out.2.1 HXF.out.2.2 (HT.out.keep HB1.out); unfold itA at h; exact h)
            clear hm
            go_wp2_with fail
            refine ⟨HS1.out, ?_⟩
            repeat (first | (refine plan_on _ (by rfl) (fun W hW => by (obtain ⟨x0, x1, x2, x3, x4, x5, x6, x7⟩ := HSC9.out W hW; go_simp; try with_reducible rfl)) ?_; simp only [Act.put, List.setIfInBounds_toArray, List.set_cons_zero, List.set_cons_succ]) | (refine plan_off (by rfl) ?_; simp only [Act.put, List.setIfInBounds_toArray, List.set_cons_zero, List.set_cons_succ]))
            refine plan_turn ?_
            go_wp2_with fail
            refine HLN.out.mono ?_
            rintro e V2 ⟨rfl, hv2⟩
            have HS2 : Hid (Kept (fun q => q = w.heap.size) W9 V2) := Lib.hid (HS1.out.below hv2 HS1.out.size)
            have HRB2 : Hid (Blk V2 w.heap.size 47 #[.string ⟨#[]⟩, .string ⟨#[]⟩, .string ⟨#[]⟩, .int .i64 0, .int .i64 0, .int .i64 0, .bool false]) := Lib.hid (HRB1.out.kept (below_kept (S := fun _ => False) hv2 (Nat.le_refl _)) (fun h => h))
            clear HLN hv2
            rw [show roOf ⟨a, b, tagsU g, v2, v1, 0, true⟩ = ⟨a, b, tagsU g, v1, v2⟩ from rfl]
            go_wp2_with fail
            refine ⟨HS2.out, ?_⟩
            by_cases hl : lineB ⟨a, b, tagsU g, v1, v2⟩ = s
            · have HYE : Hid (rowP s = some ⟨a, b, tagsU g, v1, v2⟩) := Lib.hid (by rw [HX.out, if_pos (by first | exact ⟨rfl, HMT.out, hl⟩ | exact ⟨trivial, HMT.out, hl⟩ | exact ⟨HMT.out, hl⟩)])
              have ql : ((lineB ⟨a, b, tagsU g, v1, v2⟩).toList == s.toList) = true := (beq_list _ _).2 hl
              clear hl
              repeat (first | (refine plan_on _ (by rfl) (fun W hW => by (obtain ⟨x0, x1, x2, x3, x4, x5, x6, x7⟩ := HSC9.out W hW; go_simp; try with_reducible rfl)) ?_; simp only [Act.put, List.setIfInBounds_toArray, List.set_cons_zero, List.set_cons_succ]) | (refine plan_off (by rfl) ?_; simp only [Act.put, List.setIfInBounds_toArray, List.set_cons_zero, List.set_cons_succ]))
              refine plan_turn ?_
              refine wpList_store_blk V2 rfl 47 _ _ rfl 0 #[.string a, .string b, .string (tagsU g), .int .i64 v2, .int .i64 v1, .int .i64 0, .bool true] rfl rfl HRB2.out (by show 0 + 7 ≤ 7; omega) (by kernel_rfl) (by simp [Value.oneCell']) ?_
              intro Wf hbf hkf hzf
              have HBF : Hid (Blk Wf w.heap.size 47 (itArr ⟨a, b, tagsU g, v2, v1, 0, true⟩)) := Lib.hid hbf
              have HSF : Hid (Kept (fun q => q = w.heap.size) W9 Wf) := Lib.hid (HS2.out.trans hkf)
              have HBW : Hid (Below w.heap.size w Wf) := Lib.hid (HBW9.out.trans (HSF.out.toBelow (fun i hi => Nat.le_of_eq hi.symm) HBW9.out.size))
              have HPT : Hid (RowPost s ⟨a, b, tagsU g, v2, v1, 0, true⟩ true) := Lib.hid (⟨fun _ => ⟨HYE.out, rfl, rfl, HXF.out⟩, fun h => by cases h⟩)
              clear hbf hkf hzf
              go_wp2_with fail
              refine ⟨HSF.out, ?_⟩
              repeat (first | (refine plan_on _ (by rfl) (fun W hW => by (obtain ⟨x0, x1, x2, x3, x4, x5, x6, x7⟩ := HSC9.out W hW; go_simp; try with_reducible rfl)) ?_; simp only [Act.put, List.setIfInBounds_toArray, List.set_cons_zero, List.set_cons_succ]) | (refine plan_off (by rfl) ?_; simp only [Act.put, List.setIfInBounds_toArray, List.set_cons_zero, List.set_cons_succ]))
              refine plan_done ?_
              go_wp2_with fail
              refine bodyPost_ret (results_ct (rb := w.heap.size) rfl rfl (load_item HBF.out)) rfl ?_
              exact ⟨⟨a, b, tagsU g, v2, v1, 0, true⟩, true, rfl, HPT.out, HBW.out⟩
            · have HNO : Hid (rowP s = none) := Lib.hid (by rw [HX.out, if_neg (fun h => by first | exact hl h.2.2 | exact hl h.2)])
              have ql : ((lineB ⟨a, b, tagsU g, v1, v2⟩).toList == s.toList) = false := Bool.eq_false_iff.2 (fun e => hl ((beq_list _ _).1 e))
              clear hl
              repeat (first | (refine plan_on _ (by rfl) (fun W hW => by (obtain ⟨x0, x1, x2, x3, x4, x5, x6, x7⟩ := HSC9.out W hW; go_simp; try with_reducible rfl)) ?_; simp only [Act.put, List.setIfInBounds_toArray, List.set_cons_zero, List.set_cons_succ]) | (refine plan_off (by rfl) ?_; simp only [Act.put, List.setIfInBounds_toArray, List.set_cons_zero, List.set_cons_succ]))
              refine plan_turn ?_
              refine wpList_store_blk V2 rfl 47 _ _ rfl 0 #[.string a, .string b, .string (tagsU g), .int .i64 v2, .int .i64 v1, .int .i64 0, .bool true] rfl rfl HRB2.out (by show 0 + 7 ≤ 7; omega) (by kernel_rfl) (by simp [Value.oneCell']) ?_
              intro Wf hbf hkf hzf
              have HBF : Hid (Blk Wf w.heap.size 47 (itArr ⟨a, b, tagsU g, v2, v1, 0, true⟩)) := Lib.hid hbf
              have HSF : Hid (Kept (fun q => q = w.heap.size) W9 Wf) := Lib.hid (HS2.out.trans hkf)
              have HBW : Hid (Below w.heap.size w Wf) := Lib.hid (HBW9.out.trans (HSF.out.toBelow (fun i hi => Nat.le_of_eq hi.symm) HBW9.out.size))
              have HPT : Hid (RowPost s ⟨a, b, tagsU g, v2, v1, 0, true⟩ false) := Lib.hid (⟨fun h => (by cases h), fun _ => HNO.out⟩)
              clear hbf hkf hzf
              go_wp2_with fail
              refine ⟨HSF.out, ?_⟩
              repeat (first | (refine plan_on _ (by rfl) (fun W hW => by (obtain ⟨x0, x1, x2, x3, x4, x5, x6, x7⟩ := HSC9.out W hW; go_simp; try with_reducible rfl)) ?_; simp only [Act.put, List.setIfInBounds_toArray, List.set_cons_zero, List.set_cons_succ]) | (refine plan_off (by rfl) ?_; simp only [Act.put, List.setIfInBounds_toArray, List.set_cons_zero, List.set_cons_succ]))
              refine plan_done ?_
              go_wp2_with fail
              refine bodyPost_ret (results_ct (rb := w.heap.size) rfl rfl (load_item HBF.out)) rfl ?_
              exact ⟨⟨a, b, tagsU g, v2, v1, 0, true⟩, false, rfl, HPT.out, HBW.out⟩
      · have q1 : (g.toList == [46]) = false := by rw [← dot_list]; exact Bool.eq_false_iff.2 (fun e => hdot ((beq_list _ _).1 e))
        have HU : Hid (tagsU g = g) := Lib.hid (if_neg hdot)
        obtain ⟨W8, hw8⟩ : ∃ W, W7.setCell ⟨ib, 2, none⟩ (.string g) = W := ⟨_, rfl⟩
        have HI9 : Hid (Blk W8 ib 47 #[.string a, .string b, .string (tagsU g), .int .i64 v2, .int .i64 v1, .int .i64 0, .bool true]) := Lib.hid (by rw [HU.out, ← hw8]; exact HI7.out.set_ 2 _)
        have HO9 : Hid (Blk W8 w2.heap.size 4 #[.bool (true && ok1 && ok2)]) := Lib.hid (by rw [← hw8]; exact HO7.out.far (p := ⟨ib, 2, none⟩) (by have := HNE.out; show w2.heap.size ≠ ib; omega) _)
        have HS9 : Hid (Below w2.heap.size w3 W8) := Lib.hid (by rw [← hw8]; exact HS7.out.setCell (p := ⟨ib, 2, none⟩) (by have := HNE.out; show w2.heap.size ≤ ib; omega) _)
        clear hdot HU
        go_wp2_with fail
        clear hw8
        obtain ⟨W9, hw9⟩ : ∃ W, W8 = W := ⟨_, rfl⟩
        rw [hw9] at HI9 HO9 HS9 ⊢
        clear hw9
        obtain ⟨ok, hok⟩ : ∃ ok, (true && ok1 && ok2) = ok := ⟨_, rfl⟩
        rw [hok] at HO9 HX
        clear hok
        have HRB : Hid (Blk W9 w.heap.size 47 #[.string ⟨#[]⟩, .string ⟨#[]⟩, .string ⟨#[]⟩, .int .i64 0, .int .i64 0, .int .i64 0, .bool false]) := Lib.hid (blk_of HS9.out HZO.out HR3.out)
        have HBW9 : Hid (Below w.heap.size w W9) := Lib.hid (HBW.out.trans (HS9.out.mono (Nat.le_of_lt HZO.out)))
        have HSC9 : Hid (∀ V, Kept (fun q => q = w.heap.size) W9 V → V.cell? ⟨ib, 0, none⟩ = some (.string a) ∧ V.cell? ⟨ib, 1, none⟩ = some (.string b) ∧ V.cell? ⟨ib, 2, none⟩ = some (.string (tagsU g)) ∧ V.cell? ⟨ib, 3, none⟩ = some (.int .i64 v2) ∧ V.cell? ⟨ib, 4, none⟩ = some (.int .i64 v1) ∧ V.cell? ⟨ib, 5, none⟩ = some (.int .i64 0) ∧ V.cell? ⟨ib, 6, none⟩ = some (.bool true) ∧ V.cell? ⟨w2.heap.size, 0, none⟩ = some (.bool ok)) := Lib.hid (fun V hV => by
          have k1 := HI9.out.kept hV (fun h => by have := HNE.out; have := HZO.out; omega)
          have k2 := HO9.out.kept hV (fun h => by have := HZO.out; omega)
          exact ⟨k1.cell 0, k1.cell 1, k1.cell 2, k1.cell 3, k1.cell 4, k1.cell 5, k1.cell 6, k2.cell 0⟩)
        have HS0 : Hid (Kept (fun q => q = w.heap.size) W9 W9.drew) := Lib.hid (Kept.refl _ _).drew
        have HXF : Hid (ItFew ⟨a, b, tagsU g, v2, v1, 0, true⟩) := Lib.hid ⟨by have h1 := HWZ.out; have h2 := tagsU_size g; show a.size + b.size + (tagsU g).size ≤ 1000000; omega, HR1.out.1, HR2.out.1⟩
        have HMY := Lib.hid (by have h := fmay_any ⟨a, b, tagsU g, v2, v1, 0, true⟩ W9.drew HXF.out.sh.1 HXF.out.sh.2.1 HXF.out.sh.2.2 (HG.out.keep (below_drew HBW9.out) (Nat.le_refl _)); unfold itA at h; exact h)
        go_wp2_with fail
        refine wp_plan (fun V => Kept (fun q => q = w.heap.size) W9 V) [(0, false), (1, false), (2, false), (3, false), (4, true), (5, false), (6, false), (7, false), (9, false), (8, true), (10, false), (11, false), (12, true), (13, false)] (by kernel_rfl) (by kernel_rfl) HS0.out ?_
        simp only [planL, List.getElem?_cons_zero, List.getElem?_cons_succ]
        cases ok
        · have HNO : Hid (rowP s = none) := Lib.hid (by rw [HX.out, if_neg (fun h => by cases h.1)])
          repeat (first | (refine plan_on _ (by rfl) (fun W hW => by (obtain ⟨x0, x1, x2, x3, x4, x5, x6, x7⟩ := HSC9.out W hW; go_simp; try with_reducible rfl)) ?_; simp only [Act.put, List.setIfInBounds_toArray, List.set_cons_zero, List.set_cons_succ]) | (refine plan_off (by rfl) ?_; simp only [Act.put, List.setIfInBounds_toArray, List.set_cons_zero, List.set_cons_succ]))
          refine plan_turn ?_
          go_wp2_with fail
          refine ⟨HS0.out, ?_⟩
          repeat (first | (refine plan_on _ (by rfl) (fun W hW => by (obtain ⟨x0, x1, x2, x3, x4, x5, x6, x7⟩ := HSC9.out W hW; go_simp; try with_reducible rfl)) ?_; simp only [Act.put, List.setIfInBounds_toArray, List.set_cons_zero, List.set_cons_succ]) | (refine plan_off (by rfl) ?_; simp only [Act.put, List.setIfInBounds_toArray, List.set_cons_zero, List.set_cons_succ]))
          refine plan_turn ?_
          go_wp2_with fail
          refine ⟨HS0.out, ?_⟩
          repeat (first | (refine plan_on _ (by rfl) (fun W hW => by (obtain ⟨x0, x1, x2, x3, x4, x5, x6, x7⟩ := HSC9.out W hW; go_simp; try with_reducible rfl)) ?_; simp only [Act.put, List.setIfInBounds_toArray, List.set_cons_zero, List.set_cons_succ]) | (refine plan_off (by rfl) ?_; simp only [Act.put, List.setIfInBounds_toArray, List.set_cons_zero, List.set_cons_succ]))
          refine plan_turn ?_
          refine wpList_store_blk W9.drew rfl 47 _ _ rfl 0 #[.string a, .string b, .string (tagsU g), .int .i64 v2, .int .i64 v1, .int .i64 0, .bool true] rfl rfl HRB.out.drew (by show 0 + 7 ≤ 7; omega) (by kernel_rfl) (by simp [Value.oneCell']) ?_
          intro Wf hbf hkf hzf
          have HBF : Hid (Blk Wf w.heap.size 47 (itArr ⟨a, b, tagsU g, v2, v1, 0, true⟩)) := Lib.hid hbf
          have HSF : Hid (Kept (fun q => q = w.heap.size) W9 Wf) := Lib.hid (HS0.out.trans hkf)
          have HBW : Hid (Below w.heap.size w Wf) := Lib.hid (HBW9.out.trans (HSF.out.toBelow (fun i hi => Nat.le_of_eq hi.symm) HBW9.out.size))
          have HPT : Hid (RowPost s ⟨a, b, tagsU g, v2, v1, 0, true⟩ false) := Lib.hid (⟨fun h => (by cases h), fun _ => HNO.out⟩)
          clear hbf hkf hzf
          go_wp2_with fail
          refine ⟨HSF.out, ?_⟩
          repeat (first | (refine plan_on _ (by rfl) (fun W hW => by (obtain ⟨x0, x1, x2, x3, x4, x5, x6, x7⟩ := HSC9.out W hW; go_simp; try with_reducible rfl)) ?_; simp only [Act.put, List.setIfInBounds_toArray, List.set_cons_zero, List.set_cons_succ]) | (refine plan_off (by rfl) ?_; simp only [Act.put, List.setIfInBounds_toArray, List.set_cons_zero, List.set_cons_succ]))
          refine plan_done ?_
          go_wp2_with fail
          refine bodyPost_ret (results_ct (rb := w.heap.size) rfl rfl (load_item HBF.out)) rfl ?_
          exact ⟨⟨a, b, tagsU g, v2, v1, 0, true⟩, false, rfl, HPT.out, HBW.out⟩
        · repeat (first | (refine plan_on _ (by rfl) (fun W hW => by (obtain ⟨x0, x1, x2, x3, x4, x5, x6, x7⟩ := HSC9.out W hW; go_simp; try with_reducible rfl)) ?_; simp only [Act.put, List.setIfInBounds_toArray, List.set_cons_zero, List.set_cons_succ]) | (refine plan_off (by rfl) ?_; simp only [Act.put, List.setIfInBounds_toArray, List.set_cons_zero, List.set_cons_succ]))
          refine plan_turn ?_
          go_wp2_with fail
          refine HMY.out.mono ?_
          rintro e V1 ⟨rfl, hv1⟩
          have HS1 : Hid (Kept (fun q => q = w.heap.size) W9 V1) := Lib.hid (HS0.out.below hv1 (Nat.le_refl _))
          have HB1 : Hid (Below w.heap.size w V1) := Lib.hid ((below_drew HBW9.out).trans (hv1.mono HBW9.out.size))
          have HRB1 : Hid (Blk V1 w.heap.size 47 #[.string ⟨#[]⟩, .string ⟨#[]⟩, .string ⟨#[]⟩, .int .i64 0, .int .i64 0, .int .i64 0, .bool false]) := Lib.hid (HRB.out.drew.kept (below_kept (S := fun _ => False) hv1 (Nat.le_refl _)) (fun h => h))
          clear HMY hv1
          rw [show roOf ⟨a, b, tagsU g, v2, v1, 0, true⟩ = ⟨a, b, tagsU g, v1, v2⟩ from rfl]
          cases hm : mayR ⟨a, b, tagsU g, v1, v2⟩
          · have HNO : Hid (rowP s = none) := Lib.hid (by rw [HX.out, if_neg (fun h => by rw [hm] at h; first | cases h.2.1 | cases h.1)])
            clear hm
            go_wp2_with fail
            refine ⟨HS1.out, ?_⟩
            repeat (first | (refine plan_on _ (by rfl) (fun W hW => by (obtain ⟨x0, x1, x2, x3, x4, x5, x6, x7⟩ := HSC9.out W hW; go_simp; try with_reducible rfl)) ?_; simp only [Act.put, List.setIfInBounds_toArray, List.set_cons_zero, List.set_cons_succ]) | (refine plan_off (by rfl) ?_; simp only [Act.put, List.setIfInBounds_toArray, List.set_cons_zero, List.set_cons_succ]))
            refine plan_turn ?_
            go_wp2_with fail
            refine ⟨HS1.out, ?_⟩
            repeat (first | (refine plan_on _ (by rfl) (fun W hW => by (obtain ⟨x0, x1, x2, x3, x4, x5, x6, x7⟩ := HSC9.out W hW; go_simp; try with_reducible rfl)) ?_; simp only [Act.put, List.setIfInBounds_toArray, List.set_cons_zero, List.set_cons_succ]) | (refine plan_off (by rfl) ?_; simp only [Act.put, List.setIfInBounds_toArray, List.set_cons_zero, List.set_cons_succ]))
            refine plan_turn ?_
            refine wpList_store_blk V1 rfl 47 _ _ rfl 0 #[.string a, .string b, .string (tagsU g), .int .i64 v2, .int .i64 v1, .int .i64 0, .bool true] rfl rfl HRB1.out (by show 0 + 7 ≤ 7; omega) (by kernel_rfl) (by simp [Value.oneCell']) ?_
            intro Wf hbf hkf hzf
            have HBF : Hid (Blk Wf w.heap.size 47 (itArr ⟨a, b, tagsU g, v2, v1, 0, true⟩)) := Lib.hid hbf
            have HSF : Hid (Kept (fun q => q = w.heap.size) W9 Wf) := Lib.hid (HS1.out.trans hkf)
            have HBW : Hid (Below w.heap.size w Wf) := Lib.hid (HBW9.out.trans (HSF.out.toBelow (fun i hi => Nat.le_of_eq hi.symm) HBW9.out.size))
            have HPT : Hid (RowPost s ⟨a, b, tagsU g, v2, v1, 0, true⟩ false) := Lib.hid (⟨fun h => (by cases h), fun _ => HNO.out⟩)
            clear hbf hkf hzf
            go_wp2_with fail
            refine ⟨HSF.out, ?_⟩
            repeat (first | (refine plan_on _ (by rfl) (fun W hW => by (obtain ⟨x0, x1, x2, x3, x4, x5, x6, x7⟩ := HSC9.out W hW; go_simp; try with_reducible rfl)) ?_; simp only [Act.put, List.setIfInBounds_toArray, List.set_cons_zero, List.set_cons_succ]) | (refine plan_off (by rfl) ?_; simp only [Act.put, List.setIfInBounds_toArray, List.set_cons_zero, List.set_cons_succ]))
            refine plan_done ?_
            go_wp2_with fail
            refine bodyPost_ret (results_ct (rb := w.heap.size) rfl rfl (load_item HBF.out)) rfl ?_
            exact ⟨⟨a, b, tagsU g, v2, v1, 0, true⟩, false, rfl, HPT.out, HBW.out⟩
          · have HMT := Lib.hid hm
            have HLN := Lib.hid (by have h := line_any ⟨a, b, tagsU g, v2, v1, 0, true⟩ V1 HXF.out.1 HXF.out.2.1 HXF.out.2.2 (HT.out.keep HB1.out); unfold itA at h; exact h)
            clear hm
            go_wp2_with fail
            refine ⟨HS1.out, ?_⟩
            repeat (first | (refine plan_on _ (by rfl) (fun W hW => by (obtain ⟨x0, x1, x2, x3, x4, x5, x6, x7⟩ := HSC9.out W hW; go_simp; try with_reducible rfl)) ?_; simp only [Act.put, List.setIfInBounds_toArray, List.set_cons_zero, List.set_cons_succ]) | (refine plan_off (by rfl) ?_; simp only [Act.put, List.setIfInBounds_toArray, List.set_cons_zero, List.set_cons_succ]))
            refine plan_turn ?_
            go_wp2_with fail
            refine HLN.out.mono ?_
            rintro e V2 ⟨rfl, hv2⟩
            have HS2 : Hid (Kept (fun q => q = w.heap.size) W9 V2) := Lib.hid (HS1.out.below hv2 HS1.out.size)
            have HRB2 : Hid (Blk V2 w.heap.size 47 #[.string ⟨#[]⟩, .string ⟨#[]⟩, .string ⟨#[]⟩, .int .i64 0, .int .i64 0, .int .i64 0, .bool false]) := Lib.hid (HRB1.out.kept (below_kept (S := fun _ => False) hv2 (Nat.le_refl _)) (fun h => h))
            clear HLN hv2
            rw [show roOf ⟨a, b, tagsU g, v2, v1, 0, true⟩ = ⟨a, b, tagsU g, v1, v2⟩ from rfl]
            go_wp2_with fail
            refine ⟨HS2.out, ?_⟩
            by_cases hl : lineB ⟨a, b, tagsU g, v1, v2⟩ = s
            · have HYE : Hid (rowP s = some ⟨a, b, tagsU g, v1, v2⟩) := Lib.hid (by rw [HX.out, if_pos (by first | exact ⟨rfl, HMT.out, hl⟩ | exact ⟨trivial, HMT.out, hl⟩ | exact ⟨HMT.out, hl⟩)])
              have ql : ((lineB ⟨a, b, tagsU g, v1, v2⟩).toList == s.toList) = true := (beq_list _ _).2 hl
              clear hl
              repeat (first | (refine plan_on _ (by rfl) (fun W hW => by (obtain ⟨x0, x1, x2, x3, x4, x5, x6, x7⟩ := HSC9.out W hW; go_simp; try with_reducible rfl)) ?_; simp only [Act.put, List.setIfInBounds_toArray, List.set_cons_zero, List.set_cons_succ]) | (refine plan_off (by rfl) ?_; simp only [Act.put, List.setIfInBounds_toArray, List.set_cons_zero, List.set_cons_succ]))
              refine plan_turn ?_
              refine wpList_store_blk V2 rfl 47 _ _ rfl 0 #[.string a, .string b, .string (tagsU g), .int .i64 v2, .int .i64 v1, .int .i64 0, .bool true] rfl rfl HRB2.out (by show 0 + 7 ≤ 7; omega) (by kernel_rfl) (by simp [Value.oneCell']) ?_
              intro Wf hbf hkf hzf
              have HBF : Hid (Blk Wf w.heap.size 47 (itArr ⟨a, b, tagsU g, v2, v1, 0, true⟩)) := Lib.hid hbf
              have HSF : Hid (Kept (fun q => q = w.heap.size) W9 Wf) := Lib.hid (HS2.out.trans hkf)
              have HBW : Hid (Below w.heap.size w Wf) := Lib.hid (HBW9.out.trans (HSF.out.toBelow (fun i hi => Nat.le_of_eq hi.symm) HBW9.out.size))
              have HPT : Hid (RowPost s ⟨a, b, tagsU g, v2, v1, 0, true⟩ true) := Lib.hid (⟨fun _ => ⟨HYE.out, rfl, rfl, HXF.out⟩, fun h => by cases h⟩)
              clear hbf hkf hzf
              go_wp2_with fail
              refine ⟨HSF.out, ?_⟩
              repeat (first | (refine plan_on _ (by rfl) (fun W hW => by (obtain ⟨x0, x1, x2, x3, x4, x5, x6, x7⟩ := HSC9.out W hW; go_simp; try with_reducible rfl)) ?_; simp only [Act.put, List.setIfInBounds_toArray, List.set_cons_zero, List.set_cons_succ]) | (refine plan_off (by rfl) ?_; simp only [Act.put, List.setIfInBounds_toArray, List.set_cons_zero, List.set_cons_succ]))
              refine plan_done ?_
              go_wp2_with fail
              refine bodyPost_ret (results_ct (rb := w.heap.size) rfl rfl (load_item HBF.out)) rfl ?_
              exact ⟨⟨a, b, tagsU g, v2, v1, 0, true⟩, true, rfl, HPT.out, HBW.out⟩
            · have HNO : Hid (rowP s = none) := Lib.hid (by rw [HX.out, if_neg (fun h => by first | exact hl h.2.2 | exact hl h.2)])
              have ql : ((lineB ⟨a, b, tagsU g, v1, v2⟩).toList == s.toList) = false := Bool.eq_false_iff.2 (fun e => hl ((beq_list _ _).1 e))
              clear hl
              repeat (first | (refine plan_on _ (by rfl) (fun W hW => by (obtain ⟨x0, x1, x2, x3, x4, x5, x6, x7⟩ := HSC9.out W hW; go_simp; try with_reducible rfl)) ?_; simp only [Act.put, List.setIfInBounds_toArray, List.set_cons_zero, List.set_cons_succ]) | (refine plan_off (by rfl) ?_; simp only [Act.put, List.setIfInBounds_toArray, List.set_cons_zero, List.set_cons_succ]))
              refine plan_turn ?_
              refine wpList_store_blk V2 rfl 47 _ _ rfl 0 #[.string a, .string b, .string (tagsU g), .int .i64 v2, .int .i64 v1, .int .i64 0, .bool true] rfl rfl HRB2.out (by show 0 + 7 ≤ 7; omega) (by kernel_rfl) (by simp [Value.oneCell']) ?_
              intro Wf hbf hkf hzf
              have HBF : Hid (Blk Wf w.heap.size 47 (itArr ⟨a, b, tagsU g, v2, v1, 0, true⟩)) := Lib.hid hbf
              have HSF : Hid (Kept (fun q => q = w.heap.size) W9 Wf) := Lib.hid (HS2.out.trans hkf)
              have HBW : Hid (Below w.heap.size w Wf) := Lib.hid (HBW9.out.trans (HSF.out.toBelow (fun i hi => Nat.le_of_eq hi.symm) HBW9.out.size))
              have HPT : Hid (RowPost s ⟨a, b, tagsU g, v2, v1, 0, true⟩ false) := Lib.hid (⟨fun h => (by cases h), fun _ => HNO.out⟩)
              clear hbf hkf hzf
              go_wp2_with fail
              refine ⟨HSF.out, ?_⟩
              repeat (first | (refine plan_on _ (by rfl) (fun W hW => by (obtain ⟨x0, x1, x2, x3, x4, x5, x6, x7⟩ := HSC9.out W hW; go_simp; try with_reducible rfl)) ?_; simp only [Act.put, List.setIfInBounds_toArray, List.set_cons_zero, List.set_cons_succ]) | (refine plan_off (by rfl) ?_; simp only [Act.put, List.setIfInBounds_toArray, List.set_cons_zero, List.set_cons_succ]))
              refine plan_done ?_
              go_wp2_with fail
              refine bodyPost_ret (results_ct (rb := w.heap.size) rfl rfl (load_item HBF.out)) rfl ?_
              exact ⟨⟨a, b, tagsU g, v2, v1, 0, true⟩, false, rfl, HPT.out, HBW.out⟩
    · obtain ⟨ib, hib⟩ : ∃ ib, W1.heap.size = ib := ⟨_, rfl⟩
      obtain ⟨W2, hal⟩ : ∃ W, W1.alloc (.cells #[.string ⟨#[]⟩, .string ⟨#[]⟩, .string ⟨#[]⟩, .int .i64 0, .int .i64 0, .int .i64 0, .bool false] 47) = W := ⟨_, rfl⟩
      have HIW2 : Hid (Blk W2 ib 47 #[.string ⟨#[]⟩, .string ⟨#[]⟩, .string ⟨#[]⟩, .int .i64 0, .int .i64 0, .int .i64 0, .bool false]) := Lib.hid (by rw [← hal, ← hib]; exact Blk.new _ _ _)
      have HOW2 : Hid (Blk W2 w2.heap.size 4 #[.bool (true && ok1)]) := Lib.hid (by rw [← hal]; exact HOW1.out.alloc _)
      have HSW2 : Hid (Below w2.heap.size w3 W2) := Lib.hid (by rw [← hal]; exact HSW1.out.alloc (Nat.le_of_lt HOW1.out.lt) _)
      have HNE : Hid (w2.heap.size < ib) := Lib.hid (by rw [← hib]; exact HOW1.out.lt)
      go_wp2_with fail
      try rw [hib]
      try rw [hal]
      clear hib hal
      refine ⟨HSW2.out, ?_⟩
      repeat (first | (refine planT_on _ (by rfl) (fun W hW => by (obtain ⟨x0, x1, x2, x3⟩ := HSC.out W hW; go_simp; try with_reducible rfl)) ?_; simp only [Act.put, List.setIfInBounds_toArray, List.set_cons_zero, List.set_cons_succ]) | (refine planT_off (by rfl) ?_; simp only [Act.put, List.setIfInBounds_toArray, List.set_cons_zero, List.set_cons_succ]))
      refine planT_turn ?_
      have HC2 := Lib.hid (rownum_any q W2 w2.heap.size (true && ok1) (by have := HWZ.out; omega) HOW2.out (HE.out.keep (HBW.out.trans (HSW2.out.mono (Nat.le_of_lt HZO.out)))))
      go_wp2_with fail
      refine HC2.out.mono ?_
      rintro e W3 ⟨v2, ok2, rfl, hr2, hbk2, hkp2⟩
      have HR2 := Lib.hid hr2
      have HOW3 := Lib.hid hbk2
      have HSW3 : Hid (Below w2.heap.size w3 W3) := Lib.hid (HSW2.out.trans (hkp2.toBelow (fun i hi => Nat.le_of_eq hi.symm) (Nat.le_of_lt HOW2.out.lt)))
      have HIW3 : Hid (Blk W3 ib 47 #[.string ⟨#[]⟩, .string ⟨#[]⟩, .string ⟨#[]⟩, .int .i64 0, .int .i64 0, .int .i64 0, .bool false]) := Lib.hid (HIW2.out.kept hkp2 (fun h => by have := HNE.out; omega))
      clear hr2 hbk2 hkp2 HC2
      go_wp2_with fail
      refine ⟨HSW3.out, ?_⟩
      repeat (first | (refine planT_on _ (by rfl) (fun W hW => by (obtain ⟨x0, x1, x2, x3⟩ := HSC.out W hW; go_simp; try with_reducible rfl)) ?_; simp only [Act.put, List.setIfInBounds_toArray, List.set_cons_zero, List.set_cons_succ]) | (refine planT_off (by rfl) ?_; simp only [Act.put, List.setIfInBounds_toArray, List.set_cons_zero, List.set_cons_succ]))
      refine planT_turn ?_
      have hib0 : W3.cell? ⟨ib, 0, none⟩ = some (.string ⟨#[]⟩) := HIW3.out.cell 0
      refine wpList_store_blk W3 rfl 47 _ _ rfl 0 #[.string a, .string b, .string ⟨#[]⟩, .int .i64 v2, .int .i64 v1, .int .i64 0, .bool true] rfl rfl HIW3.out (by show 0 + 7 ≤ 7; omega) (by kernel_rfl) (by simp [Value.oneCell']) ?_
      intro W7 hi7 hk7 hz7
      have HI7 : Hid (Blk W7 ib 47 #[.string a, .string b, .string ⟨#[]⟩, .int .i64 v2, .int .i64 v1, .int .i64 0, .bool true]) := Lib.hid hi7
      have HO7 : Hid (Blk W7 w2.heap.size 4 #[.bool (true && ok1 && ok2)]) := Lib.hid (HOW3.out.kept hk7 (fun h => by have := HNE.out; omega))
      have HS7 : Hid (Below w2.heap.size w3 W7) := Lib.hid (HSW3.out.trans (hk7.toBelow (fun i hi => by have := HNE.out; omega) (Nat.le_of_lt HOW3.out.lt)))
      clear hi7 hk7 hz7 hib0
      go_wp2_with fail
      refine ⟨HS7.out, ?_⟩
      refine planT_done ?_
      have HX := Lib.hid (row_prog HP.out HR1.out HR2.out)
      obtain ⟨x0, x1, x2, x3, x4⟩ := HSC4.out W7 HS7.out
      clear x0 x1 x3 x4
      have zi : W7.frozen? ⟨ib, 2, none⟩ = false := HI7.out.frozen 2
      have ci : W7.cell? ⟨ib, 2, none⟩ = some (.string ⟨#[]⟩) := HI7.out.cell 2
      by_cases hdot : g = ⟨#[46]⟩
      · have q1 : (g.toList == [46]) = true := by rw [← dot_list]; exact (beq_list _ _).2 hdot
        have HU : Hid (tagsU g = ⟨#[]⟩) := Lib.hid (if_pos hdot)
        have HI9 : Hid (Blk W7 ib 47 #[.string a, .string b, .string (tagsU g), .int .i64 v2, .int .i64 v1, .int .i64 0, .bool true]) := Lib.hid (by rw [HU.out]; exact HI7.out)
        have HO9 := HO7
        have HS9 := HS7
        clear hdot HU
        go_wp2_with fail
        obtain ⟨W9, hw9⟩ : ∃ W, W7 = W := ⟨_, rfl⟩
        rw [hw9] at HI9 HO9 HS9 ⊢
        clear hw9
        obtain ⟨ok, hok⟩ : ∃ ok, (true && ok1 && ok2) = ok := ⟨_, rfl⟩
        rw [hok] at HO9 HX
        clear hok
        have HRB : Hid (Blk W9 w.heap.size 47 #[.string ⟨#[]⟩, .string ⟨#[]⟩, .string ⟨#[]⟩, .int .i64 0, .int .i64 0, .int .i64 0, .bool false]) := Lib.hid (blk_of HS9.out HZO.out HR3.out)
        have HBW9 : Hid (Below w.heap.size w W9) := Lib.hid (HBW.out.trans (HS9.out.mono (Nat.le_of_lt HZO.out)))
        have HSC9 : Hid (∀ V, Kept (fun q => q = w.heap.size) W9 V → V.cell? ⟨ib, 0, none⟩ = some (.string a) ∧ V.cell? ⟨ib, 1, none⟩ = some (.string b) ∧ V.cell? ⟨ib, 2, none⟩ = some (.string (tagsU g)) ∧ V.cell? ⟨ib, 3, none⟩ = some (.int .i64 v2) ∧ V.cell? ⟨ib, 4, none⟩ = some (.int .i64 v1) ∧ V.cell? ⟨ib, 5, none⟩ = some (.int .i64 0) ∧ V.cell? ⟨ib, 6, none⟩ = some (.bool true) ∧ V.cell? ⟨w2.heap.size, 0, none⟩ = some (.bool ok)) := Lib.hid (fun V hV => by
          have k1 := HI9.out.kept hV (fun h => by have := HNE.out; have := HZO.out; omega)
          have k2 := HO9.out.kept hV (fun h => by have := HZO.out; omega)
          exact ⟨k1.cell 0, k1.cell 1, k1.cell 2, k1.cell 3, k1.cell 4, k1.cell 5, k1.cell 6, k2.cell 0⟩)
        have HS0 : Hid (Kept (fun q => q = w.heap.size) W9 W9.drew) := Lib.hid (Kept.refl _ _).drew
        have HXF : Hid (ItFew ⟨a, b, tagsU g, v2, v1, 0, true⟩) := Lib.hid ⟨by have h1 := HWZ.out; have h2 := tagsU_size g; show a.size + b.size + (tagsU g).size ≤ 1000000; omega, HR1.out.1, HR2.out.1⟩
        have HMY := Lib.hid (by have h := fmay_any ⟨a, b, tagsU g, v2, v1, 0, true⟩ W9.drew HXF.out.sh.1 HXF.out.sh.2.1 HXF.out.sh.2.2 (HG.out.keep (below_drew HBW9.out) (Nat.le_refl _)); unfold itA at h; exact h)
        go_wp2_with fail
        refine wp_plan (fun V => Kept (fun q => q = w.heap.size) W9 V) [(0, false), (1, false), (2, false), (3, false), (4, true), (5, false), (6, false), (7, false), (9, false), (8, true), (10, false), (11, false), (12, true), (13, false)] (by kernel_rfl) (by kernel_rfl) HS0.out ?_
        simp only [planL, List.getElem?_cons_zero, List.getElem?_cons_succ]
        cases ok
        · have HNO : Hid (rowP s = none) := Lib.hid (by rw [HX.out, if_neg (fun h => by cases h.1)])
          repeat (first | (refine plan_on _ (by rfl) (fun W hW => by (obtain ⟨x0, x1, x2, x3, x4, x5, x6, x7⟩ := HSC9.out W hW; go_simp; try with_reducible rfl)) ?_; simp only [Act.put, List.setIfInBounds_toArray, List.set_cons_zero, List.set_cons_succ]) | (refine plan_off (by rfl) ?_; simp only [Act.put, List.setIfInBounds_toArray, List.set_cons_zero, List.set_cons_succ]))
          refine plan_turn ?_
          go_wp2_with fail
          refine ⟨HS0.out, ?_⟩
          repeat (first | (refine plan_on _ (by rfl) (fun W hW => by (obtain ⟨x0, x1, x2, x3, x4, x5, x6, x7⟩ := HSC9.out W hW; go_simp; try with_reducible rfl)) ?_; simp only [Act.put, List.setIfInBounds_toArray, List.set_cons_zero, List.set_cons_succ]) | (refine plan_off (by rfl) ?_; simp only [Act.put, List.setIfInBounds_toArray, List.set_cons_zero, List.set_cons_succ]))
          refine plan_turn ?_
          go_wp2_with fail
          refine ⟨HS0.out, ?_⟩
          repeat (first | (refine plan_on _ (by rfl) (fun W hW => by (obtain ⟨x0, x1, x2, x3, x4, x5, x6, x7⟩ := HSC9.out W hW; go_simp; try with_reducible rfl)) ?_; simp only [Act.put, List.setIfInBounds_toArray, List.set_cons_zero, List.set_cons_succ]) | (refine plan_off (by rfl) ?_; simp only [Act.put, List.setIfInBounds_toArray, List.set_cons_zero, List.set_cons_succ]))
          refine plan_turn ?_
          refine wpList_store_blk W9.drew rfl 47 _ _ rfl 0 #[.string a, .string b, .string (tagsU g), .int .i64 v2, .int .i64 v1, .int .i64 0, .bool true] rfl rfl HRB.out.drew (by show 0 + 7 ≤ 7; omega) (by kernel_rfl) (by simp [Value.oneCell']) ?_
          intro Wf hbf hkf hzf
          have HBF : Hid (Blk Wf w.heap.size 47 (itArr ⟨a, b, tagsU g, v2, v1, 0, true⟩)) := Lib.hid hbf
          have HSF : Hid (Kept (fun q => q = w.heap.size) W9 Wf) := Lib.hid (HS0.out.trans hkf)
          have HBW : Hid (Below w.heap.size w Wf) := Lib.hid (HBW9.out.trans (HSF.out.toBelow (fun i hi => Nat.le_of_eq hi.symm) HBW9.out.size))
          have HPT : Hid (RowPost s ⟨a, b, tagsU g, v2, v1, 0, true⟩ false) := Lib.hid (⟨fun h => (by cases h), fun _ => HNO.out⟩)
          clear hbf hkf hzf
          go_wp2_with fail
          refine ⟨HSF.out, ?_⟩
          repeat (first | (refine plan_on _ (by rfl) (fun W hW => by (obtain ⟨x0, x1, x2, x3, x4, x5, x6, x7⟩ := HSC9.out W hW; go_simp; try with_reducible rfl)) ?_; simp only [Act.put, List.setIfInBounds_toArray, List.set_cons_zero, List.set_cons_succ]) | (refine plan_off (by rfl) ?_; simp only [Act.put, List.setIfInBounds_toArray, List.set_cons_zero, List.set_cons_succ]))
          refine plan_done ?_
          go_wp2_with fail
          refine bodyPost_ret (results_ct (rb := w.heap.size) rfl rfl (load_item HBF.out)) rfl ?_
          exact ⟨⟨a, b, tagsU g, v2, v1, 0, true⟩, false, rfl, HPT.out, HBW.out⟩
        · repeat (first | (refine plan_on _ (by rfl) (fun W hW => by (obtain ⟨x0, x1, x2, x3, x4, x5, x6, x7⟩ := HSC9.out W hW; go_simp; try with_reducible rfl)) ?_; simp only [Act.put, List.setIfInBounds_toArray, List.set_cons_zero, List.set_cons_succ]) | (refine plan_off (by rfl) ?_; simp only [Act.put, List.setIfInBounds_toArray, List.set_cons_zero, List.set_cons_succ]))
          refine plan_turn ?_
          go_wp2_with fail
          refine HMY.out.mono ?_
          rintro e V1 ⟨rfl, hv1⟩
          have HS1 : Hid (Kept (fun q => q = w.heap.size) W9 V1) := Lib.hid (HS0.out.below hv1 (Nat.le_refl _))
          have HB1 : Hid (Below w.heap.size w V1) := Lib.hid ((below_drew HBW9.out).trans (hv1.mono HBW9.out.size))
          have HRB1 : Hid (Blk V1 w.heap.size 47 #[.string ⟨#[]⟩, .string ⟨#[]⟩, .string ⟨#[]⟩, .int .i64 0, .int .i64 0, .int .i64 0, .bool false]) := Lib.hid (HRB.out.drew.kept (below_kept (S := fun _ => False) hv1 (Nat.le_refl _)) (fun h => h))
          clear HMY hv1
          rw [show roOf ⟨a, b, tagsU g, v2, v1, 0, true⟩ = ⟨a, b, tagsU g, v1, v2⟩ from rfl]
          cases hm : mayR ⟨a, b, tagsU g, v1, v2⟩
          · have HNO : Hid (rowP s = none) := Lib.hid (by rw [HX.out, if_neg (fun h => by rw [hm] at h; first | cases h.2.1 | cases h.1)])
            clear hm
            go_wp2_with fail
            refine ⟨HS1.out, ?_⟩
            repeat (first | (refine plan_on _ (by rfl) (fun W hW => by (obtain ⟨x0, x1, x2, x3, x4, x5, x6, x7⟩ := HSC9.out W hW; go_simp; try with_reducible rfl)) ?_; simp only [Act.put, List.setIfInBounds_toArray, List.set_cons_zero, List.set_cons_succ]) | (refine plan_off (by rfl) ?_; simp only [Act.put, List.setIfInBounds_toArray, List.set_cons_zero, List.set_cons_succ]))
            refine plan_turn ?_
            go_wp2_with fail
            refine ⟨HS1.out, ?_⟩
            repeat (first | (refine plan_on _ (by rfl) (fun W hW => by (obtain ⟨x0, x1, x2, x3, x4, x5, x6, x7⟩ := HSC9.out W hW; go_simp; try with_reducible rfl)) ?_; simp only [Act.put, List.setIfInBounds_toArray, List.set_cons_zero, List.set_cons_succ]) | (refine plan_off (by rfl) ?_; simp only [Act.put, List.setIfInBounds_toArray, List.set_cons_zero, List.set_cons_succ]))
            refine plan_turn ?_
            refine wpList_store_blk V1 rfl 47 _ _ rfl 0 #[.string a, .string b, .string (tagsU g), .int .i64 v2, .int .i64 v1, .int .i64 0, .bool true] rfl rfl HRB1.out (by show 0 + 7 ≤ 7; omega) (by kernel_rfl) (by simp [Value.oneCell']) ?_
            intro Wf hbf hkf hzf
            have HBF : Hid (Blk Wf w.heap.size 47 (itArr ⟨a, b, tagsU g, v2, v1, 0, true⟩)) := Lib.hid hbf
            have HSF : Hid (Kept (fun q => q = w.heap.size) W9 Wf) := Lib.hid (HS1.out.trans hkf)
            have HBW : Hid (Below w.heap.size w Wf) := Lib.hid (HBW9.out.trans (HSF.out.toBelow (fun i hi => Nat.le_of_eq hi.symm) HBW9.out.size))
            have HPT : Hid (RowPost s ⟨a, b, tagsU g, v2, v1, 0, true⟩ false) := Lib.hid (⟨fun h => (by cases h), fun _ => HNO.out⟩)
            clear hbf hkf hzf
            go_wp2_with fail
            refine ⟨HSF.out, ?_⟩
            repeat (first | (refine plan_on _ (by rfl) (fun W hW => by (obtain ⟨x0, x1, x2, x3, x4, x5, x6, x7⟩ := HSC9.out W hW; go_simp; try with_reducible rfl)) ?_; simp only [Act.put, List.setIfInBounds_toArray, List.set_cons_zero, List.set_cons_succ]) | (refine plan_off (by rfl) ?_; simp only [Act.put, List.setIfInBounds_toArray, List.set_cons_zero, List.set_cons_succ]))
            refine plan_done ?_
            go_wp2_with fail
            refine bodyPost_ret (results_ct (rb := w.heap.size) rfl rfl (load_item HBF.out)) rfl ?_
            exact ⟨⟨a, b, tagsU g, v2, v1, 0, true⟩, false, rfl, HPT.out, HBW.out⟩
          · have HMT := Lib.hid hm
            have HLN := Lib.hid (by have h := line_any ⟨a, b, tagsU g, v2, v1, 0, true⟩ V1 HXF.out.1 HXF.out.2.1 HXF.out.2.2 (HT.out.keep HB1.out); unfold itA at h; exact h)
            clear hm
            go_wp2_with fail
            refine ⟨HS1.out, ?_⟩
            repeat (first | (refine plan_on _ (by rfl) (fun W hW => by (obtain ⟨x0, x1, x2, x3, x4, x5, x6, x7⟩ := HSC9.out W hW; go_simp; try with_reducible rfl)) ?_; simp only [Act.put, List.setIfInBounds_toArray, List.set_cons_zero, List.set_cons_succ]) | (refine plan_off (by rfl) ?_; simp only [Act.put, List.setIfInBounds_toArray, List.set_cons_zero, List.set_cons_succ]))
            refine plan_turn ?_
            go_wp2_with fail
            refine HLN.out.mono ?_
            rintro e V2 ⟨rfl, hv2⟩
            have HS2 : Hid (Kept (fun q => q = w.heap.size) W9 V2) := Lib.hid (HS1.out.below hv2 HS1.out.size)
            have HRB2 : Hid (Blk V2 w.heap.size 47 #[.string ⟨#[]⟩, .string ⟨#[]⟩, .string ⟨#[]⟩, .int .i64 0, .int .i64 0, .int .i64 0, .bool false]) := Lib.hid (HRB1.out.kept (below_kept (S := fun _ => False) hv2 (Nat.le_refl _)) (fun h => h))
            clear HLN hv2
            rw [show roOf ⟨a, b, tagsU g, v2, v1, 0, true⟩ = ⟨a, b, tagsU g, v1, v2⟩ from rfl]
            go_wp2_with fail
            refine ⟨HS2.out, ?_⟩
            by_cases hl : lineB ⟨a, b, tagsU g, v1, v2⟩ = s
            · have HYE : Hid (rowP s = some ⟨a, b, tagsU g, v1, v2⟩) := Lib.hid (by rw [HX.out, if_pos (by first | exact ⟨rfl, HMT.out, hl⟩ | exact ⟨trivial, HMT.out, hl⟩ | exact ⟨HMT.out, hl⟩)])
              have ql : ((lineB ⟨a, b, tagsU g, v1, v2⟩).toList == s.toList) = true := (beq_list _ _).2 hl
              clear hl
              repeat (first | (refine plan_on _ (by rfl) (fun W hW => by (obtain ⟨x0, x1, x2, x3, x4, x5, x6, x7⟩ := HSC9.out W hW; go_simp; try with_reducible rfl)) ?_; simp only [Act.put, List.setIfInBounds_toArray, List.set_cons_zero, List.set_cons_succ]) | (refine plan_off (by rfl) ?_; simp only [Act.put, List.setIfInBounds_toArray, List.set_cons_zero, List.set_cons_succ]))
              refine plan_turn ?_
              refine wpList_store_blk V2 rfl 47 _ _ rfl 0 #[.string a, .string b, .string (tagsU g), .int .i64 v2, .int .i64 v1, .int .i64 0, .bool true] rfl rfl HRB2.out (by show 0 + 7 ≤ 7; omega) (by kernel_rfl) (by simp [Value.oneCell']) ?_
              intro Wf hbf hkf hzf
              have HBF : Hid (Blk Wf w.heap.size 47 (itArr ⟨a, b, tagsU g, v2, v1, 0, true⟩)) := Lib.hid hbf
              have HSF : Hid (Kept (fun q => q = w.heap.size) W9 Wf) := Lib.hid (HS2.out.trans hkf)
              have HBW : Hid (Below w.heap.size w Wf) := Lib.hid (HBW9.out.trans (HSF.out.toBelow (fun i hi => Nat.le_of_eq hi.symm) HBW9.out.size))
              have HPT : Hid (RowPost s ⟨a, b, tagsU g, v2, v1, 0, true⟩ true) := Lib.hid (⟨fun _ => ⟨HYE.out, rfl, rfl, HXF.out⟩, fun h => by cases h⟩)
              clear hbf hkf hzf
              go_wp2_with fail
              refine ⟨HSF.out, ?_⟩
              repeat (first | (refine plan_on _ (by rfl) (fun W hW => by (obtain ⟨x0, x1, x2, x3, x4, x5, x6, x7⟩ := HSC9.out W hW; go_simp; try with_reducible rfl)) ?_; simp only [Act.put, List.setIfInBounds_toArray, List.set_cons_zero, List.set_cons_succ]) | (refine plan_off (by rfl) ?_; simp only [Act.put, List.setIfInBounds_toArray, List.set_cons_zero, List.set_cons_succ]))
              refine plan_done ?_
              go_wp2_with fail
              refine bodyPost_ret (results_ct (rb := w.heap.size) rfl rfl (load_item HBF.out)) rfl ?_
              exact ⟨⟨a, b, tagsU g, v2, v1, 0, true⟩, true, rfl, HPT.out, HBW.out⟩
            · have HNO : Hid (rowP s = none) := Lib.hid (by rw [HX.out, if_neg (fun h => by first | exact hl h.2.2 | exact hl h.2)])
              have ql : ((lineB ⟨a, b, tagsU g, v1, v2⟩).toList == s.toList) = false := Bool.eq_false_iff.2 (fun e => hl ((beq_list _ _).1 e))
              clear hl
              repeat (first | (refine plan_on _ (by rfl) (fun W hW => by (obtain ⟨x0, x1, x2, x3, x4, x5, x6, x7⟩ := HSC9.out W hW; go_simp; try with_reducible rfl)) ?_; simp only [Act.put, List.setIfInBounds_toArray, List.set_cons_zero, List.set_cons_succ]) | (refine plan_off (by rfl) ?_; simp only [Act.put, List.setIfInBounds_toArray, List.set_cons_zero, List.set_cons_succ]))
              refine plan_turn ?_
              refine wpList_store_blk V2 rfl 47 _ _ rfl 0 #[.string a, .string b, .string (tagsU g), .int .i64 v2, .int .i64 v1, .int .i64 0, .bool true] rfl rfl HRB2.out (by show 0 + 7 ≤ 7; omega) (by kernel_rfl) (by simp [Value.oneCell']) ?_
              intro Wf hbf hkf hzf
              have HBF : Hid (Blk Wf w.heap.size 47 (itArr ⟨a, b, tagsU g, v2, v1, 0, true⟩)) := Lib.hid hbf
              have HSF : Hid (Kept (fun q => q = w.heap.size) W9 Wf) := Lib.hid (HS2.out.trans hkf)
              have HBW : Hid (Below w.heap.size w Wf) := Lib.hid (HBW9.out.trans (HSF.out.toBelow (fun i hi => Nat.le_of_eq hi.symm) HBW9.out.size))
              have HPT : Hid (RowPost s ⟨a, b, tagsU g, v2, v1, 0, true⟩ false) := Lib.hid (⟨fun h => (by cases h), fun _ => HNO.out⟩)
              clear hbf hkf hzf
              go_wp2_with fail
              refine ⟨HSF.out, ?_⟩
              repeat (first | (refine plan_on _ (by rfl) (fun W hW => by (obtain ⟨x0, x1, x2, x3, x4, x5, x6, x7⟩ := HSC9.out W hW; go_simp; try with_reducible rfl)) ?_; simp only [Act.put, List.setIfInBounds_toArray, List.set_cons_zero, List.set_cons_succ]) | (refine plan_off (by rfl) ?_; simp only [Act.put, List.setIfInBounds_toArray, List.set_cons_zero, List.set_cons_succ]))
              refine plan_done ?_
              go_wp2_with fail
              refine bodyPost_ret (results_ct (rb := w.heap.size) rfl rfl (load_item HBF.out)) rfl ?_
              exact ⟨⟨a, b, tagsU g, v2, v1, 0, true⟩, false, rfl, HPT.out, HBW.out⟩
      · have q1 : (g.toList == [46]) = false := by rw [← dot_list]; exact Bool.eq_false_iff.2 (fun e => hdot ((beq_list _ _).1 e))
        have HU : Hid (tagsU g = g) := Lib.hid (if_neg hdot)
        obtain ⟨W8, hw8⟩ : ∃ W, W7.setCell ⟨ib, 2, none⟩ (.string g) = W := ⟨_, rfl⟩
        have HI9 : Hid (Blk W8 ib 47 #[.string a, .string b, .string (tagsU g), .int .i64 v2, .int .i64 v1, .int .i64 0, .bool true]) := Lib.hid (by rw [HU.out, ← hw8]; exact HI7.out.set_ 2 _)
        have HO9 : Hid (Blk W8 w2.heap.size 4 #[.bool (true && ok1 && ok2)]) := Lib.hid (by rw [← hw8]; exact HO7.out.far (p := ⟨ib, 2, none⟩) (by have := HNE.out; show w2.heap.size ≠ ib; omega) _)
        have HS9 : Hid (Below w2.heap.size w3 W8) := Lib.hid (by rw [← hw8]; exact HS7.out.setCell (p := ⟨ib, 2, none⟩) (by have := HNE.out; show w2.heap.size ≤ ib; omega) _)
        clear hdot HU
        go_wp2_with fail
        clear hw8
        obtain ⟨W9, hw9⟩ : ∃ W, W8 = W := ⟨_, rfl⟩
        rw [hw9] at HI9 HO9 HS9 ⊢
        clear hw9
        obtain ⟨ok, hok⟩ : ∃ ok, (true && ok1 && ok2) = ok := ⟨_, rfl⟩
        rw [hok] at HO9 HX
        clear hok
        have HRB : Hid (Blk W9 w.heap.size 47 #[.string ⟨#[]⟩, .string ⟨#[]⟩, .string ⟨#[]⟩, .int .i64 0, .int .i64 0, .int .i64 0, .bool false]) := Lib.hid (blk_of HS9.out HZO.out HR3.out)
        have HBW9 : Hid (Below w.heap.size w W9) := Lib.hid (HBW.out.trans (HS9.out.mono (Nat.le_of_lt HZO.out)))
        have HSC9 : Hid (∀ V, Kept (fun q => q = w.heap.size) W9 V → V.cell? ⟨ib, 0, none⟩ = some (.string a) ∧ V.cell? ⟨ib, 1, none⟩ = some (.string b) ∧ V.cell? ⟨ib, 2, none⟩ = some (.string (tagsU g)) ∧ V.cell? ⟨ib, 3, none⟩ = some (.int .i64 v2) ∧ V.cell? ⟨ib, 4, none⟩ = some (.int .i64 v1) ∧ V.cell? ⟨ib, 5, none⟩ = some (.int .i64 0) ∧ V.cell? ⟨ib, 6, none⟩ = some (.bool true) ∧ V.cell? ⟨w2.heap.size, 0, none⟩ = some (.bool ok)) := Lib.hid (fun V hV => by
          have k1 := HI9.out.kept hV (fun h => by have := HNE.out; have := HZO.out; omega)
          have k2 := HO9.out.kept hV (fun h => by have := HZO.out; omega)
          exact ⟨k1.cell 0, k1.cell 1, k1.cell 2, k1.cell 3, k1.cell 4, k1.cell 5, k1.cell 6, k2.cell 0⟩)
        have HS0 : Hid (Kept (fun q => q = w.heap.size) W9 W9.drew) := Lib.hid (Kept.refl _ _).drew
        have HXF : Hid (ItFew ⟨a, b, tagsU g, v2, v1, 0, true⟩) := Lib.hid ⟨by have h1 := HWZ.out; have h2 := tagsU_size g; show a.size + b.size + (tagsU g).size ≤ 1000000; omega, HR1.out.1, HR2.out.1⟩
        have HMY := Lib.hid (by have h := fmay_any ⟨a, b, tagsU g, v2, v1, 0, true⟩ W9.drew HXF.out.sh.1 HXF.out.sh.2.1 HXF.out.sh.2.2 (HG.out.keep (below_drew HBW9.out) (Nat.le_refl _)); unfold itA at h; exact h)
        go_wp2_with fail
        refine wp_plan (fun V => Kept (fun q => q = w.heap.size) W9 V) [(0, false), (1, false), (2, false), (3, false), (4, true), (5, false), (6, false), (7, false), (9, false), (8, true), (10, false), (11, false), (12, true), (13, false)] (by kernel_rfl) (by kernel_rfl) HS0.out ?_
        simp only [planL, List.getElem?_cons_zero, List.getElem?_cons_succ]
        cases ok
        · have HNO : Hid (rowP s = none) := Lib.hid (by rw [HX.out, if_neg (fun h => by cases h.1)])
          repeat (first | (refine plan_on _ (by rfl) (fun W hW => by (obtain ⟨x0, x1, x2, x3, x4, x5, x6, x7⟩ := HSC9.out W hW; go_simp; try with_reducible rfl)) ?_; simp only [Act.put, List.setIfInBounds_toArray, List.set_cons_zero, List.set_cons_succ]) | (refine plan_off (by rfl) ?_; simp only [Act.put, List.setIfInBounds_toArray, List.set_cons_zero, List.set_cons_succ]))
          refine plan_turn ?_
          go_wp2_with fail
          refine ⟨HS0.out, ?_⟩
          repeat (first | (refine plan_on _ (by rfl) (fun W hW => by (obtain ⟨x0, x1, x2, x3, x4, x5, x6, x7⟩ := HSC9.out W hW; go_simp; try with_reducible rfl)) ?_; simp only [Act.put, List.setIfInBounds_toArray, List.set_cons_zero, List.set_cons_succ]) | (refine plan_off (by rfl) ?_; simp only [Act.put, List.setIfInBounds_toArray, List.set_cons_zero, List.set_cons_succ]))
          refine plan_turn ?_
          go_wp2_with fail
          refine ⟨HS0.out, ?_⟩
          repeat (first | (refine plan_on _ (by rfl) (fun W hW => by (obtain ⟨x0, x1, x2, x3, x4, x5, x6, x7⟩ := HSC9.out W hW; go_simp; try with_reducible rfl)) ?_; simp only [Act.put, List.setIfInBounds_toArray, List.set_cons_zero, List.set_cons_succ]) | (refine plan_off (by rfl) ?_; simp only [Act.put, List.setIfInBounds_toArray, List.set_cons_zero, List.set_cons_succ]))
          refine plan_turn ?_
          refine wpList_store_blk W9.drew rfl 47 _ _ rfl 0 #[.string a, .string b, .string (tagsU g), .int .i64 v2, .int .i64 v1, .int .i64 0, .bool true] rfl rfl HRB.out.drew (by show 0 + 7 ≤ 7; omega) (by kernel_rfl) (by simp [Value.oneCell']) ?_
          intro Wf hbf hkf hzf
          have HBF : Hid (Blk Wf w.heap.size 47 (itArr ⟨a, b, tagsU g, v2, v1, 0, true⟩)) := Lib.hid hbf
          have HSF : Hid (Kept (fun q => q = w.heap.size) W9 Wf) := Lib.hid (HS0.out.trans hkf)
          have HBW : Hid (Below w.heap.size w Wf) := Lib.hid (HBW9.out.trans (HSF.out.toBelow (fun i hi => Nat.le_of_eq hi.symm) HBW9.out.size))
          have HPT : Hid (RowPost s ⟨a, b, tagsU g, v2, v1, 0, true⟩ false) := Lib.hid (⟨fun h => (by cases h), fun _ => HNO.out⟩)
          clear hbf hkf hzf
          go_wp2_with fail
          refine ⟨HSF.out, ?_⟩
          repeat (first | (refine plan_on _ (by rfl) (fun W hW => by (obtain ⟨x0, x1, x2, x3, x4, x5, x6, x7⟩ := HSC9.out W hW; go_simp; try with_reducible rfl)) ?_; simp only [Act.put, List.setIfInBounds_toArray, List.set_cons_zero, List.set_cons_succ]) | (refine plan_off (by rfl) ?_; simp only [Act.put, List.setIfInBounds_toArray, List.set_cons_zero, List.set_cons_succ]))
          refine plan_done ?_
          go_wp2_with fail
          refine bodyPost_ret (results_ct (rb := w.heap.size) rfl rfl (load_item HBF.out)) rfl ?_
          exact ⟨⟨a, b, tagsU g, v2, v1, 0, true⟩, false, rfl, HPT.out, HBW.out⟩
        · repeat (first | (refine plan_on _ (by rfl) (fun W hW => by (obtain ⟨x0, x1, x2, x3, x4, x5, x6, x7⟩ := HSC9.out W hW; go_simp; try with_reducible rfl)) ?_; simp only [Act.put, List.setIfInBounds_toArray, List.set_cons_zero, List.set_cons_succ]) | (refine plan_off (by rfl) ?_; simp only [Act.put, List.setIfInBounds_toArray, List.set_cons_zero, List.set_cons_succ]))
          refine plan_turn ?_
          go_wp2_with fail
          refine HMY.out.mono ?_
          rintro e V1 ⟨rfl, hv1⟩
          have HS1 : Hid (Kept (fun q => q = w.heap.size) W9 V1) := Lib.hid (HS0.out.below hv1 (Nat.le_refl _))
          have HB1 : Hid (Below w.heap.size w V1) := Lib.hid ((below_drew HBW9.out).trans (hv1.mono HBW9.out.size))
          have HRB1 : Hid (Blk V1 w.heap.size 47 #[.string ⟨#[]⟩, .string ⟨#[]⟩, .string ⟨#[]⟩, .int .i64 0, .int .i64 0, .int .i64 0, .bool false]) := Lib.hid (HRB.out.drew.kept (below_kept (S := fun _ => False) hv1 (Nat.le_refl _)) (fun h => h))
          clear HMY hv1
          rw [show roOf ⟨a, b, tagsU g, v2, v1, 0, true⟩ = ⟨a, b, tagsU g, v1, v2⟩ from rfl]
          cases hm : mayR ⟨a, b, tagsU g, v1, v2⟩
          · have HNO : Hid (rowP s = none) := Lib.hid (by rw [HX.out, if_neg (fun h => by rw [hm] at h; first | cases h.2.1 | cases h.1)])
            clear hm
            go_wp2_with fail
            refine ⟨HS1.out, ?_⟩
            repeat (first | (refine plan_on _ (by rfl) (fun W hW => by (obtain ⟨x0, x1, x2, x3, x4, x5, x6, x7⟩ := HSC9.out W hW; go_simp; try with_reducible rfl)) ?_; simp only [Act.put, List.setIfInBounds_toArray, List.set_cons_zero, List.set_cons_succ]) | (refine plan_off (by rfl) ?_; simp only [Act.put, List.setIfInBounds_toArray, List.set_cons_zero, List.set_cons_succ]))
            refine plan_turn ?_
            go_wp2_with fail
            refine ⟨HS1.out, ?_⟩
            repeat (first | (refine plan_on _ (by rfl) (fun W hW => by (obtain ⟨x0, x1, x2, x3, x4, x5, x6, x7⟩ := HSC9.out W hW; go_simp; try with_reducible rfl)) ?_; simp only [Act.put, List.setIfInBounds_toArray, List.set_cons_zero, List.set_cons_succ]) | (refine plan_off (by rfl) ?_; simp only [Act.put, List.setIfInBounds_toArray, List.set_cons_zero, List.set_cons_succ]))
            refine plan_turn ?_
            refine wpList_store_blk V1 rfl 47 _ _ rfl 0 #[.string a, .string b, .string (tagsU g), .int .i64 v2, .int .i64 v1, .int .i64 0, .bool true] rfl rfl HRB1.out (by show 0 + 7 ≤ 7; omega) (by kernel_rfl) (by simp [Value.oneCell']) ?_
            intro Wf hbf hkf hzf
            have HBF : Hid (Blk Wf w.heap.size 47 (itArr ⟨a, b, tagsU g, v2, v1, 0, true⟩)) := Lib.hid hbf
            have HSF : Hid (Kept (fun q => q = w.heap.size) W9 Wf) := Lib.hid (HS1.out.trans hkf)
            have HBW : Hid (Below w.heap.size w Wf) := Lib.hid (HBW9.out.trans (HSF.out.toBelow (fun i hi => Nat.le_of_eq hi.symm) HBW9.out.size))
            have HPT : Hid (RowPost s ⟨a, b, tagsU g, v2, v1, 0, true⟩ false) := Lib.hid (⟨fun h => (by cases h), fun _ => HNO.out⟩)
            clear hbf hkf hzf
            go_wp2_with fail
            refine ⟨HSF.out, ?_⟩
            repeat (first | (refine plan_on _ (by rfl) (fun W hW => by (obtain ⟨x0, x1, x2, x3, x4, x5, x6, x7⟩ := HSC9.out W hW; go_simp; try with_reducible rfl)) ?_; simp only [Act.put, List.setIfInBounds_toArray, List.set_cons_zero, List.set_cons_succ]) | (refine plan_off (by rfl) ?_; simp only [Act.put, List.setIfInBounds_toArray, List.set_cons_zero, List.set_cons_succ]))
            refine plan_done ?_
            go_wp2_with fail
            refine bodyPost_ret (results_ct (rb := w.heap.size) rfl rfl (load_item HBF.out)) rfl ?_
            exact ⟨⟨a, b, tagsU g, v2, v1, 0, true⟩, false, rfl, HPT.out, HBW.out⟩
          · have HMT := Lib.hid hm
            have HLN := Lib.hid (by have h := line_any ⟨a, b, tagsU g, v2, v1, 0, true⟩ V1 HXF.out.1 HXF.out.2.1 HXF.out.2.2 (HT.out.keep HB1.out); unfold itA at h; exact h)
            clear hm
            go_wp2_with fail
            refine ⟨HS1.out, ?_⟩
            repeat (first | (refine plan_on _ (by rfl) (fun W hW => by (obtain ⟨x0, x1, x2, x3, x4, x5, x6, x7⟩ := HSC9.out W hW; go_simp; try with_reducible rfl)) ?_; simp only [Act.put, List.setIfInBounds_toArray, List.set_cons_zero, List.set_cons_succ]) | (refine plan_off (by rfl) ?_; simp only [Act.put, List.setIfInBounds_toArray, List.set_cons_zero, List.set_cons_succ]))
            refine plan_turn ?_
            go_wp2_with fail
            refine HLN.out.mono ?_
            rintro e V2 ⟨rfl, hv2⟩
            have HS2 : Hid (Kept (fun q => q = w.heap.size) W9 V2) := Lib.hid (HS1.out.below hv2 HS1.out.size)
            have HRB2 : Hid (Blk V2 w.heap.size 47 #[.string ⟨#[]⟩, .string ⟨#[]⟩, .string ⟨#[]⟩, .int .i64 0, .int .i64 0, .int .i64 0, .bool false]) := Lib.hid (HRB1.out.kept (below_kept (S := fun _ => False) hv2 (Nat.le_refl _)) (fun h => h))
            clear HLN hv2
            rw [show roOf ⟨a, b, tagsU g, v2, v1, 0, true⟩ = ⟨a, b, tagsU g, v1, v2⟩ from rfl]
            go_wp2_with fail
            refine ⟨HS2.out, ?_⟩
            by_cases hl : lineB ⟨a, b, tagsU g, v1, v2⟩ = s
            · have HYE : Hid (rowP s = some ⟨a, b, tagsU g, v1, v2⟩) := Lib.hid (by rw [HX.out, if_pos (by first | exact ⟨rfl, HMT.out, hl⟩ | exact ⟨trivial, HMT.out, hl⟩ | exact ⟨HMT.out, hl⟩)])
              have ql : ((lineB ⟨a, b, tagsU g, v1, v2⟩).toList == s.toList) = true := (beq_list _ _).2 hl
              clear hl
              repeat (first | (refine plan_on _ (by rfl) (fun W hW => by (obtain ⟨x0, x1, x2, x3, x4, x5, x6, x7⟩ := HSC9.out W hW; go_simp; try with_reducible rfl)) ?_; simp only [Act.put, List.setIfInBounds_toArray, List.set_cons_zero, List.set_cons_succ]) | (refine plan_off (by rfl) ?_; simp only [Act.put, List.setIfInBounds_toArray, List.set_cons_zero, List.set_cons_succ]))
              refine plan_turn ?_
              refine wpList_store_blk V2 rfl 47 _ _ rfl 0 #[.string a, .string b, .string (tagsU g), .int .i64 v2, .int .i64 v1, .int .i64 0, .bool true] rfl rfl HRB2.out (by show 0 + 7 ≤ 7; omega) (by kernel_rfl) (by simp [Value.oneCell']) ?_
              intro Wf hbf hkf hzf
              have HBF : Hid (Blk Wf w.heap.size 47 (itArr ⟨a, b, tagsU g, v2, v1, 0, true⟩)) := Lib.hid hbf
              have HSF : Hid (Kept (fun q => q = w.heap.size) W9 Wf) := Lib.hid (HS2.out.trans hkf)
              have HBW : Hid (Below w.heap.size w Wf) := Lib.hid (HBW9.out.trans (HSF.out.toBelow (fun i hi => Nat.le_of_eq hi.symm) HBW9.out.size))
              have HPT : Hid (RowPost s ⟨a, b, tagsU g, v2, v1, 0, true⟩ true) := Lib.hid (⟨fun _ => ⟨HYE.out, rfl, rfl, HXF.out⟩, fun h => by cases h⟩)
              clear hbf hkf hzf
              go_wp2_with fail
              refine ⟨HSF.out, ?_⟩
              repeat (first | (refine plan_on _ (by rfl) (fun W hW => by (obtain ⟨x0, x1, x2, x3, x4, x5, x6, x7⟩ := HSC9.out W hW; go_simp; try with_reducible rfl)) ?_; simp only [Act.put, List.setIfInBounds_toArray, List.set_cons_zero, List.set_cons_succ]) | (refine plan_off (by rfl) ?_; simp only [Act.put, List.setIfInBounds_toArray, List.set_cons_zero, List.set_cons_succ]))
              refine plan_done ?_
              go_wp2_with fail
              refine bodyPost_ret (results_ct (rb := w.heap.size) rfl rfl (load_item HBF.out)) rfl ?_
              exact ⟨⟨a, b, tagsU g, v2, v1, 0, true⟩, true, rfl, HPT.out, HBW.out⟩
            · have HNO : Hid (rowP s = none) := Lib.hid (by rw [HX.out, if_neg (fun h => by first | exact hl h.2.2 | exact hl h.2)])
              have ql : ((lineB ⟨a, b, tagsU g, v1, v2⟩).toList == s.toList) = false := Bool.eq_false_iff.2 (fun e => hl ((beq_list _ _).1 e))
              clear hl
              repeat (first | (refine plan_on _ (by rfl) (fun W hW => by (obtain ⟨x0, x1, x2, x3, x4, x5, x6, x7⟩ := HSC9.out W hW; go_simp; try with_reducible rfl)) ?_; simp only [Act.put, List.setIfInBounds_toArray, List.set_cons_zero, List.set_cons_succ]) | (refine plan_off (by rfl) ?_; simp only [Act.put, List.setIfInBounds_toArray, List.set_cons_zero, List.set_cons_succ]))
              refine plan_turn ?_
              refine wpList_store_blk V2 rfl 47 _ _ rfl 0 #[.string a, .string b, .string (tagsU g), .int .i64 v2, .int .i64 v1, .int .i64 0, .bool true] rfl rfl HRB2.out (by show 0 + 7 ≤ 7; omega) (by kernel_rfl) (by simp [Value.oneCell']) ?_
              intro Wf hbf hkf hzf
              have HBF : Hid (Blk Wf w.heap.size 47 (itArr ⟨a, b, tagsU g, v2, v1, 0, true⟩)) := Lib.hid hbf
              have HSF : Hid (Kept (fun q => q = w.heap.size) W9 Wf) := Lib.hid (HS2.out.trans hkf)
              have HBW : Hid (Below w.heap.size w Wf) := Lib.hid (HBW9.out.trans (HSF.out.toBelow (fun i hi => Nat.le_of_eq hi.symm) HBW9.out.size))
              have HPT : Hid (RowPost s ⟨a, b, tagsU g, v2, v1, 0, true⟩ false) := Lib.hid (⟨fun h => (by cases h), fun _ => HNO.out⟩)
              clear hbf hkf hzf
              go_wp2_with fail
              refine ⟨HSF.out, ?_⟩
              repeat (first | (refine plan_on _ (by rfl) (fun W hW => by (obtain ⟨x0, x1, x2, x3, x4, x5, x6, x7⟩ := HSC9.out W hW; go_simp; try with_reducible rfl)) ?_; simp only [Act.put, List.setIfInBounds_toArray, List.set_cons_zero, List.set_cons_succ]) | (refine plan_off (by rfl) ?_; simp only [Act.put, List.setIfInBounds_toArray, List.set_cons_zero, List.set_cons_succ]))
              refine plan_done ?_
              go_wp2_with fail
              refine bodyPost_ret (results_ct (rb := w.heap.size) rfl rfl (load_item HBF.out)) rfl ?_
              exact ⟨⟨a, b, tagsU g, v2, v1, 0, true⟩, false, rfl, HPT.out, HBW.out⟩
  · obtain ⟨ib, hib⟩ : ∃ ib, wd.heap.size = ib := ⟨_, rfl⟩
    obtain ⟨W1, hal⟩ : ∃ W, wd.alloc (.cells #[.string ⟨#[]⟩, .string ⟨#[]⟩, .string ⟨#[]⟩, .int .i64 0, .int .i64 0, .int .i64 0, .bool false] 47) = W := ⟨_, rfl⟩
    have HIW1 : Hid (Blk W1 ib 47 #[.string ⟨#[]⟩, .string ⟨#[]⟩, .string ⟨#[]⟩, .int .i64 0, .int .i64 0, .int .i64 0, .bool false]) := Lib.hid (by rw [← hal, ← hib]; exact Blk.new _ _ _)
    have HOW1 : Hid (Blk W1 w2.heap.size 4 #[.bool true]) := Lib.hid (by rw [← hal]; exact HOwd.out.alloc _)
    have HSW1 : Hid (Below w2.heap.size w3 W1) := Lib.hid (by rw [← hal]; exact HSwd.out.alloc (Nat.le_of_lt HOwd.out.lt) _)
    have HNE : Hid (w2.heap.size < ib) := Lib.hid (by rw [← hib]; exact HOwd.out.lt)
    go_wp2_with fail
    try rw [hib]
    try rw [hal]
    clear hib hal
    refine ⟨HSW1.out, ?_⟩
    repeat (first | (refine planT_on _ (by rfl) (fun W hW => by (obtain ⟨x0, x1, x2, x3⟩ := HSC.out W hW; go_simp; try with_reducible rfl)) ?_; simp only [Act.put, List.setIfInBounds_toArray, List.set_cons_zero, List.set_cons_succ]) | (refine planT_off (by rfl) ?_; simp only [Act.put, List.setIfInBounds_toArray, List.set_cons_zero, List.set_cons_succ]))
    refine planT_turn ?_
    have HC1 := Lib.hid (rownum_any p W1 w2.heap.size true (by have := HWZ.out; omega) HOW1.out (HE.out.keep (HBW.out.trans (HSW1.out.mono (Nat.le_of_lt HZO.out)))))
    go_wp2_with fail
    refine HC1.out.mono ?_
    rintro e W2 ⟨v1, ok1, rfl, hr1, hbk1, hkp1⟩
    have HR1 := Lib.hid hr1
    have HOW2 := Lib.hid hbk1
    have HSW2 : Hid (Below w2.heap.size w3 W2) := Lib.hid (HSW1.out.trans (hkp1.toBelow (fun i hi => Nat.le_of_eq hi.symm) (Nat.le_of_lt HOW1.out.lt)))
    have HIW2 : Hid (Blk W2 ib 47 #[.string ⟨#[]⟩, .string ⟨#[]⟩, .string ⟨#[]⟩, .int .i64 0, .int .i64 0, .int .i64 0, .bool false]) := Lib.hid (HIW1.out.kept hkp1 (fun h => by have := HNE.out; omega))
    clear hr1 hbk1 hkp1 HC1
    go_wp2_with fail
    refine ⟨HSW2.out, ?_⟩
    repeat (first | (refine planT_on _ (by rfl) (fun W hW => by (obtain ⟨x0, x1, x2, x3⟩ := HSC.out W hW; go_simp; try with_reducible rfl)) ?_; simp only [Act.put, List.setIfInBounds_toArray, List.set_cons_zero, List.set_cons_succ]) | (refine planT_off (by rfl) ?_; simp only [Act.put, List.setIfInBounds_toArray, List.set_cons_zero, List.set_cons_succ]))
    refine planT_turn ?_
    have HC2 := Lib.hid (rownum_any q W2 w2.heap.size (true && ok1) (by have := HWZ.out; omega) HOW2.out (HE.out.keep (HBW.out.trans (HSW2.out.mono (Nat.le_of_lt HZO.out)))))
    go_wp2_with fail
    refine HC2.out.mono ?_
    rintro e W3 ⟨v2, ok2, rfl, hr2, hbk2, hkp2⟩
    have HR2 := Lib.hid hr2
    have HOW3 := Lib.hid hbk2
    have HSW3 : Hid (Below w2.heap.size w3 W3) := Lib.hid (HSW2.out.trans (hkp2.toBelow (fun i hi => Nat.le_of_eq hi.symm) (Nat.le_of_lt HOW2.out.lt)))
    have HIW3 : Hid (Blk W3 ib 47 #[.string ⟨#[]⟩, .string ⟨#[]⟩, .string ⟨#[]⟩, .int .i64 0, .int .i64 0, .int .i64 0, .bool false]) := Lib.hid (HIW2.out.kept hkp2 (fun h => by have := HNE.out; omega))
    clear hr2 hbk2 hkp2 HC2
    go_wp2_with fail
    refine ⟨HSW3.out, ?_⟩
    repeat (first | (refine planT_on _ (by rfl) (fun W hW => by (obtain ⟨x0, x1, x2, x3⟩ := HSC.out W hW; go_simp; try with_reducible rfl)) ?_; simp only [Act.put, List.setIfInBounds_toArray, List.set_cons_zero, List.set_cons_succ]) | (refine planT_off (by rfl) ?_; simp only [Act.put, List.setIfInBounds_toArray, List.set_cons_zero, List.set_cons_succ]))
    refine planT_turn ?_
    have hib0 : W3.cell? ⟨ib, 0, none⟩ = some (.string ⟨#[]⟩) := HIW3.out.cell 0
    refine wpList_store_blk W3 rfl 47 _ _ rfl 0 #[.string a, .string b, .string ⟨#[]⟩, .int .i64 v2, .int .i64 v1, .int .i64 0, .bool true] rfl rfl HIW3.out (by show 0 + 7 ≤ 7; omega) (by kernel_rfl) (by simp [Value.oneCell']) ?_
    intro W7 hi7 hk7 hz7
    have HI7 : Hid (Blk W7 ib 47 #[.string a, .string b, .string ⟨#[]⟩, .int .i64 v2, .int .i64 v1, .int .i64 0, .bool true]) := Lib.hid hi7
    have HO7 : Hid (Blk W7 w2.heap.size 4 #[.bool (true && ok1 && ok2)]) := Lib.hid (HOW3.out.kept hk7 (fun h => by have := HNE.out; omega))
    have HS7 : Hid (Below w2.heap.size w3 W7) := Lib.hid (HSW3.out.trans (hk7.toBelow (fun i hi => by have := HNE.out; omega) (Nat.le_of_lt HOW3.out.lt)))
    clear hi7 hk7 hz7 hib0
    go_wp2_with fail
    refine ⟨HS7.out, ?_⟩
    refine planT_done ?_
    have HX := Lib.hid (row_prog HP.out HR1.out HR2.out)
    obtain ⟨x0, x1, x2, x3, x4⟩ := HSC4.out W7 HS7.out
    clear x0 x1 x3 x4
    have zi : W7.frozen? ⟨ib, 2, none⟩ = false := HI7.out.frozen 2
    have ci : W7.cell? ⟨ib, 2, none⟩ = some (.string ⟨#[]⟩) := HI7.out.cell 2
    by_cases hdot : g = ⟨#[46]⟩
    · have q1 : (g.toList == [46]) = true := by rw [← dot_list]; exact (beq_list _ _).2 hdot
      have HU : Hid (tagsU g = ⟨#[]⟩) := Lib.hid (if_pos hdot)
      have HI9 : Hid (Blk W7 ib 47 #[.string a, .string b, .string (tagsU g), .int .i64 v2, .int .i64 v1, .int .i64 0, .bool true]) := Lib.hid (by rw [HU.out]; exact HI7.out)
      have HO9 := HO7
      have HS9 := HS7
      clear hdot HU
      go_wp2_with fail
      obtain ⟨W9, hw9⟩ : ∃ W, W7 = W := ⟨_, rfl⟩
      rw [hw9] at HI9 HO9 HS9 ⊢
      clear hw9
      obtain ⟨ok, hok⟩ : ∃ ok, (true && ok1 && ok2) = ok := ⟨_, rfl⟩
      rw [hok] at HO9 HX
      clear hok
      have HRB : Hid (Blk W9 w.heap.size 47 #[.string ⟨#[]⟩, .string ⟨#[]⟩, .string ⟨#[]⟩, .int .i64 0, .int .i64 0, .int .i64 0, .bool false]) := Lib.hid (blk_of HS9.out HZO.out HR3.out)
      have HBW9 : Hid (Below w.heap.size w W9) := Lib.hid (HBW.out.trans (HS9.out.mono (Nat.le_of_lt HZO.out)))
      have HSC9 : Hid (∀ V, Kept (fun q => q = w.heap.size) W9 V → V.cell? ⟨ib, 0, none⟩ = some (.string a) ∧ V.cell? ⟨ib, 1, none⟩ = some (.string b) ∧ V.cell? ⟨ib, 2, none⟩ = some (.string (tagsU g)) ∧ V.cell? ⟨ib, 3, none⟩ = some (.int .i64 v2) ∧ V.cell? ⟨ib, 4, none⟩ = some (.int .i64 v1) ∧ V.cell? ⟨ib, 5, none⟩ = some (.int .i64 0) ∧ V.cell? ⟨ib, 6, none⟩ = some (.bool true) ∧ V.cell? ⟨w2.heap.size, 0, none⟩ = some (.bool ok)) := Lib.hid (fun V hV => by
        have k1 := HI9.out.kept hV (fun h => by have := HNE.out; have := HZO.out; omega)
        have k2 := HO9.out.kept hV (fun h => by have := HZO.out; omega)
        exact ⟨k1.cell 0, k1.cell 1, k1.cell 2, k1.cell 3, k1.cell 4, k1.cell 5, k1.cell 6, k2.cell 0⟩)
      have HS0 : Hid (Kept (fun q => q = w.heap.size) W9 W9.drew) := Lib.hid (Kept.refl _ _).drew
      have HXF : Hid (ItFew ⟨a, b, tagsU g, v2, v1, 0, true⟩) := Lib.hid ⟨by have h1 := HWZ.out; have h2 := tagsU_size g; show a.size + b.size + (tagsU g).size ≤ 1000000; omega, HR1.out.1, HR2.out.1⟩
      have HMY := Lib.hid (by have h := fmay_any ⟨a, b, tagsU g, v2, v1, 0, true⟩ W9.drew HXF.out.sh.1 HXF.out.sh.2.1 HXF.out.sh.2.2 (HG.out.keep (below_drew HBW9.out) (Nat.le_refl _)); unfold itA at h; exact h)
      go_wp2_with fail
      refine wp_plan (fun V => Kept (fun q => q = w.heap.size) W9 V) [(0, false), (1, false), (2, false), (3, false), (4, true), (5, false), (6, false), (7, false), (9, false), (8, true), (10, false), (11, false), (12, true), (13, false)] (by kernel_rfl) (by kernel_rfl) HS0.out ?_
      simp only [planL, List.getElem?_cons_zero, List.getElem?_cons_succ]
      cases ok
      · have HNO : Hid (rowP s = none) := Lib.hid (by rw [HX.out, if_neg (fun h => by cases h.1)])
        repeat (first | (refine plan_on _ (by rfl) (fun W hW => by (obtain ⟨x0, x1, x2, x3, x4, x5, x6, x7⟩ := HSC9.out W hW; go_simp; try with_reducible rfl)) ?_; simp only [Act.put, List.setIfInBounds_toArray, List.set_cons_zero, List.set_cons_succ]) | (refine plan_off (by rfl) ?_; simp only [Act.put, List.setIfInBounds_toArray, List.set_cons_zero, List.set_cons_succ]))
        refine plan_turn ?_
        go_wp2_with fail
        refine ⟨HS0.out, ?_⟩
        repeat (first | (refine plan_on _ (by rfl) (fun W hW => by (obtain ⟨x0, x1, x2, x3, x4, x5, x6, x7⟩ := HSC9.out W hW; go_simp; try with_reducible rfl)) ?_; simp only [Act.put, List.setIfInBounds_toArray, List.set_cons_zero, List.set_cons_succ]) | (refine plan_off (by rfl) ?_; simp only [Act.put, List.setIfInBounds_toArray, List.set_cons_zero, List.set_cons_succ]))
        refine plan_turn ?_
        go_wp2_with fail
        refine ⟨HS0.out, ?_⟩
        repeat (first | (refine plan_on _ (by rfl) (fun W hW => by (obtain ⟨x0, x1, x2, x3, x4, x5, x6, x7⟩ := HSC9.out W hW; go_simp; try with_reducible rfl)) ?_; simp only [Act.put, List.setIfInBounds_toArray, List.set_cons_zero, List.set_cons_succ]) | (refine plan_off (by rfl) ?_; simp only [Act.put, List.setIfInBounds_toArray, List.set_cons_zero, List.set_cons_succ]))
        refine plan_turn ?_
        refine wpList_store_blk W9.drew rfl 47 _ _ rfl 0 #[.string a, .string b, .string (tagsU g), .int .i64 v2, .int .i64 v1, .int .i64 0, .bool true] rfl rfl HRB.out.drew (by show 0 + 7 ≤ 7; omega) (by kernel_rfl) (by simp [Value.oneCell']) ?_
        intro Wf hbf hkf hzf
        have HBF : Hid (Blk Wf w.heap.size 47 (itArr ⟨a, b, tagsU g, v2, v1, 0, true⟩)) := Lib.hid hbf
        have HSF : Hid (Kept (fun q => q = w.heap.size) W9 Wf) := Lib.hid (HS0.out.trans hkf)
        have HBW : Hid (Below w.heap.size w Wf) := Lib.hid (HBW9.out.trans (HSF.out.toBelow (fun i hi => Nat.le_of_eq hi.symm) HBW9.out.size))
        have HPT : Hid (RowPost s ⟨a, b, tagsU g, v2, v1, 0, true⟩ false) := Lib.hid (⟨fun h => (by cases h), fun _ => HNO.out⟩)
        clear hbf hkf hzf
        go_wp2_with fail
        refine ⟨HSF.out, ?_⟩
        repeat (first | (refine plan_on _ (by rfl) (fun W hW => by (obtain ⟨x0, x1, x2, x3, x4, x5, x6, x7⟩ := HSC9.out W hW; go_simp; try with_reducible rfl)) ?_; simp only [Act.put, List.setIfInBounds_toArray, List.set_cons_zero, List.set_cons_succ]) | (refine plan_off (by rfl) ?_; simp only [Act.put, List.setIfInBounds_toArray, List.set_cons_zero, List.set_cons_succ]))
        refine plan_done ?_
        go_wp2_with fail
        refine bodyPost_ret (results_ct (rb := w.heap.size) rfl rfl (load_item HBF.out)) rfl ?_
        exact ⟨⟨a, b, tagsU g, v2, v1, 0, true⟩, false, rfl, HPT.out, HBW.out⟩
      · repeat (first | (refine plan_on _ (by rfl) (fun W hW => by (obtain ⟨x0, x1, x2, x3, x4, x5, x6, x7⟩ := HSC9.out W hW; go_simp; try with_reducible rfl)) ?_; simp only [Act.put, List.setIfInBounds_toArray, List.set_cons_zero, List.set_cons_succ]) | (refine plan_off (by rfl) ?_; simp only [Act.put, List.setIfInBounds_toArray, List.set_cons_zero, List.set_cons_succ]))
        refine plan_turn ?_
        go_wp2_with fail
        refine HMY.out.mono ?_
        rintro e V1 ⟨rfl, hv1⟩
        have HS1 : Hid (Kept (fun q => q = w.heap.size) W9 V1) := Lib.hid (HS0.out.below hv1 (Nat.le_refl _))
        have HB1 : Hid (Below w.heap.size w V1) := Lib.hid ((below_drew HBW9.out).trans (hv1.mono HBW9.out.size))
        have HRB1 : Hid (Blk V1 w.heap.size 47 #[.string ⟨#[]⟩, .string ⟨#[]⟩, .string ⟨#[]⟩, .int .i64 0, .int .i64 0, .int .i64 0, .bool false]) := Lib.hid (HRB.out.drew.kept (below_kept (S := fun _ => False) hv1 (Nat.le_refl _)) (fun h => h))
        clear HMY hv1
        rw [show roOf ⟨a, b, tagsU g, v2, v1, 0, true⟩ = ⟨a, b, tagsU g, v1, v2⟩ from rfl]
        cases hm : mayR ⟨a, b, tagsU g, v1, v2⟩
        · have HNO : Hid (rowP s = none) := Lib.hid (by rw [HX.out, if_neg (fun h => by rw [hm] at h; first | cases h.2.1 | cases h.1)])
          clear hm
          go_wp2_with fail
          refine ⟨HS1.out, ?_⟩
          repeat (first | (refine plan_on _ (by rfl) (fun W hW => by (obtain ⟨x0, x1, x2, x3, x4, x5, x6, x7⟩ := HSC9.out W hW; go_simp; try with_reducible rfl)) ?_; simp only [Act.put, List.setIfInBounds_toArray, List.set_cons_zero, List.set_cons_succ]) | (refine plan_off (by rfl) ?_; simp only [Act.put, List.setIfInBounds_toArray, List.set_cons_zero, List.set_cons_succ]))
          refine plan_turn ?_
          go_wp2_with fail
          refine ⟨HS1.out, ?_⟩
          repeat (first | (refine plan_on _ (by rfl) (fun W hW => by (obtain ⟨x0, x1, x2, x3, x4, x5, x6, x7⟩ := HSC9.out W hW; go_simp; try with_reducible rfl)) ?_; simp only [Act.put, List.setIfInBounds_toArray, List.set_cons_zero, List.set_cons_succ]) | (refine plan_off (by rfl) ?_; simp only [Act.put, List.setIfInBounds_toArray, List.set_cons_zero, List.set_cons_succ]))
          refine plan_turn ?_
          refine wpList_store_blk V1 rfl 47 _ _ rfl 0 #[.string a, .string b, .string (tagsU g), .int .i64 v2, .int .i64 v1, .int .i64 0, .bool true] rfl rfl HRB1.out (by show 0 + 7 ≤ 7; omega) (by kernel_rfl) (by simp [Value.oneCell']) ?_
          intro Wf hbf hkf hzf
          have HBF : Hid (Blk Wf w.heap.size 47 (itArr ⟨a, b, tagsU g, v2, v1, 0, true⟩)) := Lib.hid hbf
          have HSF : Hid (Kept (fun q => q = w.heap.size) W9 Wf) := Lib.hid (HS1.out.trans hkf)
          have HBW : Hid (Below w.heap.size w Wf) := Lib.hid (HBW9.out.trans (HSF.out.toBelow (fun i hi => Nat.le_of_eq hi.symm) HBW9.out.size))
          have HPT : Hid (RowPost s ⟨a, b, tagsU g, v2, v1, 0, true⟩ false) := Lib.hid (⟨fun h => (by cases h), fun _ => HNO.out⟩)
          clear hbf hkf hzf
          go_wp2_with fail
          refine ⟨HSF.out, ?_⟩
          repeat (first | (refine plan_on _ (by rfl) (fun W hW => by (obtain ⟨x0, x1, x2, x3, x4, x5, x6, x7⟩ := HSC9.out W hW; go_simp; try with_reducible rfl)) ?_; simp only [Act.put, List.setIfInBounds_toArray, List.set_cons_zero, List.set_cons_succ]) | (refine plan_off (by rfl) ?_; simp only [Act.put, List.setIfInBounds_toArray, List.set_cons_zero, List.set_cons_succ]))
          refine plan_done ?_
          go_wp2_with fail
          refine bodyPost_ret (results_ct (rb := w.heap.size) rfl rfl (load_item HBF.out)) rfl ?_
          exact ⟨⟨a, b, tagsU g, v2, v1, 0, true⟩, false, rfl, HPT.out, HBW.out⟩
        · have HMT := Lib.hid hm
          have HLN := Lib.hid (by have h := line_any ⟨a, b, tagsU g, v2, v1, 0, true⟩ V1 HXF.out.1 HXF.out.2.1 HXF.out.2.2 (HT.out.keep HB1.out); unfold itA at h; exact h)
          clear hm
          go_wp2_with fail
          refine ⟨HS1.out, ?_⟩
          repeat (first | (refine plan_on _ (by rfl) (fun W hW => by (obtain ⟨x0, x1, x2, x3, x4, x5, x6, x7⟩ := HSC9.out W hW; go_simp; try with_reducible rfl)) ?_; simp only [Act.put, List.setIfInBounds_toArray, List.set_cons_zero, List.set_cons_succ]) | (refine plan_off (by rfl) ?_; simp only [Act.put, List.setIfInBounds_toArray, List.set_cons_zero, List.set_cons_succ]))
          refine plan_turn ?_
          go_wp2_with fail
          refine HLN.out.mono ?_
          rintro e V2 ⟨rfl, hv2⟩
          have HS2 : Hid (Kept (fun q => q = w.heap.size) W9 V2) := Lib.hid (HS1.out.below hv2 HS1.out.size)
          have HRB2 : Hid (Blk V2 w.heap.size 47 #[.string ⟨#[]⟩, .string ⟨#[]⟩, .string ⟨#[]⟩, .int .i64 0, .int .i64 0, .int .i64 0, .bool false]) := Lib.hid (HRB1.out.kept (below_kept (S := fun _ => False) hv2 (Nat.le_refl _)) (fun h => h))
          clear HLN hv2
          rw [show roOf ⟨a, b, tagsU g, v2, v1, 0, true⟩ = ⟨a, b, tagsU g, v1, v2⟩ from rfl]
          go_wp2_with fail
          refine ⟨HS2.out, ?_⟩
          by_cases hl : lineB ⟨a, b, tagsU g, v1, v2⟩ = s
          · have HYE : Hid (rowP s = some ⟨a, b, tagsU g, v1, v2⟩) := Lib.hid (by rw [HX.out, if_pos (by first | exact ⟨rfl, HMT.out, hl⟩ | exact ⟨trivial, HMT.out, hl⟩ | exact ⟨HMT.out, hl⟩)])
            have ql : ((lineB ⟨a, b, tagsU g, v1, v2⟩).toList == s.toList) = true := (beq_list _ _).2 hl
            clear hl
            repeat (first | (refine plan_on _ (by rfl) (fun W hW => by (obtain ⟨x0, x1, x2, x3, x4, x5, x6, x7⟩ := HSC9.out W hW; go_simp; try with_reducible rfl)) ?_; simp only [Act.put, List.setIfInBounds_toArray, List.set_cons_zero, List.set_cons_succ]) | (refine plan_off (by rfl) ?_; simp only [Act.put, List.setIfInBounds_toArray, List.set_cons_zero, List.set_cons_succ]))
            refine plan_turn ?_
            refine wpList_store_blk V2 rfl 47 _ _ rfl 0 #[.string a, .string b, .string (tagsU g), .int .i64 v2, .int .i64 v1, .int .i64 0, .bool true] rfl rfl HRB2.out (by show 0 + 7 ≤ 7; omega) (by kernel_rfl) (by simp [Value.oneCell']) ?_
            intro Wf hbf hkf hzf
            have HBF : Hid (Blk Wf w.heap.size 47 (itArr ⟨a, b, tagsU g, v2, v1, 0, true⟩)) := Lib.hid hbf
            have HSF : Hid (Kept (fun q => q = w.heap.size) W9 Wf) := Lib.hid (HS2.out.trans hkf)
            have HBW : Hid (Below w.heap.size w Wf) := Lib.hid (HBW9.out.trans (HSF.out.toBelow (fun i hi => Nat.le_of_eq hi.symm) HBW9.out.size))
            have HPT : Hid (RowPost s ⟨a, b, tagsU g, v2, v1, 0, true⟩ true) := Lib.hid (⟨fun _ => ⟨HYE.out, rfl, rfl, HXF.out⟩, fun h => by cases h⟩)
            clear hbf hkf hzf
            go_wp2_with fail
            refine ⟨HSF.out, ?_⟩
            repeat (first | (refine plan_on _ (by rfl) (fun W hW => by (obtain ⟨x0, x1, x2, x3, x4, x5, x6, x7⟩ := HSC9.out W hW; go_simp; try with_reducible rfl)) ?_; simp only [Act.put, List.setIfInBounds_toArray, List.set_cons_zero, List.set_cons_succ]) | (refine plan_off (by rfl) ?_; simp only [Act.put, List.setIfInBounds_toArray, List.set_cons_zero, List.set_cons_succ]))
            refine plan_done ?_
            go_wp2_with fail
            refine bodyPost_ret (results_ct (rb := w.heap.size) rfl rfl (load_item HBF.out)) rfl ?_
            exact ⟨⟨a, b, tagsU g, v2, v1, 0, true⟩, true, rfl, HPT.out, HBW.out⟩
          · have HNO : Hid (rowP s = none) := Lib.hid (by rw [HX.out, if_neg (fun h => by first | exact hl h.2.2 | exact hl h.2)])
            have ql : ((lineB ⟨a, b, tagsU g, v1, v2⟩).toList == s.toList) = false := Bool.eq_false_iff.2 (fun e => hl ((beq_list _ _).1 e))
            clear hl
            repeat (first | (refine plan_on _ (by rfl) (fun W hW => by (obtain ⟨x0, x1, x2, x3, x4, x5, x6, x7⟩ := HSC9.out W hW; go_simp; try with_reducible rfl)) ?_; simp only [Act.put, List.setIfInBounds_toArray, List.set_cons_zero, List.set_cons_succ]) | (refine plan_off (by rfl) ?_; simp only [Act.put, List.setIfInBounds_toArray, List.set_cons_zero, List.set_cons_succ]))
            refine plan_turn ?_
            refine wpList_store_blk V2 rfl 47 _ _ rfl 0 #[.string a, .string b, .string (tagsU g), .int .i64 v2, .int .i64 v1, .int .i64 0, .bool true] rfl rfl HRB2.out (by show 0 + 7 ≤ 7; omega) (by kernel_rfl) (by simp [Value.oneCell']) ?_
            intro Wf hbf hkf hzf
            have HBF : Hid (Blk Wf w.heap.size 47 (itArr ⟨a, b, tagsU g, v2, v1, 0, true⟩)) := Lib.hid hbf
            have HSF : Hid (Kept (fun q => q = w.heap.size) W9 Wf) := Lib.hid (HS2.out.trans hkf)
            have HBW : Hid (Below w.heap.size w Wf) := Lib.hid (HBW9.out.trans (HSF.out.toBelow (fun i hi => Nat.le_of_eq hi.symm) HBW9.out.size))
            have HPT : Hid (RowPost s ⟨a, b, tagsU g, v2, v1, 0, true⟩ false) := Lib.hid (⟨fun h => (by cases h), fun _ => HNO.out⟩)
            clear hbf hkf hzf
            go_wp2_with fail
            refine ⟨HSF.out, ?_⟩
            repeat (first | (refine plan_on _ (by rfl) (fun W hW => by (obtain ⟨x0, x1, x2, x3, x4, x5, x6, x7⟩ := HSC9.out W hW; go_simp; try with_reducible rfl)) ?_; simp only [Act.put, List.setIfInBounds_toArray, List.set_cons_zero, List.set_cons_succ]) | (refine plan_off (by rfl) ?_; simp only [Act.put, List.setIfInBounds_toArray, List.set_cons_zero, List.set_cons_succ]))
            refine plan_done ?_
            go_wp2_with fail
            refine bodyPost_ret (results_ct (rb := w.heap.size) rfl rfl (load_item HBF.out)) rfl ?_
            exact ⟨⟨a, b, tagsU g, v2, v1, 0, true⟩, false, rfl, HPT.out, HBW.out⟩
    · have q1 : (g.toList == [46]) = false := by rw [← dot_list]; exact Bool.eq_false_iff.2 (fun e => hdot ((beq_list _ _).1 e))
      have HU : Hid (tagsU g = g) := Lib.hid (if_neg hdot)
      obtain ⟨W8, hw8⟩ : ∃ W, W7.setCell ⟨ib, 2, none⟩ (.string g) = W := ⟨_, rfl⟩
      have HI9 : Hid (Blk W8 ib 47 #[.string a, .string b, .string (tagsU g), .int .i64 v2, .int .i64 v1, .int .i64 0, .bool true]) := Lib.hid (by rw [HU.out, ← hw8]; exact HI7.out.set_ 2 _)
      have HO9 : Hid (Blk W8 w2.heap.size 4 #[.bool (true && ok1 && ok2)]) := Lib.hid (by rw [← hw8]; exact HO7.out.far (p := ⟨ib, 2, none⟩) (by have := HNE.out; show w2.heap.size ≠ ib; omega) _)
      have HS9 : Hid (Below w2.heap.size w3 W8) := Lib.hid (by rw [← hw8]; exact HS7.out.setCell (p := ⟨ib, 2, none⟩) (by have := HNE.out; show w2.heap.size ≤ ib; omega) _)
      clear hdot HU
      go_wp2_with fail
      clear hw8
      obtain ⟨W9, hw9⟩ : ∃ W, W8 = W := ⟨_, rfl⟩
      rw [hw9] at HI9 HO9 HS9 ⊢
      clear hw9
      obtain ⟨ok, hok⟩ : ∃ ok, (true && ok1 && ok2) = ok := ⟨_, rfl⟩
      rw [hok] at HO9 HX
      clear hok
      have HRB : Hid (Blk W9 w.heap.size 47 #[.string ⟨#[]⟩, .string ⟨#[]⟩, .string ⟨#[]⟩, .int .i64 0, .int .i64 0, .int .i64 0, .bool false]) := Lib.hid (blk_of HS9.out HZO.out HR3.out)
      have HBW9 : Hid (Below w.heap.size w W9) := Lib.hid (HBW.out.trans (HS9.out.mono (Nat.le_of_lt HZO.out)))
      have HSC9 : Hid (∀ V, Kept (fun q => q = w.heap.size) W9 V → V.cell? ⟨ib, 0, none⟩ = some (.string a) ∧ V.cell? ⟨ib, 1, none⟩ = some (.string b) ∧ V.cell? ⟨ib, 2, none⟩ = some (.string (tagsU g)) ∧ V.cell? ⟨ib, 3, none⟩ = some (.int .i64 v2) ∧ V.cell? ⟨ib, 4, none⟩ = some (.int .i64 v1) ∧ V.cell? ⟨ib, 5, none⟩ = some (.int .i64 0) ∧ V.cell? ⟨ib, 6, none⟩ = some (.bool true) ∧ V.cell? ⟨w2.heap.size, 0, none⟩ = some (.bool ok)) := Lib.hid (fun V hV => by
        have k1 := HI9.out.kept hV (fun h => by have := HNE.out; have := HZO.out; omega)
        have k2 := HO9.out.kept hV (fun h => by have := HZO.out; omega)
        exact ⟨k1.cell 0, k1.cell 1, k1.cell 2, k1.cell 3, k1.cell 4, k1.cell 5, k1.cell 6, k2.cell 0⟩)
      have HS0 : Hid (Kept (fun q => q = w.heap.size) W9 W9.drew) := Lib.hid (Kept.refl _ _).drew
      have HXF : Hid (ItFew ⟨a, b, tagsU g, v2, v1, 0, true⟩) := Lib.hid ⟨by have h1 := HWZ.out; have h2 := tagsU_size g; show a.size + b.size + (tagsU g).size ≤ 1000000; omega, HR1.out.1, HR2.out.1⟩
      have HMY := Lib.hid (by have h := fmay_any ⟨a, b, tagsU g, v2, v1, 0, true⟩ W9.drew HXF.out.sh.1 HXF.out.sh.2.1 HXF.out.sh.2.2 (HG.out.keep (below_drew HBW9.out) (Nat.le_refl _)); unfold itA at h; exact h)
      go_wp2_with fail
      refine wp_plan (fun V => Kept (fun q => q = w.heap.size) W9 V) [(0, false), (1, false), (2, false), (3, false), (4, true), (5, false), (6, false), (7, false), (9, false), (8, true), (10, false), (11, false), (12, true), (13, false)] (by kernel_rfl) (by kernel_rfl) HS0.out ?_
      simp only [planL, List.getElem?_cons_zero, List.getElem?_cons_succ]
      cases ok
      · have HNO : Hid (rowP s = none) := Lib.hid (by rw [HX.out, if_neg (fun h => by cases h.1)])
        repeat (first | (refine plan_on _ (by rfl) (fun W hW => by (obtain ⟨x0, x1, x2, x3, x4, x5, x6, x7⟩ := HSC9.out W hW; go_simp; try with_reducible rfl)) ?_; simp only [Act.put, List.setIfInBounds_toArray, List.set_cons_zero, List.set_cons_succ]) | (refine plan_off (by rfl) ?_; simp only [Act.put, List.setIfInBounds_toArray, List.set_cons_zero, List.set_cons_succ]))
        refine plan_turn ?_
        go_wp2_with fail
        refine ⟨HS0.out, ?_⟩
        repeat (first | (refine plan_on _ (by rfl) (fun W hW => by (obtain ⟨x0, x1, x2, x3, x4, x5, x6, x7⟩ := HSC9.out W hW; go_simp; try with_reducible rfl)) ?_; simp only [Act.put, List.setIfInBounds_toArray, List.set_cons_zero, List.set_cons_succ]) | (refine plan_off (by rfl) ?_; simp only [Act.put, List.setIfInBounds_toArray, List.set_cons_zero, List.set_cons_succ]))
        refine plan_turn ?_
        go_wp2_with fail
        refine ⟨HS0.out, ?_⟩
        repeat (first | (refine plan_on _ (by rfl) (fun W hW => by (obtain ⟨x0, x1, x2, x3, x4, x5, x6, x7⟩ := HSC9.out W hW; go_simp; try with_reducible rfl)) ?_; simp only [Act.put, List.setIfInBounds_toArray, List.set_cons_zero, List.set_cons_succ]) | (refine plan_off (by rfl) ?_; simp only [Act.put, List.setIfInBounds_toArray, List.set_cons_zero, List.set_cons_succ]))
        refine plan_turn ?_
        refine wpList_store_blk W9.drew rfl 47 _ _ rfl 0 #[.string a, .string b, .string (tagsU g), .int .i64 v2, .int .i64 v1, .int .i64 0, .bool true] rfl rfl HRB.out.drew (by show 0 + 7 ≤ 7; omega) (by kernel_rfl) (by simp [Value.oneCell']) ?_
        intro Wf hbf hkf hzf
        have HBF : Hid (Blk Wf w.heap.size 47 (itArr ⟨a, b, tagsU g, v2, v1, 0, true⟩)) := Lib.hid hbf
        have HSF : Hid (Kept (fun q => q = w.heap.size) W9 Wf) := Lib.hid (HS0.out.trans hkf)
        have HBW : Hid (Below w.heap.size w Wf) := Lib.hid (HBW9.out.trans (HSF.out.toBelow (fun i hi => Nat.le_of_eq hi.symm) HBW9.out.size))
        have HPT : Hid (RowPost s ⟨a, b, tagsU g, v2, v1, 0, true⟩ false) := Lib.hid (⟨fun h => (by cases h), fun _ => HNO.out⟩)
        clear hbf hkf hzf
        go_wp2_with fail
        refine ⟨HSF.out, ?_⟩
        repeat (first | (refine plan_on _ (by rfl) (fun W hW => by (obtain ⟨x0, x1, x2, x3, x4, x5, x6, x7⟩ := HSC9.out W hW; go_simp; try with_reducible rfl)) ?_; simp only [Act.put, List.setIfInBounds_toArray, List.set_cons_zero, List.set_cons_succ]) | (refine plan_off (by rfl) ?_; simp only [Act.put, List.setIfInBounds_toArray, List.set_cons_zero, List.set_cons_succ]))
        refine plan_done ?_
        go_wp2_with fail
        refine bodyPost_ret (results_ct (rb := w.heap.size) rfl rfl (load_item HBF.out)) rfl ?_
        exact ⟨⟨a, b, tagsU g, v2, v1, 0, true⟩, false, rfl, HPT.out, HBW.out⟩
      · repeat (first | (refine plan_on _ (by rfl) (fun W hW => by (obtain ⟨x0, x1, x2, x3, x4, x5, x6, x7⟩ := HSC9.out W hW; go_simp; try with_reducible rfl)) ?_; simp only [Act.put, List.setIfInBounds_toArray, List.set_cons_zero, List.set_cons_succ]) | (refine plan_off (by rfl) ?_; simp only [Act.put, List.setIfInBounds_toArray, List.set_cons_zero, List.set_cons_succ]))
        refine plan_turn ?_
        go_wp2_with fail
        refine HMY.out.mono ?_
        rintro e V1 ⟨rfl, hv1⟩
        have HS1 : Hid (Kept (fun q => q = w.heap.size) W9 V1) := Lib.hid (HS0.out.below hv1 (Nat.le_refl _))
        have HB1 : Hid (Below w.heap.size w V1) := Lib.hid ((below_drew HBW9.out).trans (hv1.mono HBW9.out.size))
        have HRB1 : Hid (Blk V1 w.heap.size 47 #[.string ⟨#[]⟩, .string ⟨#[]⟩, .string ⟨#[]⟩, .int .i64 0, .int .i64 0, .int .i64 0, .bool false]) := Lib.hid (HRB.out.drew.kept (below_kept (S := fun _ => False) hv1 (Nat.le_refl _)) (fun h => h))
        clear HMY hv1
        rw [show roOf ⟨a, b, tagsU g, v2, v1, 0, true⟩ = ⟨a, b, tagsU g, v1, v2⟩ from rfl]
        cases hm : mayR ⟨a, b, tagsU g, v1, v2⟩
        · have HNO : Hid (rowP s = none) := Lib.hid (by rw [HX.out, if_neg (fun h => by rw [hm] at h; first | cases h.2.1 | cases h.1)])
          clear hm
          go_wp2_with fail
          refine ⟨HS1.out, ?_⟩
          repeat (first | (refine plan_on _ (by rfl) (fun W hW => by (obtain ⟨x0, x1, x2, x3, x4, x5, x6, x7⟩ := HSC9.out W hW; go_simp; try with_reducible rfl)) ?_; simp only [Act.put, List.setIfInBounds_toArray, List.set_cons_zero, List.set_cons_succ]) | (refine plan_off (by rfl) ?_; simp only [Act.put, List.setIfInBounds_toArray, List.set_cons_zero, List.set_cons_succ]))
          refine plan_turn ?_
          go_wp2_with fail
          refine ⟨HS1.out, ?_⟩
          repeat (first | (refine plan_on _ (by rfl) (fun W hW => by (obtain ⟨x0, x1, x2, x3, x4, x5, x6, x7⟩ := HSC9.out W hW; go_simp; try with_reducible rfl)) ?_; simp only [Act.put, List.setIfInBounds_toArray, List.set_cons_zero, List.set_cons_succ]) | (refine plan_off (by rfl) ?_; simp only [Act.put, List.setIfInBounds_toArray, List.set_cons_zero, List.set_cons_succ]))
          refine plan_turn ?_
          refine wpList_store_blk V1 rfl 47 _ _ rfl 0 #[.string a, .string b, .string (tagsU g), .int .i64 v2, .int .i64 v1, .int .i64 0, .bool true] rfl rfl HRB1.out (by show 0 + 7 ≤ 7; omega) (by kernel_rfl) (by simp [Value.oneCell']) ?_
          intro Wf hbf hkf hzf
          have HBF : Hid (Blk Wf w.heap.size 47 (itArr ⟨a, b, tagsU g, v2, v1, 0, true⟩)) := Lib.hid hbf
          have HSF : Hid (Kept (fun q => q = w.heap.size) W9 Wf) := Lib.hid (HS1.out.trans hkf)
          have HBW : Hid (Below w.heap.size w Wf) := Lib.hid (HBW9.out.trans (HSF.out.toBelow (fun i hi => Nat.le_of_eq hi.symm) HBW9.out.size))
          have HPT : Hid (RowPost s ⟨a, b, tagsU g, v2, v1, 0, true⟩ false) := Lib.hid (⟨fun h => (by cases h), fun _ => HNO.out⟩)
          clear hbf hkf hzf
          go_wp2_with fail
          refine ⟨HSF.out, ?_⟩
          repeat (first | (refine plan_on _ (by rfl) (fun W hW => by (obtain ⟨x0, x1, x2, x3, x4, x5, x6, x7⟩ := HSC9.out W hW; go_simp; try with_reducible rfl)) ?_; simp only [Act.put, List.setIfInBounds_toArray, List.set_cons_zero, List.set_cons_succ]) | (refine plan_off (by rfl) ?_; simp only [Act.put, List.setIfInBounds_toArray, List.set_cons_zero, List.set_cons_succ]))
          refine plan_done ?_
          go_wp2_with fail
          refine bodyPost_ret (results_ct (rb := w.heap.size) rfl rfl (load_item HBF.out)) rfl ?_
          exact ⟨⟨a, b, tagsU g, v2, v1, 0, true⟩, false, rfl, HPT.out, HBW.out⟩
        · have HMT := Lib.hid hm
          have HLN := Lib.hid (by have h := line_any ⟨a, b, tagsU g, v2, v1, 0, true⟩ V1 HXF.out.1 HXF.out.2.1 HXF.out.2.2 (HT.out.keep HB1.out); unfold itA at h; exact h)
          clear hm
          go_wp2_with fail
          refine ⟨HS1.out, ?_⟩
          repeat (first | (refine plan_on _ (by rfl) (fun W hW => by (obtain ⟨x0, x1, x2, x3, x4, x5, x6, x7⟩ := HSC9.out W hW; go_simp; try with_reducible rfl)) ?_; simp only [Act.put, List.setIfInBounds_toArray, List.set_cons_zero, List.set_cons_succ]) | (refine plan_off (by rfl) ?_; simp only [Act.put, List.setIfInBounds_toArray, List.set_cons_zero, List.set_cons_succ]))
          refine plan_turn ?_
          go_wp2_with fail
          refine HLN.out.mono ?_
          rintro e V2 ⟨rfl, hv2⟩
          have HS2 : Hid (Kept (fun q => q = w.heap.size) W9 V2) := Lib.hid (HS1.out.below hv2 HS1.out.size)
          have HRB2 : Hid (Blk V2 w.heap.size 47 #[.string ⟨#[]⟩, .string ⟨#[]⟩, .string ⟨#[]⟩, .int .i64 0, .int .i64 0, .int .i64 0, .bool false]) := Lib.hid (HRB1.out.kept (below_kept (S := fun _ => False) hv2 (Nat.le_refl _)) (fun h => h))
          clear HLN hv2
          rw [show roOf ⟨a, b, tagsU g, v2, v1, 0, true⟩ = ⟨a, b, tagsU g, v1, v2⟩ from rfl]
          go_wp2_with fail
          refine ⟨HS2.out, ?_⟩
          by_cases hl : lineB ⟨a, b, tagsU g, v1, v2⟩ = s
          · have HYE : Hid (rowP s = some ⟨a, b, tagsU g, v1, v2⟩) := Lib.hid (by rw [HX.out, if_pos (by first | exact ⟨rfl, HMT.out, hl⟩ | exact ⟨trivial, HMT.out, hl⟩ | exact ⟨HMT.out, hl⟩)])
            have ql : ((lineB ⟨a, b, tagsU g, v1, v2⟩).toList == s.toList) = true := (beq_list _ _).2 hl
            clear hl
            repeat (first | (refine plan_on _ (by rfl) (fun W hW => by (obtain ⟨x0, x1, x2, x3, x4, x5, x6, x7⟩ := HSC9.out W hW; go_simp; try with_reducible rfl)) ?_; simp only [Act.put, List.setIfInBounds_toArray, List.set_cons_zero, List.set_cons_succ]) | (refine plan_off (by rfl) ?_; simp only [Act.put, List.setIfInBounds_toArray, List.set_cons_zero, List.set_cons_succ]))
            refine plan_turn ?_
            refine wpList_store_blk V2 rfl 47 _ _ rfl 0 #[.string a, .string b, .string (tagsU g), .int .i64 v2, .int .i64 v1, .int .i64 0, .bool true] rfl rfl HRB2.out (by show 0 + 7 ≤ 7; omega) (by kernel_rfl) (by simp [Value.oneCell']) ?_
            intro Wf hbf hkf hzf
            have HBF : Hid (Blk Wf w.heap.size 47 (itArr ⟨a, b, tagsU g, v2, v1, 0, true⟩)) := Lib.hid hbf
            have HSF : Hid (Kept (fun q => q = w.heap.size) W9 Wf) := Lib.hid (HS2.out.trans hkf)
            have HBW : Hid (Below w.heap.size w Wf) := Lib.hid (HBW9.out.trans (HSF.out.toBelow (fun i hi => Nat.le_of_eq hi.symm) HBW9.out.size))
            have HPT : Hid (RowPost s ⟨a, b, tagsU g, v2, v1, 0, true⟩ true) := Lib.hid (⟨fun _ => ⟨HYE.out, rfl, rfl, HXF.out⟩, fun h => by cases h⟩)
            clear hbf hkf hzf
            go_wp2_with fail
            refine ⟨HSF.out, ?_⟩
            repeat (first | (refine plan_on _ (by rfl) (fun W hW => by (obtain ⟨x0, x1, x2, x3, x4, x5, x6, x7⟩ := HSC9.out W hW; go_simp; try with_reducible rfl)) ?_; simp only [Act.put, List.setIfInBounds_toArray, List.set_cons_zero, List.set_cons_succ]) | (refine plan_off (by rfl) ?_; simp only [Act.put, List.setIfInBounds_toArray, List.set_cons_zero, List.set_cons_succ]))
            refine plan_done ?_
            go_wp2_with fail
            refine bodyPost_ret (results_ct (rb := w.heap.size) rfl rfl (load_item HBF.out)) rfl ?_
            exact ⟨⟨a, b, tagsU g, v2, v1, 0, true⟩, true, rfl, HPT.out, HBW.out⟩
          · have HNO : Hid (rowP s = none) := Lib.hid (by rw [HX.out, if_neg (fun h => by first | exact hl h.2.2 | exact hl h.2)])
            have ql : ((lineB ⟨a, b, tagsU g, v1, v2⟩).toList == s.toList) = false := Bool.eq_false_iff.2 (fun e => hl ((beq_list _ _).1 e))
            clear hl
            repeat (first | (refine plan_on _ (by rfl) (fun W hW => by (obtain ⟨x0, x1, x2, x3, x4, x5, x6, x7⟩ := HSC9.out W hW; go_simp; try with_reducible rfl)) ?_; simp only [Act.put, List.setIfInBounds_toArray, List.set_cons_zero, List.set_cons_succ]) | (refine plan_off (by rfl) ?_; simp only [Act.put, List.setIfInBounds_toArray, List.set_cons_zero, List.set_cons_succ]))
            refine plan_turn ?_
            refine wpList_store_blk V2 rfl 47 _ _ rfl 0 #[.string a, .string b, .string (tagsU g), .int .i64 v2, .int .i64 v1, .int .i64 0, .bool true] rfl rfl HRB2.out (by show 0 + 7 ≤ 7; omega) (by kernel_rfl) (by simp [Value.oneCell']) ?_
            intro Wf hbf hkf hzf
            have HBF : Hid (Blk Wf w.heap.size 47 (itArr ⟨a, b, tagsU g, v2, v1, 0, true⟩)) := Lib.hid hbf
            have HSF : Hid (Kept (fun q => q = w.heap.size) W9 Wf) := Lib.hid (HS2.out.trans hkf)
            have HBW : Hid (Below w.heap.size w Wf) := Lib.hid (HBW9.out.trans (HSF.out.toBelow (fun i hi => Nat.le_of_eq hi.symm) HBW9.out.size))
            have HPT : Hid (RowPost s ⟨a, b, tagsU g, v2, v1, 0, true⟩ false) := Lib.hid (⟨fun h => (by cases h), fun _ => HNO.out⟩)
            clear hbf hkf hzf
            go_wp2_with fail
            refine ⟨HSF.out, ?_⟩
            repeat (first | (refine plan_on _ (by rfl) (fun W hW => by (obtain ⟨x0, x1, x2, x3, x4, x5, x6, x7⟩ := HSC9.out W hW; go_simp; try with_reducible rfl)) ?_; simp only [Act.put, List.setIfInBounds_toArray, List.set_cons_zero, List.set_cons_succ]) | (refine plan_off (by rfl) ?_; simp only [Act.put, List.setIfInBounds_toArray, List.set_cons_zero, List.set_cons_succ]))
            refine plan_done ?_
            go_wp2_with fail
            refine bodyPost_ret (results_ct (rb := w.heap.size) rfl rfl (load_item HBF.out)) rfl ?_
            exact ⟨⟨a, b, tagsU g, v2, v1, 0, true⟩, false, rfl, HPT.out, HBW.out⟩

end Go.Proofs.YtdcinodbgbkobaaGreatDoor

/- tale.told. -/
import Derived.Test.YtnpfaajhgghpgaaGreatDoorTlL
import Derived.Test.YtnpfaajhgghpgaaGreatDoorTz
namespace Go.Proofs.YtnpfaajhgghpgaaGreatDoor
open Go.Shelf Go.RowKit Go.Maps
open Ru (TabAt Zbx)
set_option linter.unusedVariables false

def b5A (x : Nat → Nat) : Array Value := #[.int .i64 (x 0 : Nat), .int .i64 (x 1 : Nat), .int .i64 (x 2 : Nat), .int .i64 (x 3 : Nat), .int .i64 (x 4 : Nat)]
theorem tev_size : (Tryz.prog.info? 59).map (·.size) = some 8 := by kernel_rfl
/-- The kinds of a tale's events. -/
def KdAt (w : World) : Prop := 0 < w.heap.size ∧ ∀ j, j < 13 → w.cell? ⟨0, j, none⟩ = some (.int .i64 (tlKind j))
theorem KdAt.keep {w w' : World} (h : KdAt w) (hb : Below w.heap.size w w') : KdAt w' := ⟨Nat.lt_of_lt_of_le h.1 hb.size, fun j hj => (hb.cell (p := ⟨_, j, none⟩) h.1).trans (h.2 j hj)⟩
theorem load_ev8 {w : World} {b : Nat} {cs : Array Value} (h : Blk w b 59 cs) (hc : cs.size = 8) : (loadVar 59 ⟨b, 0, none⟩).run Tryz.prog w = .ok (.agg cs) w :=
  run_loadVar_row w b _ _ cs (0, 0) _ h Tryz.underlying59 rfl (by rw [hc]; exact tev_size)

set_option maxHeartbeats 8000000 in
set_option maxRecDepth 100000 in
theorem ttold_any (x : Nat → Nat) (hx : ∀ j, x j < 256) (num tick : Int) (hk : x 0 % 16 < 13) (htk : 0 ≤ tick ∧ tick ≤ 100000) (w : World) (ht : TabAt w) (hkd : KdAt w) :
    Calls Tryz.prog 40 #[.agg (b5A x), .int .i64 num, .int .i64 tick] w fun e w' => e = .returned (evA (tlEv (x 0) (x 1) (x 2) (x 3) num tick)) ∧ Below w.heap.size w w' := by
  obtain ⟨w1, hw1⟩ : ∃ w1, w.alloc (.cells (b5A x) 109) = w1 := ⟨_, rfl⟩
  have HX1 : Hid (Blk w1 w.heap.size 109 (b5A x)) := Lib.hid (by rw [← hw1]; exact Blk.new _ _ _)
  have HB1 : Hid (Below w.heap.size w w1) := Lib.hid (by rw [← hw1]; exact (Below.refl _ _).alloc (Nat.le_refl _) _)
  obtain ⟨rb, hrb⟩ : ∃ rb, w.heap.size + 1 = rb := ⟨_, rfl⟩
  have hz1 : w1.heap.size = rb := by rw [← hw1, ← hrb]; simp
  obtain ⟨w2, hw2⟩ : ∃ w2, w1.alloc (.cells #[.string ⟨#[]⟩, .int .i64 0, .int .i64 0, .int .i64 0, .string ⟨#[]⟩, .string ⟨#[]⟩, .int .i64 0, .string ⟨#[]⟩] 59) = w2 := ⟨_, rfl⟩
  have HB2 : Hid (Below w.heap.size w w2) := Lib.hid (by rw [← hw2]; exact HB1.out.alloc HB1.out.size _)
  have HX2 : Hid (Blk w2 w.heap.size 109 (b5A x)) := Lib.hid (by rw [← hw2]; exact HX1.out.alloc _)
  have HR2 : Hid (Blk w2 rb 59 #[.string ⟨#[]⟩, .int .i64 0, .int .i64 0, .int .i64 0, .string ⟨#[]⟩, .string ⟨#[]⟩, .int .i64 0, .string ⟨#[]⟩]) := Lib.hid (by rw [← hw2, ← hz1]; exact Blk.new _ _ _)
  have HRB : Hid (w.heap.size ≤ rb) := Lib.hid (by omega)
  obtain ⟨z, hz⟩ : ∃ z, x 0 % 16 = z := ⟨_, rfl⟩
  rw [hz] at hk
  obtain ⟨K, hK⟩ : ∃ K, tlKind z = K := ⟨_, rfl⟩
  have HQC : Hid (∀ W, Below w2.heap.size w2 W → W.cell? ⟨w.heap.size, 0, none⟩ = some (.int .i64 (x 0 : Nat)) ∧ W.cell? ⟨w.heap.size, 3, none⟩ = some (.int .i64 (x 3 : Nat)) ∧ W.cell? ⟨0, z, none⟩ = some (.int .i64 K)) := Lib.hid (fun W hW => by
    have hX : Blk W w.heap.size 109 (b5A x) := (hW.block _ HX2.out.lt).trans HX2.out
    refine ⟨hX.cell 0, hX.cell 3, ?_⟩
    rw [← hK]
    exact (hkd.keep (HB2.out.trans (hW.mono HB2.out.size))).2 z hk)
  have HQD : Hid (∀ W, Below w2.heap.size w2 W → W.cell? ⟨w.heap.size, 1, none⟩ = some (.int .i64 (x 1 : Nat)) ∧ W.cell? ⟨w.heap.size, 2, none⟩ = some (.int .i64 (x 2 : Nat))) := Lib.hid (fun W hW => by
    have hX : Blk W w.heap.size 109 (b5A x) := (hW.block _ HX2.out.lt).trans HX2.out
    exact ⟨hX.cell 1, hX.cell 2⟩)
  obtain ⟨d, hd⟩ : ∃ d, x 0 / 16 = d := ⟨_, rfl⟩
  obtain ⟨s, hs⟩ : ∃ s, d % 2 = s := ⟨_, rfl⟩
  obtain ⟨e5, he5⟩ : ∃ e, x 0 / 32 = e := ⟨_, rfl⟩
  obtain ⟨p, hp⟩ : ∃ p, x 1 % 4 = p := ⟨_, rfl⟩
  obtain ⟨i, hi⟩ : ∃ i, x 2 % 6 = i := ⟨_, rfl⟩
  obtain ⟨m, hm⟩ : ∃ m, x 3 % 3 = m := ⟨_, rfl⟩
  obtain ⟨v5, hv5⟩ : ∃ v, x 3 % 5 = v := ⟨_, rfl⟩
  have f0 : Int.tmod (x 0 : Int) 16 = (z : Int) := by rw [← hz]; exact tmod_nat _ 16
  have f1 : Int.tdiv (x 0 : Int) 16 = (d : Int) := by rw [← hd]; exact tdiv_nat _ 16
  have f2 : Int.tmod (d : Int) 2 = (s : Int) := by rw [← hs]; exact tmod_nat _ 2
  have f3 : Int.tdiv (x 0 : Int) 32 = (e5 : Int) := by rw [← he5]; exact tdiv_nat _ 32
  have f4 : Int.tmod (x 1 : Int) 4 = (p : Int) := by rw [← hp]; exact tmod_nat _ 4
  have f5 : Int.tmod (x 2 : Int) 6 = (i : Int) := by rw [← hi]; exact tmod_nat _ 6
  have f6 : Int.tmod (x 3 : Int) 3 = (m : Int) := by rw [← hm]; exact tmod_nat _ 3
  have f7 : Int.tmod (x 3 : Int) 5 = (v5 : Int) := by rw [← hv5]; exact tmod_nat _ 5
  have g1 : IntKind.i64.wrap (d : Int) = (d : Int) := IntWalk.i64_in _ (by have := hx 0; omega)
  have g2 : IntKind.i64.wrap (e5 : Int) = (e5 : Int) := IntWalk.i64_in _ (by have := hx 0; omega)
  obtain ⟨q5, hq5⟩ : ∃ q, IntKind.i64.wrap (5 * (e5 : Int)) = q := ⟨_, rfl⟩
  obtain ⟨q6, hq6⟩ : ∃ q, IntKind.i64.wrap (tick - q5) = q := ⟨_, rfl⟩
  obtain ⟨A, hA⟩ : ∃ A, max q6 0 = A := ⟨_, rfl⟩
  obtain ⟨S, hS⟩ : ∃ S, tlNm 115 s = S := ⟨_, rfl⟩
  obtain ⟨P, hP⟩ : ∃ P, tlNm 112 p = P := ⟨_, rfl⟩
  obtain ⟨I, hI⟩ : ∃ I, tlNm 105 i = I := ⟨_, rfl⟩
  obtain ⟨M, hM⟩ : ∃ M, tlNm 109 m = M := ⟨_, rfl⟩
  obtain ⟨v, hv⟩ : ∃ v, x 3 = v := ⟨_, rfl⟩
  have HEV : Hid (tlEv (x 0) (x 1) (x 2) (x 3) num tick = if K = 7 ∨ K = 9 then ⟨S, num, A, K, P, ⟨#[]⟩, 0, M⟩ else if K = 11 then ⟨S, num, A, K, ⟨#[]⟩, I, v, tlList M v⟩ else if K = 12 then ⟨S, num, A, K, ⟨#[]⟩, I, (m : Nat), ⟨#[]⟩⟩ else if K = 13 then ⟨S, num, A, K, ⟨#[]⟩, I, 0, ⟨#[]⟩⟩ else if K = 4 then ⟨S, num, A, K, P, I, 1 + (v5 : Nat), ⟨#[]⟩⟩ else ⟨S, num, A, K, P, I, 0, ⟨#[]⟩⟩) := Lib.hid (by
    have h0 := hx 0
    have e1 : q5 = 5 * (e5 : Int) := by rw [← hq5]; exact IntWalk.i64_in _ (by omega)
    have e2 : q6 = tick - 5 * (e5 : Int) := by rw [← hq6, e1]; exact IntWalk.i64_in _ (by omega)
    unfold tlEv
    rw [hd, hs, he5, hp, hi, hm, hv5, hz, hK, hS, hP, hI, hM, hv, ← e2, hA])
  have HNS : Hid (∀ W, Below w2.heap.size w2 W → Calls Tryz.prog 39 #[.string ⟨#[115]⟩, .int .i64 s] W fun e w' => e = .returned (.string S) ∧ Below W.heap.size W w') := Lib.hid (fun W hW => by rw [← hS]; exact numb_any 115 s (by omega) W (ht.keep (HB2.out.trans (hW.mono HB2.out.size))))
  have HNP : Hid (∀ W, Below w2.heap.size w2 W → Calls Tryz.prog 39 #[.string ⟨#[112]⟩, .int .i64 p] W fun e w' => e = .returned (.string P) ∧ Below W.heap.size W w') := Lib.hid (fun W hW => by rw [← hP]; exact numb_any 112 p (by omega) W (ht.keep (HB2.out.trans (hW.mono HB2.out.size))))
  have HNI : Hid (∀ W, Below w2.heap.size w2 W → Calls Tryz.prog 39 #[.string ⟨#[105]⟩, .int .i64 i] W fun e w' => e = .returned (.string I) ∧ Below W.heap.size W w') := Lib.hid (fun W hW => by rw [← hI]; exact numb_any 105 i (by omega) W (ht.keep (HB2.out.trans (hW.mono HB2.out.size))))
  have HNM : Hid (∀ W, Below w2.heap.size w2 W → Calls Tryz.prog 39 #[.string ⟨#[109]⟩, .int .i64 m] W fun e w' => e = .returned (.string M) ∧ Below W.heap.size W w') := Lib.hid (fun W hW => by rw [← hM]; exact numb_any 109 m (by omega) W (ht.keep (HB2.out.trans (hW.mono HB2.out.size))))
  have HLT : Hid (∀ W, Below w2.heap.size w2 W → Calls Tryz.prog 73 #[.string M, .int .i64 v] W fun e w' => e = .returned (.string (tlList M v)) ∧ Below W.heap.size W w') := Lib.hid (fun W hW => by
    have := tlNm_size 109 m (by omega)
    have h3 := hx 3
    exact tlist_any M v (by rw [← hM]; omega) (by omega) W (ht.keep (HB2.out.trans (hW.mono HB2.out.size))))
  have HKC : Hid (K = 7 ∨ K = 9 ∨ K = 11 ∨ K = 12 ∨ K = 13 ∨ K = 4 ∨ (K ≠ 7 ∧ K ≠ 9 ∧ K ≠ 11 ∧ K ≠ 12 ∧ K ≠ 13 ∧ K ≠ 4)) := Lib.hid (by omega)
  have HV5 : Hid (v5 < 5) := Lib.hid (by omega)
  have hz8 : (z : Int) < 13 := by omega
  have hz9 : (0 : Int) ≤ (z : Int) := by omega
  have HX3 := Lib.hid hv
  rw [hv] at f6 f7
  unfold b5A
  unfold b5A at hw1
  clear ht hkd hx hz hK hk hd hs he5 hp hi hm hv5 hS hP hI hM hv htk HX1
  go_enter Tryz.func40, Tryz.ntmps40
  go_upto_region 1 with fail
  (try simp only [Exit.inBlock, Exit.then])
  try rw [hw1]
  try rw [hw2]
  try rw [hrb]
  clear hw1 hw2 hrb hz1
  refine Zar (fun W => Below w2.heap.size w2 W) [(0, false), (1, false), (2, false), (3, false), (4, false), (5, false)] (by kernel_rfl) (by kernel_rfl) (below_drew (Below.refl _ _)) ?_
  simp only [planL, List.getElem?_cons_zero, List.getElem?_cons_succ]
  obtain ⟨wd, hwd⟩ : ∃ z, w2.drew = z := ⟨_, rfl⟩
  have HBD : Hid (Below w2.heap.size w2 wd) := Lib.hid (by rw [← hwd]; exact below_drew (Below.refl _ _))
  rw [hwd]
  clear hwd
  repeat (first | (refine Zaf _ (by rfl) (fun W hW => by (obtain ⟨y0, y3, y5⟩ := HQC.out W hW; go_simp; try with_reducible rfl)) ?_; simp only [Act.put, List.setIfInBounds_toArray, List.set_cons_zero, List.set_cons_succ]) | (refine Zac (by rfl) ?_; simp only [Act.put, List.setIfInBounds_toArray, List.set_cons_zero, List.set_cons_succ]))
  refine Zah ?_
  rw [HX3.out]
  go_upto_region 2 with fail
  (try simp only [Exit.inBlock, Exit.then])
  go_cut [9] (fun v wx => ∃ gb, v = .pointer (some ⟨gb, 0, none⟩) ∧ Hid (Blk wx gb 59 #[.string S, .int .i64 num, .int .i64 A, .int .i64 K, .string ⟨#[]⟩, .string ⟨#[]⟩, .int .i64 0, .string ⟨#[]⟩]) ∧ Hid (w2.heap.size ≤ gb) ∧ Hid (Below w2.heap.size w2 wx))
  case first =>
    refine Zgw (fun W => Below w2.heap.size w2 W) (.take 0 (.take 1 (.take 2 (.take 4 (.take 5 (.take 6 (.take 7 (.take 8 (.take 9 (.take 10 (.take 11 (.take 12 (.take 13 (.take 14 (.fork 3 (.take 15 (.turn 16 (.turn 17 .done))) 16 (.turn 3 (.take 15 (.turn 17 .done)))))))))))))))))) (by kernel_rfl) (by kernel_rfl) (below_drew HBD.out) ?_
    simp only [planTL, List.getElem?_cons_zero, List.getElem?_cons_succ]
    obtain ⟨we, hwe⟩ : ∃ z, wd.drew = z := ⟨_, rfl⟩
    have HBE : Hid (Below w2.heap.size w2 we) := Lib.hid (by rw [← hwe]; exact below_drew HBD.out)
    rw [hwe]
    clear hwe
    repeat (first | (refine Zal _ (by rfl) (fun W hW => by (obtain ⟨y0, y3, y5⟩ := HQC.out W hW; go_simp; try with_reducible rfl)) ?_; simp only [Act.put, List.setIfInBounds_toArray, List.set_cons_zero, List.set_cons_succ]) | (refine planT_off (by rfl) ?_; simp only [Act.put, List.setIfInBounds_toArray, List.set_cons_zero, List.set_cons_succ]))
    refine Zcc ?_ ?_
    · have HCv1 := Lib.hid (HNS.out we HBE.out)
      go_wp2_with fail
      refine HCv1.out.mono ?_
      rintro e v1 ⟨rfl, hbv1⟩
      have HEv1 : Hid (Below w2.heap.size w2 v1) := Lib.hid (HBE.out.trans (hbv1.mono HBE.out.size))
      clear hbv1 HCv1
      go_wp2_with fail
      refine ⟨HEv1.out, ?_⟩
      repeat (first | (refine Zal _ (by rfl) (fun W hW => by (obtain ⟨y0, y3, y5⟩ := HQC.out W hW; go_simp; try with_reducible rfl)) ?_; simp only [Act.put, List.setIfInBounds_toArray, List.set_cons_zero, List.set_cons_succ]) | (refine planT_off (by rfl) ?_; simp only [Act.put, List.setIfInBounds_toArray, List.set_cons_zero, List.set_cons_succ]))
      refine Zap ?_
      obtain ⟨gv2, hgv2⟩ : ∃ g, v1.heap.size = g := ⟨_, rfl⟩
      obtain ⟨v2, hav2⟩ : ∃ W, v1.alloc (.cells #[.string ⟨#[]⟩, .int .i64 0, .int .i64 0, .int .i64 0, .string ⟨#[]⟩, .string ⟨#[]⟩, .int .i64 0, .string ⟨#[]⟩] 59) = W := ⟨_, rfl⟩
      have HXv2 : Hid (Blk v2 gv2 59 #[.string ⟨#[]⟩, .int .i64 0, .int .i64 0, .int .i64 0, .string ⟨#[]⟩, .string ⟨#[]⟩, .int .i64 0, .string ⟨#[]⟩]) := Lib.hid (by rw [← hav2, ← hgv2]; exact Blk.new _ _ _)
      have HEv2 : Hid (Below w2.heap.size w2 v2) := Lib.hid (by rw [← hav2]; exact HEv1.out.alloc HEv1.out.size _)
      have HGv2 : Hid (w2.heap.size ≤ gv2) := Lib.hid (by rw [← hgv2]; exact HEv1.out.size)
      go_wp2_with fail
      try rw [hgv2]
      try rw [hav2]
      clear hgv2 hav2
      refine ⟨HEv2.out, ?_⟩
      repeat (first | (refine Zal _ (by rfl) (fun W hW => by (obtain ⟨y0, y3, y5⟩ := HQC.out W hW; go_simp; try with_reducible rfl)) ?_; simp only [Act.put, List.setIfInBounds_toArray, List.set_cons_zero, List.set_cons_succ]) | (refine planT_off (by rfl) ?_; simp only [Act.put, List.setIfInBounds_toArray, List.set_cons_zero, List.set_cons_succ]))
      refine Zap ?_
      refine Zad v2 rfl 59 _ _ rfl 0 #[.string S, .int .i64 num, .int .i64 A, .int .i64 K, .string ⟨#[]⟩, .string ⟨#[]⟩, .int .i64 0, .string ⟨#[]⟩] rfl rfl HXv2.out (by show 0 + 8 ≤ 8; omega) tev_size (by simp [Value.oneCell']) ?_
      intro v3 hbv3 hkv3 hzv3
      simp only [putA, List.setIfInBounds_toArray, List.set_cons_zero, List.set_cons_succ] at hbv3
      have HXv3 : Hid (Blk v3 gv2 59 #[.string S, .int .i64 num, .int .i64 A, .int .i64 K, .string ⟨#[]⟩, .string ⟨#[]⟩, .int .i64 0, .string ⟨#[]⟩]) := Lib.hid hbv3
      have HEv3 : Hid (Below w2.heap.size w2 v3) := Lib.hid (HEv2.out.trans (hkv3.toBelow (fun i hi => by rw [hi]; exact HGv2.out) HEv2.out.size))
      clear hbv3 hkv3 hzv3
      refine ⟨HEv3.out, ?_⟩
      repeat (first | (refine Zal _ (by rfl) (fun W hW => by (obtain ⟨y0, y3, y5⟩ := HQC.out W hW; go_simp; try with_reducible rfl)) ?_; simp only [Act.put, List.setIfInBounds_toArray, List.set_cons_zero, List.set_cons_succ]) | (refine planT_off (by rfl) ?_; simp only [Act.put, List.setIfInBounds_toArray, List.set_cons_zero, List.set_cons_succ]))
      refine Zbf ?_
      go_wp2_with fail
      go_meet
      exact ⟨gv2, rfl, HXv3, HGv2, HEv3⟩
    · obtain ⟨gv4, hgv4⟩ : ∃ g, we.heap.size = g := ⟨_, rfl⟩
      obtain ⟨v4, hav4⟩ : ∃ W, we.alloc (.cells #[.string ⟨#[]⟩, .int .i64 0, .int .i64 0, .int .i64 0, .string ⟨#[]⟩, .string ⟨#[]⟩, .int .i64 0, .string ⟨#[]⟩] 59) = W := ⟨_, rfl⟩
      have HXv4 : Hid (Blk v4 gv4 59 #[.string ⟨#[]⟩, .int .i64 0, .int .i64 0, .int .i64 0, .string ⟨#[]⟩, .string ⟨#[]⟩, .int .i64 0, .string ⟨#[]⟩]) := Lib.hid (by rw [← hav4, ← hgv4]; exact Blk.new _ _ _)
      have HEv4 : Hid (Below w2.heap.size w2 v4) := Lib.hid (by rw [← hav4]; exact HBE.out.alloc HBE.out.size _)
      have HGv4 : Hid (w2.heap.size ≤ gv4) := Lib.hid (by rw [← hgv4]; exact HBE.out.size)
      go_wp2_with fail
      try rw [hgv4]
      try rw [hav4]
      clear hgv4 hav4
      refine ⟨HEv4.out, ?_⟩
      repeat (first | (refine Zal _ (by rfl) (fun W hW => by (obtain ⟨y0, y3, y5⟩ := HQC.out W hW; go_simp; try with_reducible rfl)) ?_; simp only [Act.put, List.setIfInBounds_toArray, List.set_cons_zero, List.set_cons_succ]) | (refine planT_off (by rfl) ?_; simp only [Act.put, List.setIfInBounds_toArray, List.set_cons_zero, List.set_cons_succ]))
      refine Zap ?_
      have HCv5 := Lib.hid (HNS.out v4 HEv4.out)
      go_wp2_with fail
      refine HCv5.out.mono ?_
      rintro e v5 ⟨rfl, hbv5⟩
      have HEv5 : Hid (Below w2.heap.size w2 v5) := Lib.hid (HEv4.out.trans (hbv5.mono HEv4.out.size))
      have HXv5 : Hid (Blk v5 gv4 59 #[.string ⟨#[]⟩, .int .i64 0, .int .i64 0, .int .i64 0, .string ⟨#[]⟩, .string ⟨#[]⟩, .int .i64 0, .string ⟨#[]⟩]) := Lib.hid ((hbv5.block _ HXv4.out.lt).trans HXv4.out)
      clear hbv5 HCv5
      go_wp2_with fail
      refine ⟨HEv5.out, ?_⟩
      repeat (first | (refine Zal _ (by rfl) (fun W hW => by (obtain ⟨y0, y3, y5⟩ := HQC.out W hW; go_simp; try with_reducible rfl)) ?_; simp only [Act.put, List.setIfInBounds_toArray, List.set_cons_zero, List.set_cons_succ]) | (refine planT_off (by rfl) ?_; simp only [Act.put, List.setIfInBounds_toArray, List.set_cons_zero, List.set_cons_succ]))
      refine Zap ?_
      refine Zad v5 rfl 59 _ _ rfl 0 #[.string S, .int .i64 num, .int .i64 A, .int .i64 K, .string ⟨#[]⟩, .string ⟨#[]⟩, .int .i64 0, .string ⟨#[]⟩] rfl rfl HXv5.out (by show 0 + 8 ≤ 8; omega) tev_size (by simp [Value.oneCell']) ?_
      intro v6 hbv6 hkv6 hzv6
      simp only [putA, List.setIfInBounds_toArray, List.set_cons_zero, List.set_cons_succ] at hbv6
      have HXv6 : Hid (Blk v6 gv4 59 #[.string S, .int .i64 num, .int .i64 A, .int .i64 K, .string ⟨#[]⟩, .string ⟨#[]⟩, .int .i64 0, .string ⟨#[]⟩]) := Lib.hid hbv6
      have HEv6 : Hid (Below w2.heap.size w2 v6) := Lib.hid (HEv5.out.trans (hkv6.toBelow (fun i hi => by rw [hi]; exact HGv4.out) HEv5.out.size))
      clear hbv6 hkv6 hzv6
      refine ⟨HEv6.out, ?_⟩
      repeat (first | (refine Zal _ (by rfl) (fun W hW => by (obtain ⟨y0, y3, y5⟩ := HQC.out W hW; go_simp; try with_reducible rfl)) ?_; simp only [Act.put, List.setIfInBounds_toArray, List.set_cons_zero, List.set_cons_succ]) | (refine planT_off (by rfl) ?_; simp only [Act.put, List.setIfInBounds_toArray, List.set_cons_zero, List.set_cons_succ]))
      refine Zbf ?_
      go_wp2_with fail
      go_meet
      exact ⟨gv4, rfl, HXv6, HGv4, HEv6⟩
  case rest =>
  obtain ⟨gb, rfl, HX3, HGB, HB3⟩ := hcut
  obtain ⟨w3, rfl⟩ : ∃ z : World, z = wc := ⟨_, rfl⟩
  go_upto_region 3 with fail
  (try simp only [Exit.inBlock, Exit.then])
  refine Zar (fun W => Below w2.heap.size w2 W) [(0, false), (1, false), (2, false), (4, false), (5, false), (6, false), (8, false), (9, false), (3, true), (7, true), (10, true), (11, false), (12, false), (13, false)] (by kernel_rfl) (by kernel_rfl) (below_drew HB3.out) ?_
  simp only [planL, List.getElem?_cons_zero, List.getElem?_cons_succ]
  obtain ⟨we, hwe⟩ : ∃ z, w3.drew = z := ⟨_, rfl⟩
  have HBE : Hid (Below w2.heap.size w2 we) := Lib.hid (by rw [← hwe]; exact below_drew HB3.out)
  have HXE : Hid (Blk we gb 59 #[.string S, .int .i64 num, .int .i64 A, .int .i64 K, .string ⟨#[]⟩, .string ⟨#[]⟩, .int .i64 0, .string ⟨#[]⟩]) := Lib.hid (by rw [← hwe]; exact HX3.out)
  rw [hwe]
  clear hwe
  repeat (first | (refine Zaf _ (by rfl) (fun W hW => by (obtain ⟨y1, y2⟩ := HQD.out W hW; go_simp; try with_reducible rfl)) ?_; simp only [Act.put, List.setIfInBounds_toArray, List.set_cons_zero, List.set_cons_succ]) | (refine Zac (by rfl) ?_; simp only [Act.put, List.setIfInBounds_toArray, List.set_cons_zero, List.set_cons_succ]))
  refine Zae ?_
  have HC := Lib.hid (HNP.out we HBE.out)
  go_wp2_with fail
  refine HC.out.mono ?_
  rintro e w4 ⟨rfl, hbk⟩
  have HB4 : Hid (Below w2.heap.size w2 w4) := Lib.hid (HBE.out.trans (hbk.mono HBE.out.size))
  have HX4 : Hid (Blk w4 gb 59 #[.string S, .int .i64 num, .int .i64 A, .int .i64 K, .string ⟨#[]⟩, .string ⟨#[]⟩, .int .i64 0, .string ⟨#[]⟩]) := Lib.hid ((hbk.block _ HXE.out.lt).trans HXE.out)
  clear hbk HC
  go_wp2_with fail
  refine ⟨HB4.out, ?_⟩
  refine Zae ?_
  have HC := Lib.hid (HNI.out w4 HB4.out)
  go_wp2_with fail
  refine HC.out.mono ?_
  rintro e w5 ⟨rfl, hbk⟩
  have HB5 : Hid (Below w2.heap.size w2 w5) := Lib.hid (HB4.out.trans (hbk.mono HB4.out.size))
  have HX5 : Hid (Blk w5 gb 59 #[.string S, .int .i64 num, .int .i64 A, .int .i64 K, .string ⟨#[]⟩, .string ⟨#[]⟩, .int .i64 0, .string ⟨#[]⟩]) := Lib.hid ((hbk.block _ HX4.out.lt).trans HX4.out)
  clear hbk HC
  go_wp2_with fail
  refine ⟨HB5.out, ?_⟩
  refine Zae ?_
  have HC := Lib.hid (HNM.out w5 HB5.out)
  go_wp2_with fail
  refine HC.out.mono ?_
  rintro e w6 ⟨rfl, hbk⟩
  have HB6 : Hid (Below w2.heap.size w2 w6) := Lib.hid (HB5.out.trans (hbk.mono HB5.out.size))
  have HX6 : Hid (Blk w6 gb 59 #[.string S, .int .i64 num, .int .i64 A, .int .i64 K, .string ⟨#[]⟩, .string ⟨#[]⟩, .int .i64 0, .string ⟨#[]⟩]) := Lib.hid ((hbk.block _ HX5.out.lt).trans HX5.out)
  clear hbk HC
  go_wp2_with fail
  refine ⟨HB6.out, ?_⟩
  repeat (first | (refine Zaf _ (by rfl) (fun W hW => by (obtain ⟨y1, y2⟩ := HQD.out W hW; go_simp; try with_reducible rfl)) ?_; simp only [Act.put, List.setIfInBounds_toArray, List.set_cons_zero, List.set_cons_succ]) | (refine Zac (by rfl) ?_; simp only [Act.put, List.setIfInBounds_toArray, List.set_cons_zero, List.set_cons_succ]))
  refine Zah ?_
  have HR6 : Hid (Blk w6 rb 59 #[.string ⟨#[]⟩, .int .i64 0, .int .i64 0, .int .i64 0, .string ⟨#[]⟩, .string ⟨#[]⟩, .int .i64 0, .string ⟨#[]⟩]) := Lib.hid ((HB6.out.block _ HR2.out.lt).trans HR2.out)
  have HBW : Hid (Below w.heap.size w w6) := Lib.hid (HB2.out.trans (HB6.out.mono HB2.out.size))
  have HGW : Hid (w.heap.size ≤ gb ∧ rb ≠ gb) := Lib.hid (by have := HB2.out.size; have := HGB.out; have := HR2.out.lt; omega)
  have c3 : w6.cell? ⟨gb, 3, none⟩ = some (.int .i64 K) := HX6.out.cell 3
  have c4 : w6.cell? ⟨gb, 4, none⟩ = some (.string ⟨#[]⟩) := HX6.out.cell 4
  have c5 : w6.cell? ⟨gb, 5, none⟩ = some (.string ⟨#[]⟩) := HX6.out.cell 5
  have c6 : w6.cell? ⟨gb, 6, none⟩ = some (.int .i64 0) := HX6.out.cell 6
  have c7 : w6.cell? ⟨gb, 7, none⟩ = some (.string ⟨#[]⟩) := HX6.out.cell 7
  have z4 := HX6.out.frozen 4
  have z5 := HX6.out.frozen 5
  have z6 := HX6.out.frozen 6
  have z7 := HX6.out.frozen 7
  rcases HKC.out with rfl | rfl | rfl | rfl | rfl | rfl | hko
  · obtain ⟨w9, hw9⟩ : ∃ z, ((w6.setCell ⟨gb, 4, none⟩ (.string P)).setCell ⟨gb, 7, none⟩ (.string M)) = z := ⟨_, rfl⟩
    have HX9 : Hid (Blk w9 gb 59 #[.string S, .int .i64 num, .int .i64 A, .int .i64 7, .string P, .string ⟨#[]⟩, .int .i64 0, .string M]) := Lib.hid (by rw [← hw9]; exact ((HX6.out.set_ 4 (.string P)).set_ 7 (.string M)))
    have HB9 : Hid (Below w.heap.size w w9) := Lib.hid (by rw [← hw9]; exact (below_set ((below_set (HBW.out) 4 (.string P) HGW.out.1)) 7 (.string M) HGW.out.1))
    have HR9 : Hid (Blk w9 rb 59 #[.string ⟨#[]⟩, .int .i64 0, .int .i64 0, .int .i64 0, .string ⟨#[]⟩, .string ⟨#[]⟩, .int .i64 0, .string ⟨#[]⟩]) := Lib.hid (by rw [← hw9]; exact HR6.out.kept (((Kept.refl (fun q => q = gb) w6).setCell (p := ⟨gb, 4, none⟩) (Or.inl rfl) (.string P)).setCell (p := ⟨gb, 7, none⟩) (Or.inl rfl) (.string M)) HGW.out.2)
    go_upto_region 17 with fail
    (try simp only [Exit.inBlock, Exit.then])
    try rw [hw9]
    clear hw9 c3 c4 c5 c6 c7 z4 z5 z6 z7
    have hl := load_ev8 HX9.out rfl
    go_wp2_with (first
      | (refine wpList_load_whole rfl 59 (.tmp 9) rfl _ rfl hl ?_)
      | (refine Zad _ rfl 59 (.tmp 6) (.tmp 88) rfl 0 #[.string S, .int .i64 num, .int .i64 A, .int .i64 7, .string P, .string ⟨#[]⟩, .int .i64 0, .string M] rfl rfl HR9.out (by show 0 + 8 ≤ 8; omega) tev_size (by simp [Value.oneCell']) ?_; intro w10 hb10 hk10 hs10)
      | fail)
    simp only [putA, List.setIfInBounds_toArray, List.set_cons_zero, List.set_cons_succ] at hb10
    have HX10 : Hid (Blk w10 rb 59 #[.string S, .int .i64 num, .int .i64 A, .int .i64 7, .string P, .string ⟨#[]⟩, .int .i64 0, .string M]) := Lib.hid hb10
    refine bodyPost_ret (Zc7 (rb := rb) rfl rfl (load_ev8 HX10.out rfl)) rfl ?_
    refine ⟨?_, HB9.out.trans (hk10.toBelow (fun i hi => by rw [hi]; exact HRB.out) HB9.out.size)⟩
    rw [HEV.out, if_pos (by decide)]
    rfl
  · obtain ⟨w9, hw9⟩ : ∃ z, ((w6.setCell ⟨gb, 4, none⟩ (.string P)).setCell ⟨gb, 7, none⟩ (.string M)) = z := ⟨_, rfl⟩
    have HX9 : Hid (Blk w9 gb 59 #[.string S, .int .i64 num, .int .i64 A, .int .i64 9, .string P, .string ⟨#[]⟩, .int .i64 0, .string M]) := Lib.hid (by rw [← hw9]; exact ((HX6.out.set_ 4 (.string P)).set_ 7 (.string M)))
    have HB9 : Hid (Below w.heap.size w w9) := Lib.hid (by rw [← hw9]; exact (below_set ((below_set (HBW.out) 4 (.string P) HGW.out.1)) 7 (.string M) HGW.out.1))
    have HR9 : Hid (Blk w9 rb 59 #[.string ⟨#[]⟩, .int .i64 0, .int .i64 0, .int .i64 0, .string ⟨#[]⟩, .string ⟨#[]⟩, .int .i64 0, .string ⟨#[]⟩]) := Lib.hid (by rw [← hw9]; exact HR6.out.kept (((Kept.refl (fun q => q = gb) w6).setCell (p := ⟨gb, 4, none⟩) (Or.inl rfl) (.string P)).setCell (p := ⟨gb, 7, none⟩) (Or.inl rfl) (.string M)) HGW.out.2)
    go_upto_region 17 with fail
    (try simp only [Exit.inBlock, Exit.then])
    try rw [hw9]
    clear hw9 c3 c4 c5 c6 c7 z4 z5 z6 z7
    have hl := load_ev8 HX9.out rfl
    go_wp2_with (first
      | (refine wpList_load_whole rfl 59 (.tmp 9) rfl _ rfl hl ?_)
      | (refine Zad _ rfl 59 (.tmp 6) (.tmp 88) rfl 0 #[.string S, .int .i64 num, .int .i64 A, .int .i64 9, .string P, .string ⟨#[]⟩, .int .i64 0, .string M] rfl rfl HR9.out (by show 0 + 8 ≤ 8; omega) tev_size (by simp [Value.oneCell']) ?_; intro w10 hb10 hk10 hs10)
      | fail)
    simp only [putA, List.setIfInBounds_toArray, List.set_cons_zero, List.set_cons_succ] at hb10
    have HX10 : Hid (Blk w10 rb 59 #[.string S, .int .i64 num, .int .i64 A, .int .i64 9, .string P, .string ⟨#[]⟩, .int .i64 0, .string M]) := Lib.hid hb10
    refine bodyPost_ret (Zc7 (rb := rb) rfl rfl (load_ev8 HX10.out rfl)) rfl ?_
    refine ⟨?_, HB9.out.trans (hk10.toBelow (fun i hi => by rw [hi]; exact HRB.out) HB9.out.size)⟩
    rw [HEV.out, if_pos (by decide)]
    rfl
  · have HC := Lib.hid (HLT.out w6 HB6.out)
    go_wp2_with fail
    refine HC.out.mono ?_
    rintro e w7 ⟨rfl, hbk⟩
    have HB7 : Hid (Below w2.heap.size w2 w7) := Lib.hid (HB6.out.trans (hbk.mono HB6.out.size))
    have HX7 : Hid (Blk w7 gb 59 #[.string S, .int .i64 num, .int .i64 A, .int .i64 11, .string ⟨#[]⟩, .string ⟨#[]⟩, .int .i64 0, .string ⟨#[]⟩]) := Lib.hid ((hbk.block _ HX6.out.lt).trans HX6.out)
    have HR7 : Hid (Blk w7 rb 59 #[.string ⟨#[]⟩, .int .i64 0, .int .i64 0, .int .i64 0, .string ⟨#[]⟩, .string ⟨#[]⟩, .int .i64 0, .string ⟨#[]⟩]) := Lib.hid ((hbk.block _ HR6.out.lt).trans HR6.out)
    have HBW7 : Hid (Below w.heap.size w w7) := Lib.hid (HBW.out.trans (hbk.mono HBW.out.size))
    clear hbk HC c3 c4 c5 c6 c7 z4 z5 z6 z7
    obtain ⟨tx, htx⟩ : ∃ t, tlList M v = t := ⟨_, rfl⟩
    rw [htx] at HEV ⊢
    clear htx
    have c5 : w7.cell? ⟨gb, 5, none⟩ = some (.string ⟨#[]⟩) := HX7.out.cell 5
    have c6 : w7.cell? ⟨gb, 6, none⟩ = some (.int .i64 0) := HX7.out.cell 6
    have c7 : w7.cell? ⟨gb, 7, none⟩ = some (.string ⟨#[]⟩) := HX7.out.cell 7
    have z5 := HX7.out.frozen 5
    have z6 := HX7.out.frozen 6
    have z7 := HX7.out.frozen 7
    obtain ⟨w9, hw9⟩ : ∃ z, (((w7.setCell ⟨gb, 5, none⟩ (.string I)).setCell ⟨gb, 6, none⟩ (.int .i64 (v : Nat))).setCell ⟨gb, 7, none⟩ (.string tx)) = z := ⟨_, rfl⟩
    have HX9 : Hid (Blk w9 gb 59 #[.string S, .int .i64 num, .int .i64 A, .int .i64 11, .string ⟨#[]⟩, .string I, .int .i64 (v : Nat), .string tx]) := Lib.hid (by rw [← hw9]; exact (((HX7.out.set_ 5 (.string I)).set_ 6 (.int .i64 (v : Nat))).set_ 7 (.string tx)))
    have HB9 : Hid (Below w.heap.size w w9) := Lib.hid (by rw [← hw9]; exact (below_set ((below_set ((below_set (HBW7.out) 5 (.string I) HGW.out.1)) 6 (.int .i64 (v : Nat)) HGW.out.1)) 7 (.string tx) HGW.out.1))
    have HR9 : Hid (Blk w9 rb 59 #[.string ⟨#[]⟩, .int .i64 0, .int .i64 0, .int .i64 0, .string ⟨#[]⟩, .string ⟨#[]⟩, .int .i64 0, .string ⟨#[]⟩]) := Lib.hid (by rw [← hw9]; exact HR7.out.kept ((((Kept.refl (fun q => q = gb) w7).setCell (p := ⟨gb, 5, none⟩) (Or.inl rfl) (.string I)).setCell (p := ⟨gb, 6, none⟩) (Or.inl rfl) (.int .i64 (v : Nat))).setCell (p := ⟨gb, 7, none⟩) (Or.inl rfl) (.string tx)) HGW.out.2)
    go_upto_region 17 with fail
    (try simp only [Exit.inBlock, Exit.then])
    try rw [hw9]
    clear hw9 c5 c6 c7 z5 z6 z7
    have hl := load_ev8 HX9.out rfl
    go_wp2_with (first
      | (refine wpList_load_whole rfl 59 (.tmp 9) rfl _ rfl hl ?_)
      | (refine Zad _ rfl 59 (.tmp 6) (.tmp 88) rfl 0 #[.string S, .int .i64 num, .int .i64 A, .int .i64 11, .string ⟨#[]⟩, .string I, .int .i64 (v : Nat), .string tx] rfl rfl HR9.out (by show 0 + 8 ≤ 8; omega) tev_size (by simp [Value.oneCell']) ?_; intro w10 hb10 hk10 hs10)
      | fail)
    simp only [putA, List.setIfInBounds_toArray, List.set_cons_zero, List.set_cons_succ] at hb10
    have HX10 : Hid (Blk w10 rb 59 #[.string S, .int .i64 num, .int .i64 A, .int .i64 11, .string ⟨#[]⟩, .string I, .int .i64 (v : Nat), .string tx]) := Lib.hid hb10
    refine bodyPost_ret (Zc7 (rb := rb) rfl rfl (load_ev8 HX10.out rfl)) rfl ?_
    refine ⟨?_, HB9.out.trans (hk10.toBelow (fun i hi => by rw [hi]; exact HRB.out) HB9.out.size)⟩
    rw [HEV.out, if_neg (by decide), if_pos (by decide)]
    rfl
  · obtain ⟨w9, hw9⟩ : ∃ z, ((w6.setCell ⟨gb, 5, none⟩ (.string I)).setCell ⟨gb, 6, none⟩ (.int .i64 (m : Nat))) = z := ⟨_, rfl⟩
    have HX9 : Hid (Blk w9 gb 59 #[.string S, .int .i64 num, .int .i64 A, .int .i64 12, .string ⟨#[]⟩, .string I, .int .i64 (m : Nat), .string ⟨#[]⟩]) := Lib.hid (by rw [← hw9]; exact ((HX6.out.set_ 5 (.string I)).set_ 6 (.int .i64 (m : Nat))))
    have HB9 : Hid (Below w.heap.size w w9) := Lib.hid (by rw [← hw9]; exact (below_set ((below_set (HBW.out) 5 (.string I) HGW.out.1)) 6 (.int .i64 (m : Nat)) HGW.out.1))
    have HR9 : Hid (Blk w9 rb 59 #[.string ⟨#[]⟩, .int .i64 0, .int .i64 0, .int .i64 0, .string ⟨#[]⟩, .string ⟨#[]⟩, .int .i64 0, .string ⟨#[]⟩]) := Lib.hid (by rw [← hw9]; exact HR6.out.kept (((Kept.refl (fun q => q = gb) w6).setCell (p := ⟨gb, 5, none⟩) (Or.inl rfl) (.string I)).setCell (p := ⟨gb, 6, none⟩) (Or.inl rfl) (.int .i64 (m : Nat))) HGW.out.2)
    go_upto_region 17 with fail
    (try simp only [Exit.inBlock, Exit.then])
    try rw [hw9]
    clear hw9 c3 c4 c5 c6 c7 z4 z5 z6 z7
    have hl := load_ev8 HX9.out rfl
    go_wp2_with (first
      | (refine wpList_load_whole rfl 59 (.tmp 9) rfl _ rfl hl ?_)
      | (refine Zad _ rfl 59 (.tmp 6) (.tmp 88) rfl 0 #[.string S, .int .i64 num, .int .i64 A, .int .i64 12, .string ⟨#[]⟩, .string I, .int .i64 (m : Nat), .string ⟨#[]⟩] rfl rfl HR9.out (by show 0 + 8 ≤ 8; omega) tev_size (by simp [Value.oneCell']) ?_; intro w10 hb10 hk10 hs10)
      | fail)
    simp only [putA, List.setIfInBounds_toArray, List.set_cons_zero, List.set_cons_succ] at hb10
    have HX10 : Hid (Blk w10 rb 59 #[.string S, .int .i64 num, .int .i64 A, .int .i64 12, .string ⟨#[]⟩, .string I, .int .i64 (m : Nat), .string ⟨#[]⟩]) := Lib.hid hb10
    refine bodyPost_ret (Zc7 (rb := rb) rfl rfl (load_ev8 HX10.out rfl)) rfl ?_
    refine ⟨?_, HB9.out.trans (hk10.toBelow (fun i hi => by rw [hi]; exact HRB.out) HB9.out.size)⟩
    rw [HEV.out, if_neg (by decide), if_neg (by decide), if_pos (by decide)]
    rfl
  · obtain ⟨w9, hw9⟩ : ∃ z, (w6.setCell ⟨gb, 5, none⟩ (.string I)) = z := ⟨_, rfl⟩
    have HX9 : Hid (Blk w9 gb 59 #[.string S, .int .i64 num, .int .i64 A, .int .i64 13, .string ⟨#[]⟩, .string I, .int .i64 0, .string ⟨#[]⟩]) := Lib.hid (by rw [← hw9]; exact (HX6.out.set_ 5 (.string I)))
    have HB9 : Hid (Below w.heap.size w w9) := Lib.hid (by rw [← hw9]; exact (below_set (HBW.out) 5 (.string I) HGW.out.1))
    have HR9 : Hid (Blk w9 rb 59 #[.string ⟨#[]⟩, .int .i64 0, .int .i64 0, .int .i64 0, .string ⟨#[]⟩, .string ⟨#[]⟩, .int .i64 0, .string ⟨#[]⟩]) := Lib.hid (by rw [← hw9]; exact HR6.out.kept ((Kept.refl (fun q => q = gb) w6).setCell (p := ⟨gb, 5, none⟩) (Or.inl rfl) (.string I)) HGW.out.2)
    go_upto_region 17 with fail
    (try simp only [Exit.inBlock, Exit.then])
    try rw [hw9]
    clear hw9 c3 c4 c5 c6 c7 z4 z5 z6 z7
    have hl := load_ev8 HX9.out rfl
    go_wp2_with (first
      | (refine wpList_load_whole rfl 59 (.tmp 9) rfl _ rfl hl ?_)
      | (refine Zad _ rfl 59 (.tmp 6) (.tmp 88) rfl 0 #[.string S, .int .i64 num, .int .i64 A, .int .i64 13, .string ⟨#[]⟩, .string I, .int .i64 0, .string ⟨#[]⟩] rfl rfl HR9.out (by show 0 + 8 ≤ 8; omega) tev_size (by simp [Value.oneCell']) ?_; intro w10 hb10 hk10 hs10)
      | fail)
    simp only [putA, List.setIfInBounds_toArray, List.set_cons_zero, List.set_cons_succ] at hb10
    have HX10 : Hid (Blk w10 rb 59 #[.string S, .int .i64 num, .int .i64 A, .int .i64 13, .string ⟨#[]⟩, .string I, .int .i64 0, .string ⟨#[]⟩]) := Lib.hid hb10
    refine bodyPost_ret (Zc7 (rb := rb) rfl rfl (load_ev8 HX10.out rfl)) rfl ?_
    refine ⟨?_, HB9.out.trans (hk10.toBelow (fun i hi => by rw [hi]; exact HRB.out) HB9.out.size)⟩
    rw [HEV.out, if_neg (by decide), if_neg (by decide), if_neg (by decide), if_pos (by decide)]
    rfl
  · have hv5w : v5 < 5 := HV5.out
    obtain ⟨w9, hw9⟩ : ∃ z, (((w6.setCell ⟨gb, 4, none⟩ (.string P)).setCell ⟨gb, 5, none⟩ (.string I)).setCell ⟨gb, 6, none⟩ (.int .i64 (1 + (v5 : Nat)))) = z := ⟨_, rfl⟩
    have HX9 : Hid (Blk w9 gb 59 #[.string S, .int .i64 num, .int .i64 A, .int .i64 4, .string P, .string I, .int .i64 (1 + (v5 : Nat)), .string ⟨#[]⟩]) := Lib.hid (by rw [← hw9]; exact (((HX6.out.set_ 4 (.string P)).set_ 5 (.string I)).set_ 6 (.int .i64 (1 + (v5 : Nat)))))
    have HB9 : Hid (Below w.heap.size w w9) := Lib.hid (by rw [← hw9]; exact (below_set ((below_set ((below_set (HBW.out) 4 (.string P) HGW.out.1)) 5 (.string I) HGW.out.1)) 6 (.int .i64 (1 + (v5 : Nat))) HGW.out.1))
    have HR9 : Hid (Blk w9 rb 59 #[.string ⟨#[]⟩, .int .i64 0, .int .i64 0, .int .i64 0, .string ⟨#[]⟩, .string ⟨#[]⟩, .int .i64 0, .string ⟨#[]⟩]) := Lib.hid (by rw [← hw9]; exact HR6.out.kept ((((Kept.refl (fun q => q = gb) w6).setCell (p := ⟨gb, 4, none⟩) (Or.inl rfl) (.string P)).setCell (p := ⟨gb, 5, none⟩) (Or.inl rfl) (.string I)).setCell (p := ⟨gb, 6, none⟩) (Or.inl rfl) (.int .i64 (1 + (v5 : Nat)))) HGW.out.2)
    go_upto_region 17 with fail
    (try simp only [Exit.inBlock, Exit.then])
    try rw [hw9]
    clear hw9 c3 c4 c5 c6 c7 z4 z5 z6 z7
    have hl := load_ev8 HX9.out rfl
    go_wp2_with (first
      | (refine wpList_load_whole rfl 59 (.tmp 9) rfl _ rfl hl ?_)
      | (refine Zad _ rfl 59 (.tmp 6) (.tmp 88) rfl 0 #[.string S, .int .i64 num, .int .i64 A, .int .i64 4, .string P, .string I, .int .i64 (1 + (v5 : Nat)), .string ⟨#[]⟩] rfl rfl HR9.out (by show 0 + 8 ≤ 8; omega) tev_size (by simp [Value.oneCell']) ?_; intro w10 hb10 hk10 hs10)
      | fail)
    simp only [putA, List.setIfInBounds_toArray, List.set_cons_zero, List.set_cons_succ] at hb10
    have HX10 : Hid (Blk w10 rb 59 #[.string S, .int .i64 num, .int .i64 A, .int .i64 4, .string P, .string I, .int .i64 (1 + (v5 : Nat)), .string ⟨#[]⟩]) := Lib.hid hb10
    refine bodyPost_ret (Zc7 (rb := rb) rfl rfl (load_ev8 HX10.out rfl)) rfl ?_
    refine ⟨?_, HB9.out.trans (hk10.toBelow (fun i hi => by rw [hi]; exact HRB.out) HB9.out.size)⟩
    rw [HEV.out, if_neg (by decide), if_neg (by decide), if_neg (by decide), if_neg (by decide), if_pos (by decide)]
    rfl
  · obtain ⟨k7, k9, k11, k12, k13, k4⟩ := hko
    have b7 : (K == 7) = false := by simpa using k7
    have b9 : (K == 9) = false := by simpa using k9
    have b11 : (K == 11) = false := by simpa using k11
    have b12 : (K == 12) = false := by simpa using k12
    have b13 : (K == 13) = false := by simpa using k13
    have b4 : (K == 4) = false := by simpa using k4
    obtain ⟨w9, hw9⟩ : ∃ z, ((w6.setCell ⟨gb, 4, none⟩ (.string P)).setCell ⟨gb, 5, none⟩ (.string I)) = z := ⟨_, rfl⟩
    have HX9 : Hid (Blk w9 gb 59 #[.string S, .int .i64 num, .int .i64 A, .int .i64 K, .string P, .string I, .int .i64 0, .string ⟨#[]⟩]) := Lib.hid (by rw [← hw9]; exact ((HX6.out.set_ 4 (.string P)).set_ 5 (.string I)))
    have HB9 : Hid (Below w.heap.size w w9) := Lib.hid (by rw [← hw9]; exact (below_set ((below_set (HBW.out) 4 (.string P) HGW.out.1)) 5 (.string I) HGW.out.1))
    have HR9 : Hid (Blk w9 rb 59 #[.string ⟨#[]⟩, .int .i64 0, .int .i64 0, .int .i64 0, .string ⟨#[]⟩, .string ⟨#[]⟩, .int .i64 0, .string ⟨#[]⟩]) := Lib.hid (by rw [← hw9]; exact HR6.out.kept (((Kept.refl (fun q => q = gb) w6).setCell (p := ⟨gb, 4, none⟩) (Or.inl rfl) (.string P)).setCell (p := ⟨gb, 5, none⟩) (Or.inl rfl) (.string I)) HGW.out.2)
    go_upto_region 17 with fail
    (try simp only [Exit.inBlock, Exit.then])
    try rw [hw9]
    clear hw9 c3 c4 c5 c6 c7 z4 z5 z6 z7
    have hl := load_ev8 HX9.out rfl
    go_wp2_with (first
      | (refine wpList_load_whole rfl 59 (.tmp 9) rfl _ rfl hl ?_)
      | (refine Zad _ rfl 59 (.tmp 6) (.tmp 88) rfl 0 #[.string S, .int .i64 num, .int .i64 A, .int .i64 K, .string P, .string I, .int .i64 0, .string ⟨#[]⟩] rfl rfl HR9.out (by show 0 + 8 ≤ 8; omega) tev_size (by simp [Value.oneCell']) ?_; intro w10 hb10 hk10 hs10)
      | fail)
    simp only [putA, List.setIfInBounds_toArray, List.set_cons_zero, List.set_cons_succ] at hb10
    have HX10 : Hid (Blk w10 rb 59 #[.string S, .int .i64 num, .int .i64 A, .int .i64 K, .string P, .string I, .int .i64 0, .string ⟨#[]⟩]) := Lib.hid hb10
    refine bodyPost_ret (Zc7 (rb := rb) rfl rfl (load_ev8 HX10.out rfl)) rfl ?_
    refine ⟨?_, HB9.out.trans (hk10.toBelow (fun i hi => by rw [hi]; exact HRB.out) HB9.out.size)⟩
    rw [HEV.out, if_neg (by omega), if_neg (by omega), if_neg (by omega), if_neg (by omega), if_neg (by omega)]
    rfl
end Go.Proofs.YtnpfaajhgghpgaaGreatDoor

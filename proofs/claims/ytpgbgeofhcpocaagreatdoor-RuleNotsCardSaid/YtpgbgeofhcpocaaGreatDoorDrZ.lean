/- The document of rules: or, and; its parser whole. -/
import Derived.Test.YtpgbgeofhcpocaaGreatDoorDrY
namespace Go.Proofs.YtpgbgeofhcpocaaGreatDoor
open Go.RowKit Go.Maps Go.Shelf
set_option linter.unusedVariables false

theorem dn_info : (Tryz.prog.info? 33).map (fun i => (i.zero, i.size, i.bytes)) = some (some (.agg #[.int .i64 0, .slice none 0 0, .string ⟨#[]⟩]), 3, 48) := by kernel_rfl
theorem own_block {w w' : World} {base e size n : Nat} {v : Value} {xs : List Value} (h : w.ownsRow base e size v n xs) (hb : ∀ j, v.ownBlock = some j → w'.heap[j]? = w.heap[j]?) : w'.ownsRow base e size v n xs := by
  refine ⟨h.1, h.2.elim Or.inl fun ⟨g, cap, cur, h1, h2, h3, h4⟩ => Or.inr ⟨g, cap, cur, h1, h2, ?_, h4⟩⟩
  rw [hb g (by rw [h1]; rfl)]
  exact h3
theorem set3_new (wr wa wb : World) (x y z : Value) (h1 : wr.alloc (.cells #[.int .i64 0, .slice none 0 0, .string ⟨#[]⟩] NOA) = wa) (h2 : ((wa.setCell ⟨wr.heap.size, 0, none⟩ x).setCell ⟨wr.heap.size, 1, none⟩ y).setCell ⟨wr.heap.size, 2, none⟩ z = wb) : Blk wb wr.heap.size NOA #[x, y, z] ∧ Below wr.heap.size wr wb ∧ wb.heap.size = wr.heap.size + 1 := by
  have b : Blk wa wr.heap.size NOA #[.int .i64 0, .slice none 0 0, .string ⟨#[]⟩] := by rw [← h1]; exact Blk.new _ _ _
  have k : Below wr.heap.size wr wa := by rw [← h1]; exact (Below.refl _ _).alloc (Nat.le_refl _) _
  have hz : wa.heap.size = wr.heap.size + 1 := by rw [← h1]; simp
  have kk : Kept (fun i => i = wr.heap.size) wa wb := by rw [← h2]; exact (Kept.refl (fun i => i = wr.heap.size) wa).kept3 rfl x y z
  refine ⟨by rw [← h2]; exact b.set3 x y z, k.trans (kk.toBelow (fun i hi => Nat.le_of_eq hi.symm) (by omega)), ?_⟩
  rw [← h2, ← hz]
  simp [World.setCell]
theorem flat_one (v : DV) : ∀ u ∈ [v].flatMap DV.cs, u.oneCell' = true := fun u hu => by
  rw [List.flatMap_singleton] at hu
  exact dv_one v u hu
theorem flat_ones (xs : List DV) : ∀ u ∈ xs.flatMap DV.cs, u.oneCell' = true := fun u hu => by
  obtain ⟨v, _, h⟩ := List.mem_flatMap.1 hu
  exact dv_one v u h
theorem one_dv (w : World) (v : DV) : RowIn (w.alloc (.cells #[.int .i64 v.k, .slice v.A v.m v.c, .string v.s] NOA)) (w.heap.size + 1) 3 (some ⟨w.heap.size, 0, none⟩) 1 [.int .i64 v.k, .slice v.A v.m v.c, .string v.s] := by
  refine ⟨rfl, Or.inr ⟨w.heap.size, 0, rfl, by omega, fun j u hu => ?_⟩⟩
  rw [(Blk.new w _ _).cell, ← hu, Nat.zero_add]
  simp

set_option maxHeartbeats 8000000 in
set_option maxRecDepth 100000 in
theorem drow0_of (m : Nat) (hsub : ∀ m', m' ≤ m → DrOk 23 (argsR 1) 1 m') : DrOk 23 (argsR 0) 0 m := by
  intro A n c all I B d i e w hi he henv hI hm hd40 hB
  subst hi he
  obtain ⟨i0, hi0, hz0, hz1, hz2⟩ := info_parts dn_info
  obtain ⟨t, g, o, ht, hhd, hsz, hne, rfl, hg, e0, e1⟩ := henv.at hI
  clear ht hhd hsz hne e0 e1 hg t
  show Calls Tryz.prog 23 #[.agg #[.slice (some ⟨g, o, none⟩) n c, .int .i64 I, .bool true], .int .i64 d, .string ⟨#[111, 114]⟩, .int .i64 1] w fun e w' => DrPost 0 B d (some ⟨g, o, none⟩) n c all I w e w'
  have HENV := Lib.hid henv
  have HLEN : Hid (all.length = n) := Lib.hid henv.len
  have hfew : n ≤ 3001 := henv.few
  have Hsub := Lib.hid hsub
  clear henv hsub
  obtain ⟨w1, hw1⟩ : ∃ w1, w.alloc (.cells #[.slice (some ⟨g, o, none⟩) n c, .int .i64 I, .bool true] STA) = w1 := ⟨_, rfl⟩
  obtain ⟨w2, hw2⟩ : ∃ w2, w1.alloc (.cells #[.slice none 0 0, .int .i64 0, .bool false] STA) = w2 := ⟨_, rfl⟩
  obtain ⟨w3, hw3⟩ : ∃ w3, w2.alloc (.cells #[.int .i64 0, .slice none 0 0, .string ⟨#[]⟩] NOA) = w3 := ⟨_, rfl⟩
  have z1 : w1.heap.size = w.heap.size + 1 := by rw [← hw1]; simp
  have z2 : w2.heap.size = w.heap.size + 1 + 1 := by rw [← hw2]; simp [z1]
  have z3 : w3.heap.size = w.heap.size + 3 := by rw [← hw3]; simp [z2]
  have k1 : Below w.heap.size w w1 := by rw [← hw1]; exact (Below.refl _ _).alloc (Nat.le_refl _) _
  have k2 : Below w1.heap.size w1 w2 := by rw [← hw2]; exact (Below.refl _ _).alloc (Nat.le_refl _) _
  have k3 : Below w2.heap.size w2 w3 := by rw [← hw3]; exact (Below.refl _ _).alloc (Nat.le_refl _) _
  have B2 : Blk w3 w.heap.size STA #[.slice (some ⟨g, o, none⟩) n c, .int .i64 I, .bool true] := by
    have : Blk w1 w.heap.size STA #[.slice (some ⟨g, o, none⟩) n c, .int .i64 I, .bool true] := by rw [← hw1]; exact Blk.new _ _ _
    exact (this.under k2).under k3
  have B4 : Blk w3 (w.heap.size + 1) STA #[.slice none 0 0, .int .i64 0, .bool false] := by
    have : Blk w2 w1.heap.size STA #[.slice none 0 0, .int .i64 0, .bool false] := by rw [← hw2]; exact Blk.new _ _ _
    rw [z1] at this
    exact this.under k3
  have B5 : Blk w3 (w.heap.size + 2) NOA #[.int .i64 0, .slice none 0 0, .string ⟨#[]⟩] := by
    have : Blk w3 w2.heap.size NOA #[.int .i64 0, .slice none 0 0, .string ⟨#[]⟩] := by rw [← hw3]; exact Blk.new _ _ _
    rw [z2] at this
    exact this
  have HK : Hid (Below w.heap.size w w3) := Lib.hid ((k1.trans (k2.mono (by omega))).trans (k3.mono (by omega)))
  obtain ⟨Bn, hBn⟩ : ∃ Bn, w3.heap.size = Bn := ⟨_, rfl⟩
  have HBN : Hid (Bn = w.heap.size + 3) := Lib.hid (by rw [← hBn, z3])
  obtain ⟨w4, hw4⟩ : ∃ w4, w3.alloc (.cells #[] NOA) = w4 := ⟨_, rfl⟩
  have HST : Hid (∃ (m1 c1 : Nat) (A1 : Option Addr) (xs : List DV) (J : Nat) (ms : List Nd), Value.slice (some ⟨Bn, 0, none⟩) 0 0 = .slice A1 m1 c1 ∧ Hid (xs.length = m1) ∧ Hid (w4.ownsRow Bn NOA 3 (.slice A1 m1 c1) m1 (xs.flatMap DV.cs)) ∧ Hid (RowDs 0 Bn d (Value.slice A1 m1 c1).ownBlock all I w w4 xs J ms) ∧ Hid (Blk w4 w.heap.size STA #[.slice (some ⟨g, o, none⟩) n c, .int .i64 J, .bool true] ∧ Blk w4 (w.heap.size + 1) STA #[.slice none 0 0, .int .i64 0, .bool false] ∧ Blk w4 (w.heap.size + 2) NOA #[.int .i64 0, .slice none 0 0, .string ⟨#[]⟩])) := Lib.hid (by
    have hk4 : Below w3.heap.size w3 w4 := by rw [← hw4]; exact (Below.refl _ _).alloc (Nat.le_refl _) _
    refine ⟨0, 0, _, [], I, [], rfl, Lib.hid rfl, Lib.hid (by rw [← hw4, ← hBn]; exact own_empty _ _ _), Lib.hid (RowDs.start _ _ _ _ _ _ _ _ (by rw [HLEN.out]; exact hI) (HK.out.trans (hk4.mono (by omega))) (fun j hj => ?_)), Lib.hid ⟨B2.under hk4, B4.under hk4, B5.under hk4⟩⟩
    have hj2 : some Bn = some j := hj
    injection hj2 with hj2
    have := HBN.out
    omega)
  clear k1 k2 k3 B2 B4 B5 z3
  go_enter Tryz.func23, Tryz.ntmps23
  go_wp2_with fail
  clear hw1 hw2 hw3 hw4 hBn z1 z2
  go_loopw [10] (fun v10 wr => ∃ (m1 c1 : Nat) (A1 : Option Addr) (xs : List DV) (J : Nat) (ms : List Nd), v10 = .slice A1 m1 c1 ∧ Hid (xs.length = m1) ∧ Hid (wr.ownsRow Bn NOA 3 (.slice A1 m1 c1) m1 (xs.flatMap DV.cs)) ∧ Hid (RowDs 0 Bn d (Value.slice A1 m1 c1).ownBlock all I w wr xs J ms) ∧ Hid (Blk wr w.heap.size STA #[.slice (some ⟨g, o, none⟩) n c, .int .i64 J, .bool true] ∧ Blk wr (w.heap.size + 1) STA #[.slice none 0 0, .int .i64 0, .bool false] ∧ Blk wr (w.heap.size + 2) NOA #[.int .i64 0, .slice none 0 0, .string ⟨#[]⟩])) (fun _ wr => mesD w.heap.size n wr)
  case atStart => exact HST.out
  case round =>
    clear HST
    obtain ⟨m1, c1, A1, xs, J, ms, rfl, HXL, hown, hri, HBR⟩ := hrel
    have HME : Hid (mesD w.heap.size n wr = n - J) := Lib.hid (mesD_is HBR.out.1)
    have hJI : I ≤ J := hri.out.le
    have hJn : J < n := by rw [← HLEN.out]; exact hri.out.lt
    have hm1 : m1 ≤ J - I := by rw [← HXL.out]; exact hri.out.few
    have HZR : Hid (Bn ≤ wr.heap.size) := Lib.hid (by have := HBN.out; have := HBR.out.2.2.lt; omega)
    obtain ⟨wa, hwa⟩ : ∃ wa, wr.alloc (.cells #[.int .i64 0, .slice none 0 0, .string ⟨#[]⟩] NOA) = wa := ⟨_, rfl⟩
    obtain ⟨wb, hwb⟩ : ∃ wb, ((wa.setCell ⟨wr.heap.size, 0, none⟩ (.int .i64 0)).setCell ⟨wr.heap.size, 1, none⟩ (.slice none 0 0)).setCell ⟨wr.heap.size, 2, none⟩ (.string ⟨#[]⟩) = wb := ⟨_, rfl⟩
    have HAB := Lib.hid (set3_new wr wa wb _ _ _ hwa hwb)
    have HBB : Hid (Blk wb w.heap.size STA #[.slice (some ⟨g, o, none⟩) n c, .int .i64 J, .bool true] ∧ Blk wb (w.heap.size + 1) STA #[.slice none 0 0, .int .i64 0, .bool false] ∧ Blk wb (w.heap.size + 2) NOA #[.int .i64 0, .slice none 0 0, .string ⟨#[]⟩]) := Lib.hid ⟨HBR.out.1.under HAB.out.2.1, HBR.out.2.1.under HAB.out.2.1, HBR.out.2.2.under HAB.out.2.1⟩
    have HWB : Hid (Below w.heap.size w wb) := Lib.hid (hri.out.below.trans (HAB.out.2.1.mono hri.out.below.size))
    have HC : Hid (Calls Tryz.prog 23 #[.agg #[.slice (some ⟨g, o, none⟩) n c, .int .i64 J, .bool true], .int .i64 d, .string ⟨#[97, 110, 100]⟩, .int .i64 2] wb fun e w' => DrPost 1 wb.heap.size d (some ⟨g, o, none⟩) n c all J wb e w') := Lib.hid (Hsub.out (n - J) (by omega) (some ⟨g, o, none⟩) n c all J wb.heap.size d _ _ wb rfl rfl (HENV.out.below HWB.out) hJn rfl hd40 (Nat.le_refl _))
    have ba : Blk wa wr.heap.size NOA #[.int .i64 0, .slice none 0 0, .string ⟨#[]⟩] := by rw [← hwa]; exact Blk.new _ _ _
    obtain ⟨r0, r1, r2, r3, r4, r5⟩ := ba.at3
    obtain ⟨u0, u1, u2, u3, u4, u5⟩ := HBB.out.1.at3
    clear ba
    go_wp2_with fail
    refine HC.out.mono ?_
    rintro e w2 ⟨v, ok, J', ns, rfl, hdi⟩
    have HDI := Lib.hid hdi
    clear hdi hwa hwb r0 r1 r2 r3 r4 r5 u0 u1 u2 u3 u4 u5 HC
    have HB2 : Hid (Blk w2 w.heap.size STA #[.slice (some ⟨g, o, none⟩) n c, .int .i64 J, .bool true] ∧ Blk w2 (w.heap.size + 1) STA #[.slice none 0 0, .int .i64 0, .bool false] ∧ Blk w2 (w.heap.size + 2) NOA #[.int .i64 0, .slice none 0 0, .string ⟨#[]⟩] ∧ Blk w2 wr.heap.size NOA #[.int .i64 0, .slice none 0 0, .string ⟨#[]⟩]) := Lib.hid ⟨HBB.out.1.under HDI.out.below, HBB.out.2.1.under HDI.out.below, HBB.out.2.2.under HDI.out.below, HAB.out.1.under HDI.out.below⟩
    obtain ⟨wc, hwc⟩ : ∃ wc, (((((w2.setCell ⟨w.heap.size, 0, none⟩ (.slice (some ⟨g, o, none⟩) n c)).setCell ⟨w.heap.size, 1, none⟩ (.int .i64 J')).setCell ⟨w.heap.size, 2, none⟩ (.bool ok)).setCell ⟨wr.heap.size, 0, none⟩ (.int .i64 v.k)).setCell ⟨wr.heap.size, 1, none⟩ (.slice v.A v.m v.c)).setCell ⟨wr.heap.size, 2, none⟩ (.string v.s) = wc := ⟨_, rfl⟩
    have hne4 : w.heap.size ≠ wr.heap.size := by have := HBR.out.1.lt; omega
    have hlt4 : w.heap.size < wr.heap.size := HBR.out.1.lt
    have HSC3 := Lib.hid (store6 HB2.out.1 HB2.out.2.2.2 hne4 hwc)
    obtain ⟨m0, m1', m2, p0, p1, p2⟩ := HB2.out.1.at3
    obtain ⟨m3, m4, m5, p3, p4, p5⟩ := HB2.out.2.2.2.at3
    go_upto_region 6 with fail
    clear hwc m0 m1' m2 p0 p1 p2 m3 m4 m5 p3 p4 p5 hne4
    obtain ⟨n0, n1, n2, _, _, _⟩ := HSC3.out.2.1.at3
    have HBC : Hid (Blk wc (w.heap.size + 1) STA #[.slice none 0 0, .int .i64 0, .bool false] ∧ Blk wc (w.heap.size + 2) NOA #[.int .i64 0, .slice none 0 0, .string ⟨#[]⟩]) := Lib.hid (by
      have h1 := HBN.out
      have h2 := HZR.out
      exact ⟨HB2.out.2.1.kept HSC3.out.2.2 (fun h => by omega), HB2.out.2.2.1.kept HSC3.out.2.2 (fun h => by omega)⟩)
    have hJ' : J ≤ J' := HDI.out.le
    have hJ'n : J' < n := by rw [← HLEN.out]; exact HDI.out.lt
    have HZ2 : Hid (wr.heap.size + 1 ≤ w2.heap.size ∧ w2.heap.size ≤ wc.heap.size) := Lib.hid ⟨by have := HDI.out.below.size; have := HAB.out.2.2; omega, HSC3.out.2.2.size⟩
    have hzc : Bn ≤ wc.heap.size := by have := HZ2.out; have := HZR.out; omega
    have HOC : Hid (wc.ownsRow Bn NOA 3 (.slice A1 m1 c1) m1 (xs.flatMap DV.cs)) := Lib.hid (own_block hown.out (fun j hj => by
      have h1 := hown.out.lt j hj
      have h2 := HBN.out
      have h3 := HAB.out.2.2
      have h4 := HZ2.out
      exact ((HSC3.out.2.2.block j (by omega) (fun h => by omega)).trans (HDI.out.below.block j (by omega))).trans (HAB.out.2.1.block j (by omega))))
    by_cases hvk : v.k = 1
    · have hq0 : ((v.k : Int) == 1) = true := by rw [beq_iff_eq]; omega
      obtain ⟨PV, hPV⟩ := HDI.out.okd.row
      have HPV : Hid ((v.k = 0 + 1 ∧ RowD w2 wb.heap.size v.A v.m v.c PV) ∨ (v.k ≠ 0 + 1 ∧ PV = [v])) := Lib.hid (Or.inl ⟨hvk, hPV⟩)
      have HPVL : Hid (PV.length = v.m) := Lib.hid hPV.len
      have hvm : 2 ≤ v.m := HDI.out.okd.many (by omega)
      have hvf : v.m ≤ 1 + J' - J := HDI.out.okd.few
      have HPVF : Hid (PV.length ≤ 1 + J' - J) := Lib.hid (by rw [hPV.len]; exact hvf)
      have HPR : Hid (RowD wc wb.heap.size v.A v.m v.c PV) := Lib.hid (hPV.keep HSC3.out.2.2.size (fun i hi hBi => HSC3.out.2.2.block i hi (fun h => by have := HAB.out.2.2; have := HBN.out; omega)))
      clear hvk hPV
      go_upto_region 9 with (first
        | (at_builtin; refine wpList_append_row _ rfl _ _ 31 rfl Bn NOA i0 _ 3 48 Tryz.underlying31 hi0 hz0 hz1 hz2 rfl (by omega) (.slice A1 m1 c1) m1 _ rfl HOC.out wc.heap.size v.A v.m v.c (PV.flatMap DV.cs) rfl HPR.out.row HPR.out.nc (flat_ones PV) (by unfold maxLen; omega) (by omega) (by first | omega | (simp; omega)) ?_; intro v7 w7 ho7 hg7 hv7))
      obtain ⟨A7, c7, hr7⟩ := own_shape ho7
      subst hr7
      have HO7 : Hid (w7.ownsRow Bn NOA 3 (.slice A7 (m1 + v.m) c7) (m1 + v.m) ((xs ++ PV).flatMap DV.cs)) := Lib.hid (by rw [List.flatMap_append]; exact ho7)
      have HDP : Hid (RowDp 0 Bn d (Value.slice A7 (m1 + v.m) c7).ownBlock all I w w7 (xs ++ PV) ok J' (ms ++ [nodeOf (0 + 1) ns])) := Lib.hid (by
        have hbn := HBN.out
        exact RowDp.of (by omega) rfl (by omega) HZR.out hri.out (fun j hj => hown.out.lt j hj) HAB.out.2.1 HDI.out (by have := HAB.out.2.2; omega) HSC3.out.2.2 (Nat.le_refl _) (by omega) (Nat.le_refl _) (by have := HAB.out.2.2; omega) (Below.refl _ _) hg7 hv7 HPV.out (by have := HPVF.out; omega))
      have HB7 : Hid (Blk w7 w.heap.size STA #[.slice (some ⟨g, o, none⟩) n c, .int .i64 J', .bool ok] ∧ Blk w7 (w.heap.size + 1) STA #[.slice none 0 0, .int .i64 0, .bool false] ∧ Blk w7 (w.heap.size + 2) NOA #[.int .i64 0, .slice none 0 0, .string ⟨#[]⟩]) := Lib.hid (by
        have hbn := HBN.out
        have hne : ∀ b, b < Bn → some b ≠ (Value.slice A1 m1 c1).ownBlock := fun b hb e => by have := (hown.out.lt b e.symm).1; omega
        exact ⟨HSC3.out.1.grown hg7 (hne _ (by omega)), HBC.out.1.grown hg7 (hne _ (by omega)), HBC.out.2.grown hg7 (hne _ (by omega))⟩)
      clear ho7 hg7 hv7
      obtain ⟨s0, s1, s2, s3, s4, s5⟩ := HB7.out.1.at3
      have HE7 : Hid (Env w7 (some ⟨g, o, none⟩) n c all) := Lib.hid (HENV.out.below HDP.out.below)
      cases ok
      · skip
        have HR7 := Lib.hid (RowD.of_own HO7.out (by rw [List.length_append, HXL.out, HPVL.out]))
        obtain ⟨we, hwe⟩ : ∃ we, (((((w7.setCell ⟨w.heap.size + 1, 0, none⟩ (.slice (some ⟨g, o, none⟩) n c)).setCell ⟨w.heap.size + 1, 1, none⟩ (.int .i64 J')).setCell ⟨w.heap.size + 1, 2, none⟩ (.bool false)).setCell ⟨w.heap.size + 1 + 1, 0, none⟩ (.int .i64 1)).setCell ⟨w.heap.size + 1 + 1, 1, none⟩ (.slice A7 (m1 + v.m) c7)).setCell ⟨w.heap.size + 1 + 1, 2, none⟩ (.string ⟨#[]⟩) = we := ⟨_, rfl⟩
        have HSE := Lib.hid (store6 HB7.out.2.1 HB7.out.2.2 (by omega) hwe)
        obtain ⟨l0, l1, l2, k0, k1, k2⟩ := HB7.out.2.1.at3
        obtain ⟨l3, l4, l5, k3, k4, k5⟩ := HB7.out.2.2.at3
        have hq1 : (((m1 + v.m : Nat) : Int) == 1) = false := by rw [beq_eq_false_iff_ne]; omega
        go_wp2_with fail
        refine bodyPost_ret (results_cc (rb := w.heap.size + 1) (rc := w.heap.size + 1 + 1) rfl rfl rfl (load_st HSE.out.1) (load_no (k := 1) HSE.out.2.1)) rfl ?_
        exact ⟨⟨1, A7, m1 + v.m, c7, ⟨#[]⟩⟩, false, J', _, rfl, HDP.out.fin2 (B := B) (k := 0) (by omega) (by have := HBN.out; omega) (Or.inl rfl) (HSE.out.2.2.mono (fun i _ hi => by have := HBN.out; omega)) HR7.out (by omega)⟩
      · obtain ⟨t8, g8, o8, ht8, hhd8, hsz8, hne8, eg8, hg8, e8, _⟩ := HE7.out.at hJ'n
        injection eg8 with eg8
        injection eg8 with eg8 eo8
        subst eg8 eo8
        obtain ⟨y, hy⟩ : ∃ y, t8.1 = y := ⟨_, rfl⟩
        rw [hy] at hhd8 hsz8 hne8 e8
        have HHD8 := Lib.hid hhd8
        have HNE8 := Lib.hid hne8
        clear hy ht8 hhd8 hne8
        by_cases hyc : y = wordOf 0
        · have q3 : (y.toList == [111, 114]) = true := lit_yes hyc
          have q4 : (!(y.toList == [111, 114])) = false := by rw [q3]; rfl
          have hJ2 : J' + 1 < n := HNE8.out (by rw [hyc]; decide)
          have HHY := Lib.hid (HHD8.out.trans hyc)
          have hJw : IntKind.i64.wrap ((J' : Int) + 1) = (J' : Int) + 1 := by rw [IntKind.wrap_i64]; omega
          clear hyc
          obtain ⟨wz, hwz⟩ : ∃ wz, w7.setCell ⟨w.heap.size, 1, none⟩ (.int .i64 ((J' : Int) + 1)) = wz := ⟨_, rfl⟩
          have HKZ : Hid (Kept (fun i => i = w.heap.size) w7 wz) := Lib.hid (by rw [← hwz]; exact (Kept.refl (fun i => i = w.heap.size) w7).setCell (p := ⟨w.heap.size, 1, none⟩) (Or.inl rfl) _)
          have HBZ : Hid (Blk wz w.heap.size STA #[.slice (some ⟨g, o, none⟩) n c, .int .i64 (J' + 1 : Nat), .bool true] ∧ Blk wz (w.heap.size + 1) STA #[.slice none 0 0, .int .i64 0, .bool false] ∧ Blk wz (w.heap.size + 2) NOA #[.int .i64 0, .slice none 0 0, .string ⟨#[]⟩]) := Lib.hid (by
            have e : #[Value.slice (some ⟨g, o, none⟩) n c, .int .i64 J', .bool true].setIfInBounds 1 (.int .i64 ((J' : Int) + 1)) = #[.slice (some ⟨g, o, none⟩) n c, .int .i64 (J' + 1 : Nat), .bool true] := by simp
            rw [← hwz]
            exact ⟨by rw [← e]; exact HB7.out.1.set_ 1 _, HB7.out.2.1.far1 (by omega) _ _, HB7.out.2.2.far1 (by omega) _ _⟩)
          have HRN : Hid (RowDs 0 Bn d (Value.slice A7 (m1 + v.m) c7).ownBlock all I w wz (xs ++ PV) (J' + 1) (ms ++ [nodeOf (0 + 1) ns])) := Lib.hid (HDP.out.next (by have := HBN.out; omega) HHY.out (by rw [HLEN.out]; exact hJ2) HKZ.out (Nat.le_refl _) (by have := HBN.out; omega))
          have HON : Hid (wz.ownsRow Bn NOA 3 (.slice A7 (m1 + v.m) c7) (m1 + v.m) ((xs ++ PV).flatMap DV.cs)) := Lib.hid (own_block HO7.out (fun j hj => HKZ.out.block j (HO7.out.lt j hj).2 (fun e => by have h1 := (HO7.out.lt j hj).1; have h2 := HBN.out; have h3 : j = w.heap.size := e; omega)))
          have HMZ := Lib.hid (mesD_is (n := n) HBZ.out.1)
          go_wp2_with fail
          go_roundw
          case rel => exact ⟨m1 + v.m, c7, A7, xs ++ PV, J' + 1, _, rfl, Lib.hid (by rw [List.length_append, HXL.out, HPVL.out]), HON, HRN, HBZ⟩
          case measure => rw [HMZ.out, HME.out]; omega
        · have q3 : (y.toList == [111, 114]) = false := lit_no hyc
          have q4 : (!(y.toList == [111, 114])) = true := by rw [q3]; rfl
          have HN : Hid (hd (tx (all.drop J')) ≠ wordOf 0) := Lib.hid (fun e => hyc (HHD8.out.symm.trans e))
          clear hyc
          have HR7 := Lib.hid (RowD.of_own HO7.out (by rw [List.length_append, HXL.out, HPVL.out]))
          obtain ⟨we, hwe⟩ : ∃ we, (((((w7.setCell ⟨w.heap.size + 1, 0, none⟩ (.slice (some ⟨g, o, none⟩) n c)).setCell ⟨w.heap.size + 1, 1, none⟩ (.int .i64 J')).setCell ⟨w.heap.size + 1, 2, none⟩ (.bool true)).setCell ⟨w.heap.size + 1 + 1, 0, none⟩ (.int .i64 1)).setCell ⟨w.heap.size + 1 + 1, 1, none⟩ (.slice A7 (m1 + v.m) c7)).setCell ⟨w.heap.size + 1 + 1, 2, none⟩ (.string ⟨#[]⟩) = we := ⟨_, rfl⟩
          have HSE := Lib.hid (store6 HB7.out.2.1 HB7.out.2.2 (by omega) hwe)
          obtain ⟨l0, l1, l2, k0, k1, k2⟩ := HB7.out.2.1.at3
          obtain ⟨l3, l4, l5, k3, k4, k5⟩ := HB7.out.2.2.at3
          have hq1 : (((m1 + v.m : Nat) : Int) == 1) = false := by rw [beq_eq_false_iff_ne]; omega
          go_wp2_with fail
          refine bodyPost_ret (results_cc (rb := w.heap.size + 1) (rc := w.heap.size + 1 + 1) rfl rfl rfl (load_st HSE.out.1) (load_no (k := 1) HSE.out.2.1)) rfl ?_
          exact ⟨⟨1, A7, m1 + v.m, c7, ⟨#[]⟩⟩, true, J', _, rfl, HDP.out.fin2 (B := B) (k := 0) (by omega) (by have := HBN.out; omega) (Or.inr HN.out) (HSE.out.2.2.mono (fun i _ hi => by have := HBN.out; omega)) HR7.out (by omega)⟩
    · have hq0 : ((v.k : Int) == 1) = false := by rw [beq_eq_false_iff_ne]; omega
      obtain ⟨PV, hPVe⟩ : ∃ PV, [v] = PV := ⟨_, rfl⟩
      have HPV : Hid ((v.k = 0 + 1 ∧ RowD w2 wb.heap.size v.A v.m v.c PV) ∨ (v.k ≠ 0 + 1 ∧ PV = [v])) := Lib.hid (Or.inr ⟨hvk, hPVe.symm⟩)
      have HPVL : Hid (PV.length = 1) := Lib.hid (by rw [← hPVe]; rfl)
      have HPVF : Hid (PV.length ≤ 1 + J' - J) := Lib.hid (by rw [HPVL.out]; omega)
      subst hPVe
      clear hvk
      go_upto_region 9 with (first
        | (at_builtin; refine wpList_append_row _ rfl _ _ 31 rfl Bn NOA i0 _ 3 48 Tryz.underlying31 hi0 hz0 hz1 hz2 rfl (by omega) (.slice A1 m1 c1) m1 _ rfl (HOC.out.alloc _) (wc.heap.size + 1) (some ⟨wc.heap.size, 0, none⟩) 1 1 [.int .i64 v.k, .slice v.A v.m v.c, .string v.s] rfl (one_dv wc v) (fun h => by cases h) (dv_one v) (by unfold maxLen; omega) (by omega) (by first | omega | (simp; omega)) ?_; intro v7 w7 ho7 hg7 hv7))
      obtain ⟨A7, c7, hr7⟩ := own_shape ho7
      subst hr7
      have HO7 : Hid (w7.ownsRow Bn NOA 3 (.slice A7 (m1 + 1) c7) (m1 + 1) ((xs ++ [v]).flatMap DV.cs)) := Lib.hid (by rw [List.flatMap_append, List.flatMap_singleton]; exact ho7)
      have HDP : Hid (RowDp 0 Bn d (Value.slice A7 (m1 + 1) c7).ownBlock all I w w7 (xs ++ [v]) ok J' (ms ++ [nodeOf (0 + 1) ns])) := Lib.hid (by
        have hbn := HBN.out
        exact RowDp.of (by omega) rfl (by omega) HZR.out hri.out (fun j hj => hown.out.lt j hj) HAB.out.2.1 HDI.out (by have := HAB.out.2.2; omega) HSC3.out.2.2 (Nat.le_refl _) (by omega) (Nat.le_refl _) (by have := HAB.out.2.2; omega) ((Below.refl _ _).alloc (Nat.le_refl _) _) hg7 hv7 HPV.out (by have := HPVF.out; omega))
      have HB7 : Hid (Blk w7 w.heap.size STA #[.slice (some ⟨g, o, none⟩) n c, .int .i64 J', .bool ok] ∧ Blk w7 (w.heap.size + 1) STA #[.slice none 0 0, .int .i64 0, .bool false] ∧ Blk w7 (w.heap.size + 2) NOA #[.int .i64 0, .slice none 0 0, .string ⟨#[]⟩]) := Lib.hid (by
        have hbn := HBN.out
        have hne : ∀ b, b < Bn → some b ≠ (Value.slice A1 m1 c1).ownBlock := fun b hb e => by have := (hown.out.lt b e.symm).1; omega
        exact ⟨(HSC3.out.1.alloc _).grown hg7 (hne _ (by omega)), (HBC.out.1.alloc _).grown hg7 (hne _ (by omega)), (HBC.out.2.alloc _).grown hg7 (hne _ (by omega))⟩)
      have HG7 := Lib.hid hg7
      have HOKD : Hid (∀ W, Kept (fun i => w.heap.size ≤ i ∧ i < Bn) w7 W → DOk W B (1 + J' - J) v) := Lib.hid (fun W hW => by
        have hbn := HBN.out
        have hz2 := HZ2.out
        have hab := HAB.out.2.2
        have hzr := HZR.out
        have hg7s := HG7.out.size
        refine (HDI.out.okd.keep (w' := W) (by have := hW.size; have := hg7s; simp at this; omega) (fun i hi hBi => ?_)).low (by omega)
        have h1 : some i ≠ (Value.slice A1 m1 c1).ownBlock := fun e => by have := (hown.out.lt i e.symm).2; omega
        refine (hW.block i (by simp at hg7s; omega) (fun h => by omega)).trans ?_
        refine (HG7.out.block i (by simp; omega) h1).trans ?_
        refine (Below.heap_alloc wc _ i (by omega)).trans ?_
        exact HSC3.out.2.2.block i hi (fun h => by omega))
      clear ho7 hg7 hv7
      obtain ⟨s0, s1, s2, s3, s4, s5⟩ := HB7.out.1.at3
      have HE7 : Hid (Env w7 (some ⟨g, o, none⟩) n c all) := Lib.hid (HENV.out.below HDP.out.below)
      cases ok
      · skip
        by_cases hm0 : m1 = 0
        · skip
          have hq1 : ((((m1 + 1 : Nat)) : Int) == 1) = true := by rw [beq_iff_eq]; omega
          have hm1 : m1 + 1 = 1 := by omega
          have HR7 := Lib.hid (RowD.of_own HO7.out (by rw [List.length_append, HXL.out, HPVL.out]))
          have HXE : Hid (xs = []) := Lib.hid (List.length_eq_zero_iff.1 (by rw [HXL.out]; omega))
          obtain ⟨ga, oa, hA7, hga, hca⟩ := HR7.out.get (i := 0) (x := v) (by rw [HXE.out]; rfl)
          subst hA7
          have HGA : Hid (Bn ≤ ga ∧ ga < w7.heap.size) := Lib.hid ⟨HR7.out.far ga oa rfl, hga⟩
          have HSC : Hid (∀ W, Kept (fun i => i = w.heap.size + 1 ∨ i = w.heap.size + 2) w7 W → W.cell? ⟨w.heap.size, 0, none⟩ = some (.slice (some ⟨g, o, none⟩) n c) ∧ W.cell? ⟨w.heap.size, 1, none⟩ = some (.int .i64 J') ∧ W.cell? ⟨w.heap.size, 2, none⟩ = some (.bool false) ∧ W.cell? ⟨ga, oa, none⟩ = some (.int .i64 v.k) ∧ W.cell? ⟨ga, oa + 1, none⟩ = some (.slice v.A v.m v.c) ∧ W.cell? ⟨ga, oa + 2, none⟩ = some (.string v.s)) := Lib.hid (fun W hW => by
            have hb := HBN.out
            have hg := HGA.out
            have k1 := HB7.out.1.kept hW (fun h => by omega)
            have kc : ∀ j, W.cell? ⟨ga, oa + j, none⟩ = w7.cell? ⟨ga, oa + j, none⟩ := fun j => hW.cell hg.2 (fun h => by have h' : ga = w.heap.size + 1 ∨ ga = w.heap.size + 2 := h; omega)
            exact ⟨k1.cell 0, k1.cell 1, k1.cell 2, by have := (kc 0).trans (hca 0 _ rfl); simpa using this, by have := (kc 1).trans (hca 1 _ rfl); simpa using this, by have := (kc 2).trans (hca 2 _ rfl); simpa using this⟩)
          clear hca hga
          go_upto_region 12 with fail
          have HS0 : Hid (Kept (fun i => i = w.heap.size + 1 ∨ i = w.heap.size + 2) w7 w7.drew) := Lib.hid (Kept.refl _ _).drew
          refine wp_plan (fun V' => Kept (fun i => i = w.heap.size + 1 ∨ i = w.heap.size + 2) w7 V') [(0, false), (1, false), (2, false), (3, false), (4, true), (5, true)] (by kernel_rfl) (by kernel_rfl) HS0.out ?_
          simp only [planL, List.getElem?_cons_zero, List.getElem?_cons_succ]
          repeat (first | (refine plan_on _ (by rfl) (fun W hW => by (obtain ⟨q0, q1, q2, q3, q4, q5⟩ := HSC.out W hW; go_simp; try with_reducible rfl)) ?_; simp only [Act.put, List.setIfInBounds_toArray, List.set_cons_zero, List.set_cons_succ]) | (refine plan_off (by rfl) ?_; simp only [Act.put, List.setIfInBounds_toArray, List.set_cons_zero, List.set_cons_succ]))
          refine plan_turn ?_
          refine wpList_store_blk w7.drew rfl STA _ _ rfl 0 #[.slice (some ⟨g, o, none⟩) n c, .int .i64 J', .bool false] rfl rfl HB7.out.2.1.drew (by show 0 + 3 ≤ 3; omega) (by kernel_rfl) (by simp [Value.oneCell']) ?_
          intro Wa hba hka hza
          have HBA : Hid (Blk Wa (w.heap.size + 1) STA #[.slice (some ⟨g, o, none⟩) n c, .int .i64 J', .bool false]) := Lib.hid hba
          have HKA : Hid (Kept (fun i => i = w.heap.size + 1 ∨ i = w.heap.size + 2) w7 Wa) := Lib.hid (HS0.out.trans' hka (fun i _ hi => Or.inl hi))
          have HBZ : Hid (Blk Wa (w.heap.size + 2) NOA #[.int .i64 0, .slice none 0 0, .string ⟨#[]⟩]) := Lib.hid (HB7.out.2.2.drew.kept hka (by omega))
          clear hba hka hza
          go_wp2_with fail
          refine ⟨HKA.out, ?_⟩
          refine plan_turn ?_
          refine wpList_store_blk Wa rfl NOA _ _ rfl 0 #[.int .i64 v.k, .slice v.A v.m v.c, .string v.s] rfl rfl HBZ.out (by show 0 + 3 ≤ 3; omega) (by kernel_rfl) (by simp [Value.oneCell']) ?_
          intro Wb hbb hkb hzb
          have HBB : Hid (Blk Wb (w.heap.size + 2) NOA #[.int .i64 v.k, .slice v.A v.m v.c, .string v.s]) := Lib.hid hbb
          have HBA2 : Hid (Blk Wb (w.heap.size + 1) STA #[.slice (some ⟨g, o, none⟩) n c, .int .i64 J', .bool false]) := Lib.hid (HBA.out.kept hkb (by omega))
          have HKB : Hid (Kept (fun i => i = w.heap.size + 1 ∨ i = w.heap.size + 2) w7 Wb) := Lib.hid (HKA.out.trans' hkb (fun i _ hi => Or.inr hi))
          clear hbb hkb hzb
          go_wp2_with fail
          refine ⟨HKB.out, ?_⟩
          refine plan_done ?_
          go_wp2_with fail
          refine bodyPost_ret (results_cc (rb := w.heap.size + 1) (rc := w.heap.size + 2) rfl rfl rfl (load_st HBA2.out) (load_no HBB.out)) rfl ?_
          have HDP2 := HDP.out
          rw [HXE.out, List.nil_append] at HDP2
          have hkk : Kept (fun i => w.heap.size ≤ i ∧ i < Bn) w7 Wb := HKB.out.mono (fun i _ hi => by have := HBN.out; omega)
          exact ⟨v, false, J', _, rfl, HDP2.fin1 (B := B) (k := 0) (by omega) (by have := HBN.out; omega) (Or.inl rfl) hkk ((HOKD.out Wb hkk).mono (by omega))⟩
        · have hm2 : 1 ≤ m1 := by omega
          have HR7 := Lib.hid (RowD.of_own HO7.out (by rw [List.length_append, HXL.out, HPVL.out]))
          obtain ⟨we, hwe⟩ : ∃ we, (((((w7.setCell ⟨w.heap.size + 1, 0, none⟩ (.slice (some ⟨g, o, none⟩) n c)).setCell ⟨w.heap.size + 1, 1, none⟩ (.int .i64 J')).setCell ⟨w.heap.size + 1, 2, none⟩ (.bool false)).setCell ⟨w.heap.size + 1 + 1, 0, none⟩ (.int .i64 1)).setCell ⟨w.heap.size + 1 + 1, 1, none⟩ (.slice A7 (m1 + 1) c7)).setCell ⟨w.heap.size + 1 + 1, 2, none⟩ (.string ⟨#[]⟩) = we := ⟨_, rfl⟩
          have HSE := Lib.hid (store6 HB7.out.2.1 HB7.out.2.2 (by omega) hwe)
          obtain ⟨l0, l1, l2, k0, k1, k2⟩ := HB7.out.2.1.at3
          obtain ⟨l3, l4, l5, k3, k4, k5⟩ := HB7.out.2.2.at3
          have hq1 : (((m1 + 1 : Nat) : Int) == 1) = false := by rw [beq_eq_false_iff_ne]; omega
          go_wp2_with fail
          refine bodyPost_ret (results_cc (rb := w.heap.size + 1) (rc := w.heap.size + 1 + 1) rfl rfl rfl (load_st HSE.out.1) (load_no (k := 1) HSE.out.2.1)) rfl ?_
          exact ⟨⟨1, A7, m1 + 1, c7, ⟨#[]⟩⟩, false, J', _, rfl, HDP.out.fin2 (B := B) (k := 0) (by omega) (by have := HBN.out; omega) (Or.inl rfl) (HSE.out.2.2.mono (fun i _ hi => by have := HBN.out; omega)) HR7.out (by omega)⟩
      · obtain ⟨t8, g8, o8, ht8, hhd8, hsz8, hne8, eg8, hg8, e8, _⟩ := HE7.out.at hJ'n
        injection eg8 with eg8
        injection eg8 with eg8 eo8
        subst eg8 eo8
        obtain ⟨y, hy⟩ : ∃ y, t8.1 = y := ⟨_, rfl⟩
        rw [hy] at hhd8 hsz8 hne8 e8
        have HHD8 := Lib.hid hhd8
        have HNE8 := Lib.hid hne8
        clear hy ht8 hhd8 hne8
        by_cases hyc : y = wordOf 0
        · have q3 : (y.toList == [111, 114]) = true := lit_yes hyc
          have q4 : (!(y.toList == [111, 114])) = false := by rw [q3]; rfl
          have hJ2 : J' + 1 < n := HNE8.out (by rw [hyc]; decide)
          have HHY := Lib.hid (HHD8.out.trans hyc)
          have hJw : IntKind.i64.wrap ((J' : Int) + 1) = (J' : Int) + 1 := by rw [IntKind.wrap_i64]; omega
          clear hyc
          obtain ⟨wz, hwz⟩ : ∃ wz, w7.setCell ⟨w.heap.size, 1, none⟩ (.int .i64 ((J' : Int) + 1)) = wz := ⟨_, rfl⟩
          have HKZ : Hid (Kept (fun i => i = w.heap.size) w7 wz) := Lib.hid (by rw [← hwz]; exact (Kept.refl (fun i => i = w.heap.size) w7).setCell (p := ⟨w.heap.size, 1, none⟩) (Or.inl rfl) _)
          have HBZ : Hid (Blk wz w.heap.size STA #[.slice (some ⟨g, o, none⟩) n c, .int .i64 (J' + 1 : Nat), .bool true] ∧ Blk wz (w.heap.size + 1) STA #[.slice none 0 0, .int .i64 0, .bool false] ∧ Blk wz (w.heap.size + 2) NOA #[.int .i64 0, .slice none 0 0, .string ⟨#[]⟩]) := Lib.hid (by
            have e : #[Value.slice (some ⟨g, o, none⟩) n c, .int .i64 J', .bool true].setIfInBounds 1 (.int .i64 ((J' : Int) + 1)) = #[.slice (some ⟨g, o, none⟩) n c, .int .i64 (J' + 1 : Nat), .bool true] := by simp
            rw [← hwz]
            exact ⟨by rw [← e]; exact HB7.out.1.set_ 1 _, HB7.out.2.1.far1 (by omega) _ _, HB7.out.2.2.far1 (by omega) _ _⟩)
          have HRN : Hid (RowDs 0 Bn d (Value.slice A7 (m1 + 1) c7).ownBlock all I w wz (xs ++ [v]) (J' + 1) (ms ++ [nodeOf (0 + 1) ns])) := Lib.hid (HDP.out.next (by have := HBN.out; omega) HHY.out (by rw [HLEN.out]; exact hJ2) HKZ.out (Nat.le_refl _) (by have := HBN.out; omega))
          have HON : Hid (wz.ownsRow Bn NOA 3 (.slice A7 (m1 + 1) c7) (m1 + 1) ((xs ++ [v]).flatMap DV.cs)) := Lib.hid (own_block HO7.out (fun j hj => HKZ.out.block j (HO7.out.lt j hj).2 (fun e => by have h1 := (HO7.out.lt j hj).1; have h2 := HBN.out; have h3 : j = w.heap.size := e; omega)))
          have HMZ := Lib.hid (mesD_is (n := n) HBZ.out.1)
          go_wp2_with fail
          go_roundw
          case rel => exact ⟨m1 + 1, c7, A7, xs ++ [v], J' + 1, _, rfl, Lib.hid (by rw [List.length_append, HXL.out, HPVL.out]), HON, HRN, HBZ⟩
          case measure => rw [HMZ.out, HME.out]; omega
        · have q3 : (y.toList == [111, 114]) = false := lit_no hyc
          have q4 : (!(y.toList == [111, 114])) = true := by rw [q3]; rfl
          have HN : Hid (hd (tx (all.drop J')) ≠ wordOf 0) := Lib.hid (fun e => hyc (HHD8.out.symm.trans e))
          clear hyc
          by_cases hm0 : m1 = 0
          · skip
            have hq1 : ((((m1 + 1 : Nat)) : Int) == 1) = true := by rw [beq_iff_eq]; omega
            have hm1 : m1 + 1 = 1 := by omega
            have HR7 := Lib.hid (RowD.of_own HO7.out (by rw [List.length_append, HXL.out, HPVL.out]))
            have HXE : Hid (xs = []) := Lib.hid (List.length_eq_zero_iff.1 (by rw [HXL.out]; omega))
            obtain ⟨ga, oa, hA7, hga, hca⟩ := HR7.out.get (i := 0) (x := v) (by rw [HXE.out]; rfl)
            subst hA7
            have HGA : Hid (Bn ≤ ga ∧ ga < w7.heap.size) := Lib.hid ⟨HR7.out.far ga oa rfl, hga⟩
            have HSC : Hid (∀ W, Kept (fun i => i = w.heap.size + 1 ∨ i = w.heap.size + 2) w7 W → W.cell? ⟨w.heap.size, 0, none⟩ = some (.slice (some ⟨g, o, none⟩) n c) ∧ W.cell? ⟨w.heap.size, 1, none⟩ = some (.int .i64 J') ∧ W.cell? ⟨w.heap.size, 2, none⟩ = some (.bool true) ∧ W.cell? ⟨ga, oa, none⟩ = some (.int .i64 v.k) ∧ W.cell? ⟨ga, oa + 1, none⟩ = some (.slice v.A v.m v.c) ∧ W.cell? ⟨ga, oa + 2, none⟩ = some (.string v.s)) := Lib.hid (fun W hW => by
              have hb := HBN.out
              have hg := HGA.out
              have k1 := HB7.out.1.kept hW (fun h => by omega)
              have kc : ∀ j, W.cell? ⟨ga, oa + j, none⟩ = w7.cell? ⟨ga, oa + j, none⟩ := fun j => hW.cell hg.2 (fun h => by have h' : ga = w.heap.size + 1 ∨ ga = w.heap.size + 2 := h; omega)
              exact ⟨k1.cell 0, k1.cell 1, k1.cell 2, by have := (kc 0).trans (hca 0 _ rfl); simpa using this, by have := (kc 1).trans (hca 1 _ rfl); simpa using this, by have := (kc 2).trans (hca 2 _ rfl); simpa using this⟩)
            clear hca hga
            go_upto_region 12 with fail
            have HS0 : Hid (Kept (fun i => i = w.heap.size + 1 ∨ i = w.heap.size + 2) w7 w7.drew) := Lib.hid (Kept.refl _ _).drew
            refine wp_plan (fun V' => Kept (fun i => i = w.heap.size + 1 ∨ i = w.heap.size + 2) w7 V') [(0, false), (1, false), (2, false), (3, false), (4, true), (5, true)] (by kernel_rfl) (by kernel_rfl) HS0.out ?_
            simp only [planL, List.getElem?_cons_zero, List.getElem?_cons_succ]
            repeat (first | (refine plan_on _ (by rfl) (fun W hW => by (obtain ⟨q0, q1, q2, q3, q4, q5⟩ := HSC.out W hW; go_simp; try with_reducible rfl)) ?_; simp only [Act.put, List.setIfInBounds_toArray, List.set_cons_zero, List.set_cons_succ]) | (refine plan_off (by rfl) ?_; simp only [Act.put, List.setIfInBounds_toArray, List.set_cons_zero, List.set_cons_succ]))
            refine plan_turn ?_
            refine wpList_store_blk w7.drew rfl STA _ _ rfl 0 #[.slice (some ⟨g, o, none⟩) n c, .int .i64 J', .bool true] rfl rfl HB7.out.2.1.drew (by show 0 + 3 ≤ 3; omega) (by kernel_rfl) (by simp [Value.oneCell']) ?_
            intro Wa hba hka hza
            have HBA : Hid (Blk Wa (w.heap.size + 1) STA #[.slice (some ⟨g, o, none⟩) n c, .int .i64 J', .bool true]) := Lib.hid hba
            have HKA : Hid (Kept (fun i => i = w.heap.size + 1 ∨ i = w.heap.size + 2) w7 Wa) := Lib.hid (HS0.out.trans' hka (fun i _ hi => Or.inl hi))
            have HBZ : Hid (Blk Wa (w.heap.size + 2) NOA #[.int .i64 0, .slice none 0 0, .string ⟨#[]⟩]) := Lib.hid (HB7.out.2.2.drew.kept hka (by omega))
            clear hba hka hza
            go_wp2_with fail
            refine ⟨HKA.out, ?_⟩
            refine plan_turn ?_
            refine wpList_store_blk Wa rfl NOA _ _ rfl 0 #[.int .i64 v.k, .slice v.A v.m v.c, .string v.s] rfl rfl HBZ.out (by show 0 + 3 ≤ 3; omega) (by kernel_rfl) (by simp [Value.oneCell']) ?_
            intro Wb hbb hkb hzb
            have HBB : Hid (Blk Wb (w.heap.size + 2) NOA #[.int .i64 v.k, .slice v.A v.m v.c, .string v.s]) := Lib.hid hbb
            have HBA2 : Hid (Blk Wb (w.heap.size + 1) STA #[.slice (some ⟨g, o, none⟩) n c, .int .i64 J', .bool true]) := Lib.hid (HBA.out.kept hkb (by omega))
            have HKB : Hid (Kept (fun i => i = w.heap.size + 1 ∨ i = w.heap.size + 2) w7 Wb) := Lib.hid (HKA.out.trans' hkb (fun i _ hi => Or.inr hi))
            clear hbb hkb hzb
            go_wp2_with fail
            refine ⟨HKB.out, ?_⟩
            refine plan_done ?_
            go_wp2_with fail
            refine bodyPost_ret (results_cc (rb := w.heap.size + 1) (rc := w.heap.size + 2) rfl rfl rfl (load_st HBA2.out) (load_no HBB.out)) rfl ?_
            have HDP2 := HDP.out
            rw [HXE.out, List.nil_append] at HDP2
            have hkk : Kept (fun i => w.heap.size ≤ i ∧ i < Bn) w7 Wb := HKB.out.mono (fun i _ hi => by have := HBN.out; omega)
            exact ⟨v, true, J', _, rfl, HDP2.fin1 (B := B) (k := 0) (by omega) (by have := HBN.out; omega) (Or.inr HN.out) hkk ((HOKD.out Wb hkk).mono (by omega))⟩
          · have hm2 : 1 ≤ m1 := by omega
            have HR7 := Lib.hid (RowD.of_own HO7.out (by rw [List.length_append, HXL.out, HPVL.out]))
            obtain ⟨we, hwe⟩ : ∃ we, (((((w7.setCell ⟨w.heap.size + 1, 0, none⟩ (.slice (some ⟨g, o, none⟩) n c)).setCell ⟨w.heap.size + 1, 1, none⟩ (.int .i64 J')).setCell ⟨w.heap.size + 1, 2, none⟩ (.bool true)).setCell ⟨w.heap.size + 1 + 1, 0, none⟩ (.int .i64 1)).setCell ⟨w.heap.size + 1 + 1, 1, none⟩ (.slice A7 (m1 + 1) c7)).setCell ⟨w.heap.size + 1 + 1, 2, none⟩ (.string ⟨#[]⟩) = we := ⟨_, rfl⟩
            have HSE := Lib.hid (store6 HB7.out.2.1 HB7.out.2.2 (by omega) hwe)
            obtain ⟨l0, l1, l2, k0, k1, k2⟩ := HB7.out.2.1.at3
            obtain ⟨l3, l4, l5, k3, k4, k5⟩ := HB7.out.2.2.at3
            have hq1 : (((m1 + 1 : Nat) : Int) == 1) = false := by rw [beq_eq_false_iff_ne]; omega
            go_wp2_with fail
            refine bodyPost_ret (results_cc (rb := w.heap.size + 1) (rc := w.heap.size + 1 + 1) rfl rfl rfl (load_st HSE.out.1) (load_no (k := 1) HSE.out.2.1)) rfl ?_
            exact ⟨⟨1, A7, m1 + 1, c7, ⟨#[]⟩⟩, true, J', _, rfl, HDP.out.fin2 (B := B) (k := 0) (by omega) (by have := HBN.out; omega) (Or.inr HN.out) (HSE.out.2.2.mono (fun i _ hi => by have := HBN.out; omega)) HR7.out (by omega)⟩

set_option maxHeartbeats 8000000 in
set_option maxRecDepth 100000 in
theorem drow1_of (m : Nat) (hsub : ∀ m', m' ≤ m → DrOk 36 (args2) 2 m') : DrOk 23 (argsR 1) 1 m := by
  intro A n c all I B d i e w hi he henv hI hm hd40 hB
  subst hi he
  obtain ⟨i0, hi0, hz0, hz1, hz2⟩ := info_parts dn_info
  obtain ⟨t, g, o, ht, hhd, hsz, hne, rfl, hg, e0, e1⟩ := henv.at hI
  clear ht hhd hsz hne e0 e1 hg t
  show Calls Tryz.prog 23 #[.agg #[.slice (some ⟨g, o, none⟩) n c, .int .i64 I, .bool true], .int .i64 d, .string ⟨#[97, 110, 100]⟩, .int .i64 2] w fun e w' => DrPost 1 B d (some ⟨g, o, none⟩) n c all I w e w'
  have HENV := Lib.hid henv
  have HLEN : Hid (all.length = n) := Lib.hid henv.len
  have hfew : n ≤ 3001 := henv.few
  have Hsub := Lib.hid hsub
  clear henv hsub
  obtain ⟨w1, hw1⟩ : ∃ w1, w.alloc (.cells #[.slice (some ⟨g, o, none⟩) n c, .int .i64 I, .bool true] STA) = w1 := ⟨_, rfl⟩
  obtain ⟨w2, hw2⟩ : ∃ w2, w1.alloc (.cells #[.slice none 0 0, .int .i64 0, .bool false] STA) = w2 := ⟨_, rfl⟩
  obtain ⟨w3, hw3⟩ : ∃ w3, w2.alloc (.cells #[.int .i64 0, .slice none 0 0, .string ⟨#[]⟩] NOA) = w3 := ⟨_, rfl⟩
  have z1 : w1.heap.size = w.heap.size + 1 := by rw [← hw1]; simp
  have z2 : w2.heap.size = w.heap.size + 1 + 1 := by rw [← hw2]; simp [z1]
  have z3 : w3.heap.size = w.heap.size + 3 := by rw [← hw3]; simp [z2]
  have k1 : Below w.heap.size w w1 := by rw [← hw1]; exact (Below.refl _ _).alloc (Nat.le_refl _) _
  have k2 : Below w1.heap.size w1 w2 := by rw [← hw2]; exact (Below.refl _ _).alloc (Nat.le_refl _) _
  have k3 : Below w2.heap.size w2 w3 := by rw [← hw3]; exact (Below.refl _ _).alloc (Nat.le_refl _) _
  have B2 : Blk w3 w.heap.size STA #[.slice (some ⟨g, o, none⟩) n c, .int .i64 I, .bool true] := by
    have : Blk w1 w.heap.size STA #[.slice (some ⟨g, o, none⟩) n c, .int .i64 I, .bool true] := by rw [← hw1]; exact Blk.new _ _ _
    exact (this.under k2).under k3
  have B4 : Blk w3 (w.heap.size + 1) STA #[.slice none 0 0, .int .i64 0, .bool false] := by
    have : Blk w2 w1.heap.size STA #[.slice none 0 0, .int .i64 0, .bool false] := by rw [← hw2]; exact Blk.new _ _ _
    rw [z1] at this
    exact this.under k3
  have B5 : Blk w3 (w.heap.size + 2) NOA #[.int .i64 0, .slice none 0 0, .string ⟨#[]⟩] := by
    have : Blk w3 w2.heap.size NOA #[.int .i64 0, .slice none 0 0, .string ⟨#[]⟩] := by rw [← hw3]; exact Blk.new _ _ _
    rw [z2] at this
    exact this
  have HK : Hid (Below w.heap.size w w3) := Lib.hid ((k1.trans (k2.mono (by omega))).trans (k3.mono (by omega)))
  obtain ⟨Bn, hBn⟩ : ∃ Bn, w3.heap.size = Bn := ⟨_, rfl⟩
  have HBN : Hid (Bn = w.heap.size + 3) := Lib.hid (by rw [← hBn, z3])
  obtain ⟨w4, hw4⟩ : ∃ w4, w3.alloc (.cells #[] NOA) = w4 := ⟨_, rfl⟩
  have HST : Hid (∃ (m1 c1 : Nat) (A1 : Option Addr) (xs : List DV) (J : Nat) (ms : List Nd), Value.slice (some ⟨Bn, 0, none⟩) 0 0 = .slice A1 m1 c1 ∧ Hid (xs.length = m1) ∧ Hid (w4.ownsRow Bn NOA 3 (.slice A1 m1 c1) m1 (xs.flatMap DV.cs)) ∧ Hid (RowDs 1 Bn d (Value.slice A1 m1 c1).ownBlock all I w w4 xs J ms) ∧ Hid (Blk w4 w.heap.size STA #[.slice (some ⟨g, o, none⟩) n c, .int .i64 J, .bool true] ∧ Blk w4 (w.heap.size + 1) STA #[.slice none 0 0, .int .i64 0, .bool false] ∧ Blk w4 (w.heap.size + 2) NOA #[.int .i64 0, .slice none 0 0, .string ⟨#[]⟩])) := Lib.hid (by
    have hk4 : Below w3.heap.size w3 w4 := by rw [← hw4]; exact (Below.refl _ _).alloc (Nat.le_refl _) _
    refine ⟨0, 0, _, [], I, [], rfl, Lib.hid rfl, Lib.hid (by rw [← hw4, ← hBn]; exact own_empty _ _ _), Lib.hid (RowDs.start _ _ _ _ _ _ _ _ (by rw [HLEN.out]; exact hI) (HK.out.trans (hk4.mono (by omega))) (fun j hj => ?_)), Lib.hid ⟨B2.under hk4, B4.under hk4, B5.under hk4⟩⟩
    have hj2 : some Bn = some j := hj
    injection hj2 with hj2
    have := HBN.out
    omega)
  clear k1 k2 k3 B2 B4 B5 z3
  go_enter Tryz.func23, Tryz.ntmps23
  go_wp2_with fail
  clear hw1 hw2 hw3 hw4 hBn z1 z2
  go_loopw [10] (fun v10 wr => ∃ (m1 c1 : Nat) (A1 : Option Addr) (xs : List DV) (J : Nat) (ms : List Nd), v10 = .slice A1 m1 c1 ∧ Hid (xs.length = m1) ∧ Hid (wr.ownsRow Bn NOA 3 (.slice A1 m1 c1) m1 (xs.flatMap DV.cs)) ∧ Hid (RowDs 1 Bn d (Value.slice A1 m1 c1).ownBlock all I w wr xs J ms) ∧ Hid (Blk wr w.heap.size STA #[.slice (some ⟨g, o, none⟩) n c, .int .i64 J, .bool true] ∧ Blk wr (w.heap.size + 1) STA #[.slice none 0 0, .int .i64 0, .bool false] ∧ Blk wr (w.heap.size + 2) NOA #[.int .i64 0, .slice none 0 0, .string ⟨#[]⟩])) (fun _ wr => mesD w.heap.size n wr)
  case atStart => exact HST.out
  case round =>
    clear HST
    obtain ⟨m1, c1, A1, xs, J, ms, rfl, HXL, hown, hri, HBR⟩ := hrel
    have HME : Hid (mesD w.heap.size n wr = n - J) := Lib.hid (mesD_is HBR.out.1)
    have hJI : I ≤ J := hri.out.le
    have hJn : J < n := by rw [← HLEN.out]; exact hri.out.lt
    have hm1 : m1 ≤ J - I := by rw [← HXL.out]; exact hri.out.few
    have HZR : Hid (Bn ≤ wr.heap.size) := Lib.hid (by have := HBN.out; have := HBR.out.2.2.lt; omega)
    obtain ⟨wa, hwa⟩ : ∃ wa, wr.alloc (.cells #[.int .i64 0, .slice none 0 0, .string ⟨#[]⟩] NOA) = wa := ⟨_, rfl⟩
    obtain ⟨wb, hwb⟩ : ∃ wb, ((wa.setCell ⟨wr.heap.size, 0, none⟩ (.int .i64 0)).setCell ⟨wr.heap.size, 1, none⟩ (.slice none 0 0)).setCell ⟨wr.heap.size, 2, none⟩ (.string ⟨#[]⟩) = wb := ⟨_, rfl⟩
    have HAB := Lib.hid (set3_new wr wa wb _ _ _ hwa hwb)
    have HBB : Hid (Blk wb w.heap.size STA #[.slice (some ⟨g, o, none⟩) n c, .int .i64 J, .bool true] ∧ Blk wb (w.heap.size + 1) STA #[.slice none 0 0, .int .i64 0, .bool false] ∧ Blk wb (w.heap.size + 2) NOA #[.int .i64 0, .slice none 0 0, .string ⟨#[]⟩]) := Lib.hid ⟨HBR.out.1.under HAB.out.2.1, HBR.out.2.1.under HAB.out.2.1, HBR.out.2.2.under HAB.out.2.1⟩
    have HWB : Hid (Below w.heap.size w wb) := Lib.hid (hri.out.below.trans (HAB.out.2.1.mono hri.out.below.size))
    have HC : Hid (Calls Tryz.prog 36 #[.agg #[.slice (some ⟨g, o, none⟩) n c, .int .i64 J, .bool true], .int .i64 d] wb fun e w' => DrPost 2 wb.heap.size d (some ⟨g, o, none⟩) n c all J wb e w') := Lib.hid (Hsub.out (n - J) (by omega) (some ⟨g, o, none⟩) n c all J wb.heap.size d _ _ wb rfl rfl (HENV.out.below HWB.out) hJn rfl hd40 (Nat.le_refl _))
    have ba : Blk wa wr.heap.size NOA #[.int .i64 0, .slice none 0 0, .string ⟨#[]⟩] := by rw [← hwa]; exact Blk.new _ _ _
    obtain ⟨r0, r1, r2, r3, r4, r5⟩ := ba.at3
    obtain ⟨u0, u1, u2, u3, u4, u5⟩ := HBB.out.1.at3
    clear ba
    go_wp2_with fail
    refine HC.out.mono ?_
    rintro e w2 ⟨v, ok, J', ns, rfl, hdi⟩
    have HDI := Lib.hid hdi
    clear hdi hwa hwb r0 r1 r2 r3 r4 r5 u0 u1 u2 u3 u4 u5 HC
    have HB2 : Hid (Blk w2 w.heap.size STA #[.slice (some ⟨g, o, none⟩) n c, .int .i64 J, .bool true] ∧ Blk w2 (w.heap.size + 1) STA #[.slice none 0 0, .int .i64 0, .bool false] ∧ Blk w2 (w.heap.size + 2) NOA #[.int .i64 0, .slice none 0 0, .string ⟨#[]⟩] ∧ Blk w2 wr.heap.size NOA #[.int .i64 0, .slice none 0 0, .string ⟨#[]⟩]) := Lib.hid ⟨HBB.out.1.under HDI.out.below, HBB.out.2.1.under HDI.out.below, HBB.out.2.2.under HDI.out.below, HAB.out.1.under HDI.out.below⟩
    obtain ⟨wc, hwc⟩ : ∃ wc, (((((w2.setCell ⟨w.heap.size, 0, none⟩ (.slice (some ⟨g, o, none⟩) n c)).setCell ⟨w.heap.size, 1, none⟩ (.int .i64 J')).setCell ⟨w.heap.size, 2, none⟩ (.bool ok)).setCell ⟨wr.heap.size, 0, none⟩ (.int .i64 v.k)).setCell ⟨wr.heap.size, 1, none⟩ (.slice v.A v.m v.c)).setCell ⟨wr.heap.size, 2, none⟩ (.string v.s) = wc := ⟨_, rfl⟩
    have hne4 : w.heap.size ≠ wr.heap.size := by have := HBR.out.1.lt; omega
    have hlt4 : w.heap.size < wr.heap.size := HBR.out.1.lt
    have HSC3 := Lib.hid (store6 HB2.out.1 HB2.out.2.2.2 hne4 hwc)
    obtain ⟨m0, m1', m2, p0, p1, p2⟩ := HB2.out.1.at3
    obtain ⟨m3, m4, m5, p3, p4, p5⟩ := HB2.out.2.2.2.at3
    go_upto_region 6 with fail
    clear hwc m0 m1' m2 p0 p1 p2 m3 m4 m5 p3 p4 p5 hne4
    obtain ⟨n0, n1, n2, _, _, _⟩ := HSC3.out.2.1.at3
    have HBC : Hid (Blk wc (w.heap.size + 1) STA #[.slice none 0 0, .int .i64 0, .bool false] ∧ Blk wc (w.heap.size + 2) NOA #[.int .i64 0, .slice none 0 0, .string ⟨#[]⟩]) := Lib.hid (by
      have h1 := HBN.out
      have h2 := HZR.out
      exact ⟨HB2.out.2.1.kept HSC3.out.2.2 (fun h => by omega), HB2.out.2.2.1.kept HSC3.out.2.2 (fun h => by omega)⟩)
    have hJ' : J ≤ J' := HDI.out.le
    have hJ'n : J' < n := by rw [← HLEN.out]; exact HDI.out.lt
    have HZ2 : Hid (wr.heap.size + 1 ≤ w2.heap.size ∧ w2.heap.size ≤ wc.heap.size) := Lib.hid ⟨by have := HDI.out.below.size; have := HAB.out.2.2; omega, HSC3.out.2.2.size⟩
    have hzc : Bn ≤ wc.heap.size := by have := HZ2.out; have := HZR.out; omega
    have HOC : Hid (wc.ownsRow Bn NOA 3 (.slice A1 m1 c1) m1 (xs.flatMap DV.cs)) := Lib.hid (own_block hown.out (fun j hj => by
      have h1 := hown.out.lt j hj
      have h2 := HBN.out
      have h3 := HAB.out.2.2
      have h4 := HZ2.out
      exact ((HSC3.out.2.2.block j (by omega) (fun h => by omega)).trans (HDI.out.below.block j (by omega))).trans (HAB.out.2.1.block j (by omega))))
    by_cases hvk : v.k = 2
    · have hq0 : ((v.k : Int) == 2) = true := by rw [beq_iff_eq]; omega
      obtain ⟨PV, hPV⟩ := HDI.out.okd.row
      have HPV : Hid ((v.k = 1 + 1 ∧ RowD w2 wb.heap.size v.A v.m v.c PV) ∨ (v.k ≠ 1 + 1 ∧ PV = [v])) := Lib.hid (Or.inl ⟨hvk, hPV⟩)
      have HPVL : Hid (PV.length = v.m) := Lib.hid hPV.len
      have hvm : 2 ≤ v.m := HDI.out.okd.many (by omega)
      have hvf : v.m ≤ 1 + J' - J := HDI.out.okd.few
      have HPVF : Hid (PV.length ≤ 1 + J' - J) := Lib.hid (by rw [hPV.len]; exact hvf)
      have HPR : Hid (RowD wc wb.heap.size v.A v.m v.c PV) := Lib.hid (hPV.keep HSC3.out.2.2.size (fun i hi hBi => HSC3.out.2.2.block i hi (fun h => by have := HAB.out.2.2; have := HBN.out; omega)))
      clear hvk hPV
      go_upto_region 9 with (first
        | (at_builtin; refine wpList_append_row _ rfl _ _ 31 rfl Bn NOA i0 _ 3 48 Tryz.underlying31 hi0 hz0 hz1 hz2 rfl (by omega) (.slice A1 m1 c1) m1 _ rfl HOC.out wc.heap.size v.A v.m v.c (PV.flatMap DV.cs) rfl HPR.out.row HPR.out.nc (flat_ones PV) (by unfold maxLen; omega) (by omega) (by first | omega | (simp; omega)) ?_; intro v7 w7 ho7 hg7 hv7))
      obtain ⟨A7, c7, hr7⟩ := own_shape ho7
      subst hr7
      have HO7 : Hid (w7.ownsRow Bn NOA 3 (.slice A7 (m1 + v.m) c7) (m1 + v.m) ((xs ++ PV).flatMap DV.cs)) := Lib.hid (by rw [List.flatMap_append]; exact ho7)
      have HDP : Hid (RowDp 1 Bn d (Value.slice A7 (m1 + v.m) c7).ownBlock all I w w7 (xs ++ PV) ok J' (ms ++ [nodeOf (1 + 1) ns])) := Lib.hid (by
        have hbn := HBN.out
        exact RowDp.of (by omega) rfl (by omega) HZR.out hri.out (fun j hj => hown.out.lt j hj) HAB.out.2.1 HDI.out (by have := HAB.out.2.2; omega) HSC3.out.2.2 (Nat.le_refl _) (by omega) (Nat.le_refl _) (by have := HAB.out.2.2; omega) (Below.refl _ _) hg7 hv7 HPV.out (by have := HPVF.out; omega))
      have HB7 : Hid (Blk w7 w.heap.size STA #[.slice (some ⟨g, o, none⟩) n c, .int .i64 J', .bool ok] ∧ Blk w7 (w.heap.size + 1) STA #[.slice none 0 0, .int .i64 0, .bool false] ∧ Blk w7 (w.heap.size + 2) NOA #[.int .i64 0, .slice none 0 0, .string ⟨#[]⟩]) := Lib.hid (by
        have hbn := HBN.out
        have hne : ∀ b, b < Bn → some b ≠ (Value.slice A1 m1 c1).ownBlock := fun b hb e => by have := (hown.out.lt b e.symm).1; omega
        exact ⟨HSC3.out.1.grown hg7 (hne _ (by omega)), HBC.out.1.grown hg7 (hne _ (by omega)), HBC.out.2.grown hg7 (hne _ (by omega))⟩)
      clear ho7 hg7 hv7
      obtain ⟨s0, s1, s2, s3, s4, s5⟩ := HB7.out.1.at3
      have HE7 : Hid (Env w7 (some ⟨g, o, none⟩) n c all) := Lib.hid (HENV.out.below HDP.out.below)
      cases ok
      · skip
        have HR7 := Lib.hid (RowD.of_own HO7.out (by rw [List.length_append, HXL.out, HPVL.out]))
        obtain ⟨we, hwe⟩ : ∃ we, (((((w7.setCell ⟨w.heap.size + 1, 0, none⟩ (.slice (some ⟨g, o, none⟩) n c)).setCell ⟨w.heap.size + 1, 1, none⟩ (.int .i64 J')).setCell ⟨w.heap.size + 1, 2, none⟩ (.bool false)).setCell ⟨w.heap.size + 1 + 1, 0, none⟩ (.int .i64 2)).setCell ⟨w.heap.size + 1 + 1, 1, none⟩ (.slice A7 (m1 + v.m) c7)).setCell ⟨w.heap.size + 1 + 1, 2, none⟩ (.string ⟨#[]⟩) = we := ⟨_, rfl⟩
        have HSE := Lib.hid (store6 HB7.out.2.1 HB7.out.2.2 (by omega) hwe)
        obtain ⟨l0, l1, l2, k0, k1, k2⟩ := HB7.out.2.1.at3
        obtain ⟨l3, l4, l5, k3, k4, k5⟩ := HB7.out.2.2.at3
        have hq1 : (((m1 + v.m : Nat) : Int) == 1) = false := by rw [beq_eq_false_iff_ne]; omega
        go_wp2_with fail
        refine bodyPost_ret (results_cc (rb := w.heap.size + 1) (rc := w.heap.size + 1 + 1) rfl rfl rfl (load_st HSE.out.1) (load_no (k := 2) HSE.out.2.1)) rfl ?_
        exact ⟨⟨2, A7, m1 + v.m, c7, ⟨#[]⟩⟩, false, J', _, rfl, HDP.out.fin2 (B := B) (k := 1) (by omega) (by have := HBN.out; omega) (Or.inl rfl) (HSE.out.2.2.mono (fun i _ hi => by have := HBN.out; omega)) HR7.out (by omega)⟩
      · obtain ⟨t8, g8, o8, ht8, hhd8, hsz8, hne8, eg8, hg8, e8, _⟩ := HE7.out.at hJ'n
        injection eg8 with eg8
        injection eg8 with eg8 eo8
        subst eg8 eo8
        obtain ⟨y, hy⟩ : ∃ y, t8.1 = y := ⟨_, rfl⟩
        rw [hy] at hhd8 hsz8 hne8 e8
        have HHD8 := Lib.hid hhd8
        have HNE8 := Lib.hid hne8
        clear hy ht8 hhd8 hne8
        by_cases hyc : y = wordOf 1
        · have q3 : (y.toList == [97, 110, 100]) = true := lit_yes hyc
          have q4 : (!(y.toList == [97, 110, 100])) = false := by rw [q3]; rfl
          have hJ2 : J' + 1 < n := HNE8.out (by rw [hyc]; decide)
          have HHY := Lib.hid (HHD8.out.trans hyc)
          have hJw : IntKind.i64.wrap ((J' : Int) + 1) = (J' : Int) + 1 := by rw [IntKind.wrap_i64]; omega
          clear hyc
          obtain ⟨wz, hwz⟩ : ∃ wz, w7.setCell ⟨w.heap.size, 1, none⟩ (.int .i64 ((J' : Int) + 1)) = wz := ⟨_, rfl⟩
          have HKZ : Hid (Kept (fun i => i = w.heap.size) w7 wz) := Lib.hid (by rw [← hwz]; exact (Kept.refl (fun i => i = w.heap.size) w7).setCell (p := ⟨w.heap.size, 1, none⟩) (Or.inl rfl) _)
          have HBZ : Hid (Blk wz w.heap.size STA #[.slice (some ⟨g, o, none⟩) n c, .int .i64 (J' + 1 : Nat), .bool true] ∧ Blk wz (w.heap.size + 1) STA #[.slice none 0 0, .int .i64 0, .bool false] ∧ Blk wz (w.heap.size + 2) NOA #[.int .i64 0, .slice none 0 0, .string ⟨#[]⟩]) := Lib.hid (by
            have e : #[Value.slice (some ⟨g, o, none⟩) n c, .int .i64 J', .bool true].setIfInBounds 1 (.int .i64 ((J' : Int) + 1)) = #[.slice (some ⟨g, o, none⟩) n c, .int .i64 (J' + 1 : Nat), .bool true] := by simp
            rw [← hwz]
            exact ⟨by rw [← e]; exact HB7.out.1.set_ 1 _, HB7.out.2.1.far1 (by omega) _ _, HB7.out.2.2.far1 (by omega) _ _⟩)
          have HRN : Hid (RowDs 1 Bn d (Value.slice A7 (m1 + v.m) c7).ownBlock all I w wz (xs ++ PV) (J' + 1) (ms ++ [nodeOf (1 + 1) ns])) := Lib.hid (HDP.out.next (by have := HBN.out; omega) HHY.out (by rw [HLEN.out]; exact hJ2) HKZ.out (Nat.le_refl _) (by have := HBN.out; omega))
          have HON : Hid (wz.ownsRow Bn NOA 3 (.slice A7 (m1 + v.m) c7) (m1 + v.m) ((xs ++ PV).flatMap DV.cs)) := Lib.hid (own_block HO7.out (fun j hj => HKZ.out.block j (HO7.out.lt j hj).2 (fun e => by have h1 := (HO7.out.lt j hj).1; have h2 := HBN.out; have h3 : j = w.heap.size := e; omega)))
          have HMZ := Lib.hid (mesD_is (n := n) HBZ.out.1)
          go_wp2_with fail
          go_roundw
          case rel => exact ⟨m1 + v.m, c7, A7, xs ++ PV, J' + 1, _, rfl, Lib.hid (by rw [List.length_append, HXL.out, HPVL.out]), HON, HRN, HBZ⟩
          case measure => rw [HMZ.out, HME.out]; omega
        · have q3 : (y.toList == [97, 110, 100]) = false := lit_no hyc
          have q4 : (!(y.toList == [97, 110, 100])) = true := by rw [q3]; rfl
          have HN : Hid (hd (tx (all.drop J')) ≠ wordOf 1) := Lib.hid (fun e => hyc (HHD8.out.symm.trans e))
          clear hyc
          have HR7 := Lib.hid (RowD.of_own HO7.out (by rw [List.length_append, HXL.out, HPVL.out]))
          obtain ⟨we, hwe⟩ : ∃ we, (((((w7.setCell ⟨w.heap.size + 1, 0, none⟩ (.slice (some ⟨g, o, none⟩) n c)).setCell ⟨w.heap.size + 1, 1, none⟩ (.int .i64 J')).setCell ⟨w.heap.size + 1, 2, none⟩ (.bool true)).setCell ⟨w.heap.size + 1 + 1, 0, none⟩ (.int .i64 2)).setCell ⟨w.heap.size + 1 + 1, 1, none⟩ (.slice A7 (m1 + v.m) c7)).setCell ⟨w.heap.size + 1 + 1, 2, none⟩ (.string ⟨#[]⟩) = we := ⟨_, rfl⟩
          have HSE := Lib.hid (store6 HB7.out.2.1 HB7.out.2.2 (by omega) hwe)
          obtain ⟨l0, l1, l2, k0, k1, k2⟩ := HB7.out.2.1.at3
          obtain ⟨l3, l4, l5, k3, k4, k5⟩ := HB7.out.2.2.at3
          have hq1 : (((m1 + v.m : Nat) : Int) == 1) = false := by rw [beq_eq_false_iff_ne]; omega
          go_wp2_with fail
          refine bodyPost_ret (results_cc (rb := w.heap.size + 1) (rc := w.heap.size + 1 + 1) rfl rfl rfl (load_st HSE.out.1) (load_no (k := 2) HSE.out.2.1)) rfl ?_
          exact ⟨⟨2, A7, m1 + v.m, c7, ⟨#[]⟩⟩, true, J', _, rfl, HDP.out.fin2 (B := B) (k := 1) (by omega) (by have := HBN.out; omega) (Or.inr HN.out) (HSE.out.2.2.mono (fun i _ hi => by have := HBN.out; omega)) HR7.out (by omega)⟩
    · have hq0 : ((v.k : Int) == 2) = false := by rw [beq_eq_false_iff_ne]; omega
      obtain ⟨PV, hPVe⟩ : ∃ PV, [v] = PV := ⟨_, rfl⟩
      have HPV : Hid ((v.k = 1 + 1 ∧ RowD w2 wb.heap.size v.A v.m v.c PV) ∨ (v.k ≠ 1 + 1 ∧ PV = [v])) := Lib.hid (Or.inr ⟨hvk, hPVe.symm⟩)
      have HPVL : Hid (PV.length = 1) := Lib.hid (by rw [← hPVe]; rfl)
      have HPVF : Hid (PV.length ≤ 1 + J' - J) := Lib.hid (by rw [HPVL.out]; omega)
      subst hPVe
      clear hvk
      go_upto_region 9 with (first
        | (at_builtin; refine wpList_append_row _ rfl _ _ 31 rfl Bn NOA i0 _ 3 48 Tryz.underlying31 hi0 hz0 hz1 hz2 rfl (by omega) (.slice A1 m1 c1) m1 _ rfl (HOC.out.alloc _) (wc.heap.size + 1) (some ⟨wc.heap.size, 0, none⟩) 1 1 [.int .i64 v.k, .slice v.A v.m v.c, .string v.s] rfl (one_dv wc v) (fun h => by cases h) (dv_one v) (by unfold maxLen; omega) (by omega) (by first | omega | (simp; omega)) ?_; intro v7 w7 ho7 hg7 hv7))
      obtain ⟨A7, c7, hr7⟩ := own_shape ho7
      subst hr7
      have HO7 : Hid (w7.ownsRow Bn NOA 3 (.slice A7 (m1 + 1) c7) (m1 + 1) ((xs ++ [v]).flatMap DV.cs)) := Lib.hid (by rw [List.flatMap_append, List.flatMap_singleton]; exact ho7)
      have HDP : Hid (RowDp 1 Bn d (Value.slice A7 (m1 + 1) c7).ownBlock all I w w7 (xs ++ [v]) ok J' (ms ++ [nodeOf (1 + 1) ns])) := Lib.hid (by
        have hbn := HBN.out
        exact RowDp.of (by omega) rfl (by omega) HZR.out hri.out (fun j hj => hown.out.lt j hj) HAB.out.2.1 HDI.out (by have := HAB.out.2.2; omega) HSC3.out.2.2 (Nat.le_refl _) (by omega) (Nat.le_refl _) (by have := HAB.out.2.2; omega) ((Below.refl _ _).alloc (Nat.le_refl _) _) hg7 hv7 HPV.out (by have := HPVF.out; omega))
      have HB7 : Hid (Blk w7 w.heap.size STA #[.slice (some ⟨g, o, none⟩) n c, .int .i64 J', .bool ok] ∧ Blk w7 (w.heap.size + 1) STA #[.slice none 0 0, .int .i64 0, .bool false] ∧ Blk w7 (w.heap.size + 2) NOA #[.int .i64 0, .slice none 0 0, .string ⟨#[]⟩]) := Lib.hid (by
        have hbn := HBN.out
        have hne : ∀ b, b < Bn → some b ≠ (Value.slice A1 m1 c1).ownBlock := fun b hb e => by have := (hown.out.lt b e.symm).1; omega
        exact ⟨(HSC3.out.1.alloc _).grown hg7 (hne _ (by omega)), (HBC.out.1.alloc _).grown hg7 (hne _ (by omega)), (HBC.out.2.alloc _).grown hg7 (hne _ (by omega))⟩)
      have HG7 := Lib.hid hg7
      have HOKD : Hid (∀ W, Kept (fun i => w.heap.size ≤ i ∧ i < Bn) w7 W → DOk W B (1 + J' - J) v) := Lib.hid (fun W hW => by
        have hbn := HBN.out
        have hz2 := HZ2.out
        have hab := HAB.out.2.2
        have hzr := HZR.out
        have hg7s := HG7.out.size
        refine (HDI.out.okd.keep (w' := W) (by have := hW.size; have := hg7s; simp at this; omega) (fun i hi hBi => ?_)).low (by omega)
        have h1 : some i ≠ (Value.slice A1 m1 c1).ownBlock := fun e => by have := (hown.out.lt i e.symm).2; omega
        refine (hW.block i (by simp at hg7s; omega) (fun h => by omega)).trans ?_
        refine (HG7.out.block i (by simp; omega) h1).trans ?_
        refine (Below.heap_alloc wc _ i (by omega)).trans ?_
        exact HSC3.out.2.2.block i hi (fun h => by omega))
      clear ho7 hg7 hv7
      obtain ⟨s0, s1, s2, s3, s4, s5⟩ := HB7.out.1.at3
      have HE7 : Hid (Env w7 (some ⟨g, o, none⟩) n c all) := Lib.hid (HENV.out.below HDP.out.below)
      cases ok
      · skip
        by_cases hm0 : m1 = 0
        · skip
          have hq1 : ((((m1 + 1 : Nat)) : Int) == 1) = true := by rw [beq_iff_eq]; omega
          have hm1 : m1 + 1 = 1 := by omega
          have HR7 := Lib.hid (RowD.of_own HO7.out (by rw [List.length_append, HXL.out, HPVL.out]))
          have HXE : Hid (xs = []) := Lib.hid (List.length_eq_zero_iff.1 (by rw [HXL.out]; omega))
          obtain ⟨ga, oa, hA7, hga, hca⟩ := HR7.out.get (i := 0) (x := v) (by rw [HXE.out]; rfl)
          subst hA7
          have HGA : Hid (Bn ≤ ga ∧ ga < w7.heap.size) := Lib.hid ⟨HR7.out.far ga oa rfl, hga⟩
          have HSC : Hid (∀ W, Kept (fun i => i = w.heap.size + 1 ∨ i = w.heap.size + 2) w7 W → W.cell? ⟨w.heap.size, 0, none⟩ = some (.slice (some ⟨g, o, none⟩) n c) ∧ W.cell? ⟨w.heap.size, 1, none⟩ = some (.int .i64 J') ∧ W.cell? ⟨w.heap.size, 2, none⟩ = some (.bool false) ∧ W.cell? ⟨ga, oa, none⟩ = some (.int .i64 v.k) ∧ W.cell? ⟨ga, oa + 1, none⟩ = some (.slice v.A v.m v.c) ∧ W.cell? ⟨ga, oa + 2, none⟩ = some (.string v.s)) := Lib.hid (fun W hW => by
            have hb := HBN.out
            have hg := HGA.out
            have k1 := HB7.out.1.kept hW (fun h => by omega)
            have kc : ∀ j, W.cell? ⟨ga, oa + j, none⟩ = w7.cell? ⟨ga, oa + j, none⟩ := fun j => hW.cell hg.2 (fun h => by have h' : ga = w.heap.size + 1 ∨ ga = w.heap.size + 2 := h; omega)
            exact ⟨k1.cell 0, k1.cell 1, k1.cell 2, by have := (kc 0).trans (hca 0 _ rfl); simpa using this, by have := (kc 1).trans (hca 1 _ rfl); simpa using this, by have := (kc 2).trans (hca 2 _ rfl); simpa using this⟩)
          clear hca hga
          go_upto_region 12 with fail
          have HS0 : Hid (Kept (fun i => i = w.heap.size + 1 ∨ i = w.heap.size + 2) w7 w7.drew) := Lib.hid (Kept.refl _ _).drew
          refine wp_plan (fun V' => Kept (fun i => i = w.heap.size + 1 ∨ i = w.heap.size + 2) w7 V') [(0, false), (1, false), (2, false), (3, false), (4, true), (5, true)] (by kernel_rfl) (by kernel_rfl) HS0.out ?_
          simp only [planL, List.getElem?_cons_zero, List.getElem?_cons_succ]
          repeat (first | (refine plan_on _ (by rfl) (fun W hW => by (obtain ⟨q0, q1, q2, q3, q4, q5⟩ := HSC.out W hW; go_simp; try with_reducible rfl)) ?_; simp only [Act.put, List.setIfInBounds_toArray, List.set_cons_zero, List.set_cons_succ]) | (refine plan_off (by rfl) ?_; simp only [Act.put, List.setIfInBounds_toArray, List.set_cons_zero, List.set_cons_succ]))
          refine plan_turn ?_
          refine wpList_store_blk w7.drew rfl STA _ _ rfl 0 #[.slice (some ⟨g, o, none⟩) n c, .int .i64 J', .bool false] rfl rfl HB7.out.2.1.drew (by show 0 + 3 ≤ 3; omega) (by kernel_rfl) (by simp [Value.oneCell']) ?_
          intro Wa hba hka hza
          have HBA : Hid (Blk Wa (w.heap.size + 1) STA #[.slice (some ⟨g, o, none⟩) n c, .int .i64 J', .bool false]) := Lib.hid hba
          have HKA : Hid (Kept (fun i => i = w.heap.size + 1 ∨ i = w.heap.size + 2) w7 Wa) := Lib.hid (HS0.out.trans' hka (fun i _ hi => Or.inl hi))
          have HBZ : Hid (Blk Wa (w.heap.size + 2) NOA #[.int .i64 0, .slice none 0 0, .string ⟨#[]⟩]) := Lib.hid (HB7.out.2.2.drew.kept hka (by omega))
          clear hba hka hza
          go_wp2_with fail
          refine ⟨HKA.out, ?_⟩
          refine plan_turn ?_
          refine wpList_store_blk Wa rfl NOA _ _ rfl 0 #[.int .i64 v.k, .slice v.A v.m v.c, .string v.s] rfl rfl HBZ.out (by show 0 + 3 ≤ 3; omega) (by kernel_rfl) (by simp [Value.oneCell']) ?_
          intro Wb hbb hkb hzb
          have HBB : Hid (Blk Wb (w.heap.size + 2) NOA #[.int .i64 v.k, .slice v.A v.m v.c, .string v.s]) := Lib.hid hbb
          have HBA2 : Hid (Blk Wb (w.heap.size + 1) STA #[.slice (some ⟨g, o, none⟩) n c, .int .i64 J', .bool false]) := Lib.hid (HBA.out.kept hkb (by omega))
          have HKB : Hid (Kept (fun i => i = w.heap.size + 1 ∨ i = w.heap.size + 2) w7 Wb) := Lib.hid (HKA.out.trans' hkb (fun i _ hi => Or.inr hi))
          clear hbb hkb hzb
          go_wp2_with fail
          refine ⟨HKB.out, ?_⟩
          refine plan_done ?_
          go_wp2_with fail
          refine bodyPost_ret (results_cc (rb := w.heap.size + 1) (rc := w.heap.size + 2) rfl rfl rfl (load_st HBA2.out) (load_no HBB.out)) rfl ?_
          have HDP2 := HDP.out
          rw [HXE.out, List.nil_append] at HDP2
          have hkk : Kept (fun i => w.heap.size ≤ i ∧ i < Bn) w7 Wb := HKB.out.mono (fun i _ hi => by have := HBN.out; omega)
          exact ⟨v, false, J', _, rfl, HDP2.fin1 (B := B) (k := 1) (by omega) (by have := HBN.out; omega) (Or.inl rfl) hkk ((HOKD.out Wb hkk).mono (by omega))⟩
        · have hm2 : 1 ≤ m1 := by omega
          have HR7 := Lib.hid (RowD.of_own HO7.out (by rw [List.length_append, HXL.out, HPVL.out]))
          obtain ⟨we, hwe⟩ : ∃ we, (((((w7.setCell ⟨w.heap.size + 1, 0, none⟩ (.slice (some ⟨g, o, none⟩) n c)).setCell ⟨w.heap.size + 1, 1, none⟩ (.int .i64 J')).setCell ⟨w.heap.size + 1, 2, none⟩ (.bool false)).setCell ⟨w.heap.size + 1 + 1, 0, none⟩ (.int .i64 2)).setCell ⟨w.heap.size + 1 + 1, 1, none⟩ (.slice A7 (m1 + 1) c7)).setCell ⟨w.heap.size + 1 + 1, 2, none⟩ (.string ⟨#[]⟩) = we := ⟨_, rfl⟩
          have HSE := Lib.hid (store6 HB7.out.2.1 HB7.out.2.2 (by omega) hwe)
          obtain ⟨l0, l1, l2, k0, k1, k2⟩ := HB7.out.2.1.at3
          obtain ⟨l3, l4, l5, k3, k4, k5⟩ := HB7.out.2.2.at3
          have hq1 : (((m1 + 1 : Nat) : Int) == 1) = false := by rw [beq_eq_false_iff_ne]; omega
          go_wp2_with fail
          refine bodyPost_ret (results_cc (rb := w.heap.size + 1) (rc := w.heap.size + 1 + 1) rfl rfl rfl (load_st HSE.out.1) (load_no (k := 2) HSE.out.2.1)) rfl ?_
          exact ⟨⟨2, A7, m1 + 1, c7, ⟨#[]⟩⟩, false, J', _, rfl, HDP.out.fin2 (B := B) (k := 1) (by omega) (by have := HBN.out; omega) (Or.inl rfl) (HSE.out.2.2.mono (fun i _ hi => by have := HBN.out; omega)) HR7.out (by omega)⟩
      · obtain ⟨t8, g8, o8, ht8, hhd8, hsz8, hne8, eg8, hg8, e8, _⟩ := HE7.out.at hJ'n
        injection eg8 with eg8
        injection eg8 with eg8 eo8
        subst eg8 eo8
        obtain ⟨y, hy⟩ : ∃ y, t8.1 = y := ⟨_, rfl⟩
        rw [hy] at hhd8 hsz8 hne8 e8
        have HHD8 := Lib.hid hhd8
        have HNE8 := Lib.hid hne8
        clear hy ht8 hhd8 hne8
        by_cases hyc : y = wordOf 1
        · have q3 : (y.toList == [97, 110, 100]) = true := lit_yes hyc
          have q4 : (!(y.toList == [97, 110, 100])) = false := by rw [q3]; rfl
          have hJ2 : J' + 1 < n := HNE8.out (by rw [hyc]; decide)
          have HHY := Lib.hid (HHD8.out.trans hyc)
          have hJw : IntKind.i64.wrap ((J' : Int) + 1) = (J' : Int) + 1 := by rw [IntKind.wrap_i64]; omega
          clear hyc
          obtain ⟨wz, hwz⟩ : ∃ wz, w7.setCell ⟨w.heap.size, 1, none⟩ (.int .i64 ((J' : Int) + 1)) = wz := ⟨_, rfl⟩
          have HKZ : Hid (Kept (fun i => i = w.heap.size) w7 wz) := Lib.hid (by rw [← hwz]; exact (Kept.refl (fun i => i = w.heap.size) w7).setCell (p := ⟨w.heap.size, 1, none⟩) (Or.inl rfl) _)
          have HBZ : Hid (Blk wz w.heap.size STA #[.slice (some ⟨g, o, none⟩) n c, .int .i64 (J' + 1 : Nat), .bool true] ∧ Blk wz (w.heap.size + 1) STA #[.slice none 0 0, .int .i64 0, .bool false] ∧ Blk wz (w.heap.size + 2) NOA #[.int .i64 0, .slice none 0 0, .string ⟨#[]⟩]) := Lib.hid (by
            have e : #[Value.slice (some ⟨g, o, none⟩) n c, .int .i64 J', .bool true].setIfInBounds 1 (.int .i64 ((J' : Int) + 1)) = #[.slice (some ⟨g, o, none⟩) n c, .int .i64 (J' + 1 : Nat), .bool true] := by simp
            rw [← hwz]
            exact ⟨by rw [← e]; exact HB7.out.1.set_ 1 _, HB7.out.2.1.far1 (by omega) _ _, HB7.out.2.2.far1 (by omega) _ _⟩)
          have HRN : Hid (RowDs 1 Bn d (Value.slice A7 (m1 + 1) c7).ownBlock all I w wz (xs ++ [v]) (J' + 1) (ms ++ [nodeOf (1 + 1) ns])) := Lib.hid (HDP.out.next (by have := HBN.out; omega) HHY.out (by rw [HLEN.out]; exact hJ2) HKZ.out (Nat.le_refl _) (by have := HBN.out; omega))
          have HON : Hid (wz.ownsRow Bn NOA 3 (.slice A7 (m1 + 1) c7) (m1 + 1) ((xs ++ [v]).flatMap DV.cs)) := Lib.hid (own_block HO7.out (fun j hj => HKZ.out.block j (HO7.out.lt j hj).2 (fun e => by have h1 := (HO7.out.lt j hj).1; have h2 := HBN.out; have h3 : j = w.heap.size := e; omega)))
          have HMZ := Lib.hid (mesD_is (n := n) HBZ.out.1)
          go_wp2_with fail
          go_roundw
          case rel => exact ⟨m1 + 1, c7, A7, xs ++ [v], J' + 1, _, rfl, Lib.hid (by rw [List.length_append, HXL.out, HPVL.out]), HON, HRN, HBZ⟩
          case measure => rw [HMZ.out, HME.out]; omega
        · have q3 : (y.toList == [97, 110, 100]) = false := lit_no hyc
          have q4 : (!(y.toList == [97, 110, 100])) = true := by rw [q3]; rfl
          have HN : Hid (hd (tx (all.drop J')) ≠ wordOf 1) := Lib.hid (fun e => hyc (HHD8.out.symm.trans e))
          clear hyc
          by_cases hm0 : m1 = 0
          · skip
            have hq1 : ((((m1 + 1 : Nat)) : Int) == 1) = true := by rw [beq_iff_eq]; omega
            have hm1 : m1 + 1 = 1 := by omega
            have HR7 := Lib.hid (RowD.of_own HO7.out (by rw [List.length_append, HXL.out, HPVL.out]))
            have HXE : Hid (xs = []) := Lib.hid (List.length_eq_zero_iff.1 (by rw [HXL.out]; omega))
            obtain ⟨ga, oa, hA7, hga, hca⟩ := HR7.out.get (i := 0) (x := v) (by rw [HXE.out]; rfl)
            subst hA7
            have HGA : Hid (Bn ≤ ga ∧ ga < w7.heap.size) := Lib.hid ⟨HR7.out.far ga oa rfl, hga⟩
            have HSC : Hid (∀ W, Kept (fun i => i = w.heap.size + 1 ∨ i = w.heap.size + 2) w7 W → W.cell? ⟨w.heap.size, 0, none⟩ = some (.slice (some ⟨g, o, none⟩) n c) ∧ W.cell? ⟨w.heap.size, 1, none⟩ = some (.int .i64 J') ∧ W.cell? ⟨w.heap.size, 2, none⟩ = some (.bool true) ∧ W.cell? ⟨ga, oa, none⟩ = some (.int .i64 v.k) ∧ W.cell? ⟨ga, oa + 1, none⟩ = some (.slice v.A v.m v.c) ∧ W.cell? ⟨ga, oa + 2, none⟩ = some (.string v.s)) := Lib.hid (fun W hW => by
              have hb := HBN.out
              have hg := HGA.out
              have k1 := HB7.out.1.kept hW (fun h => by omega)
              have kc : ∀ j, W.cell? ⟨ga, oa + j, none⟩ = w7.cell? ⟨ga, oa + j, none⟩ := fun j => hW.cell hg.2 (fun h => by have h' : ga = w.heap.size + 1 ∨ ga = w.heap.size + 2 := h; omega)
              exact ⟨k1.cell 0, k1.cell 1, k1.cell 2, by have := (kc 0).trans (hca 0 _ rfl); simpa using this, by have := (kc 1).trans (hca 1 _ rfl); simpa using this, by have := (kc 2).trans (hca 2 _ rfl); simpa using this⟩)
            clear hca hga
            go_upto_region 12 with fail
            have HS0 : Hid (Kept (fun i => i = w.heap.size + 1 ∨ i = w.heap.size + 2) w7 w7.drew) := Lib.hid (Kept.refl _ _).drew
            refine wp_plan (fun V' => Kept (fun i => i = w.heap.size + 1 ∨ i = w.heap.size + 2) w7 V') [(0, false), (1, false), (2, false), (3, false), (4, true), (5, true)] (by kernel_rfl) (by kernel_rfl) HS0.out ?_
            simp only [planL, List.getElem?_cons_zero, List.getElem?_cons_succ]
            repeat (first | (refine plan_on _ (by rfl) (fun W hW => by (obtain ⟨q0, q1, q2, q3, q4, q5⟩ := HSC.out W hW; go_simp; try with_reducible rfl)) ?_; simp only [Act.put, List.setIfInBounds_toArray, List.set_cons_zero, List.set_cons_succ]) | (refine plan_off (by rfl) ?_; simp only [Act.put, List.setIfInBounds_toArray, List.set_cons_zero, List.set_cons_succ]))
            refine plan_turn ?_
            refine wpList_store_blk w7.drew rfl STA _ _ rfl 0 #[.slice (some ⟨g, o, none⟩) n c, .int .i64 J', .bool true] rfl rfl HB7.out.2.1.drew (by show 0 + 3 ≤ 3; omega) (by kernel_rfl) (by simp [Value.oneCell']) ?_
            intro Wa hba hka hza
            have HBA : Hid (Blk Wa (w.heap.size + 1) STA #[.slice (some ⟨g, o, none⟩) n c, .int .i64 J', .bool true]) := Lib.hid hba
            have HKA : Hid (Kept (fun i => i = w.heap.size + 1 ∨ i = w.heap.size + 2) w7 Wa) := Lib.hid (HS0.out.trans' hka (fun i _ hi => Or.inl hi))
            have HBZ : Hid (Blk Wa (w.heap.size + 2) NOA #[.int .i64 0, .slice none 0 0, .string ⟨#[]⟩]) := Lib.hid (HB7.out.2.2.drew.kept hka (by omega))
            clear hba hka hza
            go_wp2_with fail
            refine ⟨HKA.out, ?_⟩
            refine plan_turn ?_
            refine wpList_store_blk Wa rfl NOA _ _ rfl 0 #[.int .i64 v.k, .slice v.A v.m v.c, .string v.s] rfl rfl HBZ.out (by show 0 + 3 ≤ 3; omega) (by kernel_rfl) (by simp [Value.oneCell']) ?_
            intro Wb hbb hkb hzb
            have HBB : Hid (Blk Wb (w.heap.size + 2) NOA #[.int .i64 v.k, .slice v.A v.m v.c, .string v.s]) := Lib.hid hbb
            have HBA2 : Hid (Blk Wb (w.heap.size + 1) STA #[.slice (some ⟨g, o, none⟩) n c, .int .i64 J', .bool true]) := Lib.hid (HBA.out.kept hkb (by omega))
            have HKB : Hid (Kept (fun i => i = w.heap.size + 1 ∨ i = w.heap.size + 2) w7 Wb) := Lib.hid (HKA.out.trans' hkb (fun i _ hi => Or.inr hi))
            clear hbb hkb hzb
            go_wp2_with fail
            refine ⟨HKB.out, ?_⟩
            refine plan_done ?_
            go_wp2_with fail
            refine bodyPost_ret (results_cc (rb := w.heap.size + 1) (rc := w.heap.size + 2) rfl rfl rfl (load_st HBA2.out) (load_no HBB.out)) rfl ?_
            have HDP2 := HDP.out
            rw [HXE.out, List.nil_append] at HDP2
            have hkk : Kept (fun i => w.heap.size ≤ i ∧ i < Bn) w7 Wb := HKB.out.mono (fun i _ hi => by have := HBN.out; omega)
            exact ⟨v, true, J', _, rfl, HDP2.fin1 (B := B) (k := 1) (by omega) (by have := HBN.out; omega) (Or.inr HN.out) hkk ((HOKD.out Wb hkk).mono (by omega))⟩
          · have hm2 : 1 ≤ m1 := by omega
            have HR7 := Lib.hid (RowD.of_own HO7.out (by rw [List.length_append, HXL.out, HPVL.out]))
            obtain ⟨we, hwe⟩ : ∃ we, (((((w7.setCell ⟨w.heap.size + 1, 0, none⟩ (.slice (some ⟨g, o, none⟩) n c)).setCell ⟨w.heap.size + 1, 1, none⟩ (.int .i64 J')).setCell ⟨w.heap.size + 1, 2, none⟩ (.bool true)).setCell ⟨w.heap.size + 1 + 1, 0, none⟩ (.int .i64 2)).setCell ⟨w.heap.size + 1 + 1, 1, none⟩ (.slice A7 (m1 + 1) c7)).setCell ⟨w.heap.size + 1 + 1, 2, none⟩ (.string ⟨#[]⟩) = we := ⟨_, rfl⟩
            have HSE := Lib.hid (store6 HB7.out.2.1 HB7.out.2.2 (by omega) hwe)
            obtain ⟨l0, l1, l2, k0, k1, k2⟩ := HB7.out.2.1.at3
            obtain ⟨l3, l4, l5, k3, k4, k5⟩ := HB7.out.2.2.at3
            have hq1 : (((m1 + 1 : Nat) : Int) == 1) = false := by rw [beq_eq_false_iff_ne]; omega
            go_wp2_with fail
            refine bodyPost_ret (results_cc (rb := w.heap.size + 1) (rc := w.heap.size + 1 + 1) rfl rfl rfl (load_st HSE.out.1) (load_no (k := 2) HSE.out.2.1)) rfl ?_
            exact ⟨⟨2, A7, m1 + 1, c7, ⟨#[]⟩⟩, true, J', _, rfl, HDP.out.fin2 (B := B) (k := 1) (by omega) (by have := HBN.out; omega) (Or.inr HN.out) (HSE.out.2.2.mono (fun i _ hi => by have := HBN.out; omega)) HR7.out (by omega)⟩

set_option maxHeartbeats 4000000 in
set_option maxRecDepth 100000 in
theorem dor_of (m : Nat) (hsub : DrOk 23 (argsR 0) 0 m) : DrOk 15 args2 0 m := by
  intro A n c all I B d i e w hi he henv hI hm hd40 hB
  subst hi he
  obtain ⟨t, g, o, ht, hhd, hsz, hne, rfl, hg, e0, e1⟩ := henv.at hI
  clear ht hhd hsz hne e0 e1 hg t
  show Calls Tryz.prog 15 #[.agg #[.slice (some ⟨g, o, none⟩) n c, .int .i64 I, .bool true], .int .i64 d] w fun e w' => DrPost 0 B d (some ⟨g, o, none⟩) n c all I w e w'
  obtain ⟨w1, hw1⟩ : ∃ w1, w.alloc (.cells #[.slice (some ⟨g, o, none⟩) n c, .int .i64 I, .bool true] STA) = w1 := ⟨_, rfl⟩
  obtain ⟨w2, hw2⟩ : ∃ w2, w1.alloc (.cells #[.slice none 0 0, .int .i64 0, .bool false] STA) = w2 := ⟨_, rfl⟩
  obtain ⟨w3, hw3⟩ : ∃ w3, w2.alloc (.cells #[.int .i64 0, .slice none 0 0, .string ⟨#[]⟩] NOA) = w3 := ⟨_, rfl⟩
  have z1 : w1.heap.size = w.heap.size + 1 := by rw [← hw1]; simp
  have z2 : w2.heap.size = w.heap.size + 1 + 1 := by rw [← hw2]; simp [z1]
  have z3 : w3.heap.size = w.heap.size + 3 := by rw [← hw3]; simp [z2]
  have k1 : Below w.heap.size w w1 := by rw [← hw1]; exact (Below.refl _ _).alloc (Nat.le_refl _) _
  have k2 : Below w1.heap.size w1 w2 := by rw [← hw2]; exact (Below.refl _ _).alloc (Nat.le_refl _) _
  have k3 : Below w2.heap.size w2 w3 := by rw [← hw3]; exact (Below.refl _ _).alloc (Nat.le_refl _) _
  have B2 : Blk w3 w.heap.size STA #[.slice (some ⟨g, o, none⟩) n c, .int .i64 I, .bool true] := by
    have : Blk w1 w.heap.size STA #[.slice (some ⟨g, o, none⟩) n c, .int .i64 I, .bool true] := by rw [← hw1]; exact Blk.new _ _ _
    exact (this.under k2).under k3
  have B4 : Blk w3 (w.heap.size + 1) STA #[.slice none 0 0, .int .i64 0, .bool false] := by
    have : Blk w2 w1.heap.size STA #[.slice none 0 0, .int .i64 0, .bool false] := by rw [← hw2]; exact Blk.new _ _ _
    rw [z1] at this
    exact this.under k3
  have B5 : Blk w3 (w.heap.size + 2) NOA #[.int .i64 0, .slice none 0 0, .string ⟨#[]⟩] := by
    have : Blk w3 w2.heap.size NOA #[.int .i64 0, .slice none 0 0, .string ⟨#[]⟩] := by rw [← hw3]; exact Blk.new _ _ _
    rw [z2] at this
    exact this
  have HK : Hid (Below w.heap.size w w3 ∧ w3.heap.size = w.heap.size + 3) := Lib.hid ⟨(k1.trans (k2.mono (by omega))).trans (k3.mono (by omega)), z3⟩
  have HB4 := Lib.hid B4
  have HB5 := Lib.hid B5
  obtain ⟨c0, c1, c2, _, _, _⟩ := B2.at3
  have HC : Hid (Calls Tryz.prog 23 #[.agg #[.slice (some ⟨g, o, none⟩) n c, .int .i64 I, .bool true], .int .i64 d, .string ⟨#[111, 114]⟩, .int .i64 1] w3 fun e w' => DrPost 0 w3.heap.size d (some ⟨g, o, none⟩) n c all I w3 e w') := Lib.hid (hsub (some ⟨g, o, none⟩) n c all I w3.heap.size d _ _ w3 rfl rfl (henv.below HK.out.1) hI hm hd40 (Nat.le_refl _))
  clear k1 k2 k3 B2 B4 B5 z3 henv hsub
  go_enter Tryz.func15, Tryz.ntmps15
  go_wp2_with fail
  refine HC.out.mono ?_
  rintro e wq ⟨v, ok, J, ns, rfl, hdi⟩
  have HDI := Lib.hid hdi
  have HQ : Hid (Blk wq (w.heap.size + 1) STA #[.slice none 0 0, .int .i64 0, .bool false] ∧ Blk wq (w.heap.size + 2) NOA #[.int .i64 0, .slice none 0 0, .string ⟨#[]⟩] ∧ Below w.heap.size w wq) := Lib.hid ⟨HB4.out.under hdi.below, HB5.out.under hdi.below, HK.out.1.trans (hdi.below.mono HK.out.1.size)⟩
  clear hdi hw1 hw2 hw3 z1 c0 c1 c2 HC
  obtain ⟨w9, hw9⟩ : ∃ w9, (((((wq.setCell ⟨w.heap.size + 1, 0, none⟩ (.slice (some ⟨g, o, none⟩) n c)).setCell ⟨w.heap.size + 1, 1, none⟩ (.int .i64 J)).setCell ⟨w.heap.size + 1, 2, none⟩ (.bool ok)).setCell ⟨w.heap.size + 1 + 1, 0, none⟩ (.int .i64 v.k)).setCell ⟨w.heap.size + 1 + 1, 1, none⟩ (.slice v.A v.m v.c)).setCell ⟨w.heap.size + 1 + 1, 2, none⟩ (.string v.s) = w9 := ⟨_, rfl⟩
  have HS9 := Lib.hid (store6 HQ.out.1 HQ.out.2.1 (by omega) hw9)
  obtain ⟨l0, l1, l2, k0, k1, k2⟩ := HQ.out.1.at3
  obtain ⟨l3, l4, l5, k3, k4, k5⟩ := HQ.out.2.1.at3
  go_wp2_with fail
  refine bodyPost_ret (results_cc (rb := w.heap.size + 1) (rc := w.heap.size + 1 + 1) rfl rfl rfl (load_st HS9.out.1) (load_no HS9.out.2.1)) rfl ?_
  obtain ⟨a1, a2, a3, a4, a5, a6⟩ := HDI.out
  have z4 := HK.out.2
  have kk := HS9.out.2.2
  refine ⟨v, ok, J, ns, rfl, ⟨a1, a2, a3, ?_, fun ho => ?_, HQ.out.2.2.trans (kk.toBelow (B := w.heap.size) (fun i hi => by omega) HQ.out.2.2.size)⟩⟩
  · exact (a4.keep (w' := w9) kk.size (fun i hi hB => kk.block i hi (fun h => by omega))).low (by omega)
  · exact ((a5 ho).keep (w' := w9) kk.size (fun i hi hB => kk.block i hi (fun h => by omega))).low (by omega)
theorem dpar_all (n : Nat) : ∀ m, m ≤ n → DrOk 36 args2 2 m ∧ DrOk 15 args2 0 m := by
  have lift : ∀ n, (∀ m, m ≤ n → DrOk 36 args2 2 m) → ∀ m, m ≤ n → DrOk 15 args2 0 m := fun n h m hm =>
    dor_of m (drow0_of m (fun m' h' => drow1_of m' (fun m2 h2 => h m2 (by omega))))
  induction n with
  | zero =>
    have h : ∀ m, m ≤ 0 → DrOk 36 args2 2 m := fun m hm => dnot_of m (fun m' h' => by omega) (fun m' h' => by omega)
    exact fun m hm => ⟨h m hm, lift 0 h m hm⟩
  | succ n ih =>
    have h : ∀ m, m ≤ n + 1 → DrOk 36 args2 2 m := fun m hm => dnot_of m (fun m' h' => (ih m' (by omega)).1) (fun m' h' => (ih m' (by omega)).2)
    exact fun m hm => ⟨h m hm, lift (n + 1) h m hm⟩
theorem dor_any (m : Nat) : DrOk 15 args2 0 m := (dpar_all m m (Nat.le_refl _)).2
end Go.Proofs.YtpgbgeofhcpocaaGreatDoor

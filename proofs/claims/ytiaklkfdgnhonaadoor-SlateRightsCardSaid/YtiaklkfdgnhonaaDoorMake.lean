/- Make of the program. -/
import Derived.Test.YtiaklkfdgnhonaaDoorMakeP
import Derived.Test.YtiaklkfdgnhonaaDoorBump
namespace Go.Proofs.YtiaklkfdgnhonaaDoor
open Go.Shelf Go.RowKit Go.Lib Go.Sort Go.Maps
set_option linter.unusedVariables false

theorem ChsAt.kept {w w' : World} {B : Nat} {A : Option Addr} {l : List Ch} {S : Nat → Prop} (h : ChsAt w B A l) (k : Kept S w w') (hB : B ≤ w.heap.size) (hS : ∀ i, i < B → ¬ S i) : ChsAt w' B A l := RowIn.kept h k hB hS
theorem below_kept {w w' : World} {B : Nat} {S : Nat → Prop} (hb : Below B w w') (hB : w.heap.size ≤ B) : Kept S w w' := ⟨hb.os, hb.tape, hb.output, hb.size, fun i hi _ => hb.block i (by omega)⟩
theorem GlobAt.kept {w w' : World} {S : Nat → Prop} (h : GlobAt w) (k : Kept S w w') (hS : ∀ i, i ≤ 0 → ¬ S i) : GlobAt w' := by
  obtain ⟨h0, m, hm⟩ := h
  exact ⟨Nat.lt_of_lt_of_le h0 k.size, m, by rw [← hm]; exact k.cell (p := ⟨0, 0, none⟩) h0 (hS _ (Nat.le_refl _))⟩

theorem owns_kept {w w' : World} {base e size n : Nat} {v : Value} {xs : List Value} {S : Nat → Prop} (h : w.ownsRow base e size v n xs) (k : Kept S w w') (hS : ∀ g, v.ownBlock = some g → ¬ S g) : w'.ownsRow base e size v n xs := by
  rcases hv : v.ownBlock with _ | g
  · refine ⟨h.1, ?_⟩
    rcases h.2 with h1 | ⟨g, cap, cur, h1, h2⟩
    · exact Or.inl h1
    · subst h1; cases hv
  · have hlt := (h.lt _ hv).2
    refine ⟨h.1, ?_⟩
    rcases h.2 with h1 | ⟨g', cap, cur, h1, h2, h3, h4⟩
    · exact Or.inl h1
    · subst h1
      cases hv
      exact Or.inr ⟨g', cap, cur, rfl, h2, (k.block _ hlt (hS _ rfl)).trans h3, h4⟩

theorem own_at {w : World} {base : Nat} {A : Option Addr} {n c : Nat} {e : TypeId} {l : List Ch} (h : w.ownsRow base e 4 (.slice A n c) n (l.flatMap chC)) (hn : 0 < n) (hl : l.length = n) : ∃ g, A = some ⟨g, 0, none⟩ ∧ base ≤ g ∧ g < w.heap.size ∧ ∀ i x, l[i]? = some x → ChAt w g (i * 4) x := by
  obtain ⟨g, cap, hv, hg, hlt⟩ := h.form hn
  injection hv with hA
  subst hA
  have h4 : ChsAt w w.heap.size (some ⟨g, 0, none⟩) l := by
    have := RowIn.of_own h
    unfold ChsAt
    rw [hl]; exact this
  obtain ⟨b, off, hA, hb, hc⟩ := h4.at (by omega)
  injection hA with hA
  injection hA with h1 h2
  subst h1 h2
  exact ⟨g, rfl, hg, hlt, fun i x hx => by have := hc i x hx; rwa [Nat.zero_add] at this⟩
theorem own_at2 {w : World} {base : Nat} {A : Option Addr} {n c : Nat} {e : TypeId} {l : List Mk} (h : w.ownsRow base e 2 (.slice A n c) n (l.flatMap mkC)) (hn : 0 < n) (hl : l.length = n) : ∃ g, A = some ⟨g, 0, none⟩ ∧ base ≤ g ∧ g < w.heap.size ∧ ∀ i x, l[i]? = some x → w.cell? ⟨g, i * 2, none⟩ = some (.bool x.tag) ∧ w.cell? ⟨g, i * 2 + 1, none⟩ = some (.string x.name) := by
  obtain ⟨g, cap, hv, hg, hlt⟩ := h.form hn
  injection hv with hA
  subst hA
  have h4 : MksAt w w.heap.size (some ⟨g, 0, none⟩) l := by
    have := RowIn.of_own h
    unfold MksAt
    rw [hl]; exact this
  obtain ⟨b, off, hA, hb, hc⟩ := h4.at (by omega)
  injection hA with hA
  injection hA with h1 h2
  subst h1 h2
  exact ⟨g, rfl, hg, hlt, fun i x hx => by have := hc i x hx; rwa [Nat.zero_add] at this⟩

set_option maxHeartbeats 8000000 in
set_option maxRecDepth 100000 in
theorem make_any (w : World) (B : Nat) (A : Option Addr) (l : List Ch) (n c : Nat) (cp : Cp) (hn : l.length = n) (hl : ChsAt w B A l) (hB : B ≤ w.heap.size) (hnil : A = none → c = 0) (hb : n ≤ 1000) (hok : Okc l) (hg : GlobAt w) :
    Calls Tryd.prog 16 #[.slice A n c, .agg #[.int .i64 cp.size, .int .i64 cp.maker, .int .i64 cp.tag]] w fun e w' => ∃ v, e = .returned v ∧ w'.ownsRow w.heap.size 32 4 v (makeP cp l).length ((makeP cp l).flatMap chC) ∧ Below w.heap.size w w' := by
  obtain ⟨i0, hi0, hz0, hz1, hz2⟩ := info_parts ch_info
  have hmm := @run_makeMap Tryd.prog
  have HMK : Hid (makeP cp l = downP cp (rankP l) []) := Lib.hid rfl
  obtain ⟨w1, hw1⟩ : ∃ w1, w.alloc (.cells #[.int .i64 cp.size, .int .i64 cp.maker, .int .i64 cp.tag] 28) = w1 := ⟨_, rfl⟩
  have z1 : Hid (w1.heap.size = w.heap.size + 1) := Lib.hid (by rw [← hw1]; simp)
  obtain ⟨w2, hw2⟩ : ∃ w2, w1.alloc (.map #[] 0) = w2 := ⟨_, rfl⟩
  have z2 : Hid (w2.heap.size = w.heap.size + 2) := Lib.hid (by rw [← hw2, World.size_alloc, z1.out])
  obtain ⟨w3, hw3⟩ : ∃ w3, w2.alloc (.cells #[.map (some w1.heap.size)] 45) = w3 := ⟨_, rfl⟩
  have z3 : Hid (w3.heap.size = w.heap.size + 3) := Lib.hid (by rw [← hw3, World.size_alloc, z2.out])
  have c3 : Caught w3 w.heap.size w2.heap.size w1.heap.size 0 cp (fun _ => none) := by
    refine ⟨?_, ?_, ?_⟩
    · rw [← hw3, ← hw2, ← hw1]; exact ((Blk.new _ _ _).alloc _).alloc _
    · rw [← hw3]; exact Blk.new _ _ _
    · rw [← hw3, ← hw2]; exact (MapIs.made _ _ _ _).alloc _
  have hB3 : Below w.heap.size w w3 := by
    rw [← hw3, ← hw2, ← hw1]
    exact (((Below.refl _ _).alloc (Nat.le_refl _) _).alloc (by simp) _).alloc (by simp; omega) _
  have hl3 : ChsAt w3 B A l := hl.below (hB3.mono hB)
  have hg3 : GlobAt w3 := hg.keep hB3 (Nat.le_refl _)
  have HR := Lib.hid (rank_any w3 B A l n c hn hl3 (by have := z3.out; omega) hnil hb hok)
  have hrl : (rankP l).length ≤ n := by rw [← hn]; exact rankP_len l
  have HOK : Hid (Okc (rankP l)) := Lib.hid (fun x hx => hok x ((rankP_is l).mem x |>.1 hx).1)
  have hlg := hg.1
  clear hl hl3 hg hn hnil
  go_enter Tryd.func16, Tryd.ntmps16
  go_wp2_with fail
  refine HR.out.mono ?_
  rintro e w4 ⟨v4, rfl, hown4, hb4⟩
  obtain ⟨A4, c4, rfl⟩ := own_shape hown4
  have HS4 := Lib.hid (fun h => own_at hown4 h rfl)
  have hC4 := c3.below hb4
  have hg4 := hg3.keep hb4 (Nat.le_refl _)
  have hB4 : Below w.heap.size w w4 := hB3.trans (hb4.mono hB3.size)
  have z4 : w3.heap.size ≤ w4.heap.size := hb4.size
  generalize rankP l = R at *
  obtain ⟨N, hN⟩ : ∃ N, R.length = N := ⟨_, rfl⟩
  have HN := Lib.hid hN
  rw [hN] at hrl ⊢
  have y1 : w.heap.size < w1.heap.size := by have := z1.out; omega
  have y2 : w1.heap.size < w2.heap.size := by have := z1.out; have := z2.out; omega
  have y3 : w2.heap.size < w3.heap.size := by have := z3.out; have := z2.out; omega
  generalize w1.heap.size = mb at *
  generalize w2.heap.size = tb at *
  generalize w3.heap.size = B3 at *
  clear HR hown4 hb4 c3 hg3 hB3 hw1 hw2 hw3 z1 z2 z3 hN
  go_wp2_with fail
  go_loopw [7, 18] (fun s i wr => ∃ (k cnt : Nat) (M : Lit → Option Value) (out : List Ch), k ≤ N ∧ i = .int .i64 k ∧ Hid (downP cp R [] = downP cp (R.drop k) out) ∧ Hid (CntIs M (cntM out)) ∧ Hid (Caught wr w.heap.size tb mb cnt cp M) ∧ cnt ≤ k * 310 ∧ out.length ≤ k ∧ Hid (wr.ownsRow w4.heap.size 32 4 s out.length (out.flatMap chC)) ∧ Hid (Kept (fun q => q = mb) w4 wr)) (fun _ i _ => N - (intOf i).toNat)
  case atStart => exact ⟨0, 0, _, [], Nat.zero_le _, rfl, Lib.hid rfl, Lib.hid CntIs.none, Lib.hid hC4, Nat.le_refl _, Nat.le_refl _, Lib.hid (own_nil _ _ _ _), Lib.hid (Kept.refl _ _)⟩
  case round =>
    obtain ⟨k, cnt, M, out, hk, rfl, hout, hM, hC, hcnt, hol, hrow, hkw⟩ := hrel
    have hBw : Below w.heap.size w wr := hB4.trans (hkw.out.toBelow (fun i hi => by omega) (by omega))
    have z5 := hkw.out.size
    by_cases hlt : k < N
    · obtain ⟨x, hx⟩ : ∃ x, R[k]? = some x := ⟨R[k]'(by rw [HN.out]; exact hlt), List.getElem?_eq_getElem _⟩
      obtain ⟨hx1, hx2, hx3⟩ := HOK.out x (List.mem_of_getElem? hx)
      obtain ⟨g, rfl, hgb, hgl, hcl⟩ := HS4.out (by rw [HN.out]; omega)
      obtain ⟨e0, e1, e2, e3⟩ : ChAt wr g (k * 4) x := (hcl k x hx).keep (fun j => hkw.out.cell (p := ⟨g, j, none⟩) hgl (by show ¬ g = mb; omega))
      have hdr : R.drop k = x :: R.drop (k + 1) := by
        obtain ⟨hlt', hx'⟩ := List.getElem?_eq_some_iff.1 hx
        rw [List.drop_eq_getElem_cons hlt', hx']
      have HD := Lib.hid hdr
      have hk8 : (k : Int) < (N : Int) := by omega
      have hk9 : (0 : Int) ≤ (k : Int) := by omega
      obtain ⟨A5, c5, hr⟩ := own_shape hrow.out
      rw [hr] at hrow ⊢
      clear hr hdr hx
      obtain ⟨w5, hw5⟩ : ∃ w5, wr.alloc (.cells #[.string x.item, .string x.maker, .string x.tags, .int .i64 x.score] 32) = w5 := ⟨_, rfl⟩
      have bx : Blk w5 wr.heap.size 32 #[.string x.item, .string x.maker, .string x.tags, .int .i64 x.score] := by rw [← hw5]; exact Blk.new _ _ _
      have hk5 : Kept (fun q => q = mb) w4 w5 := by rw [← hw5]; exact hkw.out.alloc _
      have hC5 : Caught w5 w.heap.size tb mb cnt cp M := by rw [← hw5]; exact hC.out.below ((Below.refl _ _).alloc (Nat.le_refl _) _)
      have hr5 : w5.ownsRow w4.heap.size 32 4 (.slice A5 out.length c5) out.length (out.flatMap chC) := by rw [← hw5]; exact hrow.out.alloc _
      have z6 : Hid (w5.heap.size = wr.heap.size + 1) := Lib.hid (by rw [← hw5]; simp)
      have d0 : w5.cell? ⟨wr.heap.size, 0, none⟩ = some (.string x.item) := bx.cell 0
      have d1 : w5.cell? ⟨wr.heap.size, 1, none⟩ = some (.string x.maker) := bx.cell 1
      have d2 : w5.cell? ⟨wr.heap.size, 2, none⟩ = some (.string x.tags) := bx.cell 2
      have d3 : w5.cell? ⟨wr.heap.size, 3, none⟩ = some (.int .i64 x.score) := bx.cell 3
      have dc : w5.cell? ⟨w.heap.size, 0, none⟩ = some (.int .i64 cp.size) := hC5.caps.cell 0
      have HBX := Lib.hid bx
      have HK5 := Lib.hid hk5
      have HC5 := Lib.hid hC5
      have HR5 := Lib.hid hr5
      have HB5 : Hid (Below w.heap.size w w5) := Lib.hid (by rw [← hw5]; exact hBw.alloc hBw.size _)
      clear bx hk5 hC5 hr5 hrow hC hkw hBw
      by_cases hfull : cp.size ≤ (out.length : Int)
      · go_wp2_with fail
        go_ret
        refine ⟨_, rfl, ?_, HB5.out⟩
        rw [HMK.out, hout.out, downP_full cp _ _ hfull]
        exact HR5.out.mono (by omega)
      · have hg5 : GlobAt w5 := hg4.kept HK5.out (fun i hi e => by omega)
        have HMs := Lib.hid (marks_any x w5 hg5 hx2 hx3)
        go_wp2_with fail
        refine HMs.out.mono ?_
        rintro e w6 ⟨v6, rfl, hown6, hb6⟩
        obtain ⟨A6, c6, rfl⟩ := own_shape hown6
        have z7 : w5.heap.size ≤ w6.heap.size := hb6.size
        have hml := marksP_len x
        have hms : ∀ m ∈ marksP x, m.name.size ≤ maxLen := fun m hm => by
          have := marksP_size hm
          unfold maxLen
          omega
        have hC6 := HC5.out.below hb6
        have HCF := Lib.hid (conf_any w6 w6.heap.size A6 (marksP x) (marksP x).length c6 w.heap.size tb mb cnt cp M (cntM out) rfl (RowIn.of_own hown6) (Nat.le_refl _) (by omega) hC6 hM.out hms)
        have HS6 := Lib.hid (fun h => own_at2 hown6 h rfl)
        have HK6 : Hid (Kept (fun q => q = mb) w4 w6) := Lib.hid (HK5.out.below hb6 (by have := z6.out; omega))
        have HBX6 : Hid (Blk w6 wr.heap.size 32 #[.string x.item, .string x.maker, .string x.tags, .int .i64 x.score]) := Lib.hid ((hb6.block _ HBX.out.lt).trans HBX.out)
        have HR6 : Hid (w6.ownsRow w4.heap.size 32 4 (.slice A5 out.length c5) out.length (out.flatMap chC)) := Lib.hid (owns_kept HR5.out (below_kept (S := fun _ => False) hb6 (Nat.le_refl _)) (fun _ _ h => h))
        have HC6 := Lib.hid hC6
        have HMS := Lib.hid hms
        have HB6 : Hid (Below w.heap.size w w6) := Lib.hid (HB5.out.trans (hb6.mono HB5.out.size))
        have HLT6 : Hid (∀ g', w5.heap.size ≤ g' → g' ≠ mb ∧ g' ≠ wr.heap.size) := Lib.hid (fun g' h => by have := z6.out; omega)
        clear HMs hown6 hb6 hC6 hms HC5 HR5 HBX HK5 HB5 d0 d1 d2 d3 dc hw5
        have HND := Lib.hid (marksP_nodup x)
        have HFB := Lib.hid (foldBump_cnt out x)
        have HFN := Lib.hid (@fits_not cp out x)
        have HFY := Lib.hid (@fits_yes cp out x)
        generalize marksP x = ms at *
        obtain ⟨nm, hnm⟩ : ∃ nm, ms.length = nm := ⟨_, rfl⟩
        have HNM := Lib.hid hnm
        rw [hnm] at HCF hml ⊢
        clear hnm
        go_wp2_with fail
        refine HCF.out.mono ?_
        rintro e w7 ⟨rfl, hb7⟩
        have hC7 := HC6.out.below hb7
        have HK7 : Hid (Kept (fun q => q = mb) w4 w7) := Lib.hid (HK6.out.below hb7 (HK6.out.size))
        have HBX7 : Hid (Blk w7 wr.heap.size 32 #[.string x.item, .string x.maker, .string x.tags, .int .i64 x.score]) := Lib.hid ((hb7.block _ HBX6.out.lt).trans HBX6.out)
        have HR7 : Hid (w7.ownsRow w4.heap.size 32 4 (.slice A5 out.length c5) out.length (out.flatMap chC)) := Lib.hid (owns_kept HR6.out (below_kept (S := fun _ => False) hb7 (Nat.le_refl _)) (fun _ _ h => h))
        have HC7 := Lib.hid hC7
        have HB7 : Hid (Below w.heap.size w w7) := Lib.hid (HB6.out.trans (hb7.mono HB6.out.size))
        have HS7 : Hid (0 < ms.length → ∃ g, A6 = some ⟨g, 0, none⟩ ∧ w5.heap.size ≤ g ∧ g < w7.heap.size ∧ ∀ i m, ms[i]? = some m → w7.cell? ⟨g, i * 2, none⟩ = some (.bool m.tag) ∧ w7.cell? ⟨g, i * 2 + 1, none⟩ = some (.string m.name)) := Lib.hid (fun h => by
          obtain ⟨g, h1, h2, h3, h4⟩ := HS6.out h
          refine ⟨g, h1, h2, Nat.lt_of_lt_of_le h3 hb7.size, fun i m hm => ?_⟩
          obtain ⟨h5, h6⟩ := h4 i m hm
          exact ⟨(hb7.cell (p := ⟨g, _, none⟩) h3).trans h5, (hb7.cell (p := ⟨g, _, none⟩) h3).trans h6⟩)
        clear HCF hC7 HK6 HBX6 HR6 HC6 HB6 HS6 hb7
        cases hany : ms.any (fullP cp (cntM out))
        · have HANY := Lib.hid hany
          clear hany e0 e1 e2 e3
          generalize wr.heap.size = xb at *
          go_wp2_with fail
          go_loopw [34] (fun i wi => ∃ (jn cnt' : Nat) (M' : Lit → Option Value), jn ≤ nm ∧ i = .int .i64 jn ∧ Hid (CntIs M' ((ms.take jn).foldl bumpF (cntM out))) ∧ Hid (Caught wi w.heap.size tb mb cnt' cp M') ∧ cnt' ≤ cnt + jn ∧ Hid (Kept (fun q => q = mb) w7 wi)) (fun i _ => nm - (intOf i).toNat)
          case atStart => exact ⟨0, cnt, M, Nat.zero_le _, rfl, Lib.hid hM.out, HC7, Nat.le_refl _, Lib.hid (Kept.refl _ _)⟩
          case round =>
            obtain ⟨jn, cnt', M', hj, rfl, hM', hC', hcnt', hki⟩ := hrel
            have z8 := hki.out.size
            have y8 : w4.heap.size ≤ w7.heap.size := HK7.out.size
            by_cases hjl : jn < nm
            · obtain ⟨m, hm⟩ : ∃ m, ms[jn]? = some m := ⟨ms[jn]'(by rw [HNM.out]; exact hjl), List.getElem?_eq_getElem _⟩
              obtain ⟨g6, rfl, hg6, hgl6, hcl6⟩ := HS7.out (by rw [HNM.out]; omega)
              obtain ⟨e0, e1⟩ := hcl6 jn m hm
              have hn6 := (HLT6.out g6 hg6).1
              have f0 : wr.cell? ⟨g6, jn * 2, none⟩ = some (.bool m.tag) := (hki.out.cell (p := ⟨g6, jn * 2, none⟩) hgl6 hn6).trans e0
              have f1 : wr.cell? ⟨g6, jn * 2 + 1, none⟩ = some (.string m.name) := (hki.out.cell (p := ⟨g6, jn * 2 + 1, none⟩) hgl6 hn6).trans e1
              have hms1 := HMS.out m (List.mem_of_getElem? hm)
              have htk : ms.take (jn + 1) = ms.take jn ++ [m] := by rw [List.take_add_one, hm]; rfl
              have HTK := Lib.hid htk
              have hj8 : (jn : Int) < (nm : Int) := by omega
              have hj9 : (0 : Int) ≤ (jn : Int) := by omega
              obtain ⟨w8, hw8⟩ : ∃ w8, wr.alloc (.cells #[.bool m.tag, .string m.name] 47) = w8 := ⟨_, rfl⟩
              have bm : Blk w8 wr.heap.size 47 #[.bool m.tag, .string m.name] := by rw [← hw8]; exact Blk.new _ _ _
              have hC8 : Caught w8 w.heap.size tb mb cnt' cp M' := by rw [← hw8]; exact hC'.out.below ((Below.refl _ _).alloc (Nat.le_refl _) _)
              have HK8 : Hid (Kept (fun q => q = mb) w7 w8) := Lib.hid (by rw [← hw8]; exact hki.out.alloc _)
              have k0 : w8.cell? ⟨wr.heap.size, 0, none⟩ = some (.bool m.tag) := bm.cell 0
              have k1 : w8.cell? ⟨wr.heap.size, 1, none⟩ = some (.string m.name) := bm.cell 1
              have kt : w8.cell? ⟨tb, 0, none⟩ = some (.map (some mb)) := hC8.var.cell 0
              obtain ⟨q, hq⟩ : ∃ q : Int, (((ms.take jn).foldl bumpF (cntM out) m : Nat) : Int) = q := ⟨_, rfl⟩
              have hq0 : 0 ≤ q := by omega
              have hq1 : q ≤ 5000 := by
                have h1 := foldBump (ms.take jn) (cntM out) m (HND.out.sublist (List.take_sublist _ _))
                have h2 := cntM_le out m
                rw [← hq, h1]
                split <;> omega
              have hent := hC8.map.drew.entry mkLaw Tryd.underlying45 (z := .int .i64 0) zeroInt rfl (by unfold maxLen; omega) (mk_keyOf m hms1) (val := .int .i64 (q + 1)) rfl
              have hlook := hC8.map.drew.look mkKeyed Tryd.underlying45 (zeroInt _) rfl (mk_keyOf m hms1)
              rw [hM'.out.get, hq] at hent hlook
              obtain ⟨st, w9, w10, hE, hL9, hS9, hm10, hg10, hs10, hg9, hs9⟩ := hent
              have HM10 := Lib.hid hm10
              have HG10 := Lib.hid hg10
              have HC8 := Lib.hid hC8
              have HMM : Hid (CntIs (upd M' (litM m) (.int .i64 (q + 1))) ((ms.take (jn + 1)).foldl bumpF (cntM out))) := Lib.hid (by
                have := hM'.out.bump m
                rw [htk, List.foldl_append, List.foldl_cons, List.foldl_nil]
                rw [← hq]
                exact this)
              obtain ⟨mt, mn⟩ := m
              dsimp only at f0 f1 k0 k1 hE hL9 hlook hw8
              simp only [goInt] at hE hS9
              clear hm hcl6 e0 e1 htk hm10 hg10 hs10 hg9 hs9 bm hC8 hC' hki hq
              go_wp2_with fail
              go_region
              go_wp2_with fail
              go_roundw
              case rel =>
                have kk : Kept (fun q => q = mb) w8.drew w10 := (Kept.refl _ _).grown HG10.out (fun j hj => by cases hj; exact Or.inl rfl)
                refine ⟨jn + 1, cnt' + 1, _, by omega, by go_num, HMM, Lib.hid ⟨HC8.out.caps.drew.kept kk (by omega), HC8.out.var.drew.kept kk (by omega), HM10.out⟩, by omega, Lib.hid (HK8.out.drew.trans kk)⟩
              case measure => simp [intOf]; omega
            · have HK9 : Hid (Kept (fun q => q = mb) w4 wr) := Lib.hid (HK7.out.trans hki.out)
              have bx9 : Blk wr xb 32 #[.string x.item, .string x.maker, .string x.tags, .int .i64 x.score] := HBX7.out.kept hki.out (by omega)
              have HR9 : Hid (wr.ownsRow w4.heap.size 32 4 (.slice A5 out.length c5) out.length (out.flatMap chC)) := Lib.hid (owns_kept HR7.out hki.out (fun g' hg' e => by have := (HR7.out.lt _ hg').1; omega))
              have d0 : wr.cell? ⟨xb, 0, none⟩ = some (.string x.item) := bx9.cell 0
              have d1 : wr.cell? ⟨xb, 1, none⟩ = some (.string x.maker) := bx9.cell 1
              have d2 : wr.cell? ⟨xb, 2, none⟩ = some (.string x.tags) := bx9.cell 2
              have d3 : wr.cell? ⟨xb, 3, none⟩ = some (.int .i64 x.score) := bx9.cell 3
              have HX1 : Hid (∀ u ∈ chC x, u.oneCell' = true) := Lib.hid (fun u hu => chC_one [x] u (by simpa using hu))
              have hMF : CntIs M' (cntM (out ++ [x])) := by
                have := hM'.out
                rw [List.take_of_length_le (by rw [HNM.out]; omega), HFB.out] at this
                exact this
              have HMF := Lib.hid hMF
              clear hMF bx9 hki hM'
              go_wp2_with (first
                | (at_builtin; go_loud (refine wpList_append_row _ rfl _ _ 22 rfl w4.heap.size 32 i0 _ 4 56 Tryd.underlying22 hi0 hz0 hz1 hz2 rfl (by omega) (.slice A5 out.length c5) out.length (out.flatMap chC) rfl (HR9.out.alloc _) (wr.heap.size + 1) (some ⟨wr.heap.size, 0, none⟩) 1 1 (chC x) rfl (one_row wr x _) (fun h => by cases h) (HX1.out) (by unfold maxLen; omega) (by omega) (by simp; omega) ?_); intro v7 w11 ho7 hg7 hv7)
                | fail)
              go_roundw
              case rel =>
                have hn7 : ∀ j, (Value.slice A5 out.length c5).ownBlock = some j → w4.heap.size ≤ j := fun j hj => (HR9.out.lt _ hj).1
                have kk : Kept (fun q => w4.heap.size ≤ q) wr w11 := ((Kept.refl _ _).alloc _).grown hg7 (fun j hj => Or.inl (hn7 j hj))
                refine ⟨k + 1, cnt', M', out ++ [x], by omega, by go_num, Lib.hid ?_, HMF, Lib.hid (hC'.out.kept kk (by omega) (by omega) (by omega)), by omega, by simp; omega, Lib.hid ?_, Lib.hid ?_⟩
                · rw [hout.out, HD.out, downP_cons]
                  unfold stepP
                  rw [HFY.out hfull HANY.out]
                  rfl
                · rw [List.flatMap_append, List.length_append]
                  rw [show [x].flatMap chC = chC x from by simp]
                  exact ho7
                · exact (HK9.out.alloc _).grown hg7 (fun j hj => Or.inr (hn7 j hj))
              case measure => simp [intOf]; omega
        · have HANY := Lib.hid hany
          clear hany
          go_wp2_with fail
          go_roundw
          case rel =>
            refine ⟨k + 1, cnt, M, out, by omega, by go_num, Lib.hid ?_, hM, HC7, by omega, by omega, HR7, HK7⟩
            rw [hout.out, HD.out, downP_cons]
            unfold stepP
            rw [HFN.out HANY.out]
            rfl
          case measure => simp [intOf]; omega
    · go_wp2_with fail
      go_ret
      refine ⟨_, rfl, ?_, hBw⟩
      have hz := hout.out
      rw [List.drop_of_length_le (by rw [HN.out]; omega), downP_nil] at hz
      rw [HMK.out, hz]
      exact hrow.out.mono (by omega)

end Go.Proofs.YtiaklkfdgnhonaaDoor

/- clock.Decode: the closure that reads a line. -/
import Derived.Test.YtobkgkiomapabaaGreatDoorDcC
namespace Go.Proofs.YtobkgkiomapabaaGreatDoor
open Go.Shelf Go.RowKit Go.Maps
set_option linter.unusedVariables false

/-- How far the numbers of a line are. -/
def NumsTo (ps : List ByteArray) (k : Nat) (ok ok' : Bool) (lv : List Int) : Prop :=
  (ok' = true → ok = true ∧ ∀ (i : Nat) p, i < k → ps[i + 1]? = some p → ∃ v, lv[i]? = some v ∧ GoodN p v) ∧ (ok = true → (∀ (i : Nat) p, i < k → ps[i + 1]? = some p → ∃ v, GoodN p v) → ok' = true)
theorem NumsTo.start (ps : List ByteArray) (ok : Bool) (lv : List Int) : NumsTo ps 0 ok ok lv := ⟨fun h => ⟨h, fun i p hi => by omega⟩, fun h _ => h⟩
theorem NumsTo.next {ps : List ByteArray} {k : Nat} {ok ok' : Bool} {lv : List Int} {p : ByteArray} {v : Int} {b : Bool} (h : NumsTo ps k ok ok' lv) (hp : ps[k + 1]? = some p) (hk : k < lv.length) (ha : AtoiR p v b) : NumsTo ps (k + 1) ok (ok' && b && decide (-1 ≤ v) && decide (v ≤ 1099511627776)) (lv.set k v) := by
  obtain ⟨_, ha1, ha2⟩ := ha
  constructor
  · intro h1
    simp only [Bool.and_eq_true, decide_eq_true_eq] at h1
    obtain ⟨⟨⟨h2, h3⟩, h4⟩, h5⟩ := h1
    refine ⟨(h.1 h2).1, fun i q hi hq => ?_⟩
    by_cases e : i = k
    · subst e
      rw [hp] at hq
      cases hq
      exact ⟨v, by rw [List.getElem?_set, if_pos rfl, if_pos hk], ha1 h3, h4, h5⟩
    · obtain ⟨u, hu, hg⟩ := (h.1 h2).2 i q (by omega) hq
      exact ⟨u, by rw [List.getElem?_set, if_neg (fun e2 => e e2.symm)]; exact hu, hg⟩
  · intro h1 h2
    have h3 := h.2 h1 (fun i q hi hq => h2 i q (by omega) hq)
    obtain ⟨u, hu⟩ := h2 k p (by omega) hp
    have hb : b = true := by
      cases b
      · exact absurd hu.1 (ha2 rfl u)
      · rfl
    have huv : u = v := by
      have := hu.1.symm.trans (ha1 hb)
      injection this
    rw [h3, hb, ← huv, decide_eq_true hu.2.1, decide_eq_true hu.2.2]
    rfl

/-- What reading a line does: of the text and the flag, and what it hands back. -/
def LineR (N : Nat) (s : ByteArray) (ok : Bool) (word : ByteArray) (lv : List Int) (s' : ByteArray) (ok' : Bool) : Prop :=
  (ok' = true → ok = true ∧ LineOk N s word lv ∧ s' = restN s) ∧ (ok = true → (∃ w l, LineOk N s w l) → ok' = true) ∧ lv.length = N
def LinePost (N : Nat) (rb ob : Nat) (s : ByteArray) (ok : Bool) (w : World) (e : Ending) (w' : World) : Prop :=
  ∃ word lv s' ok' lb, e = .returned (.tuple #[.string word, .slice (some ⟨lb, 0, none⟩) N N]) ∧ LineR N s ok word lv s' ok' ∧ w.heap.size ≤ lb ∧ Blk w' lb 3 (lv.map (Value.int .i64)).toArray ∧ Blk w' rb 9 #[.string s'] ∧ Blk w' ob 4 #[.bool ok'] ∧ Kept (fun i => i = rb ∨ i = ob) w w' ∧ s'.size ≤ s.size ∧ word.size ≤ s.size

theorem split_le (sep : ByteArray) : ∀ (k : Nat) (s : ByteArray), ∀ t ∈ Lib.splitB sep 0 k s, t.size ≤ s.size
  | 0, s => by simp [Lib.splitB]
  | k + 1, s => by
    unfold Lib.splitB
    split
    · simp
    · intro t ht
      rcases List.mem_cons.1 ht with rfl | ht
      · rw [ByteArray.size_extract]; omega
      · have := split_le sep k _ t ht
        rw [ByteArray.size_extract] at this
        omega
/-- Where the loop over a line's numbers stands. -/
structure DLoop (N rb ob lb pb : Nat) (s : ByteArray) (ok : Bool) (w : World) (k : Nat) (okk : Bool) (lv : List Int) (wr : World) : Prop where
  len : lv.length = N
  row : Blk wr lb 3 (lv.map (Value.int .i64)).toArray
  flag : Blk wr ob 4 #[.bool okk]
  rest : Blk wr rb 9 #[.string (restN s)]
  words : Blk wr pb 9 ((partsS (headN s)).map Value.string).toArray
  nums : NumsTo (partsS (headN s)) k ok okk lv
  kept : Kept (fun i => i = rb ∨ i = ob) w wr
theorem DLoop.step {N rb ob lb pb : Nat} {s : ByteArray} {ok : Bool} {w : World} {k : Nat} {okk : Bool} {lv : List Int} {wr V : World} {p : ByteArray} {v : Int} {b nb : Bool} (h : DLoop N rb ob lb pb s ok w k okk lv wr) (hV : Below wr.heap.size wr V) (hp : (partsS (headN s))[k + 1]? = some p) (hk : k < N) (ha : AtoiR p v b) (hnb : nb = (okk && b && decide (-1 ≤ v) && decide (v ≤ 1099511627776)))
    (hro : rb ≠ ob) (hl : w.heap.size ≤ lb) (hb : w.heap.size ≤ pb) (hlp : lb ≠ pb) (hrl : rb < w.heap.size) (hol : ob < w.heap.size) :
    DLoop N rb ob lb pb s ok w (k + 1) nb (lv.set k v) ((V.setCell ⟨ob, 0, none⟩ (.bool nb)).setCell ⟨lb, k, none⟩ (.int .i64 v)) := by
  have k0 : ∀ {g t cs}, Blk wr g t cs → Blk V g t cs := fun {g t cs} hg => (hV.block g hg.lt).trans hg
  refine ⟨by rw [List.length_set]; exact h.len, ?_, ?_, ?_, ?_, by rw [hnb]; exact h.nums.next hp (by rw [h.len]; exact hk) ha, ?_⟩
  · have h1 := ((k0 h.row).far (p := ⟨ob, 0, none⟩) (show lb ≠ ob by omega) (.bool nb)).set_ k (.int .i64 v)
    rw [List.setIfInBounds_toArray] at h1
    rw [List.map_set]
    exact h1
  · exact ((k0 h.flag).set_ 0 (.bool nb)).far (p := ⟨lb, k, none⟩) (show ob ≠ lb by omega) _
  · exact ((k0 h.rest).far (p := ⟨ob, 0, none⟩) hro _).far (p := ⟨lb, k, none⟩) (show rb ≠ lb by omega) _
  · exact ((k0 h.words).far (p := ⟨ob, 0, none⟩) (show pb ≠ ob by omega) _).far (p := ⟨lb, k, none⟩) (Ne.symm hlp) _
  · exact ((h.kept.below hV h.kept.size).setCell (p := ⟨ob, 0, none⟩) (Or.inl (Or.inr rfl)) _).setCell (p := ⟨lb, k, none⟩) (Or.inr hl) _

set_option maxHeartbeats 4000000 in
set_option maxRecDepth 100000 in
theorem dline_any (N B rb ob : Nat) (s : ByteArray) (ok : Bool) (w : World) (hN : N ≤ 10) (hN1 : 1 ≤ N) (hs : s.size ≤ 1000000) (hr : Blk w rb 9 #[.string s]) (ho : Blk w ob 4 #[.bool ok]) (hne : rb ≠ ob) (hB : B ≤ w.heap.size) (hBr : B ≤ rb) (hBo : B ≤ ob) (hge : ∀ V, Below B w V → ErrAt V ∧ GlobAt V)
    (hmk : ∀ V, (Instr.makeSlice 36 (.int .i64 N) (.int .i64 N)).run Tryz.prog V = .ok (.slice (some ⟨V.heap.size, 0, none⟩) N N) (V.alloc (.cells (Array.replicate N (Value.int .i64 0)) 3))) :
    Calls Tryz.prog 12 #[.int .i64 N, .pointer (some ⟨rb, 0, none⟩), .pointer (some ⟨ob, 0, none⟩)] w fun e w' => LinePost N rb ob s ok w e w' := by
  have HR := Lib.hid hr
  have HO := Lib.hid ho
  have HGE := Lib.hid hge
  have HNE := Lib.hid hne
  have HMK := Lib.hid hmk
  have hrl := hr.lt
  have hol := ho.lt
  have c0 : w.cell? ⟨rb, 0, none⟩ = some (.string s) := hr.cell 0
  have HC := Lib.hid (cutN_any s w (by omega) (hge w (Below.refl _ _)).2)
  clear hr ho hge hmk
  go_enter Tryz.func12, Tryz.ntmps12
  go_wp2_with fail
  refine HC.out.mono ?_
  rintro e w1 ⟨rfl, q, rfl⟩
  obtain ⟨w1, hw1⟩ : ∃ w1, w.drewN q = w1 := ⟨_, rfl⟩
  have HB1 : Hid (Below w.heap.size w w1) := Lib.hid (by rw [← hw1]; exact Go.Proofs.YtobkgkiomapabaaGreatDoor.below_drewN (Below.refl _ _) q)
  have HZ1 : Hid (w1.heap.size = w.heap.size) := Lib.hid (by rw [← hw1]; rfl)
  rw [hw1]
  clear hw1 HC c0
  have HHS : Hid ((headN s).size ≤ s.size) := Lib.hid (by
    rcases nl_cases s 10 with h1 | ⟨x, r, rfl, hx⟩
    · rw [(cutN_miss h1).1]; exact Nat.le_refl _
    · rw [(cutN_line r hx).1, ba_size, ba_size]; omega)
  have HSP := Lib.hid (splitS_any (headN s) w1 (by have := HHS.out; omega) (HGE.out w1 (HB1.out.mono hB)).2)
  go_wp2_with fail
  refine HSP.out.mono ?_
  rintro e w2 ⟨rfl, hw2⟩
  have HP2 : Hid (Blk w2 w1.heap.size 9 ((partsS (headN s)).map Value.string).toArray) := Lib.hid (by rw [hw2]; exact Blk.new _ _ _)
  have HB2 : Hid (Below w.heap.size w w2) := Lib.hid (by rw [hw2]; exact HB1.out.alloc HB1.out.size _)
  have HR2 : Hid (Blk w2 rb 9 #[.string s]) := Lib.hid ((HB2.out.block rb hrl).trans HR.out)
  have HO2 : Hid (Blk w2 ob 4 #[.bool ok]) := Lib.hid ((HB2.out.block ob hol).trans HO.out)
  have HZ2 : Hid (w2.heap.size = w.heap.size + 1) := Lib.hid (by rw [hw2]; simp [HZ1.out])
  obtain ⟨n, hn⟩ : ∃ n, (partsS (headN s)).length = n := ⟨_, rfl⟩
  have HN := Lib.hid hn
  rw [hn]
  clear hw2 hn HSP
  have HBAD : Hid ((¬ ∃ wd l, LineOk N s wd l) → LinePost N rb ob s ok w (.returned (.tuple #[.string ⟨#[]⟩, .slice (some ⟨w2.heap.size, 0, none⟩) N N])) (((w2.setCell ⟨ob, 0, none⟩ (.bool false)).drew).alloc (.cells (Array.replicate N (Value.int .i64 0)) 3))) := Lib.hid (fun hb => by
    have hz : ((w2.setCell ⟨ob, 0, none⟩ (.bool false)).drew).heap.size = w2.heap.size := by simp [World.setCell, World.drew]
    refine ⟨⟨#[]⟩, List.replicate N 0, s, false, w2.heap.size, rfl, ⟨fun h => (by cases h), fun _ h => absurd h hb, by simp⟩, HB2.out.size, ?_, ?_, ?_, ?_, Nat.le_refl _, Nat.zero_le _⟩
    · have := Blk.new ((w2.setCell ⟨ob, 0, none⟩ (.bool false)).drew) 3 (Array.replicate N (Value.int .i64 0))
      rw [hz] at this
      simpa using this
    · exact (((HR2.out).far (p := ⟨ob, 0, none⟩) HNE.out _).drew).alloc _
    · exact (((HO2.out).set_ 0 (.bool false)).drew).alloc _
    · exact (((((Kept.refl (fun i => i = rb ∨ i = ob) w).below HB2.out (Nat.le_refl _)).setCell (p := ⟨ob, 0, none⟩) (Or.inl (Or.inr rfl)) _).drew).alloc _))
  have z2 : w2.frozen? ⟨ob, 0, none⟩ = false := HO2.out.frozen 0
  have j2 : w2.cell? ⟨ob, 0, none⟩ = some (.bool ok) := HO2.out.cell 0
  cases hcut : cutsN s
  · have HB := Lib.hid (HBAD.out (fun ⟨wd, l, h⟩ => by have h1 := h.1; rw [hcut] at h1; cases h1))
    clear HBAD hcut
    have hmk := HMK.out
    go_wp2_with fail
    refine wp_plan (fun _ => True) [(0, false), (2, false), (1, true), (3, false)] (by kernel_rfl) (by kernel_rfl) trivial ?_
    simp only [planL, List.getElem?_cons_zero, List.getElem?_cons_succ]
    repeat (refine plan_on _ (by rfl) (fun W hW => by (go_simp; try with_reducible rfl)) ?_; simp only [Act.put, List.setIfInBounds_toArray, List.set_cons_zero, List.set_cons_succ])
    refine plan_turn ?_
    go_wp2_with fail
    refine ⟨trivial, ?_⟩
    repeat (refine plan_on _ (by rfl) (fun W hW => by (go_simp; try with_reducible rfl)) ?_; simp only [Act.put, List.setIfInBounds_toArray, List.set_cons_zero, List.set_cons_succ])
    refine plan_done ?_
    go_wp2_with fail
    go_ret2
    exact HB.out
  by_cases hlen : n = N + 1
  rotate_left
  · have HB := Lib.hid (HBAD.out (fun ⟨wd, l, h⟩ => hlen (by rw [← HN.out]; exact h.2.1)))
    have hln : ((n : Int) != (N : Int) + 1) = true := by rw [bne_iff_ne]; omega
    clear HBAD hcut
    have hmk := HMK.out
    go_wp2_with fail
    refine wp_plan (fun _ => True) [(0, false), (2, false), (1, true), (3, false)] (by kernel_rfl) (by kernel_rfl) trivial ?_
    simp only [planL, List.getElem?_cons_zero, List.getElem?_cons_succ]
    repeat (refine plan_on _ (by rfl) (fun W hW => by (go_simp; try with_reducible rfl)) ?_; simp only [Act.put, List.setIfInBounds_toArray, List.set_cons_zero, List.set_cons_succ])
    refine plan_turn ?_
    go_wp2_with fail
    refine ⟨trivial, ?_⟩
    repeat (refine plan_on _ (by rfl) (fun W hW => by (go_simp; try with_reducible rfl)) ?_; simp only [Act.put, List.setIfInBounds_toArray, List.set_cons_zero, List.set_cons_succ])
    refine plan_done ?_
    go_wp2_with fail
    go_ret2
    exact HB.out
  subst hlen
  have HCUT := Lib.hid hcut
  clear HBAD hcut z2 j2
  have z1 : w2.frozen? ⟨rb, 0, none⟩ = false := HR2.out.frozen 0
  have j1 : w2.cell? ⟨rb, 0, none⟩ = some (.string s) := HR2.out.cell 0
  have hln : (((N + 1 : Nat) : Int) != (N : Int) + 1) = false := by
    rw [bne_eq_false_iff_eq]
    omega
  have hmk := HMK.out
  obtain ⟨w3, hw3⟩ : ∃ w3, (w2.setCell ⟨rb, 0, none⟩ (.string (restN s))).alloc (.cells (Array.replicate N (Value.int .i64 0)) 3) = w3 := ⟨_, rfl⟩
  have HS3 : Hid ((w2.setCell ⟨rb, 0, none⟩ (.string (restN s))).heap.size = w2.heap.size) := Lib.hid (by simp [World.setCell])
  have hbne : w1.heap.size ≠ w2.heap.size := by have := HZ1.out; have := HZ2.out; omega
  have HD3 : Hid (DLoop N rb ob w2.heap.size w1.heap.size s ok w 0 ok (List.replicate N 0) w3) := Lib.hid (by
    have e1 := HZ1.out
    refine ⟨by simp, ?_, ?_, ?_, ?_, NumsTo.start _ _ _, ?_⟩
    · have := Blk.new (w2.setCell ⟨rb, 0, none⟩ (.string (restN s))) 3 (Array.replicate N (Value.int .i64 0))
      rw [HS3.out, hw3] at this
      simpa using this
    · rw [← hw3]; exact (HO2.out.far (p := ⟨rb, 0, none⟩) (Ne.symm HNE.out) _).alloc _
    · rw [← hw3]; exact (HR2.out.set_ 0 _).alloc _
    · rw [← hw3]; exact (HP2.out.far (p := ⟨rb, 0, none⟩) (show w1.heap.size ≠ rb by omega) _).alloc _
    · rw [← hw3]; exact (((Kept.refl (fun i => i = rb ∨ i = ob) w).below HB2.out (Nat.le_refl _)).setCell (p := ⟨rb, 0, none⟩) (Or.inl (Or.inl rfl)) _).alloc _)
  go_wp2_with fail
  clear hw3 hln
  have HLP : Hid (∀ (i : Nat) p, (partsS (headN s))[i]? = some p → p.size ≤ s.size) := Lib.hid (fun i p hp => Nat.le_trans (split_le _ _ _ p (List.mem_of_getElem? hp)) HHS.out)
  go_loopw [40] (fun i wr => ∃ (k : Nat) (okk : Bool) (lv : List Int), k ≤ N ∧ i = .int .i64 k ∧ Hid (DLoop N rb ob w2.heap.size w1.heap.size s ok w k okk lv wr)) (fun i _ => N - (intOf i).toNat)
  case atStart => exact ⟨0, ok, _, Nat.zero_le _, rfl, HD3⟩
  case round =>
    obtain ⟨k, okk, lv, hk, rfl, hd⟩ := hrel
    by_cases hlt : k < N
    · obtain ⟨p, hp⟩ : ∃ p, (partsS (headN s))[k + 1]? = some p := ⟨_, List.getElem?_eq_getElem (by rw [HN.out]; omega)⟩
      have HPP := Lib.hid hp
      have e0 : wr.cell? ⟨w1.heap.size, 1 + k, none⟩ = some (.string p) := by
        rw [hd.out.words.cell, Nat.add_comm 1 k]
        simp [hp]
      have hk8 : (k : Int) < (N : Int) := by omega
      have hk9 : (0 : Int) ≤ (k : Int) := by omega
      have HEW : Hid (ErrAt wr) := Lib.hid (HGE.out wr (hd.out.kept.toBelow (fun i hi => by rcases hi with rfl | rfl <;> assumption) hB)).1
      have HAT := Lib.hid (atoi_any p wr (by have := HLP.out _ p hp; omega) HEW.out)
      clear hp
      go_wp2_with fail
      refine HAT.out.mono ?_
      rintro e w5 ⟨hae, hb5⟩
      have c5 : w5.cell? ⟨ob, 0, none⟩ = some (.bool okk) := (hb5.cell (p := ⟨ob, 0, none⟩) hd.out.flag.lt).trans (hd.out.flag.cell 0)
      have z5 : w5.frozen? ⟨ob, 0, none⟩ = false := (show Blk w5 ob _ _ from (hb5.block _ hd.out.flag.lt).trans hd.out.flag).frozen 0
      have hlb : ob ≠ w2.heap.size := by have := HZ2.out; omega
      have hrow : Blk w5 w2.heap.size 3 (lv.map (Value.int .i64)).toArray := (hb5.block _ hd.out.row.lt).trans hd.out.row
      have hz5 : ∀ u, (w5.setCell ⟨ob, 0, none⟩ u).frozen? ⟨w2.heap.size, k, none⟩ = false := fun u => (hrow.far (p := ⟨ob, 0, none⟩) (Ne.symm hlb) u).frozen k
      obtain ⟨u0, hu0⟩ : ∃ u0, lv[k]? = some u0 := ⟨_, List.getElem?_eq_getElem (by rw [hd.out.len]; exact hlt)⟩
      have hc5 : ∀ u, (w5.setCell ⟨ob, 0, none⟩ u).cell? ⟨w2.heap.size, k, none⟩ = some (.int .i64 u0) := fun u => by
        rw [(hrow.far (p := ⟨ob, 0, none⟩) (Ne.symm hlb) u).cell]
        simp [hu0]
      have HNX : Hid (∀ (v : Int) (b nb : Bool), AtoiR p v b → nb = (okk && b && decide (-1 ≤ v) && decide (v ≤ 1099511627776)) → DLoop N rb ob w2.heap.size w1.heap.size s ok w (k + 1) nb (lv.set k v) ((w5.setCell ⟨ob, 0, none⟩ (.bool nb)).setCell ⟨w2.heap.size, k, none⟩ (.int .i64 v))) := Lib.hid (fun v b nb ha hnb => hd.out.step hb5 HPP.out hlt ha hnb HNE.out (by have := HZ2.out; omega) (by have := HZ1.out; omega) (Ne.symm hbne) hrl hol)
      clear hb5 hrow HAT e0 hu0
      rcases hae with ⟨v, rfl, hr⟩ | ⟨v, t, M, rfl, hr⟩
      · cases okk
        · have HX := Lib.hid (HNX.out v true false hr (by simp))
          clear hr HNX
          go_wp2_with fail
          go_roundw
          case rel => exact ⟨k + 1, _, _, by omega, by go_num, HX⟩
          case measure => simp [intOf]; omega
        · by_cases h1 : -1 ≤ v
          · by_cases h2 : v ≤ 1099511627776
            · have HX := Lib.hid (HNX.out v true true hr (by simp [h1, h2]))
              have q1 : decide (-1 ≤ v) = true := decide_eq_true h1
              have q2 : decide (v ≤ 1099511627776) = true := decide_eq_true h2
              clear hr HNX h1 h2
              go_wp2_with fail
              go_roundw
              case rel => exact ⟨k + 1, _, _, by omega, by go_num, HX⟩
              case measure => simp [intOf]; omega
            · have HX := Lib.hid (HNX.out v true false hr (by simp [h2]))
              have q1 : decide (-1 ≤ v) = true := decide_eq_true h1
              have q2 : decide (v ≤ 1099511627776) = false := decide_eq_false h2
              clear hr HNX h1 h2
              go_wp2_with fail
              go_roundw
              case rel => exact ⟨k + 1, _, _, by omega, by go_num, HX⟩
              case measure => simp [intOf]; omega
          · have HX := Lib.hid (HNX.out v true false hr (by simp [h1]))
            have q1 : decide (-1 ≤ v) = false := decide_eq_false h1
            clear hr HNX h1
            go_wp2_with fail
            go_roundw
            case rel => exact ⟨k + 1, _, _, by omega, by go_num, HX⟩
            case measure => simp [intOf]; omega
      · have HX := Lib.hid (HNX.out v false false hr (by simp))
        clear hr HNX
        cases okk
        · go_wp2_with fail
          go_roundw
          case rel => exact ⟨k + 1, _, _, by omega, by go_num, HX⟩
          case measure => simp [intOf]; omega
        · go_wp2_with fail
          go_roundw
          case rel => exact ⟨k + 1, _, _, by omega, by go_num, HX⟩
          case measure => simp [intOf]; omega
    · obtain rfl : k = N := by omega
      obtain ⟨wd, hwd⟩ : ∃ wd, (partsS (headN s))[0]? = some wd := ⟨_, List.getElem?_eq_getElem (by rw [HN.out]; omega)⟩
      have e0 : wr.cell? ⟨w1.heap.size, 0, none⟩ = some (.string wd) := by
        rw [hd.out.words.cell]
        simp [hwd]
      have HFIN : Hid (LinePost k rb ob s ok w (.returned (.tuple #[.string wd, .slice (some ⟨w2.heap.size, 0, none⟩) k k])) wr) := Lib.hid (by
        refine ⟨wd, lv, restN s, okk, w2.heap.size, rfl, ⟨fun h => ?_, fun h1 h2 => ?_, hd.out.len⟩, HB2.out.size, hd.out.row, hd.out.rest, hd.out.flag, hd.out.kept, Nat.le_of_lt (rest_less HCUT.out), HLP.out 0 wd hwd⟩
        · obtain ⟨h1, h2⟩ := hd.out.nums.1 h
          exact ⟨h1, ⟨HCUT.out, HN.out, hwd, hd.out.len, h2⟩, rfl⟩
        · obtain ⟨wd', l, _, _, _, _, h5⟩ := h2
          refine hd.out.nums.2 h1 (fun i p hi hp => ?_)
          obtain ⟨v, _, hv⟩ := h5 i p hi hp
          exact ⟨v, hv⟩)
      clear hwd
      go_wp2_with fail
      go_ret2
      exact HFIN.out

end Go.Proofs.YtobkgkiomapabaaGreatDoor

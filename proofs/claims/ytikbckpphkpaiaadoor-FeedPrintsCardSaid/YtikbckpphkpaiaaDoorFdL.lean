/- Few, Some, Big, made. -/
import Derived.Test.YtikbckpphkpaiaaDoorFdDiff
import Derived.Test.YtikbckpphkpaiaaDoorItB
namespace Go.Proofs.YtikbckpphkpaiaaDoor
open Go.Shelf Go.RowKit Go.Maps
set_option linter.unusedVariables false

/-- A list of rows that was handed in. -/
def RoBd (r : Ro) : Prop := r.name.size ≤ 281474976710656 ∧ r.maker.size ≤ 281474976710656 ∧ r.tags.size ≤ 281474976710656
def RoArg (w : World) (A : Option Addr) (n c : Nat) (l : List Ro) : Prop := l.length = n ∧ RowIn w w.heap.size 5 A n (l.flatMap roC) ∧ n ≤ 140737488355328 ∧ (A = none → c = 0) ∧ ∀ r ∈ l, RoBd r
def RoFew (r : Ro) : Prop := r.name.size + r.maker.size + r.tags.size ≤ 600
theorem ro_at {w : World} {B : Nat} {A : Option Addr} {l : List Ro} {n : Nat} (h : RowIn w B 5 A n (l.flatMap roC)) (hn : 0 < n) : ∃ g o, A = some ⟨g, o, none⟩ ∧ g < B ∧ ∀ (k : Nat) r, l[k]? = some r → w.cell? ⟨g, o + k * 5, none⟩ = some (.string r.name) ∧ w.cell? ⟨g, o + k * 5 + 1, none⟩ = some (.string r.maker) ∧ w.cell? ⟨g, o + k * 5 + 2, none⟩ = some (.string r.tags) ∧ w.cell? ⟨g, o + k * 5 + 3, none⟩ = some (.int .i64 r.price) ∧ w.cell? ⟨g, o + k * 5 + 4, none⟩ = some (.int .i64 r.stock) := by
  obtain ⟨g, o, h1, h2, h3⟩ := h.at hn
  have q := fun (k : Nat) (r : Ro) (hx : l[k]? = some r) (j : Nat) (hj : j < 5) (u : Value) (hu : (roC r)[j]? = some u) => h3 (k * 5 + j) u ((flat_get roC 5 roC_len _ k j r hx hj).trans hu)
  refine ⟨g, o, h1, h2, fun k r hx => ⟨?_, ?_, ?_, ?_, ?_⟩⟩
  · exact q k r hx 0 (by omega) _ rfl
  · rw [Nat.add_assoc]; exact q k r hx 1 (by omega) _ rfl
  · rw [Nat.add_assoc]; exact q k r hx 2 (by omega) _ rfl
  · rw [Nat.add_assoc]; exact q k r hx 3 (by omega) _ rfl
  · rw [Nat.add_assoc]; exact q k r hx 4 (by omega) _ rfl

set_option maxHeartbeats 2000000 in
set_option maxRecDepth 100000 in
theorem few_any (w : World) (B : Nat) (A : Option Addr) (l : List Ro) (n c : Nat) (hn : l.length = n) (hl : RowIn w B 5 A n (l.flatMap roC)) (hB : B ≤ w.heap.size) (hb : n ≤ 140737488355328) (hbd : ∀ e ∈ l, RoBd e) :
    Calls Tryd.prog 9 #[.slice A n c] w fun e w' => ∃ b : Bool, e = .returned (.bool b) ∧ (b = true → n ≤ 31 ∧ ∀ x ∈ l, RoFew x) ∧ ∃ q, w' = w.drewN q := by
  have HN := Lib.hid hn
  have HL := Lib.hid hl
  have HD := Lib.hid hbd
  clear hn hl hbd
  go_enter Tryd.func9, Tryd.ntmps9
  go_wp2_with fail
  go_loopw [3] (fun i wr => ∃ k q : Nat, k ≤ n ∧ k ≤ 31 ∧ i = .int .i64 k ∧ Hid (∀ j x, j < k → l[j]? = some x → RoFew x) ∧ wr = w.drewN q) (fun i _ => n - (intOf i).toNat)
  case atStart => exact ⟨0, 0, Nat.zero_le _, by omega, rfl, Lib.hid (fun j x hj => by omega), rfl⟩
  case round =>
    obtain ⟨k, q, hk, hk61, rfl, hok, rfl⟩ := hrel
    by_cases hlt : k < n
    · obtain ⟨x, hx⟩ : ∃ x, l[k]? = some x := ⟨l[k]'(by rw [HN.out]; exact hlt), List.getElem?_eq_getElem _⟩
      obtain ⟨g, o, rfl, _, hc⟩ := ro_at HL.out (by omega)
      obtain ⟨e0, e1, e2, e3, e4⟩ := hc k x hx
      obtain ⟨d0, d1, d2⟩ := HD.out x (List.mem_of_getElem? hx)
      have HX := Lib.hid hx
      have hk8 : (k : Int) < (n : Int) := by omega
      have hk9 : (0 : Int) ≤ (k : Int) := by omega
      have i1 : IntKind.i64.wrap ((x.name.size : Int) + (x.maker.size : Int)) = (x.name.size : Int) + (x.maker.size : Int) := IntWalk.i64_in _ (by omega)
      have i2 : IntKind.i64.wrap ((x.name.size : Int) + (x.maker.size : Int) + (x.tags.size : Int)) = (x.name.size : Int) + (x.maker.size : Int) + (x.tags.size : Int) := IntWalk.i64_in _ (by omega)
      clear hx hc e3 e4
      by_cases hs : (600 : Int) < (x.name.size : Int) + (x.maker.size : Int) + (x.tags.size : Int)
      · have hd : decide ((600 : Int) < (x.name.size : Int) + (x.maker.size : Int) + (x.tags.size : Int)) = true := decide_eq_true hs
        clear hs
        by_cases h60 : (30 : Int) < (k : Int)
        · have hd2 : decide ((30 : Int) < (k : Int)) = true := decide_eq_true h60
          go_wp2_with fail
          go_quiet (fail)
          go_wp2_with fail
          go_ret
          exact ⟨false, rfl, (fun h => by cases h), q + nq, by simp⟩
        · have hd2 : decide ((30 : Int) < (k : Int)) = false := decide_eq_false h60
          go_wp2_with fail
          go_quiet (fail)
          go_wp2_with fail
          go_ret
          exact ⟨false, rfl, (fun h => by cases h), q + nq, by simp⟩
      · have hd : decide ((600 : Int) < (x.name.size : Int) + (x.maker.size : Int) + (x.tags.size : Int)) = false := decide_eq_false hs
        have HS : Hid (RoFew x) := Lib.hid (by unfold RoFew; omega)
        clear hs
        by_cases h60 : (30 : Int) < (k : Int)
        · have hd2 : decide ((30 : Int) < (k : Int)) = true := decide_eq_true h60
          go_wp2_with fail
          go_quiet (fail)
          go_wp2_with fail
          go_ret
          exact ⟨false, rfl, (fun h => by cases h), q + nq, by simp⟩
        · have hd2 : decide ((30 : Int) < (k : Int)) = false := decide_eq_false h60
          go_wp2_with fail
          go_quiet (fail)
          go_wp2_with fail
          go_roundw
          case rel =>
            refine ⟨k + 1, q + nq, by omega, by omega, by go_num, Lib.hid (fun j y hj hy => ?_), by first | rfl | simp⟩
            by_cases e : j = k
            · subst e
              rw [HX.out] at hy
              cases hy
              exact HS.out
            · exact hok.out j y (by omega) hy
          case measure => simp [intOf]; omega
    · obtain rfl : n = k := by omega
      go_wp2_with fail
      go_ret
      refine ⟨true, rfl, fun _ => ⟨hk61, fun x hx => ?_⟩, _, rfl⟩
      obtain ⟨j, hj⟩ := List.mem_iff_getElem?.1 hx
      exact hok.out j x (by have := (List.getElem?_eq_some_iff.1 hj).1; rw [HN.out] at this; exact this) hj

/-- The texts of an event are short. -/
def EvSmall (e : Ev) : Prop := e.src.size ≤ 300 ∧ e.person.size ≤ 300 ∧ e.item.size ≤ 300 ∧ e.text.size ≤ 300
theorem EvSmall.sh {e : Ev} (h : EvSmall e) : EvSh e := by obtain ⟨h1, h2, h3, h4⟩ := h; exact ⟨by omega, by omega, by omega, by omega⟩

set_option maxHeartbeats 1000000 in
set_option maxRecDepth 100000 in
theorem big_any (x : Ev) (w : World) (hb : EvBd x) :
    Calls Tryd.prog 22 #[evA x, .int .i64 300] w fun e w' => ∃ b : Bool, e = .returned (.bool b) ∧ (b = false → EvSmall x) ∧ Below w.heap.size w w' := by
  obtain ⟨s0, n0, t0, k0, p0, i0, v0, x0⟩ := x
  obtain ⟨h0, h1, h2, h3⟩ := hb
  dsimp only at h0 h1 h2 h3
  have HES : Hid (EvSmall ⟨s0, n0, t0, k0, p0, i0, v0, x0⟩ ↔ (s0.size ≤ 300 ∧ p0.size ≤ 300 ∧ i0.size ≤ 300 ∧ x0.size ≤ 300)) := Lib.hid Iff.rfl
  unfold evA
  dsimp only
  obtain ⟨w1, hw1⟩ : ∃ w1, w.alloc (.cells #[.string s0, .int .i64 n0, .int .i64 t0, .int .i64 k0, .string p0, .string i0, .int .i64 v0, .string x0] 37) = w1 := ⟨_, rfl⟩
  have bl : Blk w1 w.heap.size 37 #[.string s0, .int .i64 n0, .int .i64 t0, .int .i64 k0, .string p0, .string i0, .int .i64 v0, .string x0] := by rw [← hw1]; exact Blk.new _ _ _
  have HB1 : Hid (Below w.heap.size w w1) := Lib.hid (by rw [← hw1]; exact (Below.refl _ _).alloc (Nat.le_refl _) _)
  have c0 : w1.cell? ⟨w.heap.size, 0, none⟩ = some (.string s0) := bl.cell 0
  have c4 : w1.cell? ⟨w.heap.size, 4, none⟩ = some (.string p0) := bl.cell 4
  have c5 : w1.cell? ⟨w.heap.size, 5, none⟩ = some (.string i0) := bl.cell 5
  have c7 : w1.cell? ⟨w.heap.size, 7, none⟩ = some (.string x0) := bl.cell 7
  clear bl
  by_cases q0 : (300 : Int) < (s0.size : Int)
  · go_enter Tryd.func22, Tryd.ntmps22
    go_wp2_with fail
    go_ret
    first | exact ⟨true, rfl, fun h => (by cases h), HB1.out⟩ | exact Or.inr ⟨rfl, HB1.out⟩
  have d0 : decide ((300 : Int) < (s0.size : Int)) = false := decide_eq_false q0
  by_cases q1 : (300 : Int) < (p0.size : Int)
  · go_enter Tryd.func22, Tryd.ntmps22
    go_wp2_with fail
    go_ret
    first | exact ⟨true, rfl, fun h => (by cases h), HB1.out⟩ | exact Or.inr ⟨rfl, HB1.out⟩
  have d1 : decide ((300 : Int) < (p0.size : Int)) = false := decide_eq_false q1
  by_cases q2 : (300 : Int) < (i0.size : Int)
  · go_enter Tryd.func22, Tryd.ntmps22
    go_wp2_with fail
    go_ret
    first | exact ⟨true, rfl, fun h => (by cases h), HB1.out⟩ | exact Or.inr ⟨rfl, HB1.out⟩
  have d2 : decide ((300 : Int) < (i0.size : Int)) = false := decide_eq_false q2
  by_cases q3 : (300 : Int) < (x0.size : Int)
  · go_enter Tryd.func22, Tryd.ntmps22
    go_wp2_with fail
    go_ret
    first | exact ⟨true, rfl, fun h => (by cases h), HB1.out⟩ | exact Or.inr ⟨rfl, HB1.out⟩
  have d3 : decide ((300 : Int) < (x0.size : Int)) = false := decide_eq_false q3
  have HE : Hid (EvSmall ⟨s0, n0, t0, k0, p0, i0, v0, x0⟩) := Lib.hid (HES.out.2 (by omega))
  go_enter Tryd.func22, Tryd.ntmps22
  go_wp2_with fail
  go_ret
  first | exact ⟨false, rfl, fun _ => HE.out, HB1.out⟩ | exact Or.inl ⟨rfl, HE.out, HB1.out⟩

set_option maxHeartbeats 1000000 in
set_option maxRecDepth 100000 in
theorem some_any (w : World) (B : Nat) (A : Option Addr) (l : List Ev) (n c : Nat) (hn : l.length = n) (hl : EvsAt w B A l) (hB : B ≤ w.heap.size) (hb : n ≤ 140737488355328) (hbd : ∀ e ∈ l, EvBd e) :
    Calls Tryd.prog 8 #[.slice A n c, .int .i64 300] w fun e w' => ∃ b : Bool, e = .returned (.bool b) ∧ (b = false → ∀ e ∈ l, EvSmall e) ∧ Below w.heap.size w w' := by
  have HN := Lib.hid hn
  have HL := Lib.hid hl
  have HD := Lib.hid hbd
  clear hn hl hbd
  go_enter Tryd.func8, Tryd.ntmps8
  go_wp2_with fail
  go_loopw [5] (fun i wr => ∃ k : Nat, k ≤ n ∧ i = .int .i64 k ∧ Hid (∀ j e, j < k → l[j]? = some e → EvSmall e) ∧ Hid (Below w.heap.size w wr)) (fun i _ => n - (intOf i).toNat)
  case atStart => exact ⟨0, Nat.zero_le _, rfl, Lib.hid (fun j e hj => by omega), Lib.hid (Below.refl _ _)⟩
  case round =>
    obtain ⟨k, hk, rfl, hok, hbw⟩ := hrel
    by_cases hlt : k < n
    · obtain ⟨x, hx⟩ : ∃ x, l[k]? = some x := ⟨l[k]'(by rw [HN.out]; exact hlt), List.getElem?_eq_getElem _⟩
      obtain ⟨g, o, rfl, hgB, hcl⟩ := HL.out.at (by rw [HN.out]; omega)
      obtain ⟨e0, e1, e2, e3, e4, e5, e6, e7⟩ : EvAt wr g (o + k * 8) x := (hcl k x hx).keep (fun j => hbw.out.cell (p := ⟨g, j, none⟩) (Nat.lt_of_lt_of_le hgB hB))
      have HBG := Lib.hid (big_any x wr (HD.out x (List.mem_of_getElem? hx)))
      have HX := Lib.hid hx
      have hk8 : (k : Int) < (n : Int) := by omega
      have hk9 : (0 : Int) ≤ (k : Int) := by omega
      unfold evA at HBG
      clear hcl hx
      go_wp2_with fail
      refine HBG.out.mono ?_
      rintro e w2 ⟨b, rfl, hbs, hb2⟩
      have HB2 : Hid (Below w.heap.size w w2) := Lib.hid (hbw.out.trans (hb2.mono hbw.out.size))
      clear HBG hb2
      cases b
      · have HSM := Lib.hid (hbs rfl)
        clear hbs
        go_wp2_with fail
        go_roundw
        case rel =>
          refine ⟨k + 1, by omega, by go_num, Lib.hid (fun j e hj he => ?_), HB2⟩
          by_cases h : j = k
          · subst h; rw [HX.out] at he; cases he; exact HSM.out
          · exact hok.out j e (by omega) he
        case measure => simp [intOf]; omega
      · clear hbs
        go_wp2_with fail
        go_ret
        exact ⟨true, rfl, fun h => (by cases h), HB2.out⟩
    · go_wp2_with fail
      go_ret
      refine ⟨false, rfl, fun _ e he => ?_, hbw.out⟩
      obtain ⟨j, hj⟩ := List.mem_iff_getElem?.1 he
      have := (List.getElem?_eq_some_iff.1 hj).1
      rw [HN.out] at this
      exact hok.out j e (by omega) hj

set_option maxHeartbeats 2000000 in
set_option maxRecDepth 100000 in
theorem made_any (w : World) (B : Nat) (A : Option Addr) (l : List Ev) (n c : Nat) (hn : l.length = n) (hl : EvsAt w B A l) (hB : B ≤ w.heap.size) (hb : n ≤ 1000) (hsh : ∀ e ∈ l, EvSh e) (hg : GlobAt w) :
    Calls Tryd.prog 10 #[.slice A n c] w fun e w' => ((madeB l = false ∧ e = .returned (.pointer none)) ∨ (madeB l = true ∧ ∃ cb F, e = .returned (.pointer (some ⟨cb, 0, none⟩)) ∧ CatAt w' cb F l ∧ ∀ q, F q → w.heap.size ≤ q)) ∧ Below w.heap.size w w' := by
  have HN := Lib.hid hn
  have HL := Lib.hid hl
  have HS := Lib.hid hsh
  have HG := Lib.hid hg
  have HNW := Lib.hid (new_any w)
  have hgl := hg.1
  have HM : Hid (madeB l = madeFrom (l.take 0) (l.drop 0)) := Lib.hid rfl
  clear hn hl hsh hg
  go_enter Tryd.func10, Tryd.ntmps10
  go_wp2_with fail
  refine HNW.out.mono ?_
  rintro e w1 ⟨cb, F0, rfl, hc1, hf1, hb1⟩
  have HC1 := Lib.hid hc1
  have HF1 := Lib.hid hf1
  have HB1 := Lib.hid hb1
  clear hc1 hf1 hb1 HNW
  go_wp2_with fail
  go_loopw [4] (fun i wr => ∃ k : Nat, k ≤ n ∧ i = .int .i64 k ∧ Hid (madeB l = madeFrom (l.take k) (l.drop k)) ∧ Hid (∃ F, CatAt wr cb F (l.take k) ∧ ∀ q, F q → w.heap.size ≤ q) ∧ Hid (Below w.heap.size w wr)) (fun i _ => n - (intOf i).toNat)
  case atStart => exact ⟨0, Nat.zero_le _, rfl, HM, Lib.hid ⟨F0, HC1.out, HF1.out⟩, HB1⟩
  case round =>
    obtain ⟨k, hk, rfl, hm, hc, hbw⟩ := hrel
    by_cases hlt : k < n
    · obtain ⟨x, hx⟩ : ∃ x, l[k]? = some x := ⟨l[k]'(by rw [HN.out]; exact hlt), List.getElem?_eq_getElem _⟩
      obtain ⟨g, o, rfl, hgB, hcl⟩ := HL.out.at (by rw [HN.out]; omega)
      obtain ⟨e0, e1, e2, e3, e4, e5, e6, e7⟩ : EvAt wr g (o + k * 8) x := (hcl k x hx).keep (fun j => hbw.out.cell (p := ⟨g, j, none⟩) (by show g < w.heap.size; omega))
      obtain ⟨F, hcat, hF⟩ := hc.out
      have hlen : (l.take k).length = k := by rw [List.length_take, HN.out]; omega
      have HA := Lib.hid (apply_any cb F (l.take k) x wr hcat (HS.out x (List.mem_of_getElem? hx)) (HG.out.keep hbw.out (Nat.le_refl _)) (by rw [hlen]; omega) (fun i hi hFi => by have := hF i hFi; omega))
      have hdr : l.drop k = x :: l.drop (k + 1) := by
        obtain ⟨hlt', hx'⟩ := List.getElem?_eq_some_iff.1 hx
        rw [List.drop_eq_getElem_cons hlt', hx']
      have htk : l.take (k + 1) = l.take k ++ [x] := by rw [List.take_add_one, hx]; rfl
      have HM2 : Hid (madeB l = (takesB (l.take k) x && madeFrom (l.take (k + 1)) (l.drop (k + 1)))) := Lib.hid (by rw [hm.out, hdr, htk]; rfl)
      have HTK := Lib.hid htk
      have HF := Lib.hid hF
      have hk8 : (k : Int) < (n : Int) := by omega
      have hk9 : (0 : Int) ≤ (k : Int) := by omega
      unfold evA at HA
      clear hcl hx hdr htk hcat hF hlen
      go_wp2_with fail
      refine HA.out.mono ?_
      rintro e w2 ⟨rfl, F2, hc2, hs2, hf2, hk2⟩
      have HB2 : Hid (Below w.heap.size w w2) := Lib.hid (hbw.out.trans (hk2.toBelow HF.out hbw.out.size))
      have HC2 := Lib.hid hc2
      have HF2 : Hid (∀ q, F2 q → w.heap.size ≤ q) := Lib.hid (fun q hq => (hf2 q hq).elim (HF.out q) (fun h => Nat.le_trans hbw.out.size h))
      clear HA hc2 hf2 hs2 hk2
      cases ht : takesB (l.take k) x
      · have HT := Lib.hid ht
        clear ht
        go_wp2_with fail
        go_ret
        exact ⟨Or.inl ⟨by rw [HM2.out, HT.out]; rfl, rfl⟩, HB2.out⟩
      · have HT := Lib.hid ht
        clear ht
        go_wp2_with fail
        go_roundw
        case rel =>
          refine ⟨k + 1, by omega, by go_num, Lib.hid (by rw [HM2.out, HT.out, Bool.true_and]), Lib.hid ⟨F2, ?_, HF2.out⟩, HB2⟩
          have := HC2.out
          unfold aftP at this
          rw [HT.out, if_pos rfl, ← HTK.out] at this
          exact this
        case measure => simp [intOf]; omega
    · obtain rfl : n = k := by omega
      go_wp2_with fail
      go_ret
      obtain ⟨F, hcat, hF⟩ := hc.out
      refine ⟨Or.inr ⟨?_, cb, F, rfl, ?_, hF⟩, hbw.out⟩
      · rw [hm.out, ← HN.out, List.take_length, List.drop_length]; rfl
      · rw [← HN.out, List.take_length] at hcat; exact hcat

end Go.Proofs.YtikbckpphkpaiaaDoor

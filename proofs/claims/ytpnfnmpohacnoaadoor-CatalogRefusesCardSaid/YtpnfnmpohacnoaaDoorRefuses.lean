/- CatalogRefuses: the walk. -/
import Derived.Test.YtpnfnmpohacnoaaDoorItB
import Derived.Test.YtpnfnmpohacnoaaDoorCatO
import Derived.Test.YtpnfnmpohacnoaaDoorTexts
namespace Go.Proofs.YtpnfnmpohacnoaaDoor
open Go.Shelf Go.RowKit Go.Maps
set_option linter.unusedVariables false

set_option maxHeartbeats 4000000 in
set_option maxRecDepth 100000 in
theorem catalogRefuses_walk (A : Option Addr) (n c : Nat) (l : List Ev) (wd : ByteArray) (t : Int) (w : World) (ha : EvArg w A n c l) (hwd : wd.size ≤ 140737488355328) (hg : GlobAt w) :
    Calls Tryd.prog 6 #[.slice A n c, .string wd, .int .i64 t] w fun e w' => e = .returned (.bool true) ∧ Below w.heap.size w w' := by
  obtain ⟨hn, hl, hnb, hnil, hbd⟩ := ha
  have HW := Lib.hid (awake_any w hg)
  have HN := Lib.hid hn
  have HL := Lib.hid hl
  have HD := Lib.hid hbd
  have HG := Lib.hid hg
  have hgl := hg.1
  clear hn hl hbd hg
  go_enter Tryd.func6, Tryd.ntmps6
  go_wp2_with fail
  refine HW.out.mono ?_
  rintro e w1 ⟨rfl, hb1⟩
  have HL1 : Hid (EvsAt w1 w.heap.size A l) := Lib.hid (HL.out.below hb1)
  have HFW := Lib.hid (few_any w1 w.heap.size A l n c HN.out HL1.out hb1.size hnb HD.out)
  have HB1 := Lib.hid hb1
  clear HW hb1
  go_wp2_with fail
  refine HFW.out.mono ?_
  rintro e w2 ⟨bf, rfl, hbf, q, hw2⟩
  have HB2 : Hid (Below w.heap.size w w2) := Lib.hid (by rw [hw2]; exact below_drewN HB1.out _)
  clear HFW hw2 HB1 HL1
  cases bf
  · go_wp2_with fail
    go_ret
    exact ⟨rfl, HB2.out⟩
  obtain ⟨h61, hfew⟩ := hbf rfl
  have HFEW := Lib.hid hfew
  clear hbf hfew
  by_cases gwd : (300 : Int) < (wd.size : Int)
  · go_wp2_with fail
    go_ret
    exact ⟨rfl, HB2.out⟩
  have HN1 := Lib.hid (new_any w2)
  go_wp2_with fail
  refine HN1.out.mono ?_
  rintro e w3 ⟨cb, F0, rfl, hc3, hf3, hb3⟩
  have HB3 : Hid (Below w.heap.size w w3) := Lib.hid (HB2.out.trans (hb3.mono HB2.out.size))
  have HC3 := Lib.hid hc3
  have HF3 : Hid (∀ q, F0 q → w.heap.size ≤ q) := Lib.hid (fun q hq => Nat.le_trans HB2.out.size (hf3 q hq))
  have HN2 := Lib.hid (new_any w3)
  clear hc3 hf3 hb3 HN1
  go_wp2_with fail
  refine HN2.out.mono ?_
  rintro e w4 ⟨db, F1, rfl, hd4, hf4, hb4⟩
  have HB4 : Hid (Below w.heap.size w w4) := Lib.hid (HB3.out.trans (hb4.mono HB3.out.size))
  have HC4 : Hid (CatAt w4 cb F0 []) := Lib.hid (HC3.out.below hb4)
  have HD4 := Lib.hid hd4
  have HF4 : Hid (∀ q, F1 q → w.heap.size ≤ q) := Lib.hid (fun q hq => Nat.le_trans HB3.out.size (hf4 q hq))
  have HDJ : Hid (∀ q, F0 q → ¬ F1 q) := Lib.hid (fun q hq hq' => by have := HC3.out.lt q hq; have := hf4 q hq'; omega)
  clear hd4 hf4 hb4 HN2 HC3 HB2 HB3
  go_wp2_with fail
  go_loopw [9] (fun i wr => ∃ k : Nat, k ≤ n ∧ i = .int .i64 k ∧ Hid (∃ F F', CatAt wr cb F (takeAll [] (l.take k)) ∧ CatAt wr db F' (takeAll [] (l.take k)) ∧ (∀ q, F q → w.heap.size ≤ q) ∧ (∀ q, F' q → w.heap.size ≤ q) ∧ ∀ q, F q → ¬ F' q) ∧ Hid (Below w.heap.size w wr)) (fun i _ => n - (intOf i).toNat)
  case atStart => exact ⟨0, Nat.zero_le _, rfl, Lib.hid ⟨F0, F1, HC4.out, HD4.out, HF3.out, HF4.out, HDJ.out⟩, HB4⟩
  case round =>
    obtain ⟨k, hk, rfl, hcd, hbw⟩ := hrel
    by_cases hlt : k < n
    · obtain ⟨x, hx⟩ : ∃ x, l[k]? = some x := ⟨l[k]'(by rw [HN.out]; exact hlt), List.getElem?_eq_getElem _⟩
      obtain ⟨g, o, rfl, hgB, hcl⟩ := HL.out.at (by rw [HN.out]; omega)
      have HE0 := Lib.hid (hcl k x hx)
      obtain ⟨e0, e1, e2, e3, e4, e5, e6, e7⟩ : EvAt wr g (o + k * 8) x := HE0.out.keep (fun j => hbw.out.cell (p := ⟨g, j, none⟩) hgB)
      obtain ⟨F, F', hc, hd, hF, hF', hdj⟩ := hcd.out
      have hlen : (takeAll [] (l.take k)).length ≤ 1000000 := by
        have := takeAll_len (l.take k) []
        rw [List.length_take] at this
        simp at this
        omega
      have hsh : EvSh x := (HFEW.out x (List.mem_of_getElem? hx)).sh
      have HA := Lib.hid (apply_any cb F (takeAll [] (l.take k)) x wr hc hsh (HG.out.keep hbw.out (Nat.le_refl _)) hlen (fun i hi hFi => by have := hF i hFi; omega))
      have htk : l.take (k + 1) = l.take k ++ [x] := by rw [List.take_add_one, hx]; rfl
      have HTK : Hid (takeAll [] (l.take (k + 1)) = aftP (takeAll [] (l.take k)) x) := Lib.hid (by rw [htk, takeAll_snoc])
      have HDD := Lib.hid hd
      have HFF := Lib.hid hF
      have HFF' := Lib.hid hF'
      have HDJ' := Lib.hid hdj
      have HLN := Lib.hid hlen
      have HSX := Lib.hid hsh
      have hk8 : (k : Int) < (n : Int) := by omega
      have hk9 : (0 : Int) ≤ (k : Int) := by omega
      have hgw : g < w.heap.size := hgB
      unfold evA at HA
      clear hcl hx htk hc hd hF hF' hdj hlen hsh
      generalize takeAll [] (l.take k) = es at *
      go_wp2_with fail
      refine HA.out.mono ?_
      rintro e w5 ⟨rfl, F2, hc5, hs5, hf5, hk5⟩
      have HB5 : Hid (Below w.heap.size w w5) := Lib.hid (hbw.out.trans (hk5.toBelow HFF.out hbw.out.size))
      have HC5 := Lib.hid hc5
      have HD5 : Hid (CatAt w5 db F' es) := Lib.hid (HDD.out.kept hk5 (fun q hq hq' => HDJ'.out q hq' hq))
      have HF5 : Hid (∀ q, F2 q → w.heap.size ≤ q) := Lib.hid (fun q hq => (hf5 q hq).elim (HFF.out q) (fun h => Nat.le_trans hbw.out.size h))
      have HDJ5 : Hid (∀ q, F2 q → ¬ F' q) := Lib.hid (fun q hq hq' => (hf5 q hq).elim (fun h => HDJ'.out q h hq') (fun h => by have := HDD.out.lt q hq'; omega))
      clear HA hc5 hs5 hf5 hk5 e0 e1 e2 e3 e4 e5 e6 e7
      obtain ⟨e0, e1, e2, e3, e4, e5, e6, e7⟩ : EvAt w5 g (o + k * 8) x := HE0.out.keep (fun j => HB5.out.cell (p := ⟨g, j, none⟩) hgw)
      cases ht : takesB es x
      · have HT := Lib.hid ht
        have HAF : Hid (aftP es x = es) := Lib.hid (by unfold aftP; rw [ht]; rfl)
        clear ht
        go_wp2_with fail
        go_roundw
        case rel =>
          refine ⟨k + 1, by omega, by go_num, Lib.hid ⟨F2, F', ?_, ?_, HF5.out, HFF'.out, HDJ5.out⟩, HB5⟩
          · rw [HTK.out]; exact HC5.out
          · rw [HTK.out, HAF.out]; exact HD5.out
        case measure => simp [intOf]; omega
      · have HT := Lib.hid ht
        have HA2 := Lib.hid (apply_any db F' es x w5 HD5.out HSX.out (HG.out.keep HB5.out (Nat.le_refl _)) HLN.out (fun i hi hFi => by have := HFF'.out i hFi; omega))
        unfold evA at HA2
        rw [ht] at HA2
        clear ht
        go_wp2_with fail
        refine HA2.out.mono ?_
        rintro e w6 ⟨rfl, F3, hd6, hs6, hf6, hk6⟩
        have HB6 : Hid (Below w.heap.size w w6) := Lib.hid (HB5.out.trans (hk6.toBelow HFF'.out HB5.out.size))
        have HC6 : Hid (CatAt w6 cb F2 (aftP es x)) := Lib.hid (HC5.out.kept hk6 (fun q hq hq' => HDJ5.out q hq hq'))
        have HD6 := Lib.hid hd6
        have HF6 : Hid (∀ q, F3 q → w.heap.size ≤ q) := Lib.hid (fun q hq => (hf6 q hq).elim (HFF'.out q) (fun h => Nat.le_trans HB5.out.size h))
        have HDJ6 : Hid (∀ q, F2 q → ¬ F3 q) := Lib.hid (fun q hq hq' => (hf6 q hq').elim (fun h => HDJ5.out q hq h) (fun h => by have := HC5.out.lt q hq; omega))
        clear HA2 hd6 hs6 hf6 hk6
        go_wp2_with fail
        go_roundw
        case rel =>
          refine ⟨k + 1, by omega, by go_num, Lib.hid ⟨F2, F3, ?_, ?_, HF5.out, HF6.out, HDJ6.out⟩, HB6⟩
          · rw [HTK.out]; exact HC6.out
          · rw [HTK.out]; exact HD6.out
        case measure => simp [intOf]; omega
    · obtain rfl : n = k := by omega
      have htl : l.take n = l := by rw [← HN.out, List.take_length]
      rw [htl] at hcd
      clear htl
      have HREF : Hid (∀ e ∈ l, takesB (takeAll [] l) e = false) := Lib.hid (all_refused l []).2
      have HLE : Hid ((takeAll [] l).length ≤ 1000000) := Lib.hid (by
        have := takeAll_len l []
        rw [HN.out] at this
        simp at this
        omega)
      have HLE2 := HLE
      generalize takeAll [] l = es at *
      obtain ⟨wo, rfl⟩ : ∃ wo : World, wo = wr := ⟨_, rfl⟩
      clear HC4 HD4 HF3 HF4 HDJ HB4
      go_wp2_with fail
      go_loopw [10] (fun i wr => ∃ k : Nat, k ≤ n ∧ i = .int .i64 k ∧ Hid (∃ F F', CatAt wr cb F es ∧ CatAt wr db F' es ∧ (∀ q, F q → w.heap.size ≤ q) ∧ (∀ q, F' q → w.heap.size ≤ q) ∧ ∀ q, F q → ¬ F' q) ∧ Hid (Below w.heap.size w wr)) (fun i _ => n - (intOf i).toNat)
      case atStart => exact ⟨0, Nat.zero_le _, rfl, hcd, hbw⟩
      case round =>
        clear hcd hbw
        obtain ⟨k, hk, rfl, hcd, hbw⟩ := hrel
        obtain ⟨F, F', hc, hd, hF, hF', hdj⟩ := hcd.out
        obtain ⟨w5, rfl⟩ : ∃ w5 : World, w5 = wr := ⟨_, rfl⟩
        have HC5 := Lib.hid hc
        have HD5 := Lib.hid hd
        have HFF := Lib.hid hF
        have HFF' := Lib.hid hF'
        have HDJ' := Lib.hid hdj
        have HB5 := hbw
        clear hc hd hF hF' hdj hcd hbw
        by_cases hlt : k < n
        · obtain ⟨x, hx⟩ : ∃ x, l[k]? = some x := ⟨l[k]'(by rw [HN.out]; exact hlt), List.getElem?_eq_getElem _⟩
          obtain ⟨g, o, rfl, hgB, hcl⟩ := HL.out.at (by rw [HN.out]; omega)
          have HE0 := Lib.hid (hcl k x hx)
          have HSX := Lib.hid (HFEW.out x (List.mem_of_getElem? hx)).sh
          have hsi : x.item.size ≤ 1000000 := HSX.out.2.2.1
          have HRX := Lib.hid (HREF.out x (List.mem_of_getElem? hx))
          have hk8 : (k : Int) < (n : Int) := by omega
          have hk9 : (0 : Int) ≤ (k : Int) := by omega
          have f5 : w5.cell? ⟨g, o + k * 8 + 5, none⟩ = some (.string x.item) := (HB5.out.cell (p := ⟨g, o + k * 8 + 5, none⟩) hgB).trans HE0.out.2.2.2.2.2.1
          clear hcl hx
          have HAa := Lib.hid (at_any cb F es x.item t w5 HC5.out (by omega) HLE.out)
          unfold toldP itA at HAa
          generalize hxa : (atP es x.item t).getD it0 = xa at HAa
          generalize hoa : (atP es x.item t).isSome = oka at HAa
          have HXa := Lib.hid hxa
          have HOKa := Lib.hid hoa
          clear hxa hoa
          go_wp2_with fail
          refine HAa.out.mono ?_
          rintro e w6 ⟨rfl, hb⟩
          have HB6 : Hid (Below w.heap.size w w6) := Lib.hid (HB5.out.trans (hb.mono HB5.out.size))
          have HC6 : Hid (CatAt w6 cb F es) := Lib.hid (HC5.out.below hb)
          have HD6 : Hid (CatAt w6 db F' es) := Lib.hid (HD5.out.below hb)
          clear HAa hb
          have f5' : w6.cell? ⟨g, o + k * 8 + 5, none⟩ = some (.string x.item) := (HB6.out.cell (p := ⟨g, o + k * 8 + 5, none⟩) hgB).trans HE0.out.2.2.2.2.2.1
          have hg6 : g < w6.heap.size := Nat.lt_of_lt_of_le hgB HB6.out.size
          go_wp2_with fail
          obtain ⟨w7, hw7⟩ : ∃ w7, w6.alloc (.cells #[.string xa.name, .string xa.maker, .string xa.tags, .int .i64 xa.stock, .int .i64 xa.price, .int .i64 xa.born, .bool xa.listed] 30) = w7 := ⟨_, rfl⟩
          rw [hw7]
          have HB7 : Hid (Below w.heap.size w w7) := Lib.hid (by rw [← hw7]; exact HB6.out.alloc HB6.out.size _)
          have hbb : Below w6.heap.size w6 w7 := by rw [← hw7]; exact (Below.refl _ _).alloc (Nat.le_refl _) _
          have HC7 : Hid (CatAt w7 cb F es) := Lib.hid (HC6.out.below hbb)
          have HD7 : Hid (CatAt w7 db F' es) := Lib.hid (HD6.out.below hbb)
          have HIa7 : Hid (Blk w7 w6.heap.size 30 (itArr xa)) := Lib.hid (by rw [← hw7]; exact Blk.new _ _ _)
          clear hbb hw7
          have HAb := Lib.hid (at_any db F' es x.item t w7 HD7.out (by omega) HLE2.out)
          unfold toldP itA at HAb
          generalize hxb : (atP es x.item t).getD it0 = xb at HAb
          generalize hob : (atP es x.item t).isSome = okb at HAb
          have HXb := Lib.hid hxb
          have HOKb := Lib.hid hob
          clear hxb hob
          refine HAb.out.mono ?_
          rintro e w8 ⟨rfl, hb⟩
          have HB8 : Hid (Below w.heap.size w w8) := Lib.hid (HB7.out.trans (hb.mono HB7.out.size))
          have HC8 : Hid (CatAt w8 cb F es) := Lib.hid (HC7.out.below hb)
          have HD8 : Hid (CatAt w8 db F' es) := Lib.hid (HD7.out.below hb)
          have HIa8 : Hid (Blk w8 w6.heap.size 30 (itArr xa)) := Lib.hid ((hb.block _ HIa7.out.lt).trans HIa7.out)
          clear HAb hb
          obtain ⟨w9, hw9⟩ : ∃ w9, w8.alloc (.cells #[.string xb.name, .string xb.maker, .string xb.tags, .int .i64 xb.stock, .int .i64 xb.price, .int .i64 xb.born, .bool xb.listed] 30) = w9 := ⟨_, rfl⟩
          have HB9 : Hid (Below w.heap.size w w9) := Lib.hid (by rw [← hw9]; exact HB8.out.alloc HB8.out.size _)
          have hbb : Below w8.heap.size w8 w9 := by rw [← hw9]; exact (Below.refl _ _).alloc (Nat.le_refl _) _
          have HC9 : Hid (CatAt w9 cb F es) := Lib.hid (HC8.out.below hbb)
          have HD9 : Hid (CatAt w9 db F' es) := Lib.hid (HD8.out.below hbb)
          have HIa9 : Hid (Blk w9 w6.heap.size 30 (itArr xa)) := Lib.hid ((hbb.block _ HIa8.out.lt).trans HIa8.out)
          have HIb9 : Hid (Blk w9 w8.heap.size 30 (itArr xb)) := Lib.hid (by rw [← hw9]; exact Blk.new _ _ _)
          clear hbb
          obtain rfl : xa = xb := by rw [← HXa.out, ← HXb.out]
          obtain rfl : oka = okb := by rw [← HOKa.out, ← HOKb.out]
          have hxx := itB_rfl xa
          have hxn : (!itB xa xa) = false := by rw [hxx]; rfl
          have a0 : w9.cell? ⟨w6.heap.size, 0, none⟩ = some (.string xa.name) := HIa9.out.cell 0
          have a1 : w9.cell? ⟨w6.heap.size, 1, none⟩ = some (.string xa.maker) := HIa9.out.cell 1
          have a2 : w9.cell? ⟨w6.heap.size, 2, none⟩ = some (.string xa.tags) := HIa9.out.cell 2
          have a3 : w9.cell? ⟨w6.heap.size, 3, none⟩ = some (.int .i64 xa.stock) := HIa9.out.cell 3
          have a4 : w9.cell? ⟨w6.heap.size, 4, none⟩ = some (.int .i64 xa.price) := HIa9.out.cell 4
          have a5 : w9.cell? ⟨w6.heap.size, 5, none⟩ = some (.int .i64 xa.born) := HIa9.out.cell 5
          have a6 : w9.cell? ⟨w6.heap.size, 6, none⟩ = some (.bool xa.listed) := HIa9.out.cell 6
          have b0 : w9.cell? ⟨w8.heap.size, 0, none⟩ = some (.string xa.name) := HIb9.out.cell 0
          have b1 : w9.cell? ⟨w8.heap.size, 1, none⟩ = some (.string xa.maker) := HIb9.out.cell 1
          have b2 : w9.cell? ⟨w8.heap.size, 2, none⟩ = some (.string xa.tags) := HIb9.out.cell 2
          have b3 : w9.cell? ⟨w8.heap.size, 3, none⟩ = some (.int .i64 xa.stock) := HIb9.out.cell 3
          have b4 : w9.cell? ⟨w8.heap.size, 4, none⟩ = some (.int .i64 xa.price) := HIb9.out.cell 4
          have b5 : w9.cell? ⟨w8.heap.size, 5, none⟩ = some (.int .i64 xa.born) := HIb9.out.cell 5
          have b6 : w9.cell? ⟨w8.heap.size, 6, none⟩ = some (.bool xa.listed) := HIb9.out.cell 6
          have hg9 : g < w9.heap.size := Nat.lt_of_lt_of_le hgB HB9.out.size
          obtain ⟨e0, e1, e2, e3, e4, e5, e6, e7⟩ : EvAt w9 g (o + k * 8) x := HE0.out.keep (fun j => HB9.out.cell (p := ⟨g, j, none⟩) hgB)
          have HA := Lib.hid (apply_any cb F es x w9 HC9.out HSX.out (HG.out.keep HB9.out (Nat.le_refl _)) HLE.out (fun i hi hFi => by have := HFF.out i hFi; omega))
          unfold evA at HA
          rw [HRX.out] at HA
          go_wp2_with fail
          refine HA.out.mono ?_
          rintro e w10 ⟨rfl, F2, hc10, hs10, hf10, hk10⟩
          have HB10 : Hid (Below w.heap.size w w10) := Lib.hid (HB9.out.trans (hk10.toBelow HFF.out HB9.out.size))
          have HC10 : Hid (CatAt w10 cb F2 es) := Lib.hid (by unfold aftP at hc10; rw [HRX.out] at hc10; exact hc10)
          have HD10 : Hid (CatAt w10 db F' es) := Lib.hid (HD9.out.kept hk10 (fun q hq hq' => HDJ'.out q hq' hq))
          have HF10 : Hid (∀ q, F2 q → w.heap.size ≤ q) := Lib.hid (fun q hq => (hf10 q hq).elim (HFF.out q) (fun h => Nat.le_trans HB9.out.size h))
          have HDJ10 : Hid (∀ q, F2 q → ¬ F' q) := Lib.hid (fun q hq hq' => (hf10 q hq).elim (fun h => HDJ'.out q h hq') (fun h => by have := HD9.out.lt q hq'; omega))
          clear HA hc10 hs10 hf10 hk10
          go_wp2_with fail
          go_roundw
          case rel => exact ⟨k + 1, by omega, by go_num, Lib.hid ⟨F2, F', HC10.out, HD10.out, HF10.out, HFF'.out, HDJ10.out⟩, HB10⟩
          case measure => simp [intOf]; omega
        · obtain rfl : n = k := by omega
          have HS := Lib.hid (names_any cb F es t w5 HC5.out HLE.out)
          go_wp2_with fail
          refine HS.out.mono ?_
          rintro e w6 ⟨A1, c1, k1, rfl, hi1, hl1, hr1, hb1⟩
          have HB6 : Hid (Below w.heap.size w w6) := Lib.hid (HB5.out.trans (hb1.mono HB5.out.size))
          have HC6 : Hid (CatAt w6 cb F es) := Lib.hid (HC5.out.below hb1)
          have HD6 : Hid (CatAt w6 db F' es) := Lib.hid (HD5.out.below hb1)
          have HI1 := Lib.hid hi1
          have HR1 := Lib.hid hr1
          clear hi1 hr1 hb1 HS
          generalize hk1 : k1.length = m1 at *
          have HK1 := Lib.hid hk1
          clear hk1
          have HS := Lib.hid (names_any db F' es t w6 HD6.out HLE2.out)
          go_wp2_with fail
          refine HS.out.mono ?_
          rintro e w7 ⟨A2, c2, k2, rfl, hi2, hl2, hr2, hb2⟩
          have HB7 : Hid (Below w.heap.size w w7) := Lib.hid (HB6.out.trans (hb2.mono HB6.out.size))
          have HC7 : Hid (CatAt w7 cb F es) := Lib.hid (HC6.out.below hb2)
          have HD7 : Hid (CatAt w7 db F' es) := Lib.hid (HD6.out.below hb2)
          have HEQ : Hid (k1 = k2) := Lib.hid (HI1.out.one hi2 (fun n => (rfl : whB es t (fun x => true) n = _)))
          have HR1' : Hid (RowIn w7 w6.heap.size 1 A1 m1 (k1.map .string)) := Lib.hid (HR1.out.below hb2)
          have HR2 := Lib.hid hr2
          clear hi2 hr2 hb2 HS HR1
          generalize hk2 : k2.length = m2 at *
          have HK2 := Lib.hid hk2
          clear hk2
          have HT := Lib.hid (texts_any w7 A1 A2 k1 k2 m1 m2 c1 c2 _ _ HK1.out HK2.out HR1'.out HR2.out (by have := HLE.out; omega))
          go_wp2_with fail
          refine HT.out.mono ?_
          rintro e w8 ⟨bt, rfl, hbt, q6, hw⟩
          obtain rfl : bt = true := hbt.2 HEQ.out
          have hbd : Below w7.heap.size w7 w8 := by rw [hw]; exact below_drewN (Below.refl _ _) _
          have HB8 : Hid (Below w.heap.size w w8) := Lib.hid (HB7.out.trans (hbd.mono HB7.out.size))
          have HC8 : Hid (CatAt w8 cb F es) := Lib.hid (HC7.out.below hbd)
          have HD8 : Hid (CatAt w8 db F' es) := Lib.hid (HD7.out.below hbd)
          clear HT hbt hw hbd hl1 hl2 HR1' HR2 HI1 HEQ HK1 HK2 HC6 HD6 HC7 HD7 HB6 HB7
          have HS := Lib.hid (bymaker_any cb F es wd t w8 HC8.out (HG.out.keep HB8.out (Nat.le_refl _)) HLE.out)
          go_wp2_with fail
          refine HS.out.mono ?_
          rintro e w9 ⟨A1, c1, k1, rfl, hi1, hl1, hr1, hb1⟩
          have HB9 : Hid (Below w.heap.size w w9) := Lib.hid (HB8.out.trans (hb1.mono HB8.out.size))
          have HC9 : Hid (CatAt w9 cb F es) := Lib.hid (HC8.out.below hb1)
          have HD9 : Hid (CatAt w9 db F' es) := Lib.hid (HD8.out.below hb1)
          have HI1 := Lib.hid hi1
          have HR1 := Lib.hid hr1
          clear hi1 hr1 hb1 HS
          generalize hk1 : k1.length = m1 at *
          have HK1 := Lib.hid hk1
          clear hk1
          have HS := Lib.hid (bymaker_any db F' es wd t w9 HD9.out (HG.out.keep HB9.out (Nat.le_refl _)) HLE2.out)
          go_wp2_with fail
          refine HS.out.mono ?_
          rintro e w10 ⟨A2, c2, k2, rfl, hi2, hl2, hr2, hb2⟩
          have HB10 : Hid (Below w.heap.size w w10) := Lib.hid (HB9.out.trans (hb2.mono HB9.out.size))
          have HC10 : Hid (CatAt w10 cb F es) := Lib.hid (HC9.out.below hb2)
          have HD10 : Hid (CatAt w10 db F' es) := Lib.hid (HD9.out.below hb2)
          have HEQ : Hid (k1 = k2) := Lib.hid (HI1.out.one hi2 (fun n => (rfl : whB es t (fun x => decide (x.maker = wd)) n = _)))
          have HR1' : Hid (RowIn w10 w9.heap.size 1 A1 m1 (k1.map .string)) := Lib.hid (HR1.out.below hb2)
          have HR2 := Lib.hid hr2
          clear hi2 hr2 hb2 HS HR1
          generalize hk2 : k2.length = m2 at *
          have HK2 := Lib.hid hk2
          clear hk2
          have HT := Lib.hid (texts_any w10 A1 A2 k1 k2 m1 m2 c1 c2 _ _ HK1.out HK2.out HR1'.out HR2.out (by have := HLE.out; omega))
          go_wp2_with fail
          refine HT.out.mono ?_
          rintro e w11 ⟨bt, rfl, hbt, q9, hw⟩
          obtain rfl : bt = true := hbt.2 HEQ.out
          have hbd : Below w10.heap.size w10 w11 := by rw [hw]; exact below_drewN (Below.refl _ _) _
          have HB11 : Hid (Below w.heap.size w w11) := Lib.hid (HB10.out.trans (hbd.mono HB10.out.size))
          have HC11 : Hid (CatAt w11 cb F es) := Lib.hid (HC10.out.below hbd)
          have HD11 : Hid (CatAt w11 db F' es) := Lib.hid (HD10.out.below hbd)
          clear HT hbt hw hbd hl1 hl2 HR1' HR2 HI1 HEQ HK1 HK2 HC9 HD9 HC10 HD10 HB9 HB10
          have HS := Lib.hid (bytag_any cb F es wd t w11 HC11.out (HG.out.keep HB11.out (Nat.le_refl _)) HLE.out)
          go_wp2_with fail
          refine HS.out.mono ?_
          rintro e w12 ⟨A1, c1, k1, rfl, hi1, hl1, hr1, hb1⟩
          have HB12 : Hid (Below w.heap.size w w12) := Lib.hid (HB11.out.trans (hb1.mono HB11.out.size))
          have HC12 : Hid (CatAt w12 cb F es) := Lib.hid (HC11.out.below hb1)
          have HD12 : Hid (CatAt w12 db F' es) := Lib.hid (HD11.out.below hb1)
          have HI1 := Lib.hid hi1
          have HR1 := Lib.hid hr1
          clear hi1 hr1 hb1 HS
          generalize hk1 : k1.length = m1 at *
          have HK1 := Lib.hid hk1
          clear hk1
          have HS := Lib.hid (bytag_any db F' es wd t w12 HD12.out (HG.out.keep HB12.out (Nat.le_refl _)) HLE2.out)
          go_wp2_with fail
          refine HS.out.mono ?_
          rintro e w13 ⟨A2, c2, k2, rfl, hi2, hl2, hr2, hb2⟩
          have HB13 : Hid (Below w.heap.size w w13) := Lib.hid (HB12.out.trans (hb2.mono HB12.out.size))
          have HC13 : Hid (CatAt w13 cb F es) := Lib.hid (HC12.out.below hb2)
          have HD13 : Hid (CatAt w13 db F' es) := Lib.hid (HD12.out.below hb2)
          have HEQ : Hid (k1 = k2) := Lib.hid (HI1.out.one hi2 (fun n => (rfl : whB es t (fun x => memB wd (tagsOf x.tags)) n = _)))
          have HR1' : Hid (RowIn w13 w12.heap.size 1 A1 m1 (k1.map .string)) := Lib.hid (HR1.out.below hb2)
          have HR2 := Lib.hid hr2
          clear hi2 hr2 hb2 HS HR1
          generalize hk2 : k2.length = m2 at *
          have HK2 := Lib.hid hk2
          clear hk2
          have HT := Lib.hid (texts_any w13 A1 A2 k1 k2 m1 m2 c1 c2 _ _ HK1.out HK2.out HR1'.out HR2.out (by have := HLE.out; omega))
          go_wp2_with fail
          refine HT.out.mono ?_
          rintro e w14 ⟨bt, rfl, hbt, q12, hw⟩
          obtain rfl : bt = true := hbt.2 HEQ.out
          have hbd : Below w13.heap.size w13 w14 := by rw [hw]; exact below_drewN (Below.refl _ _) _
          have HB14 : Hid (Below w.heap.size w w14) := Lib.hid (HB13.out.trans (hbd.mono HB13.out.size))
          have HC14 : Hid (CatAt w14 cb F es) := Lib.hid (HC13.out.below hbd)
          have HD14 : Hid (CatAt w14 db F' es) := Lib.hid (HD13.out.below hbd)
          clear HT hbt hw hbd hl1 hl2 HR1' HR2 HI1 HEQ HK1 HK2 HC12 HD12 HC13 HD13 HB12 HB13
          go_wp2_with fail
          go_ret
          exact ⟨rfl, HB14.out⟩

end Go.Proofs.YtpnfnmpohacnoaaDoor

/- ClockGoesOn: a clock that is encoded and decoded is the one that it was: plain law and walk. -/
import Derived.Test.YtobkgkiomapabaaDoorDcW
namespace Go.Proofs.YtobkgkiomapabaaDoor
open Go.Shelf Go.RowKit Go.Maps
set_option linter.unusedVariables false

/-- What a clock is on its way: its sources are right, and the mark isn't below what they tell. -/
def Live (c : Ck) : Prop := GoodSrc c ∧ ∀ m, Told c m true → m ≤ c.mark
theorem Live.rose {c c' : Ck} (hg : GoodSrc c) (h : Rose c c') : Live c' := by
  obtain ⟨m, any, ht, rfl⟩ := h
  refine ⟨hg, fun m' ht' => ?_⟩
  have ht2 : Told c m' true := ht'
  obtain ⟨rfl, rfl⟩ := ht.unique ht2
  show m ≤ max c.mark m
  omega
theorem GoodSrc.now {c : Ck} (h : GoodSrc c) {n : Int} (hn : c.now ≤ n) : GoodSrc { c with now := n } := fun s x hx => by
  obtain ⟨nm, h1, h2, h3, h4, h5, h6, h7⟩ := h s x hx
  exact ⟨nm, h1, h2, h3, h4, h5, h6, Int.le_trans h7 hn⟩
theorem Live.ticked {c c' : Ck} {n : Int} (h : GoodSrc c) (ht : Ticked c n c') : Live c' := Live.rose (h.now (by omega)) ht
theorem Live.hears {c c' : Ck} {s : ByteArray} {a n : Int} {r : Bool} (h : GoodSrc c) (ho : c.Ok) (hh : Hears c s a n r c') : Live c' := by
  obtain ⟨c1, ht, h2⟩ := hh
  have hl := Live.ticked h ht
  rcases h2 with ⟨_, rfl, _⟩ | ⟨_, ⟨f1, f2, f3, f4⟩, hr⟩
  · exact hl
  · refine Live.rose (fun s' x hx => ?_) hr
    have hn : c1.now = max c.now (bnd n) := (Ticked.same ht).2.2.1
    have hb := bnd_ok n
    have o1 := ho.n0
    have o2 := ho.n1
    change put c1.src s.data.toList _ s' = some x at hx
    unfold put at hx
    by_cases e : s' = s.data.toList
    · rw [if_pos e] at hx
      cases hx
      have hold : 0 ≤ ((c1.src s.data.toList).getD (0, 0)).1 ∧ ((c1.src s.data.toList).getD (0, 0)).1 ≤ 1099511627776 := by
        cases hc : c1.src s.data.toList with
        | none => simp
        | some y =>
          obtain ⟨_, _, _, h3, h4, _⟩ := hl.1 _ y hc
          exact ⟨h3, h4⟩
      refine ⟨s, e.symm, f1, ?_, ?_, ?_, ?_, ?_⟩
      · show 0 ≤ max _ a; omega
      · show max _ a ≤ _; omega
      · show 0 ≤ c1.now; omega
      · show c1.now ≤ _; omega
      · show c1.now ≤ c1.now; omega
    · rw [if_neg e] at hx
      exact hl.1 s' x hx
theorem live_fresh (slack idle : Int) : Live (fresh slack idle) := ⟨fun s x hx => (by cases hx), fun m ht => by
  rcases ht with ⟨h, _⟩ | ⟨_, ⟨s, x, hs, _⟩, _⟩
  · cases h
  · cases hs⟩
theorem keys_few {w : World} {cb mb n : Nat} {c : Ck} {ks : List (List UInt8)} (h : ClockAt w cb mb n c) (hk : KeysOf' (fun s => (c.src s).isSome) ks) : ks.length ≤ n := by
  obtain ⟨D, hD, hview⟩ := h.map
  have hsz : Maps.size D ≤ n := hD.size_le
  have hnd := strKeys_nodup hD Tryd.underlying9
  obtain ⟨ss, rfl, hn, hm⟩ := hk
  have hp : ss.Perm (strKeys D) := (List.perm_ext_iff_of_nodup hn hnd.1).2 (fun s => by
    rw [hm, hnd.2, ← view_some_has hD, hview]
    exact (src_is c.src s).symm ▸ Iff.rfl)
  have hl : (strKeys D).length ≤ n := by
    obtain ⟨es, rfl, _, _⟩ := hD.entries (string_keyed Tryd.underlying9)
    have := hsz
    simpa [strKeys, Maps.size] using this
  rw [List.length_mergeSort, hp.length_eq]
  exact hl
theorem goes_code {w : World} {cb mb n : Nat} {c : Ck} {ks : List (List UInt8)} (hc : ClockAt w cb mb n c) (h : Live c) (hk : KeysOf' (fun s => (c.src s).isSome) ks) : ∃ l, CodeOf ⟨(encC c ks).toArray⟩ c l ∧ (⟨(encC c ks).toArray⟩ : ByteArray).size ≤ 94 + 69 * n := by
  obtain ⟨l, h1, h2, h3, h4⟩ := rows_of_keys h.1 hk
  have he : (⟨(encC c ks).toArray⟩ : ByteArray) = encB c l := ba_eq (by rw [h4])
  refine ⟨l, ⟨⟨hc.ok, h1, h2, h3, h.2⟩, he⟩, ?_⟩
  have hl : l.length ≤ n := by
    have := keys_few hc hk
    rw [keys_rows hk h1, List.length_map] at this
    exact this
  have h5 := encB_few hc.ok h1.ok (l := l)
  rw [he]
  omega

set_option maxHeartbeats 8000000 in
set_option maxRecDepth 100000 in
theorem clockGoesOn_walk (slack idle : Int) (a : Option Addr) (len cap : Nat) (l : List ActD) (cut : Int) (w : World) (hl : l.length = len) (ha : ActsAt w w.heap.size a l) (hm : len ≤ 9223372036854775807) (htb : TabB w.heap.size w) (he : ErrAt w) (hg : GlobAt w) :
    Calls Tryd.prog 4 #[.int .i64 slack, .int .i64 idle, .slice a len cap, .int .i64 cut] w fun e w' => e = .returned (.bool true) ∧ Below w.heap.size w w' := by
  have HTB : Hid (∀ V, Below w.heap.size w V → TabB V.heap.size V) := Lib.hid (fun V hV w' hw' => (htb.on hV) w' (hw'.mono hV.size))
  have HGE : Hid (∀ V, Below w.heap.size w V → ErrAt V ∧ GlobAt V) := Lib.hid (fun V hV => ⟨he.keep hV, hg.keep hV (Nat.le_refl _)⟩)
  have HA : Hid (∀ V, Below w.heap.size w V → ActsAt V w.heap.size a l) := Lib.hid (fun V hV => ha.below hV)
  have HLN := Lib.hid hl
  clear htb ha he hg
  go_enter Tryd.func4, Tryd.ntmps4
  go_wp2_with fail
  refine (awake_any w).mono ?_
  rintro e w1 ⟨rfl, hb1⟩
  have HB1 := Lib.hid hb1
  clear hb1
  go_wp2_with fail
  refine (few2_any a len cap w.heap.size l w1 hl (HA.out w1 HB1.out) hm).mono ?_
  rintro e w1' ⟨r, rfl, hr, rfl⟩
  cases r
  · clear hr
    go_wp2_with fail
    go_ret
    exact ⟨rfl, HB1.out⟩
  obtain ⟨hlen, hnm⟩ := hr rfl
  have HNMS := Lib.hid hnm
  clear hr hnm hm hl
  by_cases hc0 : cut < 0
  · have q0 : decide (cut < 0) = true := decide_eq_true hc0
    go_wp2_with fail
    go_ret
    exact ⟨rfl, HB1.out⟩
  have q0 : decide (cut < 0) = false := decide_eq_false hc0
  by_cases hc1 : (len : Int) < cut
  · have q1 : decide ((len : Int) < cut) = true := decide_eq_true hc1
    go_wp2_with fail
    go_ret
    exact ⟨rfl, HB1.out⟩
  have q1 : decide ((len : Int) < cut) = false := decide_eq_false hc1
  obtain ⟨ct, rfl⟩ : ∃ ct : Nat, cut = ct := ⟨cut.toNat, by omega⟩
  have hct : ct ≤ len := by omega
  clear hc0 hc1
  go_wp2_with fail
  clear q0 q1
  refine (new_any slack idle w1).mono ?_
  rintro e w2 ⟨cb, mb, rfl, h0, hb2, hcb, hmb⟩
  have HC2 := Lib.hid h0
  have HB2 : Hid (Below w.heap.size w w2) := Lib.hid (HB1.out.trans (hb2.mono HB1.out.size))
  have hcb' : w.heap.size ≤ cb := Nat.le_trans HB1.out.size hcb
  have hmb' : w.heap.size ≤ mb := Nat.le_trans HB1.out.size hmb
  clear h0 hb2 hcb hmb
  obtain ⟨c0, hc0⟩ : ∃ c0, fresh slack idle = c0 := ⟨_, rfl⟩
  have HL0 : Hid (Live c0) := Lib.hid (by rw [← hc0]; exact live_fresh slack idle)
  rw [hc0] at HC2
  clear hc0
  go_wp2_with fail
  go_loopw [10] (fun i wr => ∃ (k : Nat) (c : Ck), k ≤ ct ∧ i = .int .i64 k ∧ Hid (ClockAt wr cb mb k c) ∧ Hid (Live c) ∧ Hid (Below w.heap.size w wr)) (fun i _ => ct - (intOf i).toNat)
  case atStart => exact ⟨0, c0, Nat.zero_le _, rfl, HC2, HL0, HB2⟩
  case round =>
    clear HC2 HB2 HL0
    obtain ⟨k, c, hk, rfl, hc, hlv, hbw⟩ := hrel
    by_cases hlt : k < ct
    · obtain ⟨x, hx⟩ : ∃ x, l[k]? = some x := ⟨l[k]'(by rw [HLN.out]; omega), List.getElem?_eq_getElem _⟩
      obtain ⟨kd, nm, at_, nw⟩ := x
      obtain ⟨b, off, rfl, hbB, d0, d1, d2, d3⟩ := HA.out wr hbw.out k _ hx
      dsimp only at d0 d1 d2 d3
      have HSC : Hid (∀ V, Below w.heap.size w V → V.cell? ⟨b, off + k * 4 + 1, none⟩ = some (.string nm) ∧ V.cell? ⟨b, off + k * 4 + 2, none⟩ = some (.int .i64 at_) ∧ V.cell? ⟨b, off + k * 4 + 3, none⟩ = some (.int .i64 nw)) := Lib.hid (fun V hV => by
        have e : ∀ o, V.cell? ⟨b, o, none⟩ = wr.cell? ⟨b, o, none⟩ := fun o => (hV.cell (p := ⟨b, o, none⟩) hbB).trans (hbw.out.cell (p := ⟨b, o, none⟩) hbB).symm
        exact ⟨(e _).trans d1, (e _).trans d2, (e _).trans d3⟩)
      have hk8 : (k : Int) < (ct : Int) := by omega
      have hk7 : (k : Int) < (len : Int) := by omega
      have hk9 : (0 : Int) ≤ (k : Int) := by omega
      have HTK := Lib.hid (tick_any cb mb k c nw wr hc.out)
      clear hx d0 d1 d2
      go_wp2_with fail
      refine HTK.out.mono ?_
      rintro e w5 ⟨c', rfl, ht, h5, hk5⟩
      have HC5 := Lib.hid h5
      have HL5 : Hid (Live c') := Lib.hid (Live.ticked hlv.out.1 ht)
      have HB5 : Hid (Below w.heap.size w w5) := Lib.hid (hbw.out.trans (hk5.toBelow (fun i hi => by omega) hbw.out.size))
      clear ht h5 hk5 HTK d3
      have HTH := Lib.hid (hear_any cb mb k c' nm at_ nw w5.drew HC5.out.drew (by omega))
      have HS5 : Hid (Below w.heap.size w w5.drew) := Lib.hid (Go.Proofs.YtobkgkiomapabaaDoor.below_drew HB5.out)
      go_wp2_with fail
      refine wp_plan (fun V => Below w.heap.size w V) [(0, false), (1, false), (2, false), (3, false), (4, false), (5, false), (6, false), (7, false), (8, false), (9, false), (10, false), (11, false), (12, false), (13, false), (14, false), (15, false), (16, true)] (by kernel_rfl) (by kernel_rfl) HS5.out ?_
      simp only [planL, List.getElem?_cons_zero, List.getElem?_cons_succ]
      repeat (first | (refine plan_on _ (by rfl) (fun W hW => by (obtain ⟨y1, y2, y3⟩ := HSC.out W hW; go_simp; try with_reducible rfl)) ?_; simp only [Act.put, List.setIfInBounds_toArray, List.set_cons_zero, List.set_cons_succ]) | (refine plan_off (by rfl) ?_; simp only [Act.put, List.setIfInBounds_toArray, List.set_cons_zero, List.set_cons_succ]))
      refine plan_turn ?_
      go_wp2_with fail
      refine HTH.out.mono ?_
      rintro e w6 ⟨res, c6, rfl, ht, h6, hk6⟩
      have HC6 := Lib.hid h6
      have HL6 : Hid (Live c6) := Lib.hid (Live.hears HL5.out.1 HC5.out.ok ht)
      have HB6 : Hid (Below w.heap.size w w6) := Lib.hid (HS5.out.trans (hk6.toBelow (fun i hi => by omega) HS5.out.size))
      clear ht h6 hk6 HTH
      go_wp2_with fail
      refine ⟨HB6.out, ?_⟩
      refine plan_done ?_
      go_wp2_with fail
      go_roundw
      case rel => exact ⟨k + 1, c6, by omega, by go_num, HC6, HL6, HB6⟩
      case measure => simp [intOf]; omega
    · obtain rfl : k = ct := by omega
      have HEN := Lib.hid (encode_any cb mb k c wr hc.out (by omega) (short_good hlv.out.1) (HTB.out _ hbw.out))
      go_wp2_with fail
      refine HEN.out.mono ?_
      rintro e w3 ⟨A3, c3, M, ks, rfl, hk3, hM, ho3, hb3⟩
      have hM0 : 0 < M := by rw [← hM]; exact enc_pos c ks
      obtain ⟨l3, hcode, hsz⟩ := goes_code hc.out hlv.out hk3
      have HBB : Hid (∀ V, Below w3.heap.size w3 V → (convert 40 9 (.slice A3 M c3)).run Tryd.prog V = .ok (.string ⟨(encC c ks).toArray⟩) V) := Lib.hid (fun V hV => bytes_back ho3 hM0 hM V hV)
      have HB3 : Hid (Below w.heap.size w w3) := Lib.hid (hbw.out.trans (hb3.mono hbw.out.size))
      have HC3 : Hid (ClockAt w3 cb mb k c) := Lib.hid (hc.out.below hb3 hc.out.blk.lt hc.out.map.lt (Nat.le_refl _))
      have HCODE := Lib.hid hcode
      obtain ⟨eb, heb⟩ : ∃ eb : ByteArray, ⟨(encC c ks).toArray⟩ = eb := ⟨_, rfl⟩
      rw [heb] at HBB HCODE hsz
      have HDC := Lib.hid (decode_any A3 M c3 eb w3 (by omega) HBB.out (HTB.out _ HB3.out) (HGE.out _ HB3.out).1 (HGE.out _ HB3.out).2)
      clear hk3 hM ho3 hb3 HEN hM0 hcode heb HBB hc hbw
      go_wp2_with fail
      refine HDC.out.mono ?_
      rintro e w4 hp
      obtain ⟨D, hD⟩ : ∃ D, w3.heap.size = D := ⟨_, rfl⟩
      obtain ⟨cb2, mb2, n2, c2, l2, rfl, h2, hcode2, huniq, hn2, hcb2, hmb2⟩ : ∃ cb2 mb2 n2 c2 l2, e = .returned (.tuple #[.pointer (some ⟨cb2, 0, none⟩), .int .i64 0]) ∧ ClockAt w4 cb2 mb2 n2 c2 ∧ CodeOf eb c2 l2 ∧ (∀ c0 l0, CodeOf eb c0 l0 → c0 = c2) ∧ n2 ≤ eb.size ∧ w3.heap.size ≤ cb2 ∧ w3.heap.size ≤ mb2 := by
        rcases hp.2 with h | ⟨_, h⟩
        · exact h
        · exact absurd HCODE.out (h _ _)
      obtain rfl := huniq _ _ HCODE.out
      have hb4 := hp.1
      have HC4 : Hid (ClockAt w4 cb mb k c) := Lib.hid (HC3.out.below hb4 HC3.out.blk.lt HC3.out.map.lt (Nat.le_refl _))
      have HD4 := Lib.hid h2
      have HB4 : Hid (Below w.heap.size w w4) := Lib.hid (HB3.out.trans (hb4.mono HB3.out.size))
      have hcD : cb < D := by rw [← hD]; exact HC3.out.blk.lt
      have hmD : mb < D := by rw [← hD]; exact HC3.out.map.lt
      have hcD2 : D ≤ cb2 := by rw [← hD]; exact hcb2
      have hmD2 : D ≤ mb2 := by rw [← hD]; exact hmb2
      have hwD : w.heap.size ≤ D := by rw [← hD]; exact HB3.out.size
      have hn3 : n2 ≤ 94 + 69 * k := Nat.le_trans hn2 hsz
      clear hp hcb2 hmb2 hn2 hb4 h2 hcode2 huniq hD HC3 HDC HCODE hsz
      go_wp2_with fail
      have hn4 : n2 ≤ 7063 := by omega
      go_loopw [13] (fun i wr => ∃ (j : Nat) (c : Ck), k ≤ j ∧ j ≤ len ∧ i = .int .i64 j ∧ Hid (ClockAt wr cb mb j c) ∧ Hid (ClockAt wr cb2 mb2 (n2 + j) c) ∧ Hid (Live c) ∧ Hid (Below w.heap.size w wr)) (fun i _ => len - (intOf i).toNat)
      case atStart => exact ⟨k, c, Nat.le_refl _, hct, rfl, HC4, Lib.hid (HD4.out.more (by omega)), hlv, HB4⟩
      case round =>
        clear HC4 HD4 hlv HB4 HB3
        obtain ⟨j, c, hkj, hjl, rfl, hc, hd, hlv, hbw⟩ := hrel
        by_cases hlt : j < len
        · obtain ⟨x, hx⟩ : ∃ x, l[j]? = some x := ⟨l[j]'(by rw [HLN.out]; omega), List.getElem?_eq_getElem _⟩
          obtain ⟨kd, nm, at_, nw⟩ := x
          obtain ⟨b, off, rfl, hbB, d0, d1, d2, d3⟩ := HA.out wr hbw.out j _ hx
          dsimp only at d0 d1 d2 d3
          have HSC : Hid (∀ V, Below w.heap.size w V → V.cell? ⟨b, off + j * 4 + 1, none⟩ = some (.string nm) ∧ V.cell? ⟨b, off + j * 4 + 2, none⟩ = some (.int .i64 at_) ∧ V.cell? ⟨b, off + j * 4 + 3, none⟩ = some (.int .i64 nw)) := Lib.hid (fun V hV => by
            have e : ∀ o, V.cell? ⟨b, o, none⟩ = wr.cell? ⟨b, o, none⟩ := fun o => (hV.cell (p := ⟨b, o, none⟩) hbB).trans (hbw.out.cell (p := ⟨b, o, none⟩) hbB).symm
            exact ⟨(e _).trans d1, (e _).trans d2, (e _).trans d3⟩)
          have hk7 : (j : Int) < (len : Int) := by omega
          have hk9 : (0 : Int) ≤ (j : Int) := by omega
          have HSr : Hid (Below w.heap.size w wr.drew) := Lib.hid (Go.Proofs.YtobkgkiomapabaaDoor.below_drew hbw.out)
          have HTK := Lib.hid (tick_any cb mb j c nw wr.drew hc.out.drew)
          clear hx d0 d1 d2 d3
          go_wp2_with fail
          refine wp_plan (fun V => Below w.heap.size w V) [(0, false), (1, false), (2, false), (3, false), (4, false), (5, false), (7, false), (8, false), (9, false), (10, false), (11, false), (12, false), (6, true), (13, true), (14, false), (15, false), (16, false), (17, false), (18, false), (19, false), (20, false), (21, false), (22, false), (23, false), (24, false), (25, false), (26, false), (27, false), (28, false), (29, false), (30, false), (31, false), (33, false), (34, false), (35, false), (36, false), (37, false), (38, false), (39, false), (40, false), (41, false), (42, false), (43, false), (44, false), (45, false), (46, false), (47, false), (48, false), (32, true), (49, true), (50, false), (51, false)] (by kernel_rfl) (by kernel_rfl) HSr.out ?_
          simp only [planL, List.getElem?_cons_zero, List.getElem?_cons_succ]
          repeat (first | (refine plan_on _ (by rfl) (fun W hW => by (obtain ⟨y1, y2, y3⟩ := HSC.out W hW; go_simp; try with_reducible rfl)) ?_; simp only [Act.put, List.setIfInBounds_toArray, List.set_cons_zero, List.set_cons_succ]) | (refine plan_off (by rfl) ?_; simp only [Act.put, List.setIfInBounds_toArray, List.set_cons_zero, List.set_cons_succ]))
          refine plan_turn ?_
          go_wp2_with fail
          refine HTK.out.mono ?_
          rintro e w5 ⟨c5, rfl, ht, h5, hk5⟩
          have HT5 := Lib.hid ht
          have HC5 := Lib.hid h5
          have HD5 := Lib.hid (hd.out.drew.kept hk5 (by omega) (by omega))
          have HB5 : Hid (Below w.heap.size w w5) := Lib.hid (HSr.out.trans (hk5.toBelow (fun i hi => by omega) HSr.out.size))
          clear ht h5 hk5 HTK
          go_wp2_with fail
          refine ⟨HB5.out, ?_⟩
          have HTD := Lib.hid (tick_any cb2 mb2 (n2 + j) c nw w5 HD5.out)
          refine plan_turn ?_
          go_wp2_with fail
          refine HTD.out.mono ?_
          rintro e w6 ⟨c6, rfl, ht2, h6, hk6⟩
          obtain rfl : c5 = c6 := Rose.one HT5.out ht2
          have HC6 : Hid (ClockAt w6 cb mb j c5) := Lib.hid (HC5.out.kept hk6 (by omega) (by omega))
          have HD6 : Hid (ClockAt w6 cb2 mb2 (n2 + j) c5) := Lib.hid h6
          have HL6 : Hid (Live c5) := Lib.hid (Live.ticked hlv.out.1 ht2)
          have HB6 : Hid (Below w.heap.size w w6) := Lib.hid (HB5.out.trans (hk6.toBelow (fun i hi => by omega) HB5.out.size))
          clear ht2 h6 hk6 HTD HC5 HD5 HT5
          go_wp2_with fail
          refine ⟨HB6.out, ?_⟩
          have hmm : (c5.mark != c5.mark) = false := by simp
          repeat (first | (refine plan_on _ (by rfl) (fun W hW => by (obtain ⟨y1, y2, y3⟩ := HSC.out W hW; go_simp; try with_reducible rfl)) ?_; simp only [Act.put, List.setIfInBounds_toArray, List.set_cons_zero, List.set_cons_succ]) | (refine plan_off (by rfl) ?_; simp only [Act.put, List.setIfInBounds_toArray, List.set_cons_zero, List.set_cons_succ]))
          have HTH := Lib.hid (hear_any cb mb j c5 nm at_ nw w6 HC6.out (by omega))
          refine plan_turn ?_
          go_wp2_with fail
          refine HTH.out.mono ?_
          rintro e w7 ⟨r7, c7, rfl, ht, h7, hk7'⟩
          have HT7 := Lib.hid ht
          have HC7 := Lib.hid h7
          have HD7 := Lib.hid (HD6.out.kept hk7' (by omega) (by omega))
          have HB7 : Hid (Below w.heap.size w w7) := Lib.hid (HB6.out.trans (hk7'.toBelow (fun i hi => by omega) HB6.out.size))
          clear ht h7 hk7' HTH
          go_wp2_with fail
          refine ⟨HB7.out, ?_⟩
          have HTG := Lib.hid (hear_any cb2 mb2 (n2 + j) c5 nm at_ nw w7 HD7.out (by omega))
          refine plan_turn ?_
          go_wp2_with fail
          refine HTG.out.mono ?_
          rintro e w8 ⟨r8, c8, rfl, ht2, h8, hk8⟩
          obtain ⟨rfl, rfl⟩ := HT7.out.one ht2
          have HC8 : Hid (ClockAt w8 cb mb (j + 1) c7) := Lib.hid (HC7.out.kept hk8 (by omega) (by omega))
          have HD8 : Hid (ClockAt w8 cb2 mb2 (n2 + j + 1) c7) := Lib.hid h8
          have HL8 : Hid (Live c7) := Lib.hid (Live.hears HL6.out.1 HC6.out.ok ht2)
          have HB8 : Hid (Below w.heap.size w w8) := Lib.hid (HB7.out.trans (hk8.toBelow (fun i hi => by omega) HB7.out.size))
          clear ht2 h8 hk8 HTG HC7 HD7 HT7
          go_wp2_with fail
          refine ⟨HB8.out, ?_⟩
          have hrr : (r7 != r7) = false := by simp
          repeat (first | (refine plan_on _ (by rfl) (fun W hW => by (obtain ⟨y1, y2, y3⟩ := HSC.out W hW; go_simp; try with_reducible rfl)) ?_; simp only [Act.put, List.setIfInBounds_toArray, List.set_cons_zero, List.set_cons_succ]) | (refine plan_off (by rfl) ?_; simp only [Act.put, List.setIfInBounds_toArray, List.set_cons_zero, List.set_cons_succ]))
          refine plan_done ?_
          go_wp2_with fail
          go_roundw
          case rel => exact ⟨j + 1, c7, by omega, by omega, by go_num, HC8, HD8, HL8, HB8⟩
          case measure => simp [intOf]; omega
        · obtain rfl : j = len := by omega
          have HSr : Hid (Below w.heap.size w wr.drew) := Lib.hid (Go.Proofs.YtobkgkiomapabaaDoor.below_drew hbw.out)
          have HXr : Hid (Below wr.heap.size wr wr.drew) := Lib.hid (Go.Proofs.YtobkgkiomapabaaDoor.below_drew (Below.refl _ _))
          have HEC : Hid (∀ V, Below wr.heap.size wr V → Calls Tryd.prog 19 #[.pointer (some ⟨cb, 0, none⟩)] V fun e w' => ∃ A cc N ks, e = .returned (.slice A N cc) ∧ KeysOf' (fun s => (c.src s).isSome) ks ∧ (encC c ks).length = N ∧ w'.ownsRow V.heap.size 5 1 (.slice A N cc) N (Lib.byteCells (encC c ks)) ∧ Below V.heap.size V w') := Lib.hid (fun V hV => encode_any cb mb j c V (hc.out.below hV hc.out.blk.lt hc.out.map.lt (Nat.le_refl _)) (by omega) (short_good hlv.out.1) (HTB.out _ (hbw.out.trans (hV.mono hbw.out.size))))
          have HED : Hid (∀ V, Below wr.heap.size wr V → Calls Tryd.prog 19 #[.pointer (some ⟨cb2, 0, none⟩)] V fun e w' => ∃ A cc N ks, e = .returned (.slice A N cc) ∧ KeysOf' (fun s => (c.src s).isSome) ks ∧ (encC c ks).length = N ∧ w'.ownsRow V.heap.size 5 1 (.slice A N cc) N (Lib.byteCells (encC c ks)) ∧ Below V.heap.size V w') := Lib.hid (fun V hV => encode_any cb2 mb2 (n2 + j) c V (hd.out.below hV hd.out.blk.lt hd.out.map.lt (Nat.le_refl _)) (by omega) (short_good hlv.out.1) (HTB.out _ (hbw.out.trans (hV.mono hbw.out.size))))
          have HONE : Hid (∀ ks ks2, KeysOf' (fun s => (c.src s).isSome) ks → KeysOf' (fun s => (c.src s).isSome) ks2 → ks = ks2) := Lib.hid (fun ks ks2 h1 h2 => by
            obtain ⟨l9, h9, _⟩ := rows_of_keys hlv.out.1 h1
            rw [keys_rows h1 h9, keys_rows h2 h9])
          go_wp2_with fail
          refine wp_planT (fun V => Below w.heap.size w V) (.take 0 (.take 3 (.turn 1 (.fork 2 (.turn 4 (.turn 5 (.take 6 (.take 7 .done)))) 4 (.fork 2 (.turn 5 (.take 6 (.take 7 .done))) 5 (.turn 2 (.take 6 (.take 7 .done)))))))) (by kernel_rfl) (by kernel_rfl) HSr.out ?_
          simp only [planTL, List.getElem?_cons_zero, List.getElem?_cons_succ]
          repeat (first | (refine planT_on _ (by rfl) (fun W hW => by (go_simp; try with_reducible rfl)) ?_; simp only [Act.put, List.setIfInBounds_toArray, List.set_cons_zero, List.set_cons_succ]) | (refine planT_off (by rfl) ?_; simp only [Act.put, List.setIfInBounds_toArray, List.set_cons_zero, List.set_cons_succ]))
          refine planT_turn ?_
          go_wp2_with fail
          refine (HEC.out _ HXr.out).mono ?_
          rintro e w5 ⟨A5, c5, N5, ks5, rfl, hk5, hN5, ho5, hb5⟩
          have HX5 : Hid (Below wr.heap.size wr w5) := Lib.hid (HXr.out.trans (hb5.mono HXr.out.size))
          have HB5 : Hid (Below w.heap.size w w5) := Lib.hid (hbw.out.trans (HX5.out.mono hbw.out.size))
          have hN50 : 0 < N5 := by rw [← hN5]; exact enc_pos c ks5
          have HC5 : Hid (∀ V, Below w5.heap.size w5 V → (convert 40 9 (.slice A5 N5 c5)).run Tryd.prog V = .ok (.string ⟨(encC c ks5).toArray⟩) V) := Lib.hid (fun V hV => bytes_back ho5 hN50 hN5 V hV)
          have HK5 := Lib.hid hk5
          obtain ⟨eb5, heb⟩ : ∃ eb : ByteArray, ⟨(encC c ks5).toArray⟩ = eb := ⟨_, rfl⟩
          have HE5 : Hid (∀ ks, KeysOf' (fun s => (c.src s).isSome) ks → (⟨(encC c ks).toArray⟩ : ByteArray) = eb5) := Lib.hid (fun ks h => by rw [HONE.out ks ks5 h HK5.out]; exact heb)
          rw [heb] at HC5
          clear hk5 hN5 ho5 hb5 heb hN50
          go_wp2_with fail
          refine ⟨HB5.out, ?_⟩
          refine planT_fork ?_ ?_
          case refine_1 =>
            have hcv := HC5.out w5 (Below.refl _ _)
            go_wp2_with fail
            clear hcv
            refine ⟨HB5.out, ?_⟩
            refine planT_turn ?_
            go_wp2_with fail
            refine (HED.out _ HX5.out).mono ?_
            rintro e w6 ⟨A6, c6, N6, ks6, rfl, hk6, hN6, ho6, hb6⟩
            have HB6 : Hid (Below w.heap.size w w6) := Lib.hid (HB5.out.trans (hb6.mono HB5.out.size))
            have hN60 : 0 < N6 := by rw [← hN6]; exact enc_pos c ks6
            have hcv := bytes_back ho6 hN60 hN6 w6 (Below.refl _ _)
            rw [HE5.out ks6 hk6] at hcv
            clear hk6 hN6 ho6 hb6 hN60
            go_wp2_with fail
            refine ⟨HB6.out, ?_⟩
            refine planT_turn ?_
            go_wp2_with fail
            clear hcv
            refine ⟨HB6.out, ?_⟩
            repeat (first | (refine planT_on _ (by rfl) (fun W hW => by (go_simp; try with_reducible rfl)) ?_; simp only [Act.put, List.setIfInBounds_toArray, List.set_cons_zero, List.set_cons_succ]) | (refine planT_off (by rfl) ?_; simp only [Act.put, List.setIfInBounds_toArray, List.set_cons_zero, List.set_cons_succ]))
            refine planT_done ?_
            go_wp2_with fail
            go_ret
            exact ⟨rfl, HB6.out⟩
          case refine_2 =>
            go_wp2_with fail
            refine (HED.out _ HX5.out).mono ?_
            rintro e w6 ⟨A6, c6, N6, ks6, rfl, hk6, hN6, ho6, hb6⟩
            have HB6 : Hid (Below w.heap.size w w6) := Lib.hid (HB5.out.trans (hb6.mono HB5.out.size))
            have hN60 : 0 < N6 := by rw [← hN6]; exact enc_pos c ks6
            have hcv := bytes_back ho6 hN60 hN6 w6 (Below.refl _ _)
            have hcv5 := HC5.out w6 hb6
            rw [HE5.out ks6 hk6] at hcv
            clear hk6 hN6 ho6 hb6 hN60
            go_wp2_with fail
            refine ⟨HB6.out, ?_⟩
            refine planT_fork ?_ ?_
            case refine_1 =>
              go_wp2_with fail
              refine ⟨HB6.out, ?_⟩
              refine planT_turn ?_
              go_wp2_with fail
              refine ⟨HB6.out, ?_⟩
              clear hcv hcv5
              repeat (first | (refine planT_on _ (by rfl) (fun W hW => by (go_simp; try with_reducible rfl)) ?_; simp only [Act.put, List.setIfInBounds_toArray, List.set_cons_zero, List.set_cons_succ]) | (refine planT_off (by rfl) ?_; simp only [Act.put, List.setIfInBounds_toArray, List.set_cons_zero, List.set_cons_succ]))
              refine planT_done ?_
              go_wp2_with fail
              go_ret
              exact ⟨rfl, HB6.out⟩
            case refine_2 =>
              go_wp2_with fail
              refine ⟨HB6.out, ?_⟩
              refine planT_turn ?_
              go_wp2_with fail
              refine ⟨HB6.out, ?_⟩
              clear hcv hcv5
              repeat (first | (refine planT_on _ (by rfl) (fun W hW => by (go_simp; try with_reducible rfl)) ?_; simp only [Act.put, List.setIfInBounds_toArray, List.set_cons_zero, List.set_cons_succ]) | (refine planT_off (by rfl) ?_; simp only [Act.put, List.setIfInBounds_toArray, List.set_cons_zero, List.set_cons_succ]))
              refine planT_done ?_
              go_wp2_with fail
              go_ret
              exact ⟨rfl, HB6.out⟩
end Go.Proofs.YtobkgkiomapabaaDoor

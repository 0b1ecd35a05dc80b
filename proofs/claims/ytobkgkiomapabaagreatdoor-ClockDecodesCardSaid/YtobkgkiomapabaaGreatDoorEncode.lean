/- clock.Encode. -/
import Derived.Test.YtobkgkiomapabaaGreatDoorEnc
import Derived.Test.YtobkgkiomapabaaGreatDoorKeys
namespace Go.Proofs.YtobkgkiomapabaaGreatDoor
open Go.RowKit Go.Maps Go.Shelf
set_option linter.unusedVariables false

theorem below_drew {B : Nat} {a w : World} (h : Below B a w) : Below B a w.drew := h.trans ⟨rfl, rfl, rfl, Nat.le_refl _, fun _ _ => rfl⟩
theorem below_drewN {B : Nat} {a w : World} (h : Below B a w) (q : Nat) : Below B a (w.drewN q) := h.trans ⟨rfl, rfl, rfl, Nat.le_refl _, fun _ _ => rfl⟩
def clockW : ByteArray := ⟨#[99, 108, 111, 99, 107]⟩
def srcOf (c : Ck) (s : List UInt8) : Int × Int := (c.src s).getD (0, 0)
def srcLine (c : Ck) (s : List UInt8) : List UInt8 := lineC ⟨s.toArray⟩ [(srcOf c s).1, (srcOf c s).2]
/-- A clock's bytes, by its sources' names. -/
def encC (c : Ck) (ks : List (List UInt8)) : List UInt8 := lineC clockW [c.slack, c.idle, c.now, c.mark] ++ ks.flatMap (srcLine c)
/-- The names of all sources are short. -/
def Short (c : Ck) : Prop := ∀ s, (c.src s).isSome = true → s.length ≤ 24
theorem itoa_few {n : Int} (h : -1 ≤ n) (h2 : n ≤ 1099511627776) : -9223372036854775808 ≤ n ∧ n ≤ 9223372036854775807 := by omega
theorem line_few (word : ByteArray) (ns : List Int) (h : ∀ n ∈ ns, -9223372036854775808 ≤ n ∧ n ≤ 9223372036854775807) : (lineC word ns).length ≤ word.size + 22 * ns.length + 1 := by
  have h1 := nums_few h ns.length
  unfold numsTo at h1
  rw [List.take_length] at h1
  unfold lineC
  simp only [List.length_append, List.length_cons, List.length_nil]
  have : word.data.toList.length = word.size := by simp
  omega
theorem own_oth {w w' : World} {B lb n : Nat} {t : TypeId} {v : Value} {xs : List Value} (h : w.ownsRow B t 1 v n xs) (ht : t ≠ 5) (hk : Lib.OthersKept 5 (some lb) w w') (hB : lb < B) : w'.ownsRow B t 1 v n xs := by
  refine ⟨h.1, ?_⟩
  rcases h.2 with hn | ⟨g, cap, cur, hv, hb, hg, rest⟩
  · exact .inl hn
  · exact .inr ⟨g, cap, cur, hv, hb, hk g _ hg (fun e => by injection e with e; omega) (fun c fz e => by injection e with _ e2; exact ht e2), rest⟩
theorem ClockAt.below {w w' : World} {cb mb n : Nat} {c : Ck} (h : ClockAt w cb mb n c) {B : Nat} (hb : Below B w w') (h1 : cb < B) (h2 : mb < B) (hB : B ≤ w.heap.size) : ClockAt w' cb mb n c :=
  h.kept (S := fun q => B ≤ q) ⟨hb.os, hb.tape, hb.output, hb.size, fun i hi hn => hb.block i (by omega)⟩ (by omega) (by omega)
theorem LineIn.below {w w' : World} {B lb n : Nat} {bs : List UInt8} (h : LineIn w B lb n bs) (hb : Below w.heap.size w w') : LineIn w' B lb n bs := by
  obtain ⟨A, c, h1, h2, h3⟩ := h
  refine ⟨A, c, h1, (hb.block lb h2.lt).trans h2, h3.1, ?_⟩
  rcases h3.2 with hn | ⟨g, cap, cur, hv, hbg, hg, rest⟩
  · exact .inl hn
  · exact .inr ⟨g, cap, cur, hv, hbg, (hb.block g (Array.getElem?_eq_some_iff.1 hg).1).trans hg, rest⟩
theorem zeroSrc' (w : World) : (zeroValue 52).run Tryz.prog w = .ok (.agg #[.int .i64 0, .int .i64 0]) w := zeroSrc w

theorem fld0 (a b : Int) (w : World) : (Instr.field 52 (.agg #[.int .i64 a, .int .i64 b]) 0).run Tryz.prog w = .ok (.int .i64 a) w := by kernel_rfl
theorem fld1 (a b : Int) (w : World) : (Instr.field 52 (.agg #[.int .i64 a, .int .i64 b]) 1).run Tryz.prog w = .ok (.int .i64 b) w := by kernel_rfl

set_option maxHeartbeats 8000000 in
set_option maxRecDepth 100000 in
theorem encode_any (cb mb n : Nat) (c : Ck) (w : World) (h : ClockAt w cb mb n c) (hn : n ≤ 10000) (hs : Short c) (ht : TabB w.heap.size w) :
    Calls Tryz.prog 8 #[.pointer (some ⟨cb, 0, none⟩)] w fun e w' => ∃ A cc N ks, e = .returned (.slice A N cc) ∧ KeysOf' (fun s => (c.src s).isSome) ks ∧ (encC c ks).length = N ∧ w'.ownsRow w.heap.size 5 1 (.slice A N cc) N (Lib.byteCells (encC c ks)) ∧ Below w.heap.size w w' := by
  have HC := Lib.hid h
  have HSH := Lib.hid hs
  have HT := Lib.hid ht
  have hcb := h.blk.lt
  have hmb := h.map.lt
  have hmf : ∀ (fn : Fn) (first cap : Array Value) (w : World), (Instr.makeFunc fn first cap).run Tryz.prog w = .ok (.func fn first cap) w := fun _ _ _ _ => rfl
  obtain ⟨w1, hw1⟩ : ∃ w1, w.alloc (.cells #[.slice none 0 0] 22) = w1 := ⟨_, rfl⟩
  have HK1 : Hid (Blk w1 w.heap.size 22 #[.slice none 0 0]) := Lib.hid (by rw [← hw1]; exact Blk.new _ _ _)
  have HF1 : Hid (Below w.heap.size w w1) := Lib.hid (by rw [← hw1]; exact (Below.refl _ _).alloc (Nat.le_refl _) _)
  have HL1 : Hid (LineIn w1 w.heap.size w.heap.size 0 []) := Lib.hid ⟨none, 0, rfl, HK1.out, World.ownsRow_nil _ _ _ _⟩
  have HZ1 : Hid (w.heap.size < w1.heap.size) := Lib.hid HK1.out.lt
  have HCB : Hid (∀ V, Below w.heap.size w V → ClockAt V cb mb n c) := Lib.hid (fun V hV => h.below hV hcb hmb (Nat.le_refl _))
  have HSC : Hid (∀ V, Below w.heap.size w V → V.cell? ⟨cb, 0, none⟩ = some (.int .i64 c.slack) ∧ V.cell? ⟨cb, 1, none⟩ = some (.int .i64 c.idle) ∧ V.cell? ⟨cb, 2, none⟩ = some (.int .i64 c.now) ∧ V.cell? ⟨cb, 3, none⟩ = some (.int .i64 c.mark) ∧ V.cell? ⟨cb, 4, none⟩ = some (.map (some mb))) := Lib.hid (fun V hV => by
    have k := (h.below hV hcb hmb (Nat.le_refl _)).blk
    exact ⟨k.cell 0, k.cell 1, k.cell 2, k.cell 3, k.cell 4⟩)
  have HOK := Lib.hid h.ok
  have HS0 : Hid (Below w.heap.size w w1.drew) := Lib.hid (below_drew HF1.out)
  clear h hs ht
  go_enter Tryz.func8, Tryz.ntmps8
  go_wp2_with fail
  clear hmf
  refine wp_plan (fun V => Below w.heap.size w V) [(0, false), (1, false), (2, false), (3, false), (4, false), (5, false), (6, false), (7, false), (8, false), (9, false), (10, false), (11, false), (12, false), (13, false), (14, false), (15, false), (16, false), (17, true), (18, true)] (by kernel_rfl) (by kernel_rfl) HS0.out ?_
  simp only [planL, List.getElem?_cons_zero, List.getElem?_cons_succ]
  repeat (first | (refine plan_on _ (by rfl) (fun W hW => by (obtain ⟨x0, x1, x2, x3, x4⟩ := HSC.out W hW; go_simp; try with_reducible rfl)) ?_; simp only [Act.put, List.setIfInBounds_toArray, List.set_cons_zero, List.set_cons_succ]) | (refine plan_off (by rfl) ?_; simp only [Act.put, List.setIfInBounds_toArray, List.set_cons_zero, List.set_cons_succ]))
  refine plan_turn ?_
  obtain ⟨w2, hw2⟩ : ∃ w2, w1.drew.alloc (.cells #[.int .i64 c.slack, .int .i64 c.idle, .int .i64 c.now, .int .i64 c.mark] 3) = w2 := ⟨_, rfl⟩
  have HN2 : Hid (Blk w2 w1.heap.size 3 ([c.slack, c.idle, c.now, c.mark].map (Value.int .i64)).toArray) := Lib.hid (by rw [← hw2]; exact Blk.new w1.drew _ _)
  have HB2 : Hid (Below w.heap.size w w2) := Lib.hid (by rw [← hw2]; exact HS0.out.alloc HS0.out.size _)
  have HL2 : Hid (LineIn w2 w.heap.size w.heap.size 0 []) := Lib.hid (by rw [← hw2]; exact HL1.out.below ((below_drew (Below.refl _ _)).alloc (Nat.le_refl _) _))
  have HLN := Lib.hid (line_any w2 w.heap.size w.heap.size 0 [] clockW [c.slack, c.idle, c.now, c.mark] w1.heap.size 4 4 rfl HN2.out (by have := HZ1.out; omega) (fun x hx => by
    obtain ⟨o1, o2, o3, o4, o5, o6, o7, o8⟩ := HOK.out
    simp only [List.mem_cons, List.not_mem_nil, or_false] at hx
    rcases hx with rfl | rfl | rfl | rfl <;> omega) HL2.out HB2.out.size (Nat.le_refl _) (by omega) (by decide) (by omega) (HT.out.on HB2.out))
  go_wp2_with fail
  try clear hw2
  refine ⟨HB2.out, ?_⟩
  refine plan_turn ?_
  go_wp2_with fail
  refine HLN.out.mono ?_
  rintro e w3 ⟨rfl, hl3, hb3, ho3⟩
  have HB3 : Hid (Below w.heap.size w w3) := Lib.hid (HB2.out.trans hb3)
  rw [Nat.zero_add, List.nil_append] at hl3
  have HL3 := Lib.hid hl3
  have HN3 : Hid ((lineC clockW [c.slack, c.idle, c.now, c.mark]).length ≤ 94) := Lib.hid (line_few clockW [c.slack, c.idle, c.now, c.mark] (fun x hx => by
    obtain ⟨o1, o2, o3, o4, o5, o6, o7, o8⟩ := HOK.out
    simp only [List.mem_cons, List.not_mem_nil, or_false] at hx
    rcases hx with rfl | rfl | rfl | rfl <;> omega))
  have HSR := Lib.hid (sources_any cb mb n c w3 (HCB.out w3 HB3.out) (by omega))
  clear hl3 hb3 ho3 HLN
  go_wp2_with fail
  refine ⟨HB3.out, ?_⟩
  refine plan_done ?_
  go_wp2_with fail
  refine HSR.out.mono ?_
  rintro e w4 ⟨v, ks, rfl, hks, hown, hb4, hsl, hkn⟩
  obtain ⟨Ak, ck, hv⟩ := own_shape hown
  subst hv
  have HKS := Lib.hid hks
  have HOW := Lib.hid hown
  have HB4 : Hid (Below w.heap.size w w4) := Lib.hid (HB3.out.trans (hb4.mono HB3.out.size))
  have HL4 : Hid (LineIn w4 w.heap.size w.heap.size (lineC clockW [c.slack, c.idle, c.now, c.mark]).length (lineC clockW [c.slack, c.idle, c.now, c.mark])) := Lib.hid (HL3.out.below hb4)
  have HZ3 : Hid (w.heap.size < w3.heap.size) := Lib.hid (by obtain ⟨_, _, _, h2, _⟩ := HL3.out; exact h2.lt)
  have HKS24 : Hid (∀ s ∈ ks, s.length ≤ 24) := Lib.hid (fun s hs => HSH.out s ((hks.mem s).1 hs))
  obtain ⟨m, hm⟩ : ∃ m, ks.length = m := ⟨_, rfl⟩
  have HM := Lib.hid hm
  rw [hm] at HOW hkn ⊢
  clear hks hown hb4 hsl HSR hm
  go_wp2_with fail
  go_loopw [30] (fun i wr => ∃ k N : Nat, k ≤ m ∧ i = .int .i64 k ∧ N ≤ 94 + 69 * k ∧ Hid (LineIn wr w.heap.size w.heap.size N (encC c (ks.take k))) ∧ Hid (wr.ownsRow w3.heap.size 9 1 (.slice Ak m ck) m (ks.map encStr)) ∧ Hid (Below w.heap.size w wr)) (fun i _ => m - (intOf i).toNat)
  case atStart => exact ⟨0, _, Nat.zero_le _, rfl, HN3.out, Lib.hid (by unfold encC; rw [List.take_zero, List.flatMap_nil, List.append_nil]; exact HL4.out), HOW, HB4⟩
  case round =>
    clear HL4 HB4
    obtain ⟨k, N, hk, rfl, hNk, hli, how, hbw⟩ := hrel
    have hBr : w.heap.size ≤ wr.heap.size := hbw.out.size
    by_cases hlt : k < m
    · obtain ⟨nm, hx⟩ : ∃ nm, ks[k]? = some nm := ⟨ks[k]'(by rw [HM.out]; exact hlt), List.getElem?_eq_getElem _⟩
      have hn24 := HKS24.out nm (List.mem_of_getElem? hx)
      obtain ⟨g, o, rfl, hg, hc⟩ := (RowIn.of_own how.out).at (by omega)
      have e0 : wr.cell? ⟨g, o + k, none⟩ = some (.string ⟨nm.toArray⟩) := hc k _ (by simp [hx, encStr])
      have HTK : Hid (encC c (ks.take (k + 1)) = encC c (ks.take k) ++ srcLine c nm) := Lib.hid (by
        unfold encC
        rw [List.take_add_one, hx, List.flatMap_append]
        simp)
      obtain ⟨x1, hx1⟩ : ∃ x1, (srcOf c nm).1 = x1 := ⟨_, rfl⟩
      obtain ⟨x2, hx2⟩ : ∃ x2, (srcOf c nm).2 = x2 := ⟨_, rfl⟩
      have HXB : Hid (0 ≤ x1 ∧ x1 ≤ 1099511627776 ∧ 0 ≤ x2 ∧ x2 ≤ 1099511627776) := Lib.hid (by rw [← hx1, ← hx2]; exact getD_ok (HCB.out w3 HB3.out) nm)
      have HSL : Hid (srcLine c nm = lineC ⟨nm.toArray⟩ [x1, x2]) := Lib.hid (by unfold srcLine; rw [hx1, hx2])
      have HSK : Hid (∀ V, Below w.heap.size w V → V.cell? ⟨cb, 4, none⟩ = some (.map (some mb)) ∧ (Instr.lookup 47 (.map (some mb)) (.string ⟨nm.toArray⟩) false).run Tryz.prog V = .ok (.agg #[.int .i64 x1, .int .i64 x2]) V) := Lib.hid (fun V hV => ⟨(HSC.out V hV).2.2.2.2, by
        have hk := WideMaps.keyOf_string_mk Tryz.underlying9 (show (⟨nm.toArray⟩ : ByteArray).size ≤ maxLen from by show nm.toArray.size ≤ maxLen; simp; unfold maxLen; omega)
        have h1 := (HCB.out V hV).map.look (string_keyed Tryz.underlying9) Tryz.underlying47 (zeroSrc V) (by decide) hk
        have h2 := src_getD c.src nm
        rw [show (⟨nm.toArray⟩ : ByteArray).data.toList = nm from by simp] at h1
        rw [h2] at h1
        rw [← hx1, ← hx2]
        exact h1⟩)
      have hk8 : (k : Int) < (m : Int) := by omega
      have hk9 : (0 : Int) ≤ (k : Int) := by omega
      have HS7 : Hid (Below w.heap.size w wr.drew) := Lib.hid (below_drew hbw.out)
      have HOW7 : Hid (wr.drew.ownsRow w3.heap.size 9 1 (.slice (some ⟨g, o, none⟩) m ck) m (ks.map encStr)) := Lib.hid how.out
      have HL7 : Hid (LineIn wr.drew w.heap.size w.heap.size N (encC c (ks.take k))) := Lib.hid (hli.out.below (below_drew (Below.refl _ _)))
      clear hx hx1 hx2 hc
      go_wp2_with fail
      refine wp_plan (fun V => Below w.heap.size w V) [(0, false), (1, false), (2, false), (3, false), (4, false), (5, false), (6, false), (7, false), (8, false), (9, false), (10, false), (11, false), (12, false), (13, false), (14, false), (15, false), (16, true), (17, true)] (by kernel_rfl) (by kernel_rfl) HS7.out ?_
      simp only [planL, List.getElem?_cons_zero, List.getElem?_cons_succ]
      obtain ⟨wd, hwd⟩ : ∃ wd, wr.drew = wd := ⟨_, rfl⟩
      rw [hwd] at HS7 HOW7 HL7 ⊢
      clear hwd e0
      have hf0 := fld0 x1 x2
      have hf1 := fld1 x1 x2
      repeat (first | (refine plan_on _ (by rfl) (fun W hW => by (obtain ⟨y0, y1⟩ := HSK.out W hW; go_simp; try with_reducible rfl)) ?_; simp only [Act.put, List.setIfInBounds_toArray, List.set_cons_zero, List.set_cons_succ]) | (refine plan_off (by rfl) ?_; simp only [Act.put, List.setIfInBounds_toArray, List.set_cons_zero, List.set_cons_succ]))
      refine plan_turn ?_
      obtain ⟨w5, hw5⟩ : ∃ w5, wd.alloc (.cells #[.int .i64 x1, .int .i64 x2] 3) = w5 := ⟨_, rfl⟩
      have HN5 : Hid (Blk w5 wd.heap.size 3 ([x1, x2].map (Value.int .i64)).toArray) := Lib.hid (by rw [← hw5]; exact Blk.new wd _ _)
      have HB5 : Hid (Below w.heap.size w w5) := Lib.hid (by rw [← hw5]; exact HS7.out.alloc HS7.out.size _)
      have HO5 : Hid (w5.ownsRow w3.heap.size 9 1 (.slice (some ⟨g, o, none⟩) m ck) m (ks.map encStr)) := Lib.hid (by rw [← hw5]; exact HOW7.out.alloc _)
      have HL5 : Hid (LineIn w5 w.heap.size w.heap.size N (encC c (ks.take k))) := Lib.hid (by rw [← hw5]; exact HL7.out.below ((Below.refl _ _).alloc (Nat.le_refl _) _))
      have HNE : Hid (wd.heap.size ≠ w.heap.size) := Lib.hid (by obtain ⟨_, _, _, h2, _⟩ := HL7.out; have := h2.lt; omega)
      have hms : (⟨nm.toArray⟩ : ByteArray).size = nm.length := by show nm.toArray.size = _; simp
      have HLF : Hid ((lineC ⟨nm.toArray⟩ [x1, x2]).length ≤ 69) := Lib.hid (by
        have := line_few ⟨nm.toArray⟩ [x1, x2] (fun z hz => by
          obtain ⟨o1, o2, o3, o4⟩ := HXB.out
          simp only [List.mem_cons, List.not_mem_nil, or_false] at hz
          rcases hz with rfl | rfl <;> omega)
        rw [hms] at this
        simp only [List.length_cons, List.length_nil] at this
        omega)
      have HLN := Lib.hid (line_any w5 w.heap.size w.heap.size N (encC c (ks.take k)) ⟨nm.toArray⟩ [x1, x2] wd.heap.size 2 2 rfl HN5.out HNE.out (fun z hz => by
        obtain ⟨o1, o2, o3, o4⟩ := HXB.out
        simp only [List.mem_cons, List.not_mem_nil, or_false] at hz
        rcases hz with rfl | rfl <;> omega) HL5.out HB5.out.size (Nat.le_refl _) (by omega) (by rw [hms]; omega) (by omega) (HT.out.on HB5.out))
      go_wp2_with fail
      try clear hw5
      refine ⟨HB5.out, ?_⟩
      refine plan_turn ?_
      go_wp2_with fail
      refine HLN.out.mono ?_
      rintro e w6 ⟨rfl, hl6, hb6, ho6⟩
      have HB6 : Hid (Below w.heap.size w w6) := Lib.hid (HB5.out.trans hb6)
      have HO6 : Hid (w6.ownsRow w3.heap.size 9 1 (.slice (some ⟨g, o, none⟩) m ck) m (ks.map encStr)) := Lib.hid (own_oth HO5.out (by decide) ho6 HZ3.out)
      have HL6 : Hid (LineIn w6 w.heap.size w.heap.size (N + (lineC ⟨nm.toArray⟩ [x1, x2]).length) (encC c (ks.take (k + 1)))) := Lib.hid (by rw [HTK.out, HSL.out]; exact hl6)
      have hN6 : N + (lineC ⟨nm.toArray⟩ [x1, x2]).length ≤ 94 + 69 * (k + 1) := by have := HLF.out; omega
      clear hl6 hb6 ho6 HLN
      go_wp2_with fail
      refine ⟨HB6.out, ?_⟩
      refine plan_done ?_
      go_wp2_with fail
      go_roundw
      case rel => exact ⟨k + 1, _, by omega, by go_num, hN6, HL6, HO6, HB6⟩
      case measure => simp [intOf]; omega
    · obtain rfl : m = k := by omega
      have htk : ks.take m = ks := by rw [← HM.out, List.take_length]
      rw [htk] at hli
      obtain ⟨A9, c9, hl9, hb9, ho9⟩ := hli.out
      have HL9 := Lib.hid hl9
      have HO9 := Lib.hid ho9
      have l0 : wr.cell? ⟨w.heap.size, 0, none⟩ = some (.slice A9 N c9) := hb9.cell 0
      clear htk hl9 hb9 ho9
      go_wp2_with fail
      go_ret
      exact ⟨A9, c9, N, ks, rfl, HKS.out, HL9.out, HO9.out, hbw.out⟩

end Go.Proofs.YtobkgkiomapabaaGreatDoor

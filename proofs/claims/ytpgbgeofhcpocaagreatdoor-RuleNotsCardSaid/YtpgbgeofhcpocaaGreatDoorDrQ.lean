/- The document of rules: Parse. -/
import Derived.Test.YtpgbgeofhcpocaaGreatDoorDrZ
namespace Go.Proofs.YtpgbgeofhcpocaaGreatDoor
open Go.RowKit Go.Maps Go.Shelf
set_option linter.unusedVariables false

theorem hd_snoc (L : List ByteArray) : hd (L ++ [(⟨#[]⟩ : ByteArray)]) = hd L := by cases L <;> rfl
theorem tail_snoc {L : List ByteArray} (h : hd L ≠ ⟨#[]⟩) : (L ++ [(⟨#[]⟩ : ByteArray)]).tail = L.tail ++ [⟨#[]⟩] := by
  cases L with
  | nil => exact absurd rfl h
  | cons a r => rfl
/-- The empty text behind the tokens plays no part. -/
theorem P.unsnoc {k d : Nat} {L' L1' : List ByteArray} {ok : Bool} {ns : List Nd} (h : P k d L' ok L1' ns) : ∀ L, L' = L ++ [⟨#[]⟩] → ∃ L1, L1' = L1 ++ [⟨#[]⟩] ∧ P k d L ok L1 ns := by
  induction h with
  | @rlast k d L' L1 ok ns hk h hn ih =>
    intro L e
    obtain ⟨L2, e2, h2⟩ := ih L e
    subst e2
    rw [hd_snoc] at hn
    exact ⟨L2, rfl, .rlast hk h2 hn⟩
  | @rmore k d L' L1 L2' ok ns ns2 hk h hw h2 ih ih2 =>
    intro L e
    obtain ⟨L2, e2, h3⟩ := ih L e
    subst e2
    rw [hd_snoc] at hw
    have hne : hd L2 ≠ ⟨#[]⟩ := by rw [hw]; rcases (show k = 0 ∨ k = 1 by omega) with rfl | rfl <;> decide
    obtain ⟨L3, e3, h4⟩ := ih2 _ (tail_snoc hne)
    exact ⟨L3, e3, .rmore hk h3 hw h4⟩
  | @no d L' L1 ok ns hw h ih =>
    intro L e
    subst e
    rw [hd_snoc] at hw
    obtain ⟨L2, e2, h2⟩ := ih _ (tail_snoc (by rw [hw]; decide))
    exact ⟨L2, e2, .no hw h2⟩
  | @open_ d L' L1 ns hw hd' h hc ih =>
    intro L e
    subst e
    rw [hd_snoc] at hw
    obtain ⟨L2, e2, h2⟩ := ih _ (tail_snoc (by rw [hw]; decide))
    subst e2
    rw [hd_snoc] at hc
    exact ⟨L2.tail, tail_snoc (by rw [hc]; decide), .open_ hw hd' h2 hc⟩
  | @openBad d L' L1 ok ns hw hd' h hc ih =>
    intro L e
    subst e
    rw [hd_snoc] at hw
    obtain ⟨L2, e2, h2⟩ := ih _ (tail_snoc (by rw [hw]; decide))
    subst e2
    rw [hd_snoc] at hc
    exact ⟨L2, rfl, .openBad hw hd' h2 hc⟩
  | @leaf d L' a h =>
    intro L e
    subst e
    rw [hd_snoc] at h
    have hne : hd L ≠ ⟨#[]⟩ := fun e => leaf_no (w := hd L) (by right; right; right; right; right; exact e) a h
    exact ⟨L.tail, tail_snoc hne, .leaf h⟩
  | @bad d L' h1 h2 h3 =>
    intro L e
    subst e
    rw [hd_snoc] at h1 h2 h3
    exact ⟨L, rfl, .bad h1 h2 h3⟩
theorem allT_drop {s : ByteArray} {J : Nat} (h : J ≤ (toks s).length) : (allT s).drop J = (toks s).drop J ++ [(⟨#[]⟩, s.size)] := by
  unfold allT
  rw [List.drop_append_of_le_length h]
theorem allT_tx {s : ByteArray} {J : Nat} (h : J ≤ (toks s).length) : tx ((allT s).drop J) = tx ((toks s).drop J) ++ [⟨#[]⟩] := by
  rw [allT_drop h]
  simp [tx]
theorem snocD {a b : List ByteArray} {x : ByteArray} (h : a ++ [x] = b ++ [x]) : a = b := (List.append_inj' h rfl).1
/-- What the document's parser says of the tokens. -/
theorem dsays {s : ByteArray} {ok : Bool} {J : Nat} {ns : List Nd} (hJ : J ≤ (toks s).length) (h : P 0 0 (tx (allT s)) ok (tx ((allT s).drop J)) ns) : P 0 0 (tx (toks s)) ok (tx ((toks s).drop J)) ns := by
  have h0 : tx (allT s) = tx (toks s) ++ [⟨#[]⟩] := by have := allT_tx (s := s) (J := 0) (Nat.zero_le _); simpa using this
  rw [h0, allT_tx hJ] at h
  obtain ⟨L1, e, h2⟩ := h.unsnoc _ rfl
  rw [snocD e]
  exact h2
/-- A rule of the document. -/
def DRule (w : World) (B : Nat) : Option (Option Nd) → DV → Prop
  | some (some n), v => NF n ∧ DNd w B n v
  | _, v => v = ⟨0, none, 0, 0, ⟨#[]⟩⟩
def DPost (s : ByteArray) (w : World) (e : Ending) (w' : World) : Prop := ∃ r at_ v, Says s r at_ ∧ e = .returned (.tuple #[.agg #[.int .i64 (v.k : Nat), .slice v.A v.m v.c, .string v.s], .int .i64 (at_ : Nat), .bool r.isSome]) ∧ DRule w' w.heap.size r v ∧ Below w.heap.size w w'
theorem results_ctt {fn : Func} {t u u2 : Tmp} {v : Value} {rb : Nat} {tmps : Array Value} {w : World} (h : fn.results = #[.cell t NOA, .tmp u, .tmp u2]) (hp : tmps.getD t undef = .pointer (some ⟨rb, 0, none⟩)) (hl : (loadVar NOA ⟨rb, 0, none⟩).run Tryz.prog w = .ok v w) :
    (results fn tmps).run Tryz.prog w = .ok (.tuple #[v, tmps.getD u undef, tmps.getD u2 undef]) w := by
  have hp' : tmps[t]?.getD undef = .pointer (some ⟨rb, 0, none⟩) := by simpa using hp
  simp [results, h, hp', asAddr, hl]

set_option maxHeartbeats 8000000 in
set_option maxRecDepth 100000 in
theorem dparse_any (s : ByteArray) (w : World) (hs : s.size ≤ 100000) :
    Calls Tryz.prog 7 #[.string s] w fun e w' => DPost s w e w' := by
  obtain ⟨w1, hw1⟩ : ∃ w1, w.alloc (.cells #[.int .i64 0, .slice none 0 0, .string ⟨#[]⟩] NOA) = w1 := ⟨_, rfl⟩
  have B1 : Blk w1 w.heap.size NOA #[.int .i64 0, .slice none 0 0, .string ⟨#[]⟩] := by rw [← hw1]; exact Blk.new _ _ _
  have z1 : w1.heap.size = w.heap.size + 1 := by rw [← hw1]; simp
  have HK1 : Hid (Below w.heap.size w w1) := Lib.hid (by rw [← hw1]; exact (Below.refl _ _).alloc (Nat.le_refl _) _)
  have HB1 := Lib.hid B1
  have HTK := Lib.hid (dtokens_any s w1 hs)
  have HLT := Lib.hid (toks_len s)
  have HMT := Lib.hid (toks_mem s)
  obtain ⟨n, hn⟩ : ∃ n, (toks s).length + 1 = n := ⟨_, rfl⟩
  have HN : Hid ((toks s).length + 1 = n) := Lib.hid hn
  rw [hn] at HTK
  obtain ⟨c0, c1, c2, f0, f1, f2⟩ := B1.at3
  clear B1 hn
  -- a zero stored again
  obtain ⟨wz, hwz⟩ : ∃ wz, ((w1.setCell ⟨w.heap.size, 0, none⟩ (.int .i64 0)).setCell ⟨w.heap.size, 1, none⟩ (.slice none 0 0)).setCell ⟨w.heap.size, 2, none⟩ (.string ⟨#[]⟩) = wz := ⟨_, rfl⟩
  have HWZ : Hid (Blk wz w.heap.size NOA #[.int .i64 0, .slice none 0 0, .string ⟨#[]⟩] ∧ Below w.heap.size w wz) := Lib.hid (by
    rw [← hwz]
    exact ⟨HB1.out.set3 _ _ _, HK1.out.trans (((Kept.refl (fun i => i = w.heap.size) w1).kept3 rfl _ _ _).toBelow (fun i hi => Nat.le_of_eq hi.symm) HK1.out.size)⟩)
  go_enter Tryz.func7, Tryz.ntmps7
  by_cases hlong : 2000 < s.size
  · have q1 : (2000 : Int) < (s.size : Int) := by omega
    have HF : Hid (DPost s w (.returned (.tuple #[.agg #[.int .i64 0, .slice none 0 0, .string ⟨#[]⟩], .int .i64 0, .bool false])) wz) := Lib.hid ⟨none, 0, ⟨0, none, 0, 0, ⟨#[]⟩⟩, .long hlong, rfl, rfl, HWZ.out.2⟩
    clear hlong HTK
    go_wp2_with fail
    refine bodyPost_ret (results_ctt (rb := w.heap.size) rfl rfl (load_no (k := 0) HWZ.out.1)) rfl ?_
    exact HF.out
  have q1 : ¬ (2000 : Int) < (s.size : Int) := by omega
  clear hwz
  go_wp2_with fail
  refine HTK.out.mono ?_
  rintro e w2 ⟨A, c, rfl, hown, hb2⟩
  have HB2 : Hid (Blk w2 w.heap.size NOA #[.int .i64 0, .slice none 0 0, .string ⟨#[]⟩]) := Lib.hid (HB1.out.under hb2)
  have HK2 : Hid (Below w.heap.size w w2) := Lib.hid (HK1.out.trans (hb2.mono HK1.out.size))
  obtain ⟨g, o, rfl, hg⟩ : ∃ g o, A = some ⟨g, o, none⟩ ∧ g < w2.heap.size := by
    obtain ⟨g, o, e, hg, _⟩ := (RowIn.of_own hown).at (by have := HN.out; omega)
    exact ⟨g, o, e, hg⟩
  have HENV : Hid (Env w2 (some ⟨g, o, none⟩) n c (allT s)) := Lib.hid ⟨RowIn.of_own hown, by unfold allT; rw [List.length_append]; exact HN.out, ⟨_, _, rfl⟩, fun t ht => by
    unfold allT at ht
    rcases List.mem_append.1 ht with ht | ht
    · have := HMT.out t ht; omega
    · rw [List.mem_singleton] at ht; subst ht; exact Nat.zero_le _, by have := HN.out; have := HLT.out; omega⟩
  have hz2 : w.heap.size + 1 ≤ w2.heap.size := by have := hb2.size; omega
  have HGB : Hid (w.heap.size < g) := Lib.hid (by have := (hown.lt g rfl).1; omega)
  clear hown hb2 HTK hw1 c0 c1 c2 f0 f1 f2
  obtain ⟨c0, c1, c2, f0, f1, f2⟩ := HB2.out.at3
  by_cases hn1 : n = 1
  · have hT : toks s = [] := List.length_eq_zero_iff.1 (by have := HN.out; omega)
    have q2 : (n : Int) = 1 := by omega
    have q3 : ((n : Int) == 1) = true := by rw [beq_iff_eq]; exact q2
    obtain ⟨wz2, hwz2⟩ : ∃ wz2, ((w2.setCell ⟨w.heap.size, 0, none⟩ (.int .i64 0)).setCell ⟨w.heap.size, 1, none⟩ (.slice none 0 0)).setCell ⟨w.heap.size, 2, none⟩ (.string ⟨#[]⟩) = wz2 := ⟨_, rfl⟩
    have HWZ2 : Hid (Blk wz2 w.heap.size NOA #[.int .i64 0, .slice none 0 0, .string ⟨#[]⟩] ∧ Below w.heap.size w wz2) := Lib.hid (by
      rw [← hwz2]
      exact ⟨HB2.out.set3 _ _ _, HK2.out.trans (((Kept.refl (fun i => i = w.heap.size) w2).kept3 rfl _ _ _).toBelow (fun i hi => Nat.le_of_eq hi.symm) HK2.out.size)⟩)
    have HF : Hid (DPost s w (.returned (.tuple #[.agg #[.int .i64 0, .slice none 0 0, .string ⟨#[]⟩], .int .i64 0, .bool true])) wz2) := Lib.hid ⟨some none, 0, ⟨0, none, 0, 0, ⟨#[]⟩⟩, .empty (by omega) hT, rfl, rfl, HWZ2.out.2⟩
    clear hT hn1
    go_wp2_with fail
    refine bodyPost_ret (results_ctt (rb := w.heap.size) rfl rfl (load_no (k := 0) HWZ2.out.1)) rfl ?_
    exact HF.out
  have q3 : ((n : Int) == 1) = false := by rw [beq_eq_false_iff_ne]; omega
  have HT : Hid (toks s ≠ []) := Lib.hid (fun h => hn1 (by have := HN.out; rw [h] at this; simpa using this.symm))
  have hnf : n ≤ 3001 := HENV.out.few
  have HC : Hid (Calls Tryz.prog 15 #[.agg #[.slice (some ⟨g, o, none⟩) n c, .int .i64 0, .bool true], .int .i64 0] w2 fun e w' => DrPost 0 w2.heap.size 0 (some ⟨g, o, none⟩) n c (allT s) 0 w2 e w') := Lib.hid (dor_any (n - 0) (some ⟨g, o, none⟩) n c (allT s) 0 w2.heap.size 0 _ _ w2 (by rfl) (by rfl) HENV.out (by have := HN.out; omega) rfl (by omega) (Nat.le_refl _))
  have hn2 : 2 ≤ n := by have := HN.out; omega
  clear hn1
  go_wp2_with fail
  refine HC.out.mono ?_
  rintro e w5 ⟨v, ok, J, ns, rfl, hdi⟩
  have HDI := Lib.hid hdi
  have hJn : J < n := by rw [← HENV.out.len]; exact hdi.lt
  have HP : Hid (P 0 0 (tx (toks s)) ok (tx ((toks s).drop J)) ns) := Lib.hid (dsays (by have := HN.out; omega) (by have := hdi.par; simpa using this))
  clear hdi HC c0 c1 c2 f0 f1 f2
  obtain ⟨w6, hw6⟩ : ∃ w6, w5.alloc (.cells #[.slice none 0 0, .int .i64 0, .bool false] STA) = w6 := ⟨_, rfl⟩
  obtain ⟨w7, hw7⟩ : ∃ w7, w6.alloc (.cells #[.int .i64 0, .slice none 0 0, .string ⟨#[]⟩] NOA) = w7 := ⟨_, rfl⟩
  have y6 : w6.heap.size = w5.heap.size + 1 := by rw [← hw6]; simp
  obtain ⟨w8, hw8⟩ : ∃ w8, (((((w7.setCell ⟨w5.heap.size, 0, none⟩ (.slice (some ⟨g, o, none⟩) n c)).setCell ⟨w5.heap.size, 1, none⟩ (.int .i64 J)).setCell ⟨w5.heap.size, 2, none⟩ (.bool ok)).setCell ⟨w5.heap.size + 1, 0, none⟩ (.int .i64 v.k)).setCell ⟨w5.heap.size + 1, 1, none⟩ (.slice v.A v.m v.c)).setCell ⟨w5.heap.size + 1, 2, none⟩ (.string v.s) = w8 := ⟨_, rfl⟩
  have HBX := Lib.hid (boxed w5 w6 w7 w8 _ _ _ _ _ _ hw6 hw7 hw8)
  obtain ⟨m0, m1, m2, p0, p1, p2⟩ := (boxes w5 w6 w7 hw6 hw7).1.at3
  obtain ⟨m3, m4, m5, p3, p4, p5⟩ := (boxes w5 w6 w7 hw6 hw7).2.at3
  go_upto_region 7 with fail
  have HB8 : Hid (Blk w8 w.heap.size NOA #[.int .i64 0, .slice none 0 0, .string ⟨#[]⟩] ∧ Below w.heap.size w w8 ∧ w.heap.size < w5.heap.size ∧ Below w2.heap.size w2 w8) := Lib.hid (by
    have k5 := HDI.out.below
    have k8 := HBX.out.below
    have k28 := k5.trans (k8.mono k5.size)
    exact ⟨HB2.out.under k28, HK2.out.trans (k28.mono HK2.out.size), by have := k5.size; omega, k28⟩)
  clear m0 m1 m2 p0 p1 p2 m3 m4 m5 p3 p4 p5 hw6 hw7 hw8 y6
  obtain ⟨s0, s1, s2, _, _, _⟩ := HBX.out.st.at3
  obtain ⟨s3, s4, s5, _, _, _⟩ := HBX.out.no.at3
  obtain ⟨b0, b1, b2, b3, b4, b5⟩ := HB8.out.1.at3
  have hnw : IntKind.i64.wrap ((n : Int) - 1) = ((n - 1 : Nat) : Int) := by rw [IntKind.wrap_i64]; omega
  by_cases hgood : ok = true ∧ J = n - 1
  · obtain ⟨rfl, rfl⟩ := hgood
    obtain ⟨w9, hw9⟩ : ∃ w9, ((w8.setCell ⟨w.heap.size, 0, none⟩ (.int .i64 v.k)).setCell ⟨w.heap.size, 1, none⟩ (.slice v.A v.m v.c)).setCell ⟨w.heap.size, 2, none⟩ (.string v.s) = w9 := ⟨_, rfl⟩
    have HW9 : Hid (Blk w9 w.heap.size NOA #[.int .i64 v.k, .slice v.A v.m v.c, .string v.s] ∧ Kept (fun i => i = w.heap.size) w8 w9) := Lib.hid (by
      rw [← hw9]
      exact ⟨HB8.out.1.set3 _ _ _, (Kept.refl (fun i => i = w.heap.size) w8).kept3 rfl _ _ _⟩)
    have HF : Hid (DPost s w (.returned (.tuple #[.agg #[.int .i64 v.k, .slice v.A v.m v.c, .string v.s], .int .i64 0, .bool true])) w9) := Lib.hid (by
      have hp := HP.out
      have e0 : (toks s).drop (n - 1) = [] := List.drop_eq_nil_of_le (by have := HN.out; omega)
      rw [e0] at hp
      have hnf := hp.nf rfl
      have k8 := HBX.out.below
      have k9 := HW9.out.2
      refine ⟨some (some (nodeOf 0 ns)), 0, v, .good (by omega) HT.out hp, rfl, ⟨nodeOf_nf hnf.1 hnf.2, ?_⟩, HB8.out.2.1.trans (k9.toBelow (fun i hi => Nat.le_of_eq hi.symm) HB8.out.2.1.size)⟩
      exact (((HDI.out.nd rfl).keep k8.size (fun i hi _ => k8.block i hi)).keep (w' := w9) k9.size (fun i hi hB => k9.block i hi (fun h => by omega))).low (by omega))
    go_wp2_with fail
    refine bodyPost_ret (results_ctt (rb := w.heap.size) rfl rfl (load_no HW9.out.1)) rfl ?_
    exact HF.out
  have HE8 : Hid (Env w8 (some ⟨g, o, none⟩) n c (allT s)) := Lib.hid (HENV.out.below HB8.out.2.2.2)
  obtain ⟨t8, g8, o8, ht8, hhd8, hsz8, hne8, eg8, hg8, _, e8⟩ := HE8.out.at hJn
  injection eg8 with eg8
  injection eg8 with eg8 eo8
  subst eg8 eo8
  have HAT : Hid (t8.2 = place ((toks s).drop J) s.size) := Lib.hid (by
    have hJ2 : J ≤ (toks s).length := by have := HN.out; omega
    have h1 : ((allT s).drop J)[0]? = some t8 := by rw [List.getElem?_drop]; exact ht8
    rw [allT_drop hJ2] at h1
    cases hd2 : (toks s).drop J with
    | nil => rw [hd2] at h1; simp at h1; rw [← h1]; rfl
    | cons a r => rw [hd2] at h1; simp at h1; rw [h1]; rfl)
  have HBAD : Hid (ok = false ∨ (toks s).drop J ≠ []) := Lib.hid (by
    by_cases ho : ok = false
    · exact Or.inl ho
    · right
      intro e
      have h1 := congrArg List.length e
      rw [List.length_drop] at h1
      simp at h1
      have h2 : ok = true := by simpa using ho
      exact hgood ⟨h2, by have := HN.out; omega⟩)
  obtain ⟨p8, hp8⟩ : ∃ p8, t8.2 = p8 := ⟨_, rfl⟩
  rw [hp8] at e8 HAT
  have hgd : (ok = false) ∨ (ok = true ∧ ((J : Int) == ((n - 1 : Nat) : Int)) = false) := by
    by_cases ho : ok = false
    · exact Or.inl ho
    · have h2 : ok = true := by simpa using ho
      exact Or.inr ⟨h2, by rw [beq_eq_false_iff_ne]; intro e; exact hgood ⟨h2, by omega⟩⟩
  clear ht8 hhd8 hsz8 hne8 hp8 hgood
  have HSC : Hid (∀ W, Kept (fun i => i = w.heap.size) w8 W → W.cell? ⟨w5.heap.size, 1, none⟩ = some (.int .i64 J) ∧ W.cell? ⟨g, o + J * 2 + 1, none⟩ = some (.int .i64 p8)) := Lib.hid (fun W hW => by
    have k1 := HBX.out.st.kept hW (fun h => by have := HB8.out.2.2.1; omega)
    refine ⟨k1.cell 1, (hW.cell hg8 (fun h => ?_)).trans e8⟩
    have := HGB.out
    have h' : g = w.heap.size := h
    omega)
  have HS0 : Hid (Kept (fun i => i = w.heap.size) w8 w8.drew) := Lib.hid (Kept.refl _ _).drew
  rcases hgd with rfl | ⟨rfl, hq⟩
  all_goals
    go_upto_region 9 with fail
    clear s0 s1 s2 s3 s4 s5 b0 b1 b2 b3 b4 b5 hnw e8
    refine wp_plan (fun V => Kept (fun i => i = w.heap.size) w8 V) [(0, false), (1, false), (2, false), (3, false), (4, false), (5, false), (6, false), (7, true), (8, false), (9, false)] (by kernel_rfl) (by kernel_rfl) HS0.out ?_
    simp only [planL, List.getElem?_cons_zero, List.getElem?_cons_succ]
    repeat (first | (refine plan_on _ (by rfl) (fun W hW => by (obtain ⟨q0, q1⟩ := HSC.out W hW; go_simp; try with_reducible rfl)) ?_; simp only [Act.put, List.setIfInBounds_toArray, List.set_cons_zero, List.set_cons_succ]) | (refine plan_off (by rfl) ?_; simp only [Act.put, List.setIfInBounds_toArray, List.set_cons_zero, List.set_cons_succ]))
    refine plan_turn ?_
    refine wpList_store_blk w8.drew rfl NOA _ _ rfl 0 #[.int .i64 0, .slice none 0 0, .string ⟨#[]⟩] rfl rfl HB8.out.1.drew (by show 0 + 3 ≤ 3; omega) (by kernel_rfl) (by simp [Value.oneCell']) ?_
    intro Wa hba hka hza
    have HBA : Hid (Blk Wa w.heap.size NOA #[.int .i64 (0 : Nat), .slice none 0 0, .string ⟨#[]⟩]) := Lib.hid hba
    have HKA : Hid (Kept (fun i => i = w.heap.size) w8 Wa) := Lib.hid (HS0.out.trans' hka (fun i _ hi => hi))
    clear hba hka hza
    go_wp2_with fail
    refine ⟨HKA.out, ?_⟩
    repeat (first | (refine plan_on _ (by rfl) (fun W hW => by (obtain ⟨q0, q1⟩ := HSC.out W hW; go_simp; try with_reducible rfl)) ?_; simp only [Act.put, List.setIfInBounds_toArray, List.set_cons_zero, List.set_cons_succ]) | (refine plan_off (by rfl) ?_; simp only [Act.put, List.setIfInBounds_toArray, List.set_cons_zero, List.set_cons_succ]))
    refine plan_done ?_
    go_wp2_with fail
    refine bodyPost_ret (results_ctt (rb := w.heap.size) rfl rfl (load_no HBA.out)) rfl ?_
    refine ⟨none, p8, ⟨0, none, 0, 0, ⟨#[]⟩⟩, ?_, rfl, rfl, HB8.out.2.1.trans (HKA.out.toBelow (fun i hi => Nat.le_of_eq hi.symm) HB8.out.2.1.size)⟩
    rw [HAT.out]
    exact .bad (by omega) HT.out HP.out (by first | exact Or.inl rfl | exact HBAD.out | exact Or.inr HBAD.out)
end Go.Proofs.YtpgbgeofhcpocaaGreatDoor

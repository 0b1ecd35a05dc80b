/- has, Fits of the document. -/
import Derived.Test.YtiaklkfdgnhonaaDoorTags
namespace Go.Proofs.YtiaklkfdgnhonaaDoor
open Go.Shelf Go.RowKit Go.Lib Go.Sort Go.Maps
set_option linter.unusedVariables false

set_option maxHeartbeats 2000000 in
set_option maxRecDepth 100000 in
theorem has_any (y : Ch) (t : ByteArray) (w : World) (hs : y.tags.size ≤ 300) :
    Calls Tryd.prog 30 #[.agg #[.string y.item, .string y.maker, .string y.tags, .int .i64 y.score], .string t] w fun e w' => e = .returned (.bool (decide (t ∈ tagsP y.tags))) ∧ Below w.heap.size w w' := by
  obtain ⟨w1, hw1⟩ : ∃ w1, w.alloc (.cells #[.string y.item, .string y.maker, .string y.tags, .int .i64 y.score] 32) = w1 := ⟨_, rfl⟩
  have bx : Blk w1 w.heap.size 32 #[.string y.item, .string y.maker, .string y.tags, .int .i64 y.score] := by rw [← hw1]; exact Blk.new _ _ _
  have d2 : w1.cell? ⟨w.heap.size, 2, none⟩ = some (.string y.tags) := bx.cell 2
  have hB1 : Below w.heap.size w w1 := by rw [← hw1]; exact (Below.refl _ _).alloc (Nat.le_refl _) _
  have HT := Lib.hid (tags_any y.tags w1 hs)
  clear bx
  go_enter Tryd.func30, Tryd.ntmps30
  go_wp2_with fail
  clear hw1
  refine HT.out.mono ?_
  rintro e w2 ⟨v, rfl, hown, hb2⟩
  have hB2 : Below w.heap.size w w2 := hB1.trans (hb2.mono hB1.size)
  obtain ⟨A3, c3, rfl⟩ := own_shape hown
  have HO := Lib.hid (own_str_at hown)
  have hlen := tagsP_len y.tags
  clear HT hown hb2 hB1 d2
  generalize hLL : tagsP y.tags = L at *
  have HLL := Lib.hid hLL
  clear hLL
  obtain ⟨N, hN⟩ : ∃ N, L.length = N := ⟨_, rfl⟩
  have HN := Lib.hid hN
  rw [hN] at hlen HO ⊢
  clear hN
  go_wp2_with fail
  go_loop [6] (fun i => ∃ j : Nat, j ≤ N ∧ i = .int .i64 j ∧ Hid (∀ j', j' < j → L[j']? ≠ some t)) (fun i => N - (intOf i).toNat)
  case atStart => exact ⟨0, Nat.zero_le _, rfl, Lib.hid (fun j' h => by omega)⟩
  case round =>
    obtain ⟨j, hj, rfl, hno⟩ := hrel
    by_cases hjl : j < N
    · obtain ⟨u, hu⟩ : ∃ u, L[j]? = some u := ⟨L[j]'(by rw [HN.out]; exact hjl), List.getElem?_eq_getElem _⟩
      obtain ⟨g, rfl, hg1, hg2, hcl⟩ := HO.out (by omega)
      have e0 := hcl j u hu
      have HU := Lib.hid hu
      have hj8 : (j : Int) < (N : Int) := by omega
      have hj9 : (0 : Int) ≤ (j : Int) := by omega
      clear hcl hu
      by_cases he : u = t
      · have hb : (u.toList == t.toList) = true := (beq_list u t).2 he
        have HE := Lib.hid he
        clear he
        go_wp2_with fail
        go_ret
        exact ⟨ret_bool (decide_eq_true (by rw [HLL.out]; exact HE.out ▸ List.mem_of_getElem? HU.out)).symm, hB2⟩
      · have hb : (u.toList == t.toList) = false := Bool.eq_false_iff.2 (fun e => he ((beq_list u t).1 e))
        have HE := Lib.hid he
        clear he
        go_wp2_with fail
        go_round
        case rel =>
          refine ⟨j + 1, by omega, by go_num, Lib.hid (fun j' hj' e => ?_)⟩
          by_cases ej : j' = j
          · subst ej
            rw [HU.out] at e
            exact HE.out (Option.some.inj e)
          · exact hno.out j' (by omega) e
        case measure => simp [intOf]; omega
    · go_wp2_with fail
      go_ret
      refine ⟨ret_bool (decide_eq_false fun h => ?_).symm, hB2⟩
      rw [HLL.out] at h
      obtain ⟨j', hj'⟩ := List.mem_iff_getElem?.1 h
      exact hno.out j' (by have := (List.getElem?_eq_some_iff.1 hj').1; rw [HN.out] at this; omega) hj'

/-! ### what fits, in the document's words -/
def nMk (s : List Ch) (x : Ch) : Nat := s.countP fun y => decide (y.maker = x.maker)
def nTg (s : List Ch) (t : ByteArray) : Nat := s.countP fun y => decide (t ∈ tagsP y.tags)
theorem cntM_tag (s : List Ch) (t : ByteArray) : cntM s ⟨true, t⟩ = nTg s t := by
  unfold cntM nTg
  congr 1
  funext y
  rw [decide_eq_decide]
  exact mem_tag y t
theorem cntM_maker (s : List Ch) (x : Ch) (h : x.maker ≠ ⟨#[]⟩) : cntM s ⟨false, x.maker⟩ = nMk s x := by
  unfold cntM nMk
  congr 1
  funext y
  rw [decide_eq_decide, mem_maker]
  constructor
  · intro h; exact h.1.symm
  · intro h2; exact ⟨h2.symm, by rw [h2]; exact h⟩
theorem fits_maker {c : Cp} {s : List Ch} {x : Ch} (h1 : 1 ≤ c.maker) (h2 : x.maker ≠ ⟨#[]⟩) (h3 : c.maker ≤ (nMk s x : Int)) : fitsB c s x = false := by
  refine fits_not (List.any_eq_true.2 ⟨⟨false, x.maker⟩, (mem_maker x _).2 ⟨rfl, h2⟩, ?_⟩)
  unfold fullP mostOf
  rw [cntM_maker s x h2]
  simp [h1, h3]
theorem fits_tag {c : Cp} {s : List Ch} {x : Ch} {t : ByteArray} (ht : t ∈ tagsP x.tags) (h1 : 1 ≤ c.tag) (h3 : c.tag ≤ (nTg s t : Int)) : fitsB c s x = false := by
  refine fits_not (List.any_eq_true.2 ⟨⟨true, t⟩, (mem_tag x _).2 ht, ?_⟩)
  unfold fullP mostOf
  rw [cntM_tag s t]
  simp [h1, h3]
theorem fits_size {c : Cp} {s : List Ch} {x : Ch} (h : c.size ≤ (s.length : Int)) : fitsB c s x = false := by
  unfold fitsB; rw [decide_eq_false (by omega)]; rfl
theorem fits_all {c : Cp} {s : List Ch} {x : Ch} (h0 : ¬ c.size ≤ (s.length : Int)) (h1 : ¬ (1 ≤ c.maker ∧ x.maker ≠ ⟨#[]⟩ ∧ c.maker ≤ (nMk s x : Int))) (h2 : ∀ t ∈ tagsP x.tags, ¬ (1 ≤ c.tag ∧ c.tag ≤ (nTg s t : Int))) : fitsB c s x = true := by
  refine fits_yes h0 (List.any_eq_false.2 fun m hm => ?_)
  obtain ⟨b, n⟩ := m
  unfold fullP mostOf
  cases b
  · obtain ⟨rfl, hne⟩ := (mem_maker x _).1 hm
    rw [cntM_maker s x hne]
    simp only [Bool.false_eq_true, if_false, Bool.and_eq_true, decide_eq_true_eq]
    exact fun h => h1 ⟨h.1, hne, h.2⟩
  · have ht := (mem_tag x _).1 hm
    rw [cntM_tag s n]
    simp only [if_true, Bool.and_eq_true, decide_eq_true_eq]
    exact h2 n ht
theorem nMk_snoc (s : List Ch) (y x : Ch) : nMk (s ++ [y]) x = nMk s x + if y.maker = x.maker then 1 else 0 := by
  unfold nMk; rw [List.countP_append]
  by_cases h : y.maker = x.maker <;> simp [h]
theorem nTg_snoc (s : List Ch) (y : Ch) (t : ByteArray) : nTg (s ++ [y]) t = nTg s t + if t ∈ tagsP y.tags then 1 else 0 := by
  unfold nTg; rw [List.countP_append]
  by_cases h : t ∈ tagsP y.tags <;> simp [h]

theorem ChsAt.drewN {w : World} {B : Nat} {A : Option Addr} {l : List Ch} (h : ChsAt w B A l) (q : Nat) : ChsAt (w.drewN q) B A l := h

set_option maxHeartbeats 8000000 in
set_option maxRecDepth 100000 in
theorem fits_any (w : World) (B : Nat) (A : Option Addr) (s : List Ch) (n cc : Nat) (x : Ch) (c : Cp) (hn : s.length = n) (hl : ChsAt w B A s) (hB : B ≤ w.heap.size) (hb : n ≤ 1000) (hok : Okc s) (hx : x.tags.size ≤ 300) :
    Calls Tryd.prog 18 #[.slice A n cc, .agg #[.string x.item, .string x.maker, .string x.tags, .int .i64 x.score], .agg #[.int .i64 c.size, .int .i64 c.maker, .int .i64 c.tag]] w fun e w' => e = .returned (.bool (fitsB c s x)) ∧ Below w.heap.size w w' := by
  obtain ⟨w1, hw1⟩ : ∃ w1, w.alloc (.cells #[.string x.item, .string x.maker, .string x.tags, .int .i64 x.score] 32) = w1 := ⟨_, rfl⟩
  obtain ⟨w2, hw2⟩ : ∃ w2, w1.alloc (.cells #[.int .i64 c.size, .int .i64 c.maker, .int .i64 c.tag] 28) = w2 := ⟨_, rfl⟩
  have z1 : Hid (w1.heap.size = w.heap.size + 1) := Lib.hid (by rw [← hw1]; simp)
  have bx : Blk w2 w.heap.size 32 #[.string x.item, .string x.maker, .string x.tags, .int .i64 x.score] := by rw [← hw2, ← hw1]; exact (Blk.new _ _ _).alloc _
  have bc : Blk w2 w1.heap.size 28 #[.int .i64 c.size, .int .i64 c.maker, .int .i64 c.tag] := by rw [← hw2]; exact Blk.new _ _ _
  have hB2 : Below w.heap.size w w2 := by rw [← hw2, ← hw1]; exact ((Below.refl _ _).alloc (Nat.le_refl _) _).alloc (by simp) _
  have hl2 : ChsAt w2 B A s := hl.below (hB2.mono hB)
  have x1 : w2.cell? ⟨w.heap.size, 1, none⟩ = some (.string x.maker) := bx.cell 1
  have x2 : w2.cell? ⟨w.heap.size, 2, none⟩ = some (.string x.tags) := bx.cell 2
  have q0 : w2.cell? ⟨w1.heap.size, 0, none⟩ = some (.int .i64 c.size) := bc.cell 0
  have q1 : w2.cell? ⟨w1.heap.size, 1, none⟩ = some (.int .i64 c.maker) := bc.cell 1
  have q2 : w2.cell? ⟨w1.heap.size, 2, none⟩ = some (.int .i64 c.tag) := bc.cell 2
  have HOK := Lib.hid hok
  have HN := Lib.hid hn
  clear hl hn hok bx bc
  by_cases hfull : c.size ≤ (n : Int)
  · have HF : Hid (fitsB c s x = false) := Lib.hid (fits_size (by rw [HN.out]; exact hfull))
    go_enter Tryd.func18, Tryd.ntmps18
    go_wp2_with fail
    go_ret
    exact ⟨ret_bool HF.out.symm, hB2⟩
  · go_enter Tryd.func18, Tryd.ntmps18
    go_wp2_with fail
    clear hw1 hw2 q0
    go_loopw [7, 8] (fun m i wr => ∃ (k q : Nat), k ≤ n ∧ i = .int .i64 k ∧ m = .int .i64 (nMk (s.take k) x) ∧ wr = w2.drewN q) (fun _ i _ => n - (intOf i).toNat)
    case atStart => exact ⟨0, 0, Nat.zero_le _, rfl, rfl, rfl⟩
    case round =>
      obtain ⟨k, q, hk, rfl, rfl, rfl⟩ := hrel
      by_cases hlt : k < n
      · obtain ⟨y, hy⟩ : ∃ y, s[k]? = some y := ⟨s[k]'(by rw [HN.out]; exact hlt), List.getElem?_eq_getElem _⟩
        obtain ⟨g, o, rfl, _, hc⟩ := hl2.at (by rw [HN.out]; omega)
        obtain ⟨e0, e1, e2, e3⟩ := hc k y hy
        have htk : s.take (k + 1) = s.take k ++ [y] := by rw [List.take_add_one, hy]; rfl
        have hsn := nMk_snoc (s.take k) y x
        rw [← htk] at hsn
        have HSN := Lib.hid hsn
        have hcl : nMk (s.take k) x ≤ k := Nat.le_trans List.countP_le_length (List.length_take_le _ _)
        generalize nMk (s.take k) x = nm at *
        have hk8 : (k : Int) < (n : Int) := by omega
        have hk9 : (0 : Int) ≤ (k : Int) := by omega
        clear hc hl2 hy htk hsn
        by_cases he : y.maker = x.maker
        · have hbq : (y.maker.toList == x.maker.toList) = true := (beq_list _ _).2 he
          have HE := Lib.hid he
          clear he
          go_wp2_with fail
          go_quiet (fail)
          go_wp2_with fail
          go_roundw
          case rel => exact ⟨k + 1, q + nq, by omega, by go_num, by rw [HSN.out, if_pos HE.out]; go_num, by first | rfl | simp⟩
          case measure => simp [intOf]; omega
        · have hbq : (y.maker.toList == x.maker.toList) = false := Bool.eq_false_iff.2 (fun e => he ((beq_list _ _).1 e))
          have HE := Lib.hid he
          clear he
          go_wp2_with fail
          go_quiet (fail)
          go_wp2_with fail
          go_roundw
          case rel => exact ⟨k + 1, q + nq, by omega, by go_num, by rw [HSN.out, if_neg HE.out]; rfl, by first | rfl | simp⟩
          case measure => simp [intOf]; omega
      · obtain rfl : n = k := by omega
        have HMk : Hid (nMk (s.take n) x = nMk s x) := Lib.hid (by rw [List.take_of_length_le (by rw [HN.out]; exact Nat.le_refl _)])
        have hcl : nMk (s.take n) x ≤ n := Nat.le_trans List.countP_le_length (List.length_take_le _ _)
        generalize nMk (s.take n) x = nm at *
        have hemp := emp_iff x.maker
        by_cases ht : 1 ≤ c.maker ∧ x.maker ≠ ⟨#[]⟩ ∧ c.maker ≤ (nm : Int)
        · obtain ⟨t1, t2, t3⟩ := ht
          have b1 : decide (1 ≤ c.maker) = true := decide_eq_true t1
          have b2 : (!x.maker.toList.isEmpty) = true := by rw [hemp]; simp [t2]
          have b3 : decide (c.maker ≤ (nm : Int)) = true := decide_eq_true t3
          have HF : Hid (fitsB c s x = false) := Lib.hid (fits_maker t1 t2 (by rw [← HMk.out]; exact t3))
          clear hemp t2
          go_wp2_with fail
          go_ret
          exact ⟨ret_bool HF.out.symm, below_drewN hB2 _⟩
        · have HNT : Hid (¬ (1 ≤ c.maker ∧ x.maker ≠ ⟨#[]⟩ ∧ c.maker ≤ (nMk s x : Int))) := Lib.hid (by rw [← HMk.out]; exact ht)
          have hb2 : ∀ b : Bool, x.maker.toList.isEmpty = b → (!x.maker.toList.isEmpty) = !b := fun b h => by rw [h]
          have H3 : ¬ 1 ≤ c.maker ∨ (1 ≤ c.maker ∧ (!x.maker.toList.isEmpty) = false) ∨ (1 ≤ c.maker ∧ (!x.maker.toList.isEmpty) = true ∧ ¬ c.maker ≤ (nm : Int)) := by
            by_cases t1 : 1 ≤ c.maker
            · by_cases t2 : x.maker = ⟨#[]⟩
              · exact Or.inr (Or.inl ⟨t1, by rw [hemp]; simp [t2]⟩)
              · exact Or.inr (Or.inr ⟨t1, by rw [hemp]; simp [t2], fun t3 => ht ⟨t1, t2, t3⟩⟩)
            · exact Or.inl t1
          clear ht hb2 hemp
          have HTG := Lib.hid (tags_any x.tags (w2.drewN q) hx)
          rcases H3 with t1 | ⟨t1, t2⟩ | ⟨t1, t2, t3⟩
          · have b1 : decide (1 ≤ c.maker) = false := decide_eq_false t1
            go_wp2_with fail
            refine HTG.out.mono ?_
            rintro e w3 ⟨v, rfl, hown, hb3⟩
            obtain ⟨A3, c3, rfl⟩ := own_shape hown
            have HO := Lib.hid (own_str_at hown)
            have hlen := tagsP_len x.tags
            have hB3 : Below w.heap.size w w3 := (below_drewN hB2 q).trans (hb3.mono hB2.size)
            have hl3 : ChsAt w3 B A s := (hl2.drewN q).below (hb3.mono (Nat.le_trans hB hB2.size))
            have q1' : w3.cell? ⟨w1.heap.size, 1, none⟩ = some (.int .i64 c.maker) := (hb3.cell (p := ⟨w1.heap.size, 1, none⟩) (World.block_lt_of_cell? _ _ q1)).trans q1
            have q2' : w3.cell? ⟨w1.heap.size, 2, none⟩ = some (.int .i64 c.tag) := (hb3.cell (p := ⟨w1.heap.size, 2, none⟩) (World.block_lt_of_cell? _ _ q2)).trans q2
            have zq : w1.heap.size < w3.heap.size := Nat.lt_of_lt_of_le (World.block_lt_of_cell? _ _ q2) hb3.size
            have HTL : Hid (∀ t, t ∈ tagsP x.tags → 1 ≤ c.tag → c.tag ≤ (nTg s t : Int) → fitsB c s x = false) := Lib.hid (fun t h1 h2 h3 => fits_tag h1 h2 h3)
            have HAL : Hid ((∀ t ∈ tagsP x.tags, ¬ (1 ≤ c.tag ∧ c.tag ≤ (nTg s t : Int))) → fitsB c s x = true) := Lib.hid (fun h => fits_all (by rw [HN.out]; omega) HNT.out h)
            clear HTG hown hb3 q1 q2 x1 x2 hl2 HNT HMk hB2
            generalize tagsP x.tags = L at *
            obtain ⟨N, hN⟩ : ∃ N, L.length = N := ⟨_, rfl⟩
            have HNN := Lib.hid hN
            rw [hN] at hlen HO ⊢
            clear hN
            go_wp2_with fail
            go_loopw [10] (fun i wr => ∃ (j : Nat), j ≤ N ∧ i = .int .i64 j ∧ Hid (∀ j' t, j' < j → L[j']? = some t → ¬ (1 ≤ c.tag ∧ c.tag ≤ (nTg s t : Int))) ∧ Hid (Below w3.heap.size w3 wr)) (fun i _ => N - (intOf i).toNat)
            case atStart => exact ⟨0, Nat.zero_le _, rfl, Lib.hid (fun j' t h => by omega), Lib.hid (Below.refl _ _)⟩
            case round =>
              obtain ⟨j, hj, rfl, hno, hbw⟩ := hrel
              by_cases hjl : j < N
              · obtain ⟨t, htj⟩ : ∃ t, L[j]? = some t := ⟨L[j]'(by rw [HNN.out]; exact hjl), List.getElem?_eq_getElem _⟩
                obtain ⟨g3, rfl, hg1, hg2, hcl⟩ := HO.out (by omega)
                have e0 := hcl j t htj
                have HTJ := Lib.hid htj
                have hj8 : (j : Int) < (N : Int) := by omega
                have hj9 : (0 : Int) ≤ (j : Int) := by omega
                clear hcl htj
                go_wp2_with fail
                go_loopw [7, 11] (fun m i wr => ∃ (k : Nat), k ≤ n ∧ i = .int .i64 k ∧ m = .int .i64 (nTg (s.take k) t) ∧ Hid (Below w3.heap.size w3 wr)) (fun _ i _ => n - (intOf i).toNat)
                case atStart => exact ⟨0, Nat.zero_le _, rfl, rfl, hbw⟩
                case round =>
                  obtain ⟨k, hk, rfl, rfl, hbk⟩ := hrel
                  by_cases hlt : k < n
                  · obtain ⟨y, hy⟩ : ∃ y, s[k]? = some y := ⟨s[k]'(by rw [HN.out]; exact hlt), List.getElem?_eq_getElem _⟩
                    have hlr : ChsAt wr B A s := hl3.below (hbk.out.mono (Nat.le_trans hB hB3.size))
                    obtain ⟨g, o, rfl, _, hc⟩ := hlr.at (by rw [HN.out]; omega)
                    obtain ⟨f0, f1, f2, f3⟩ := hc k y hy
                    have htk : s.take (k + 1) = s.take k ++ [y] := by rw [List.take_add_one, hy]; rfl
                    have hsn := nTg_snoc (s.take k) y t
                    rw [← htk] at hsn
                    have HSN := Lib.hid hsn
                    have hcl : nTg (s.take k) t ≤ k := Nat.le_trans List.countP_le_length (List.length_take_le _ _)
                    generalize nTg (s.take k) t = nm2 at *
                    have hk8 : (k : Int) < (n : Int) := by omega
                    have hk9 : (0 : Int) ≤ (k : Int) := by omega
                    have u0 : wr.cell? ⟨g3, j, none⟩ = some (.string t) := (hbk.out.cell (p := ⟨g3, j, none⟩) hg2).trans e0
                    have HH := Lib.hid (has_any y t wr.drew ((HOK.out y (List.mem_of_getElem? hy)).2.2))
                    clear hc hlr hy htk hsn
                    go_wp2_with fail
                    refine wp_text [8] (by kernel_rfl) (by kernel_rfl) ?_
                    simp only [wpText, Nat.sub_zero, List.take_succ_cons, List.take_zero, List.drop_succ_cons, List.drop_zero, Nat.reduceAdd]
                    repeat ((with_reducible refine wpStill_step (fun K hK => ?_)); go_simp; refine hK _ ?_; clear hK K)
                    with_reducible refine wpStill_nil ?_
                    go_wp2_with fail
                    refine HH.out.mono ?_
                    rintro e w4 ⟨rfl, hb4⟩
                    have HB4 : Hid (Below w3.heap.size w3 w4) := Lib.hid (hbk.out.trans (⟨hb4.os, hb4.tape, hb4.output, hb4.size, fun i hi => hb4.block i (Nat.lt_of_lt_of_le hi hbk.out.size)⟩ : Below w3.heap.size wr w4))
                    clear HH hb4 u0 f0 f1 f2 f3
                    by_cases he : t ∈ tagsP y.tags
                    · have hd : decide (t ∈ tagsP y.tags) = true := decide_eq_true he
                      have HE := Lib.hid he
                      clear he
                      rw [hd]
                      clear hd
                      go_wp2_with fail
                      repeat ((with_reducible refine wpStill_step (fun K hK => ?_)); go_simp; refine hK _ ?_; clear hK K)
                      (try with_reducible refine wpStill_nil ?_)
                      go_wp2_with fail
                      go_roundw
                      case rel => exact ⟨k + 1, by omega, by go_num, by rw [HSN.out, if_pos HE.out]; go_num, HB4⟩
                      case measure => simp [intOf]; omega
                    · have hd : decide (t ∈ tagsP y.tags) = false := decide_eq_false he
                      have HE := Lib.hid he
                      clear he
                      rw [hd]
                      clear hd
                      go_wp2_with fail
                      repeat ((with_reducible refine wpStill_step (fun K hK => ?_)); go_simp; refine hK _ ?_; clear hK K)
                      (try with_reducible refine wpStill_nil ?_)
                      go_wp2_with fail
                      go_roundw
                      case rel => exact ⟨k + 1, by omega, by go_num, by rw [HSN.out, if_neg HE.out]; rfl, HB4⟩
                      case measure => simp [intOf]; omega
                  · obtain rfl : n = k := by omega
                    have HNT : Hid (nTg (s.take n) t = nTg s t) := Lib.hid (by rw [List.take_of_length_le (by rw [HN.out]; exact Nat.le_refl _)])
                    have hcl : nTg (s.take n) t ≤ n := Nat.le_trans List.countP_le_length (List.length_take_le _ _)
                    generalize nTg (s.take n) t = nm2 at *
                    have q2r : wr.cell? ⟨w1.heap.size, 2, none⟩ = some (.int .i64 c.tag) := (hbk.out.cell (p := ⟨w1.heap.size, 2, none⟩) zq).trans q2'
                    by_cases t1 : 1 ≤ c.tag
                    · have b4 : decide (1 ≤ c.tag) = true := decide_eq_true t1
                      by_cases t3 : c.tag ≤ (nm2 : Int)
                      · have b5 : decide (c.tag ≤ (nm2 : Int)) = true := decide_eq_true t3
                        have HF : Hid (fitsB c s x = false) := Lib.hid (HTL.out t (List.mem_of_getElem? HTJ.out) t1 (by rw [← HNT.out]; exact t3))
                        go_wp2_with fail
                        go_ret
                        exact ⟨ret_bool HF.out.symm, hB3.trans (hbk.out.mono hB3.size)⟩
                      · have b5 : decide (c.tag ≤ (nm2 : Int)) = false := decide_eq_false t3
                        go_wp2_with fail
                        go_roundw
                        case rel =>
                          refine ⟨j + 1, by omega, by go_num, Lib.hid (fun j' t' hj' ht' => ?_), hbk⟩
                          by_cases ej : j' = j
                          · subst ej
                            rw [HTJ.out] at ht'
                            cases ht'
                            rintro ⟨_, h⟩
                            rw [← HNT.out] at h
                            exact t3 h
                          · exact hno.out j' t' (by omega) ht'
                        case measure => simp [intOf]; omega
                    · have b4 : decide (1 ≤ c.tag) = false := decide_eq_false t1
                      go_wp2_with fail
                      go_roundw
                      case rel =>
                        refine ⟨j + 1, by omega, by go_num, Lib.hid (fun j' t' hj' ht' => ?_), hbk⟩
                        by_cases ej : j' = j
                        · subst ej
                          rintro ⟨h, _⟩
                          exact t1 h
                        · exact hno.out j' t' (by omega) ht'
                      case measure => simp [intOf]; omega
              · have HF : Hid (fitsB c s x = true) := Lib.hid (HAL.out (fun t ht => by
                  obtain ⟨j', hj'⟩ := List.mem_iff_getElem?.1 ht
                  exact hno.out j' t (by have := (List.getElem?_eq_some_iff.1 hj').1; rw [HNN.out] at this; omega) hj'))
                go_wp2_with fail
                go_ret
                exact ⟨ret_bool HF.out.symm, hB3.trans (hbw.out.mono hB3.size)⟩
          · have b1 : decide (1 ≤ c.maker) = true := decide_eq_true t1
            go_wp2_with fail
            refine HTG.out.mono ?_
            rintro e w3 ⟨v, rfl, hown, hb3⟩
            obtain ⟨A3, c3, rfl⟩ := own_shape hown
            have HO := Lib.hid (own_str_at hown)
            have hlen := tagsP_len x.tags
            have hB3 : Below w.heap.size w w3 := (below_drewN hB2 q).trans (hb3.mono hB2.size)
            have hl3 : ChsAt w3 B A s := (hl2.drewN q).below (hb3.mono (Nat.le_trans hB hB2.size))
            have q1' : w3.cell? ⟨w1.heap.size, 1, none⟩ = some (.int .i64 c.maker) := (hb3.cell (p := ⟨w1.heap.size, 1, none⟩) (World.block_lt_of_cell? _ _ q1)).trans q1
            have q2' : w3.cell? ⟨w1.heap.size, 2, none⟩ = some (.int .i64 c.tag) := (hb3.cell (p := ⟨w1.heap.size, 2, none⟩) (World.block_lt_of_cell? _ _ q2)).trans q2
            have zq : w1.heap.size < w3.heap.size := Nat.lt_of_lt_of_le (World.block_lt_of_cell? _ _ q2) hb3.size
            have HTL : Hid (∀ t, t ∈ tagsP x.tags → 1 ≤ c.tag → c.tag ≤ (nTg s t : Int) → fitsB c s x = false) := Lib.hid (fun t h1 h2 h3 => fits_tag h1 h2 h3)
            have HAL : Hid ((∀ t ∈ tagsP x.tags, ¬ (1 ≤ c.tag ∧ c.tag ≤ (nTg s t : Int))) → fitsB c s x = true) := Lib.hid (fun h => fits_all (by rw [HN.out]; omega) HNT.out h)
            clear HTG hown hb3 q1 q2 x1 x2 hl2 HNT HMk hB2
            generalize tagsP x.tags = L at *
            obtain ⟨N, hN⟩ : ∃ N, L.length = N := ⟨_, rfl⟩
            have HNN := Lib.hid hN
            rw [hN] at hlen HO ⊢
            clear hN
            go_wp2_with fail
            go_loopw [10] (fun i wr => ∃ (j : Nat), j ≤ N ∧ i = .int .i64 j ∧ Hid (∀ j' t, j' < j → L[j']? = some t → ¬ (1 ≤ c.tag ∧ c.tag ≤ (nTg s t : Int))) ∧ Hid (Below w3.heap.size w3 wr)) (fun i _ => N - (intOf i).toNat)
            case atStart => exact ⟨0, Nat.zero_le _, rfl, Lib.hid (fun j' t h => by omega), Lib.hid (Below.refl _ _)⟩
            case round =>
              obtain ⟨j, hj, rfl, hno, hbw⟩ := hrel
              by_cases hjl : j < N
              · obtain ⟨t, htj⟩ : ∃ t, L[j]? = some t := ⟨L[j]'(by rw [HNN.out]; exact hjl), List.getElem?_eq_getElem _⟩
                obtain ⟨g3, rfl, hg1, hg2, hcl⟩ := HO.out (by omega)
                have e0 := hcl j t htj
                have HTJ := Lib.hid htj
                have hj8 : (j : Int) < (N : Int) := by omega
                have hj9 : (0 : Int) ≤ (j : Int) := by omega
                clear hcl htj
                go_wp2_with fail
                go_loopw [7, 11] (fun m i wr => ∃ (k : Nat), k ≤ n ∧ i = .int .i64 k ∧ m = .int .i64 (nTg (s.take k) t) ∧ Hid (Below w3.heap.size w3 wr)) (fun _ i _ => n - (intOf i).toNat)
                case atStart => exact ⟨0, Nat.zero_le _, rfl, rfl, hbw⟩
                case round =>
                  obtain ⟨k, hk, rfl, rfl, hbk⟩ := hrel
                  by_cases hlt : k < n
                  · obtain ⟨y, hy⟩ : ∃ y, s[k]? = some y := ⟨s[k]'(by rw [HN.out]; exact hlt), List.getElem?_eq_getElem _⟩
                    have hlr : ChsAt wr B A s := hl3.below (hbk.out.mono (Nat.le_trans hB hB3.size))
                    obtain ⟨g, o, rfl, _, hc⟩ := hlr.at (by rw [HN.out]; omega)
                    obtain ⟨f0, f1, f2, f3⟩ := hc k y hy
                    have htk : s.take (k + 1) = s.take k ++ [y] := by rw [List.take_add_one, hy]; rfl
                    have hsn := nTg_snoc (s.take k) y t
                    rw [← htk] at hsn
                    have HSN := Lib.hid hsn
                    have hcl : nTg (s.take k) t ≤ k := Nat.le_trans List.countP_le_length (List.length_take_le _ _)
                    generalize nTg (s.take k) t = nm2 at *
                    have hk8 : (k : Int) < (n : Int) := by omega
                    have hk9 : (0 : Int) ≤ (k : Int) := by omega
                    have u0 : wr.cell? ⟨g3, j, none⟩ = some (.string t) := (hbk.out.cell (p := ⟨g3, j, none⟩) hg2).trans e0
                    have HH := Lib.hid (has_any y t wr.drew ((HOK.out y (List.mem_of_getElem? hy)).2.2))
                    clear hc hlr hy htk hsn
                    go_wp2_with fail
                    refine wp_text [8] (by kernel_rfl) (by kernel_rfl) ?_
                    simp only [wpText, Nat.sub_zero, List.take_succ_cons, List.take_zero, List.drop_succ_cons, List.drop_zero, Nat.reduceAdd]
                    repeat ((with_reducible refine wpStill_step (fun K hK => ?_)); go_simp; refine hK _ ?_; clear hK K)
                    with_reducible refine wpStill_nil ?_
                    go_wp2_with fail
                    refine HH.out.mono ?_
                    rintro e w4 ⟨rfl, hb4⟩
                    have HB4 : Hid (Below w3.heap.size w3 w4) := Lib.hid (hbk.out.trans (⟨hb4.os, hb4.tape, hb4.output, hb4.size, fun i hi => hb4.block i (Nat.lt_of_lt_of_le hi hbk.out.size)⟩ : Below w3.heap.size wr w4))
                    clear HH hb4 u0 f0 f1 f2 f3
                    by_cases he : t ∈ tagsP y.tags
                    · have hd : decide (t ∈ tagsP y.tags) = true := decide_eq_true he
                      have HE := Lib.hid he
                      clear he
                      rw [hd]
                      clear hd
                      go_wp2_with fail
                      repeat ((with_reducible refine wpStill_step (fun K hK => ?_)); go_simp; refine hK _ ?_; clear hK K)
                      (try with_reducible refine wpStill_nil ?_)
                      go_wp2_with fail
                      go_roundw
                      case rel => exact ⟨k + 1, by omega, by go_num, by rw [HSN.out, if_pos HE.out]; go_num, HB4⟩
                      case measure => simp [intOf]; omega
                    · have hd : decide (t ∈ tagsP y.tags) = false := decide_eq_false he
                      have HE := Lib.hid he
                      clear he
                      rw [hd]
                      clear hd
                      go_wp2_with fail
                      repeat ((with_reducible refine wpStill_step (fun K hK => ?_)); go_simp; refine hK _ ?_; clear hK K)
                      (try with_reducible refine wpStill_nil ?_)
                      go_wp2_with fail
                      go_roundw
                      case rel => exact ⟨k + 1, by omega, by go_num, by rw [HSN.out, if_neg HE.out]; rfl, HB4⟩
                      case measure => simp [intOf]; omega
                  · obtain rfl : n = k := by omega
                    have HNT : Hid (nTg (s.take n) t = nTg s t) := Lib.hid (by rw [List.take_of_length_le (by rw [HN.out]; exact Nat.le_refl _)])
                    have hcl : nTg (s.take n) t ≤ n := Nat.le_trans List.countP_le_length (List.length_take_le _ _)
                    generalize nTg (s.take n) t = nm2 at *
                    have q2r : wr.cell? ⟨w1.heap.size, 2, none⟩ = some (.int .i64 c.tag) := (hbk.out.cell (p := ⟨w1.heap.size, 2, none⟩) zq).trans q2'
                    by_cases t1 : 1 ≤ c.tag
                    · have b4 : decide (1 ≤ c.tag) = true := decide_eq_true t1
                      by_cases t3 : c.tag ≤ (nm2 : Int)
                      · have b5 : decide (c.tag ≤ (nm2 : Int)) = true := decide_eq_true t3
                        have HF : Hid (fitsB c s x = false) := Lib.hid (HTL.out t (List.mem_of_getElem? HTJ.out) t1 (by rw [← HNT.out]; exact t3))
                        go_wp2_with fail
                        go_ret
                        exact ⟨ret_bool HF.out.symm, hB3.trans (hbk.out.mono hB3.size)⟩
                      · have b5 : decide (c.tag ≤ (nm2 : Int)) = false := decide_eq_false t3
                        go_wp2_with fail
                        go_roundw
                        case rel =>
                          refine ⟨j + 1, by omega, by go_num, Lib.hid (fun j' t' hj' ht' => ?_), hbk⟩
                          by_cases ej : j' = j
                          · subst ej
                            rw [HTJ.out] at ht'
                            cases ht'
                            rintro ⟨_, h⟩
                            rw [← HNT.out] at h
                            exact t3 h
                          · exact hno.out j' t' (by omega) ht'
                        case measure => simp [intOf]; omega
                    · have b4 : decide (1 ≤ c.tag) = false := decide_eq_false t1
                      go_wp2_with fail
                      go_roundw
                      case rel =>
                        refine ⟨j + 1, by omega, by go_num, Lib.hid (fun j' t' hj' ht' => ?_), hbk⟩
                        by_cases ej : j' = j
                        · subst ej
                          rintro ⟨h, _⟩
                          exact t1 h
                        · exact hno.out j' t' (by omega) ht'
                      case measure => simp [intOf]; omega
              · have HF : Hid (fitsB c s x = true) := Lib.hid (HAL.out (fun t ht => by
                  obtain ⟨j', hj'⟩ := List.mem_iff_getElem?.1 ht
                  exact hno.out j' t (by have := (List.getElem?_eq_some_iff.1 hj').1; rw [HNN.out] at this; omega) hj'))
                go_wp2_with fail
                go_ret
                exact ⟨ret_bool HF.out.symm, hB3.trans (hbw.out.mono hB3.size)⟩
          · have b1 : decide (1 ≤ c.maker) = true := decide_eq_true t1
            have b3 : decide (c.maker ≤ (nm : Int)) = false := decide_eq_false t3
            go_wp2_with fail
            refine HTG.out.mono ?_
            rintro e w3 ⟨v, rfl, hown, hb3⟩
            obtain ⟨A3, c3, rfl⟩ := own_shape hown
            have HO := Lib.hid (own_str_at hown)
            have hlen := tagsP_len x.tags
            have hB3 : Below w.heap.size w w3 := (below_drewN hB2 q).trans (hb3.mono hB2.size)
            have hl3 : ChsAt w3 B A s := (hl2.drewN q).below (hb3.mono (Nat.le_trans hB hB2.size))
            have q1' : w3.cell? ⟨w1.heap.size, 1, none⟩ = some (.int .i64 c.maker) := (hb3.cell (p := ⟨w1.heap.size, 1, none⟩) (World.block_lt_of_cell? _ _ q1)).trans q1
            have q2' : w3.cell? ⟨w1.heap.size, 2, none⟩ = some (.int .i64 c.tag) := (hb3.cell (p := ⟨w1.heap.size, 2, none⟩) (World.block_lt_of_cell? _ _ q2)).trans q2
            have zq : w1.heap.size < w3.heap.size := Nat.lt_of_lt_of_le (World.block_lt_of_cell? _ _ q2) hb3.size
            have HTL : Hid (∀ t, t ∈ tagsP x.tags → 1 ≤ c.tag → c.tag ≤ (nTg s t : Int) → fitsB c s x = false) := Lib.hid (fun t h1 h2 h3 => fits_tag h1 h2 h3)
            have HAL : Hid ((∀ t ∈ tagsP x.tags, ¬ (1 ≤ c.tag ∧ c.tag ≤ (nTg s t : Int))) → fitsB c s x = true) := Lib.hid (fun h => fits_all (by rw [HN.out]; omega) HNT.out h)
            clear HTG hown hb3 q1 q2 x1 x2 hl2 HNT HMk hB2
            generalize tagsP x.tags = L at *
            obtain ⟨N, hN⟩ : ∃ N, L.length = N := ⟨_, rfl⟩
            have HNN := Lib.hid hN
            rw [hN] at hlen HO ⊢
            clear hN
            go_wp2_with fail
            go_loopw [10] (fun i wr => ∃ (j : Nat), j ≤ N ∧ i = .int .i64 j ∧ Hid (∀ j' t, j' < j → L[j']? = some t → ¬ (1 ≤ c.tag ∧ c.tag ≤ (nTg s t : Int))) ∧ Hid (Below w3.heap.size w3 wr)) (fun i _ => N - (intOf i).toNat)
            case atStart => exact ⟨0, Nat.zero_le _, rfl, Lib.hid (fun j' t h => by omega), Lib.hid (Below.refl _ _)⟩
            case round =>
              obtain ⟨j, hj, rfl, hno, hbw⟩ := hrel
              by_cases hjl : j < N
              · obtain ⟨t, htj⟩ : ∃ t, L[j]? = some t := ⟨L[j]'(by rw [HNN.out]; exact hjl), List.getElem?_eq_getElem _⟩
                obtain ⟨g3, rfl, hg1, hg2, hcl⟩ := HO.out (by omega)
                have e0 := hcl j t htj
                have HTJ := Lib.hid htj
                have hj8 : (j : Int) < (N : Int) := by omega
                have hj9 : (0 : Int) ≤ (j : Int) := by omega
                clear hcl htj
                go_wp2_with fail
                go_loopw [7, 11] (fun m i wr => ∃ (k : Nat), k ≤ n ∧ i = .int .i64 k ∧ m = .int .i64 (nTg (s.take k) t) ∧ Hid (Below w3.heap.size w3 wr)) (fun _ i _ => n - (intOf i).toNat)
                case atStart => exact ⟨0, Nat.zero_le _, rfl, rfl, hbw⟩
                case round =>
                  obtain ⟨k, hk, rfl, rfl, hbk⟩ := hrel
                  by_cases hlt : k < n
                  · obtain ⟨y, hy⟩ : ∃ y, s[k]? = some y := ⟨s[k]'(by rw [HN.out]; exact hlt), List.getElem?_eq_getElem _⟩
                    have hlr : ChsAt wr B A s := hl3.below (hbk.out.mono (Nat.le_trans hB hB3.size))
                    obtain ⟨g, o, rfl, _, hc⟩ := hlr.at (by rw [HN.out]; omega)
                    obtain ⟨f0, f1, f2, f3⟩ := hc k y hy
                    have htk : s.take (k + 1) = s.take k ++ [y] := by rw [List.take_add_one, hy]; rfl
                    have hsn := nTg_snoc (s.take k) y t
                    rw [← htk] at hsn
                    have HSN := Lib.hid hsn
                    have hcl : nTg (s.take k) t ≤ k := Nat.le_trans List.countP_le_length (List.length_take_le _ _)
                    generalize nTg (s.take k) t = nm2 at *
                    have hk8 : (k : Int) < (n : Int) := by omega
                    have hk9 : (0 : Int) ≤ (k : Int) := by omega
                    have u0 : wr.cell? ⟨g3, j, none⟩ = some (.string t) := (hbk.out.cell (p := ⟨g3, j, none⟩) hg2).trans e0
                    have HH := Lib.hid (has_any y t wr.drew ((HOK.out y (List.mem_of_getElem? hy)).2.2))
                    clear hc hlr hy htk hsn
                    go_wp2_with fail
                    refine wp_text [8] (by kernel_rfl) (by kernel_rfl) ?_
                    simp only [wpText, Nat.sub_zero, List.take_succ_cons, List.take_zero, List.drop_succ_cons, List.drop_zero, Nat.reduceAdd]
                    repeat ((with_reducible refine wpStill_step (fun K hK => ?_)); go_simp; refine hK _ ?_; clear hK K)
                    with_reducible refine wpStill_nil ?_
                    go_wp2_with fail
                    refine HH.out.mono ?_
                    rintro e w4 ⟨rfl, hb4⟩
                    have HB4 : Hid (Below w3.heap.size w3 w4) := Lib.hid (hbk.out.trans (⟨hb4.os, hb4.tape, hb4.output, hb4.size, fun i hi => hb4.block i (Nat.lt_of_lt_of_le hi hbk.out.size)⟩ : Below w3.heap.size wr w4))
                    clear HH hb4 u0 f0 f1 f2 f3
                    by_cases he : t ∈ tagsP y.tags
                    · have hd : decide (t ∈ tagsP y.tags) = true := decide_eq_true he
                      have HE := Lib.hid he
                      clear he
                      rw [hd]
                      clear hd
                      go_wp2_with fail
                      repeat ((with_reducible refine wpStill_step (fun K hK => ?_)); go_simp; refine hK _ ?_; clear hK K)
                      (try with_reducible refine wpStill_nil ?_)
                      go_wp2_with fail
                      go_roundw
                      case rel => exact ⟨k + 1, by omega, by go_num, by rw [HSN.out, if_pos HE.out]; go_num, HB4⟩
                      case measure => simp [intOf]; omega
                    · have hd : decide (t ∈ tagsP y.tags) = false := decide_eq_false he
                      have HE := Lib.hid he
                      clear he
                      rw [hd]
                      clear hd
                      go_wp2_with fail
                      repeat ((with_reducible refine wpStill_step (fun K hK => ?_)); go_simp; refine hK _ ?_; clear hK K)
                      (try with_reducible refine wpStill_nil ?_)
                      go_wp2_with fail
                      go_roundw
                      case rel => exact ⟨k + 1, by omega, by go_num, by rw [HSN.out, if_neg HE.out]; rfl, HB4⟩
                      case measure => simp [intOf]; omega
                  · obtain rfl : n = k := by omega
                    have HNT : Hid (nTg (s.take n) t = nTg s t) := Lib.hid (by rw [List.take_of_length_le (by rw [HN.out]; exact Nat.le_refl _)])
                    have hcl : nTg (s.take n) t ≤ n := Nat.le_trans List.countP_le_length (List.length_take_le _ _)
                    generalize nTg (s.take n) t = nm2 at *
                    have q2r : wr.cell? ⟨w1.heap.size, 2, none⟩ = some (.int .i64 c.tag) := (hbk.out.cell (p := ⟨w1.heap.size, 2, none⟩) zq).trans q2'
                    by_cases t1 : 1 ≤ c.tag
                    · have b4 : decide (1 ≤ c.tag) = true := decide_eq_true t1
                      by_cases t3 : c.tag ≤ (nm2 : Int)
                      · have b5 : decide (c.tag ≤ (nm2 : Int)) = true := decide_eq_true t3
                        have HF : Hid (fitsB c s x = false) := Lib.hid (HTL.out t (List.mem_of_getElem? HTJ.out) t1 (by rw [← HNT.out]; exact t3))
                        go_wp2_with fail
                        go_ret
                        exact ⟨ret_bool HF.out.symm, hB3.trans (hbk.out.mono hB3.size)⟩
                      · have b5 : decide (c.tag ≤ (nm2 : Int)) = false := decide_eq_false t3
                        go_wp2_with fail
                        go_roundw
                        case rel =>
                          refine ⟨j + 1, by omega, by go_num, Lib.hid (fun j' t' hj' ht' => ?_), hbk⟩
                          by_cases ej : j' = j
                          · subst ej
                            rw [HTJ.out] at ht'
                            cases ht'
                            rintro ⟨_, h⟩
                            rw [← HNT.out] at h
                            exact t3 h
                          · exact hno.out j' t' (by omega) ht'
                        case measure => simp [intOf]; omega
                    · have b4 : decide (1 ≤ c.tag) = false := decide_eq_false t1
                      go_wp2_with fail
                      go_roundw
                      case rel =>
                        refine ⟨j + 1, by omega, by go_num, Lib.hid (fun j' t' hj' ht' => ?_), hbk⟩
                        by_cases ej : j' = j
                        · subst ej
                          rintro ⟨h, _⟩
                          exact t1 h
                        · exact hno.out j' t' (by omega) ht'
                      case measure => simp [intOf]; omega
              · have HF : Hid (fitsB c s x = true) := Lib.hid (HAL.out (fun t ht => by
                  obtain ⟨j', hj'⟩ := List.mem_iff_getElem?.1 ht
                  exact hno.out j' t (by have := (List.getElem?_eq_some_iff.1 hj').1; rw [HNN.out] at this; omega) hj'))
                go_wp2_with fail
                go_ret
                exact ⟨ret_bool HF.out.symm, hB3.trans (hbw.out.mono hB3.size)⟩

end Go.Proofs.YtiaklkfdgnhonaaDoor

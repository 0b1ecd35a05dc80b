/- Pairs of baskets: the walk. -/
import Derived.Test.YtcgangmmehbdoaaDoorBkL
import Derived.Test.YtcgangmmehbdoaaDoorAllM
import Derived.Test.YtcgangmmehbdoaaDoorSrtP
import Derived.RangeFuncNested
namespace Go.Proofs.YtcgangmmehbdoaaDoor
open Go.Shelf Go.RowKit Go.Maps
set_option linter.unusedVariables false
attribute [local go_sem] Oper.semAt_some

def overF (fl : Int) (ps : List Pr) : List Pr := ps.filter fun p => decide (fl ≤ p.2)
theorem over_hit {fl : Int} (pre : List Pr) {x : Pr} (h : fl ≤ x.2) : overF fl (pre ++ [x]) = overF fl pre ++ [x] := by simp [overF, h]
theorem over_miss {fl : Int} (pre : List Pr) {x : Pr} (h : ¬ fl ≤ x.2) : overF fl (pre ++ [x]) = overF fl pre := by simp [overF, h]
theorem over_len (fl : Int) (ps : List Pr) : (overF fl ps).length ≤ ps.length := List.length_filter_le _ _
theorem blk_own {β : Type} (B : Nat) (t : TypeId) (f : β → Array Value) : Own (fun s W => Blk W B t (f s)) := fun s X Y row hs hg hrow =>
  hs.grown hg (fun e' => by obtain ⟨o, ho, hc⟩ := hrow B e'.symm; rw [show X.heap[B]? = _ from hs] at ho; cases ho; cases hc)
/-- What has come, over the floor, sorted: the pairs. -/
theorem pairs_of {M : Lit → Option Value} {C : ByteArray → ByteArray → Nat} {fl : Int} {ps l : List Pr} {I : List ByteArray} (hM : Cnt2 M C) (ha : AllB M ps) (hI : ∀ x y, C x y ≠ 0 → x ∈ I ∧ y ∈ I) (hsz : ∀ x ∈ I, x.size ≤ maxLen)
    (hp : l.Perm (overF fl ps)) (hs : l.Pairwise fun x y => ¬ cmpPI y x < 0) : IsPairs C fl l := by
  have hmem : ∀ p : Pr, p ∈ ps ↔ p.2 = (C p.1.1 p.1.2 : Int) ∧ 1 ≤ p.2 := by
    intro p
    constructor
    · intro h
      obtain ⟨h1, h2, h3⟩ := ha.1.2 p h
      rw [hM p.1.1 p.1.2 h1 h2] at h3
      split at h3
      · cases h3
      · rename_i hc
        injection h3 with h3
        injection h3 with _ h3
        omega
    · rintro ⟨h1, h2⟩
      have hc : C p.1.1 p.1.2 ≠ 0 := by omega
      obtain ⟨i1, i2⟩ := hI _ _ hc
      have h3 := ha.2 p.1.1 p.1.2 (hsz _ i1) (hsz _ i2) (by rw [hM _ _ (hsz _ i1) (hsz _ i2), if_neg hc]; rfl)
      obtain ⟨q, hq, he⟩ := List.mem_map.1 h3
      obtain ⟨_, _, h6⟩ := ha.1.2 q hq
      have he1 : q.1.1 = p.1.1 := congrArg Prod.fst he
      have he2 : q.1.2 = p.1.2 := congrArg Prod.snd he
      rw [he1, he2, hM _ _ (hsz _ i1) (hsz _ i2), if_neg hc] at h6
      injection h6 with h6
      injection h6 with _ h6
      have : q = p := by
        obtain ⟨⟨a, b⟩, c⟩ := q
        obtain ⟨⟨a', b'⟩, c'⟩ := p
        simp only at he1 he2 h6 h1
        subst he1 he2
        rw [← h6, ← h1]
      rw [← this]; exact hq
  have hn : (overF fl ps).Nodup := by
    have : ps.Nodup := by
      have h := ha.1.1
      rw [List.nodup_iff_pairwise_ne, List.pairwise_map] at h
      rw [List.nodup_iff_pairwise_ne]
      exact h.imp (fun hab e => hab (congrArg Prod.fst e))
    exact this.filter _
  refine ⟨?_, fun p => ?_⟩
  · have hnl : l.Nodup := hp.nodup_iff.2 hn
    refine (hs.and (List.nodup_iff_pairwise_ne.1 hnl)).imp (fun {a b} hab => ?_)
    exact ltP_of hab.1 (Ne.symm hab.2)
  · rw [hp.mem_iff]
    unfold overF
    rw [List.mem_filter, decide_eq_true_eq, hmem, and_assoc]
theorem all_len {M : Lit → Option Value} {C : ByteArray → ByteArray → Nat} {ps : List Pr} {I : List ByteArray} (hM : Cnt2 M C) (ha : PartB M ps) (hI : ∀ x y, C x y ≠ 0 → x ∈ I ∧ y ∈ I) (hl : I.length ≤ 1000) : ps.length ≤ 1000000 := by
  have h := pr_len (I := I) ha.1 (fun p hp => by
    obtain ⟨h1, h2, h3⟩ := ha.2 p hp
    refine hI _ _ (fun e => ?_)
    rw [hM _ _ h1 h2, if_pos e] at h3
    cases h3)
  have h2 : I.length * I.length ≤ 1000 * 1000 := Nat.mul_le_mul hl hl
  omega

theorem own_not {W : World} {base e size n : Nat} {v : Value} {xs : List Value} (h : W.ownsRow base e size v n xs) {D : Nat} {o : Obj} (hD : W.heap[D]? = some o) (ho : o.isCells = false) : v.ownBlock ≠ some D := by
  rcases h.2 with ⟨rfl, _⟩ | ⟨g, cap, cur, rfl, _, hgb, _⟩
  · simp [Value.ownBlock]
  · intro e
    obtain rfl : g = D := by simpa [Value.ownBlock] using e
    rw [hgb] at hD; cases hD; cases ho
theorem new_pr (W : World) (p : Pr) (t : TypeId) : ∀ j u, (prC p)[j]? = some u → (W.alloc (.cells #[.string p.1.1, .string p.1.2, .int .i64 p.2] t)).cell? ((⟨W.heap.size, 0, none⟩ : Addr).add j) = some u := by
  intro j u h
  rw [at_add, Nat.zero_add, (Blk.new W t _).cell]
  rcases j with _ | _ | _ | j
  · exact h
  · exact h
  · exact h
  · simp [prC] at h
set_option maxRecDepth 100000 in
set_option maxHeartbeats 4000000 in
theorem pairs_any (w : World) (bb base : Nat) (Bs : List Bsk) (fl m : Int) (I : List ByteArray) (h : BkAt w bb base Bs) (hI : ∀ x y, nC Bs x y ≠ 0 → x ∈ I ∧ y ∈ I) (hsz : ∀ x ∈ I, x.size ≤ maxLen) (hIl : I.length ≤ 1000) :
    Calls Tryd.prog 18 #[.pointer (some ⟨bb, 0, none⟩), .int .i64 fl, .int .i64 m] w fun e w' => ∃ (A : Option Addr) (c k : Nat) (l : List Pr), e = .returned (.slice A k c) ∧ IsPairs (nC Bs) fl l ∧ (k : Int) = min (max m 0) l.length ∧ l.length ≤ 1000000 ∧ RowIn w' w'.heap.size 3 A k ((l.take k).flatMap prC) ∧ Below w.heap.size w w' := by
  obtain ⟨sb, cb, n1, n2, hbk, _, _, _, hn2⟩ := h
  obtain ⟨M, hM, hC⟩ := hbk.ct
  have c2 : w.cell? ⟨bb, 2, none⟩ = some (.map (some cb)) := hbk.blk.cell 2
  obtain ⟨i0, hi, hz0, hz1, hz2⟩ := info_parts pr_info
  have h1 : 1 ≤ 5 := by omega
  have hbb := hbk.lt.1
  refine (callsIn_wide (n := 5)).1 ?_
  refine callsIn_of_wp_marks Tryd.func18 rfl trivial ?_ rfl
  simp only [Tryd.ntmps18, List.size_toArray, List.length_cons, List.length_nil, Nat.reduceAdd, Nat.reduceSub, Array.replicate_succ, Array.replicate_zero, List.push_toArray, List.append_toArray, List.nil_append, List.cons_append]
  gi_wp2_with (refine ⟨trivial, ?_⟩; gi_at_call 33; refine (allB_in Fence.wide _ trivial rfl _ _).mono ?_; rintro e w' ⟨rfl, rfl⟩)
  have hB0 : Below w.heap.size w (((w.alloc (.cells #[.int .i64 fl] 3)).alloc (.cells #[.slice none 0 0] 42)).alloc (.cells #[.map (some cb)] 51)) := (((Below.refl _ w).alloc (Nat.le_refl _) _).alloc (by simp) _).alloc (by simp; omega) _
  have bF : Boxed (((w.alloc (.cells #[.int .i64 fl] 3)).alloc (.cells #[.slice none 0 0] 42)).alloc (.cells #[.map (some cb)] 51)) w.heap.size 3 (.int .i64 fl) := ((Boxed.new w _ _).alloc _).alloc _
  have bO : Boxed (((w.alloc (.cells #[.int .i64 fl] 3)).alloc (.cells #[.slice none 0 0] 42)).alloc (.cells #[.map (some cb)] 51)) (w.heap.size + 1) 42 (.slice none 0 0) := by
    have := (Boxed.new (w.alloc (.cells #[.int .i64 fl] 3)) 42 (.slice none 0 0)).alloc (.cells #[.map (some cb)] 51)
    rwa [World.size_alloc] at this
  have bM : Boxed (((w.alloc (.cells #[.int .i64 fl] 3)).alloc (.cells #[.slice none 0 0] 42)).alloc (.cells #[.map (some cb)] 51)) (w.heap.size + 1 + 1) 51 (.map (some cb)) := by
    have := Boxed.new ((w.alloc (.cells #[.int .i64 fl] 3)).alloc (.cells #[.slice none 0 0] 42)) 51 (.map (some cb))
    rwa [World.size_alloc, World.size_alloc] at this
  have hM0 := ((hM.alloc (.cells #[.int .i64 fl] 3)).alloc (.cells #[.slice none 0 0] 42)).alloc (.cells #[.map (some cb)] 51)
  have hs0 : (((w.alloc (.cells #[.int .i64 fl] 3)).alloc (.cells #[.slice none 0 0] 42)).alloc (.cells #[.map (some cb)] 51)).heap.size = w.heap.size + 3 := by simp
  obtain ⟨W0, hW0⟩ : ∃ W0, ((w.alloc (.cells #[.int .i64 fl] 3)).alloc (.cells #[.slice none 0 0] 42)).alloc (.cells #[.map (some cb)] 51) = W0 := ⟨_, rfl⟩
  rw [hW0] at hB0 bF bO bM hM0 hs0 ⊢
  clear hW0
  refine wpIn_rangeFunc_ownH rfl h1 (gf := 50) (lb := #[.pointer (some ⟨w.heap.size + 1 + 1, 0, none⟩)]) rfl trivial (enters_of Tryd.func50 (by kernel_rfl) rfl)
    (allB_stops Fence.wide _ trivial rfl (by omega) (w.heap.size + 1 + 1) cb n2 M W0 (by omega) bM.cell hM0) walksK_t walksK_b (Below.refl _ _) (fun _ => rfl)
    (fun pre W => ((∃ v, Boxed W (w.heap.size + 1) 42 v ∧ W.ownsRow w.heap.size 46 3 v (overF fl pre).length ((overF fl pre).flatMap prC) ∧ True) ∧ Boxed W w.heap.size 3 (.int .i64 fl)) ∧ Below w.heap.size w W)
    (fun _ _ _ => False)
    (OwnFrom.and (OwnFrom.and (Own.from (holdsRow_own w.heap.size (w.heap.size + 1) 42 46 3 (fun pre => (overF fl pre).length) (fun pre => (overF fl pre).flatMap prC) (fun _ _ => True)) _) (Own.from (boxed_own _ _ _) _)) (ownFrom_below (Nat.le_refl _) (by omega)))
    (fun _ _ _ _ _ hs _ _ => hs)
    ⟨⟨⟨_, bO, World.ownsRow_nil _ _ _ _, trivial⟩, bF⟩, hB0⟩
    (fun x a' W => ∃ Bx, w.heap.size + 1 < Bx ∧ Blk W Bx 69 #[.string x.1.1, .string x.1.2] ∧ a' = { tmps := #[.pointer (some ⟨bb, 0, none⟩), .int .i64 fl, .int .i64 m, undef, .pointer (some ⟨w.heap.size, 0, none⟩), undef, .slice none 0 0, .pointer (some ⟨w.heap.size + 1, 0, none⟩), .pointer (some ⟨Bx, 0, none⟩), .int .i64 x.2, .pointer (some ⟨bb, 0, none⟩), .pointer (some ⟨bb, 0, none⟩), .pointer (some ⟨bb, 2, none⟩), .map (some cb), .func (.func 50) #[] #[.pointer (some ⟨w.heap.size + 1 + 1, 0, none⟩)], .agg #[.string x.1.1, .string x.1.2], .int .i64 x.2, undef, undef, undef, undef, undef, undef, undef, undef, undef, undef, undef, undef, undef, undef, undef, undef, undef, undef, undef, undef, undef, undef], defers := [] })
    (fun x a' _ X Y row hs hg hr => by obtain ⟨Bx, h1, h2, h3⟩ := hs; exact ⟨Bx, h1, blk_own Bx 69 (fun (_ : Unit) => #[Value.string x.1.1, Value.string x.1.2]) () X Y row h2 hg (fun r e => (hr r e).2), h3⟩)
    ?assign ?body ?done ?stop
  case assign =>
    rintro l pre ⟨⟨x1, x2⟩, x3⟩ W K ⟨⟨⟨v, hv, hr, _⟩, hb⟩, hB⟩ hK
    dsimp only [encsP]
    gi_wp2
    exact hK _ _ ((KeepsOthers.alloc _ _).from _) (KeepsWalks.alloc _ _) ⟨⟨⟨v, hv.alloc _, hr.alloc _, trivial⟩, hb.alloc _⟩, hB.alloc hB.size _⟩ ⟨W.heap.size, hv.lt, Blk.new W _ _, rfl⟩
  case body =>
    rintro l pre ⟨⟨x1, x2⟩, x3⟩ a' W hl ⟨r, hr⟩ ⟨⟨⟨v, hv, hrow, _⟩, hb⟩, hB⟩ ⟨Bx, hBx, bX, rfl⟩ hlt
    have hc := hv.cell
    have hc2 := hb.cell
    have e0 : W.cell? ⟨Bx, 0, none⟩ = some (.string x1) := bX.cell 0
    have e1 : W.cell? ⟨Bx, 1, none⟩ = some (.string x2) := bX.cell 1
    have hol := over_len fl pre
    by_cases hx : fl ≤ x3
    · gi_wp2_with (gi_at_builtin; go_loud (refine wpListIn_append_own _ rfl _ _ 42 rfl w.heap.size 46 i0 _ 3 40 Tryd.underlying42 hi hz0 hz1 hz2 rfl (by decide) _ _ _ rfl (hrow.alloc _) ⟨W.heap.size, 0, none⟩ 1 1 (prC ((x1, x2), x3)) rfl rfl (new_pr W ((x1, x2), x3) _) (fun u hu => prC_one [((x1, x2), x3)] u (by simpa using hu)) (by unfold maxLen; omega) (by omega) (by have := hB.size; simp; omega) ?_; intro v' w1 hown' hgrow _; obtain ⟨g', cap', rfl⟩ := ownsRow_succ hown'; obtain ⟨hv1, hv2, hr2, hk2, hb2⟩ := hv.appended (by decide) hrow hB.size (by omega) hown' hgrow; have hc1 := hv1.cell; have hf1 := hv1.frozen; have hb1 := (hb.alloc (.cells #[.string x1, .string x2, .int .i64 x3] 46)).kept hgrow (hb.not_row (by decide) hrow)))
      exact ⟨hk2.from _, hk2.walks, ⟨⟨_, hv2, by rw [over_hit pre (show fl ≤ ((x1, x2), x3).2 from hx), List.length_append, List.flatMap_append]; simpa using hr2⟩, hb1.other (by omega) _⟩, hB.trans hb2⟩
    · gi_wp2
      exact ⟨KeepsFrom.refl _ _, KeepsWalks.refl _, ⟨⟨v, hv, by rw [over_miss pre (by show ¬ fl ≤ x3; omega)]; exact hrow⟩, hb⟩, hB⟩
  case done =>
    rintro D ys W hD hall ⟨⟨⟨v, hv, hrow, _⟩, hb⟩, hB⟩ hK
    obtain ⟨A5, c5, rfl⟩ := own_shape hrow
    have hc := hv.cell
    have hyl : (overF fl ys).length ≤ 1000000 := Nat.le_trans (over_len _ _) (all_len hC hall.1 hI hIl)
    have hne := hv.not_row (by decide) hrow
    obtain ⟨q, hq⟩ : ∃ q, (overF fl ys).length = q := ⟨_, rfl⟩
    have HSO := Lib.hid (srtP_any W w.heap.size A5 (overF fl ys) q c5 hq (by rw [← hq]; exact hrow) (by omega))
    have HQ := Lib.hid hq
    rw [hq] at hrow hc hv hne hyl
    obtain ⟨k, hk⟩ : ∃ k : Nat, min (max m 0) (q : Int) = k := ⟨(min (max m 0) (q : Int)).toNat, by omega⟩
    have hkq : k ≤ q := by omega
    have HALL := Lib.hid hall
    have hqc : q ≤ c5 ∧ (A5 = none → c5 = 0) := by
      rcases hrow.2 with ⟨h, h0⟩ | ⟨g, cap, cur, h, _, _, h3, _⟩
      · injection h with h1 h2 h3
        exact ⟨by omega, fun _ => h3⟩
      · injection h with h1 h2 h4
        exact ⟨by omega, fun e => by rw [h1] at e; cases e⟩
    have hkc : k ≤ c5 := by omega
    clear hq hall
    gi_wp2_with (first | (refine ⟨trivial, ?_⟩; gi_at_call 34; refine (callsIn_wide.2 HSO.out).mono ?_; rintro e w2 ⟨rfl, l', hp, hs, hr2, hk2⟩; have hc9 : w2.cell? ⟨w.heap.size + 1, 0, none⟩ = some (.slice A5 q c5) := (hk2.cell (p := ⟨w.heap.size + 1, 0, none⟩) hv.lt (fun e => hne e.symm)).trans hc; have HP := Lib.hid hp; have HS := Lib.hid hs; have HR2 := Lib.hid hr2; have HK2 := Lib.hid hk2; clear hp hs hr2 hk2))
    have hB9 : Below w.heap.size w w2 := hB.trans (HK2.out.toBelow (fun i hi => (hrow.lt _ hi).1) hB.size)
    have hK9 : w2.heap[D]? = some (.deferred (some [])) := (HK2.out.block D (Array.getElem?_eq_some_iff.1 hK).1 (own_not hrow hK rfl)).trans hK
    have hIP : IsPairs (nC Bs) fl l' := pairs_of hC HALL.out hI hsz HP.out (HS.out.imp (fun h => by omega))
    have hlq : l'.length = q := by rw [HP.out.length_eq, HQ.out]
    refine ⟨trivial, (callsIn_wide.2 (cloneP_any w2 W.heap.size A5 (l'.take k) k c5 (by rw [List.length_take]; omega) (by rw [← flat_take prC 3 prC_len]; exact HR2.out.front hkq) HK2.out.size hqc.2 (by omega))).mono ?_⟩
    rintro e w4 ⟨v4, rfl, ho4, hb4⟩
    obtain ⟨A4, c4, rfl⟩ := own_shape ho4
    have hB10 : Below w.heap.size w w4 := hB9.trans (hb4.mono hB9.size)
    have hK10 : w4.heap[D]? = some (.deferred (some [])) := (hb4.block D (Array.getElem?_eq_some_iff.1 hK9).1).trans hK9
    have HFIN : Hid (∃ (A : Option Addr) (c k' : Nat) (l : List Pr), Ending.returned (.slice A4 k c4) = .returned (.slice A k' c) ∧ IsPairs (nC Bs) fl l ∧ (k' : Int) = min (max m 0) l.length ∧ l.length ≤ 1000000 ∧ RowIn (w4.putObj D (.deferred none)) (w4.putObj D (.deferred none)).heap.size 3 A k' ((l.take k').flatMap prC) ∧ Below w.heap.size w (w4.putObj D (.deferred none))) := Lib.hid
      ⟨A4, c4, k, l', rfl, hIP, by rw [hlq]; exact hk.symm, by omega, RowIn.of_own (ownsRow_putObj ho4 _ hK10 rfl), hB10.trans (belowK_b (w := W0) (by omega) w4 D _ _ hD hK10 rfl rfl)⟩
    have HK10 := Lib.hid hK10
    clear hk hK10 hB10 ho4 hb4 hlq hIP hK9 hB9 HP HS HQ HK2 HR2 hc9
    gi_wp2
    refine ⟨by simp, .inl ⟨_, _, rfl, run_takeDeferred HK10.out, ?_⟩⟩
    refine ⟨_, results_tmp rfl _ _ _, ?_⟩
    exact HFIN.out
  case stop =>
    rintro D c pre W _ _ h _
    exact h.elim

end Go.Proofs.YtcgangmmehbdoaaDoor

/- The document's Baskets, since, Single, Count of layer 38. -/
import Derived.Test.YtcgangmmehbdoaaDoorThings
import Derived.Test.YtcgangmmehbdoaaDoorRPut
import Derived.Test.YtcgangmmehbdoaaDoorPlanN
import Derived.IntWalk
namespace Go.Proofs.YtcgangmmehbdoaaDoor
open Go.Shelf Go.RowKit Go.Maps
set_option linter.unusedVariables false

theorem own_ne {w : World} {base base' e e' size size' n n' : Nat} {v v' : Value} {xs xs' : List Value} (h : w.ownsRow base e size v n xs) (h' : w.ownsRow base' e' size' v' n' xs') (hne : e ≠ e') : Apart v v' := by
  intro g hg hg'
  rcases h.2 with ⟨rfl, _⟩ | ⟨g1, cap, cur, rfl, _, hh, _⟩
  · cases hg
  · rcases h'.2 with ⟨rfl, _⟩ | ⟨g2, cap2, cur2, rfl, _, hh2, _⟩
    · cases hg'
    · cases hg
      cases hg'
      rw [hh] at hh2
      injection hh2 with hh2
      injection hh2 with _ ht
      exact hne ht
theorem own_other {w w' : World} {base base' e e' size size' n n' : Nat} {v v' : Value} {xs xs' : List Value} (h : w.ownsRow base e size v n xs) (h' : w.ownsRow base' e' size' v' n' xs') (hne : e ≠ e') (hg : w.grownBy w' v'.ownBlock) : w'.ownsRow base e size v n xs :=
  h.kept hg (by
    cases hv : v.ownBlock with
    | none => exact Or.inl rfl
    | some g => exact Or.inr (fun e => own_ne h h' hne g hv e.symm))

theorem hass_info : (Tryd.prog.info? 66).map (fun i => (i.zero, i.size, i.bytes)) = some (some (.slice none 0 0), 1, 24) := by kernel_rfl
theorem one_val (w : World) (v : Value) (t : TypeId) : RowIn (w.alloc (.cells #[v] t)) (w.heap.size + 1) 1 (some ⟨w.heap.size, 0, none⟩) 1 [v] := by
  refine ⟨rfl, Or.inr ⟨w.heap.size, 0, rfl, by omega, fun j u hu => ?_⟩⟩
  rw [(Blk.new w t _).cell]
  rw [← hu, Nat.zero_add]
  simp
theorem quiet_left {P : Program} {f : FuncId} {args : Array Value} {w : World} {n : Nat} {v : Value} (h : Calls P f args (w.drewN n) fun e w' => e = .returned v ∧ w.drewN n = w') : Calls P f args (w.drewN n) fun e w'' => e = .returned v ∧ ∃ m, w'' = w.drewN m :=
  h.mono fun _ _ ⟨he, hm⟩ => ⟨he, n, hm.symm⟩

/-- Baskets of the document in memory. -/
def HssIn (w : World) (base : Nat) (v : Value) (L : List (List (ByteArray × Int))) : Prop :=
  ∃ vs : List Value, w.ownsRow base 66 1 v L.length vs ∧ ∀ (i : Nat) hs, L[i]? = some hs → ∃ (A : Option Addr) (c : Nat), vs[i]? = some (.slice A hs.length c) ∧ w.ownsRow base 71 2 (.slice A hs.length c) hs.length (hs.flatMap hasC)
theorem HssIn.below {w w' : World} {base : Nat} {v : Value} {L : List (List (ByteArray × Int))} (h : HssIn w base v L) (hb : Below w.heap.size w w') : HssIn w' base v L := by
  obtain ⟨vs, h1, h2⟩ := h
  refine ⟨vs, owns_kept h1 (below_kept (S := fun _ => False) hb (Nat.le_refl _)) (fun _ _ h => h), fun i hs hi => ?_⟩
  obtain ⟨A, c, h3, h4⟩ := h2 i hs hi
  exact ⟨A, c, h3, owns_kept h4 (below_kept (S := fun _ => False) hb (Nat.le_refl _)) (fun _ _ h => h)⟩
theorem HssIn.drew {w : World} {base : Nat} {v : Value} {L : List (List (ByteArray × Int))} (h : HssIn w base v L) : HssIn w.drew base v L := h
theorem HssIn.shape {w : World} {base : Nat} {v : Value} {L : List (List (ByteArray × Int))} (h : HssIn w base v L) : ∃ A c, v = .slice A L.length c := by
  obtain ⟨vs, h1, _⟩ := h
  exact own_shape h1
/-- A basket more. -/
theorem HssIn.snoc {w w' : World} {base n : Nat} {v v' : Value} {L : List (List (ByteArray × Int))} {hs : List (ByteArray × Int)} {A : Option Addr} {c : Nat} {vs : List Value}
    (h1 : w.ownsRow base 66 1 v L.length vs) (h2 : ∀ (i : Nat) hs, L[i]? = some hs → ∃ (A : Option Addr) (c : Nat), vs[i]? = some (.slice A hs.length c) ∧ w.ownsRow base 71 2 (.slice A hs.length c) hs.length (hs.flatMap hasC))
    (h3 : w.ownsRow base 71 2 (.slice A hs.length c) hs.length (hs.flatMap hasC)) (hn : L.length = n) (h4 : w'.ownsRow base 66 1 v' (n + 1) (vs ++ [.slice A hs.length c])) (hg : w.grownBy w' v.ownBlock) : HssIn w' base v' (L ++ [hs]) := by
  subst hn
  refine ⟨vs ++ [.slice A hs.length c], by rw [List.length_append]; exact h4, fun i hs' hi => ?_⟩
  have hl : vs.length = L.length := by have := h1.1; omega
  by_cases hlt : i < L.length
  · rw [List.getElem?_append_left hlt] at hi
    obtain ⟨A', c', h5, h6⟩ := h2 i hs' hi
    exact ⟨A', c', by rw [List.getElem?_append_left (by omega)]; exact h5, own_other h6 h1 (by decide) hg⟩
  · have : i = L.length := by
      have := (List.getElem?_eq_some_iff.1 hi).1
      rw [List.length_append] at this
      simp at this
      omega
    subst this
    rw [List.getElem?_append_right (Nat.le_refl _), Nat.sub_self] at hi
    simp at hi
    subst hi
    exact ⟨A, c, by rw [List.getElem?_append_right (by omega), hl, Nat.sub_self]; rfl, own_other h3 h1 (by decide) hg⟩

/-! ### plain -/
def rB1 (l : List Ev) (g : Int) (p : ByteArray) : List (List (ByteArray × Int)) := (ivs g (tksP (ownB l p))).map fun iv => thP l p iv.1 iv.2
def rBs (l : List Ev) (g : Int) (ps : List ByteArray) : List (List (ByteArray × Int)) := ps.flatMap (rB1 l g)
theorem rBs_snoc (l : List Ev) (g : Int) (ps : List ByteArray) (p : ByteArray) : rBs l g (ps ++ [p]) = rBs l g ps ++ rB1 l g p := by
  unfold rBs; rw [List.flatMap_append]; simp
theorem rBs_map (l : List Ev) (g : Int) (ps : List ByteArray) : (rBs l g ps).map sinP = BD g l ps := by
  unfold rBs BD
  rw [List.map_flatMap]
  congr 1
  funext p
  unfold rB1 BL
  rw [List.map_map]
  refine List.map_congr_left (fun iv _ => ?_)
  funext x
  exact sin_thP l p iv.1 iv.2 x
/-- The intervals that are told ahead of i; where the one under way begins. -/
def IvTo (g : Int) (T : List Int) (i fr : Nat) (done : List (Int × Int)) : Prop :=
  if i < T.length then fr ≤ i ∧ ∃ a b, T[fr]? = some a ∧ T[i]? = some b ∧ ivS g (T.take (i + 1)) = ⟨done, some (a, b)⟩ else done = ivs g T
theorem IvTo.start (g : Int) (T : List Int) : IvTo g T 0 0 [] := by
  unfold IvTo
  cases T with
  | nil => rw [if_neg (by simp)]; rfl
  | cons a T => rw [if_pos (by simp)]; exact ⟨Nat.le_refl _, a, a, rfl, rfl, rfl⟩
theorem IvTo.cut {g : Int} {T : List Int} {i fr : Nat} {done : List (Int × Int)} {a b : Int} (h : IvTo g T i fr done) (hi : i < T.length) (ha : T[fr]? = some a) (hb : T[i]? = some b) (hc : i + 1 = T.length ∨ ∃ c, T[i + 1]? = some c ∧ g < c - b) : IvTo g T (i + 1) (i + 1) (done ++ [(a, b)]) := by
  unfold IvTo at h
  rw [if_pos hi] at h
  obtain ⟨hf, a', b', ha', hb', hS⟩ := h
  rw [ha] at ha'
  rw [hb] at hb'
  cases ha'
  cases hb'
  unfold IvTo
  rcases hc with hc | ⟨c, hc, hgt⟩
  · rw [if_neg (by omega)]
    unfold ivs
    rw [← List.take_length (l := T), ← hc, hS]
    rfl
  · have hl := (List.getElem?_eq_some_iff.1 hc).1
    rw [if_pos hl]
    refine ⟨Nat.le_refl _, c, c, hc, hc, ?_⟩
    rw [take_snoc hc, ivS_snoc, hS]
    simp [ivStep, hgt]
theorem IvTo.on {g : Int} {T : List Int} {i fr : Nat} {done : List (Int × Int)} {b c : Int} (h : IvTo g T i fr done) (hi : i < T.length) (hb : T[i]? = some b) (hc : T[i + 1]? = some c) (hgt : ¬ g < c - b) : IvTo g T (i + 1) fr done := by
  unfold IvTo at h
  rw [if_pos hi] at h
  obtain ⟨hf, a', b', ha', hb', hS⟩ := h
  rw [hb] at hb'
  cases hb'
  have hl := (List.getElem?_eq_some_iff.1 hc).1
  unfold IvTo
  rw [if_pos hl]
  refine ⟨by omega, a', c, ha', hc, ?_⟩
  rw [take_snoc hc, ivS_snoc, hS]
  simp [ivStep, hgt]
theorem IvTo.fr {g : Int} {T : List Int} {i fr : Nat} {done : List (Int × Int)} (h : IvTo g T i fr done) (hi : i < T.length) : fr ≤ i := by
  unfold IvTo at h
  rw [if_pos hi] at h
  exact h.1
theorem IvTo.end {g : Int} {T : List Int} {i fr : Nat} {done : List (Int × Int)} (h : IvTo g T i fr done) (hi : ¬ i < T.length) : done = ivs g T := by
  unfold IvTo at h
  rw [if_neg hi] at h
  exact h
theorem ivStep_len (g : Int) (s : Iv) (t : Int) : (ivStep g s t).done.length + (ivStep g s t).cur.toList.length ≤ s.done.length + s.cur.toList.length + 1 := by
  unfold ivStep
  split
  · rename_i h; rw [h]; simp
  · rename_i f u h
    rw [h]
    split <;> simp
theorem ivs_len (g : Int) (T : List Int) : (ivs g T).length ≤ T.length := by
  unfold ivs
  rw [List.length_append]
  refine snocInd (p := fun T => (ivS g T).done.length + (ivS g T).cur.toList.length ≤ T.length) T (Nat.le_refl _) (fun T t ih => ?_)
  rw [ivS_snoc, List.length_append]
  have := ivStep_len g (ivS g T) t
  simp
  omega
theorem tick_bd {l : List Ev} {p : ByteArray} {t : Int} (h : t ∈ tksP (ownB l p)) : 0 ≤ t ∧ t ≤ 1099511627776 := by
  obtain ⟨e, he, rfl⟩ := ((tks_is _).2 t).1 h
  exact buyX_tick (ownB_mem.1 he).2.1

set_option maxHeartbeats 8000000 in
set_option maxRecDepth 100000 in
theorem rbaskets_any (w : World) (B : Nat) (A : Option Addr) (l : List Ev) (n c : Nat) (gap : Int) (hn : l.length = n) (hl : EvsAt w B A l) (hB : B ≤ w.heap.size) (hb : n ≤ 100) (hsh : ∀ e ∈ l, EvSh e) :
    Calls Tryd.prog 12 #[.slice A n c, .int .i64 gap] w fun e w' => ∃ (ps : List ByteArray) (A' : Option Addr) (c' : Nat), IsPpl l ps ∧ e = .returned (.slice A' (rBs l (clampG gap) ps).length c') ∧ HssIn w' w.heap.size (.slice A' (rBs l (clampG gap) ps).length c') (rBs l (clampG gap) ps) ∧ (rBs l (clampG gap) ps).length ≤ 10000 ∧ Below w.heap.size w w' := by
  have HN := Lib.hid hn
  have HL := Lib.hid hl
  have HSH := Lib.hid hsh
  obtain ⟨gq, hgq⟩ : ∃ gq, clampG gap = gq := ⟨_, rfl⟩
  have HGP : Hid (∀ W, Calls Tryd.prog 29 #[.int .i64 gap] W fun e w' => e = .returned (.int .i64 gq) ∧ W = w') := Lib.hid (fun W => by rw [← hgq]; exact rgap_any gap W)
  have HGB : Hid (0 ≤ gq ∧ gq ≤ 1099511627776) := Lib.hid (by rw [← hgq]; unfold clampG; split <;> (try split) <;> omega)
  rw [hgq]
  obtain ⟨w1, hw1⟩ : ∃ w1, w.alloc (.cells #[] 66) = w1 := ⟨_, rfl⟩
  have HO1 := Lib.hid (own_empty w 66 1)
  rw [hw1] at HO1
  have HB1 : Hid (Below w.heap.size w w1) := Lib.hid (by rw [← hw1]; exact (Below.refl _ _).alloc (Nat.le_refl _) _)
  have HZ1 : Hid (w1.heap.size = w.heap.size + 1) := Lib.hid (by rw [← hw1]; simp)
  obtain ⟨w2, hw2⟩ : ∃ w2, w1.alloc (.cells #[] 9) = w2 := ⟨_, rfl⟩
  have HP2 := Lib.hid (own_empty w1 9 1)
  rw [hw2, HZ1.out] at HP2
  have HO2 : Hid (w2.ownsRow w.heap.size 66 1 (.slice (some ⟨w.heap.size, 0, none⟩) 0 0) 0 []) := Lib.hid (by rw [← hw2]; exact HO1.out.alloc _)
  have HB2 : Hid (Below w.heap.size w w2) := Lib.hid (by rw [← hw2]; exact HB1.out.alloc HB1.out.size _)
  have HW12 : Hid ((w.alloc (.cells #[] 66)).alloc (.cells #[] 9) = w2) := Lib.hid (by rw [hw1, hw2])
  have hw12 := HW12.out
  obtain ⟨i0, hi0, hz0, hz1, hz2⟩ := info_parts hass_info
  clear hn hl hsh hgq hw1 hw2
  go_enter Tryd.func12, Tryd.ntmps12
  go_wp2_with fail
  clear hw12 HW12
  go_loopw [6, 7] (fun v i wr => ∃ (k : Nat) (ps : List ByteArray), k ≤ n ∧ i = .int .i64 k ∧ Hid (ps.Pairwise ltN ∧ ∀ y, y ∈ ps ↔ ∃ e ∈ l.take k, buyB e = true ∧ e.person = y) ∧ Hid (ps.length ≤ k) ∧ Hid (wr.ownsRow w.heap.size 9 1 v ps.length (ps.map .string)) ∧ Hid (wr.ownsRow w.heap.size 66 1 (.slice (some ⟨w.heap.size, 0, none⟩) 0 0) 0 []) ∧ Hid (Below w.heap.size w wr)) (fun _ i _ => n - (intOf i).toNat)
  case atStart => exact ⟨0, [], Nat.zero_le _, rfl, Lib.hid ⟨List.Pairwise.nil, fun y => by simp⟩, Lib.hid (Nat.le_refl _), Lib.hid (own_mono HP2.out (by omega)), HO2, HB2⟩
  case round =>
    clear HO1 HB1 HZ1 HP2 HO2 HB2
    obtain ⟨k, ps, hk, rfl, hps, hpl, hrow, hout, hbw⟩ := hrel
    obtain ⟨A5, c5, hq⟩ := own_shape hrow.out
    rw [hq] at hrow ⊢
    clear hq
    obtain ⟨m, hm⟩ : ∃ m, ps.length = m := ⟨_, rfl⟩
    rw [hm] at hpl hrow ⊢
    have HM := Lib.hid hm
    have hpl' := hpl.out
    clear hm
    by_cases hlt : k < n
    · obtain ⟨x, hx⟩ : ∃ x, l[k]? = some x := ⟨l[k]'(by rw [HN.out]; exact hlt), List.getElem?_eq_getElem _⟩
      obtain ⟨g, o, rfl, hgB, hcl⟩ := HL.out.at (by rw [HN.out]; omega)
      have hgw : g < w.heap.size := Nat.lt_of_lt_of_le hgB hB
      have HE0 : Hid (∀ W, Below w.heap.size w W → EvAt W g (o + k * 8) x) := Lib.hid (fun W hW => (hcl k x hx).keep (fun j => hW.cell (p := ⟨g, j, none⟩) hgw))
      obtain ⟨e0, e1, e2, e3, e4, e5, e6, e7⟩ := HE0.out wr hbw.out
      have HTK : Hid (∀ y, (∃ e ∈ l.take (k + 1), buyB e = true ∧ e.person = y) ↔ (∃ e ∈ l.take k, buyB e = true ∧ e.person = y) ∨ (buyB x = true ∧ x.person = y)) := Lib.hid (fun y => by
        rw [take_snoc hx]
        constructor
        · rintro ⟨e, he, h1⟩
          rcases List.mem_append.1 he with he | he
          · exact Or.inl ⟨e, he, h1⟩
          · obtain rfl : e = x := by simpa using he
            exact Or.inr h1
        · rintro (⟨e, he, h1⟩ | h1)
          · exact ⟨e, List.mem_append.2 (Or.inl he), h1⟩
          · exact ⟨x, by simp, h1⟩)
      have HBY := Lib.hid (rbuyX_any x wr (HSH.out x (List.mem_of_getElem? hx)))
      have hk8 : (k : Int) < (n : Int) := by omega
      have hk9 : (0 : Int) ≤ (k : Int) := by omega
      unfold evA at HBY
      clear hcl hx
      go_wp2_with fail
      refine HBY.out.mono ?_
      rintro e w2 ⟨rfl, hb2⟩
      have HB2 : Hid (Below w.heap.size w w2) := Lib.hid (hbw.out.trans (hb2.mono hbw.out.size))
      have HR2 : Hid (w2.ownsRow w.heap.size 9 1 (.slice A5 m c5) m (ps.map .string)) := Lib.hid (owns_kept hrow.out (below_kept (S := fun _ => False) hb2 (Nat.le_refl _)) (fun _ _ h => h))
      have HO2 : Hid (w2.ownsRow w.heap.size 66 1 (.slice (some ⟨w.heap.size, 0, none⟩) 0 0) 0 []) := Lib.hid (owns_kept hout.out (below_kept (S := fun _ => False) hb2 (Nat.le_refl _)) (fun _ _ h => h))
      clear HBY hb2 e0 e1 e2 e3 e4 e5 e6 e7 hrow hout hbw
      obtain ⟨e0, e1, e2, e3, e4, e5, e6, e7⟩ := HE0.out w2 HB2.out
      cases hby : buyB x
      · have HPS : Hid (ps.Pairwise ltN ∧ ∀ y, y ∈ ps ↔ ∃ e ∈ l.take (k + 1), buyB e = true ∧ e.person = y) := Lib.hid ⟨hps.out.1, fun y => by rw [hps.out.2, HTK.out, hby]; simp⟩
        clear hby
        go_wp2_with fail
        go_roundw
        case rel => exact ⟨k + 1, ps, by omega, by go_num, HPS, Lib.hid (by rw [HM.out]; omega), Lib.hid (by rw [HM.out]; exact HR2.out), HO2, HB2⟩
        case measure => simp [intOf]; omega
      have HPT := Lib.hid (rput_any w2 A5 ps m c5 x.person w.heap.size HM.out HR2.out HB2.out.size hps.out.1 (by omega))
      have HBX := Lib.hid hby
      clear hby
      go_wp2_with fail
      refine HPT.out.mono ?_
      rintro e w3 ⟨A7, c7, out, rfl, ho3, hm3, hl3, hb3⟩
      have HB3 : Hid (Below w.heap.size w w3) := Lib.hid (HB2.out.trans (hb3.mono HB2.out.size))
      have HO3 : Hid (w3.ownsRow w.heap.size 66 1 (.slice (some ⟨w.heap.size, 0, none⟩) 0 0) 0 []) := Lib.hid (owns_kept HO2.out (below_kept (S := fun _ => False) hb3 (Nat.le_refl _)) (fun _ _ h => h))
      have HR3 := Lib.hid ho3
      have HPS : Hid (out.Pairwise ltN ∧ ∀ y, y ∈ out ↔ ∃ e ∈ l.take (k + 1), buyB e = true ∧ e.person = y) := Lib.hid ⟨hm3.1, fun y => by
        rw [hm3.2, hps.out.2, HTK.out, HBX.out]
        exact ⟨fun h => h.imp id (fun h => ⟨rfl, h.symm⟩), fun h => h.imp id (fun h => h.2.symm)⟩⟩
      have HLO : Hid (out.length ≤ k + 1) := Lib.hid (by omega)
      clear HPT ho3 hm3 hl3 hb3
      go_wp2_with fail
      go_roundw
      case rel => exact ⟨k + 1, out, by omega, by go_num, HPS, HLO, HR3, HO3, HB3⟩
      case measure => simp [intOf]; omega
    obtain rfl : n = k := by omega
    have htl : l.take n = l := by rw [← HN.out, List.take_length]
    rw [htl] at hps
    have HPPL : Hid (IsPpl l ps) := Lib.hid ⟨List.Pairwise.imp (fun {a b} h e => by subst e; exact ltN_irr _ h) hps.out.1, hps.out.2⟩
    have HH0 : Hid (HssIn wr w.heap.size (.slice (some ⟨w.heap.size, 0, none⟩) 0 0) (rBs l gq (ps.take 0))) := Lib.hid ⟨[], hout.out, fun i hs hi => by simp [rBs] at hi⟩
    clear htl hps hlt hk
    go_wp2_with fail
    go_loopw [5, 35] (fun v i wq => ∃ (k : Nat), k ≤ m ∧ i = .int .i64 k ∧ Hid (HssIn wq w.heap.size v (rBs l gq (ps.take k))) ∧ Hid ((rBs l gq (ps.take k)).length ≤ k * n) ∧ Hid (wq.ownsRow w.heap.size 9 1 (.slice A5 m c5) m (ps.map .string)) ∧ Hid (Below w.heap.size w wq)) (fun _ i _ => m - (intOf i).toNat)
    case atStart => exact ⟨0, Nat.zero_le _, rfl, HH0, Lib.hid (by simp [rBs]), hrow, hbw⟩
    case round =>
      clear HH0 hrow hbw hout
      obtain ⟨k, hk, rfl, hhs, hlen, hrow, hbw⟩ := hrel
      obtain ⟨wq, rfl⟩ : ∃ wq : World, wq = wr := ⟨_, rfl⟩
      by_cases hlt : k < m
      rotate_left
      · obtain rfl : m = k := by omega
        have htl : ps.take m = ps := by rw [← HM.out, List.take_length]
        rw [htl] at hhs hlen
        obtain ⟨A9, c9, hv9⟩ := hhs.out.shape
        rw [hv9] at hhs ⊢
        have HLN : Hid ((rBs l gq ps).length ≤ 10000) := Lib.hid (Nat.le_trans hlen.out (by have : m * n ≤ 100 * 100 := Nat.mul_le_mul (by omega) hb; omega))
        clear htl hv9 hlen
        go_wp2_with fail
        go_ret
        exact ⟨ps, A9, c9, HPPL.out, rfl, hhs.out, HLN.out, hbw.out⟩
      obtain ⟨p, hp⟩ : ∃ p, ps[k]? = some p := ⟨ps[k]'(by rw [HM.out]; exact hlt), List.getElem?_eq_getElem _⟩
      obtain ⟨gp, op, hA5, hgp, hcp⟩ := (RowIn.of_own hrow.out).at (by omega)
      have e0 : wq.cell? ⟨gp, op + k, none⟩ = some (.string p) := hcp k _ (by simp [hp])
      have HTKS := Lib.hid (rticks_any wq B A l n c p HN.out (HL.out.below (hbw.out.mono hB)) (Nat.le_trans hB hbw.out.size) (by omega) HSH.out)
      have HRS : Hid (rBs l gq (ps.take (k + 1)) = rBs l gq (ps.take k) ++ rB1 l gq p) := Lib.hid (by rw [take_snoc hp, rBs_snoc])
      have HTB : Hid (∀ t ∈ tksP (ownB l p), 0 ≤ t ∧ t ≤ 1099511627776) := Lib.hid (fun t ht => tick_bd ht)
      have HTN : Hid ((tksP (ownB l p)).length ≤ n) := Lib.hid (Nat.le_trans (tks_len _) (Nat.le_trans (List.length_filter_le _ _) (Nat.le_of_eq HN.out)))
      have HR1 : Hid (rB1 l gq p = (ivs gq (tksP (ownB l p))).map fun iv => thP l p iv.1 iv.2) := Lib.hid rfl
      have hk8 : (k : Int) < (m : Int) := by omega
      have hk9 : (0 : Int) ≤ (k : Int) := by omega
      generalize tksP (ownB l p) = Ts at *
      subst hA5
      clear hp hcp
      go_wp2_with fail
      refine HTKS.out.mono ?_
      rintro e w4 ⟨A6, c6, rfl, ho4, hb4⟩
      have HB4 : Hid (Below w.heap.size w w4) := Lib.hid (hbw.out.trans (hb4.mono hbw.out.size))
      have HP4 : Hid (w4.ownsRow w.heap.size 9 1 (.slice (some ⟨gp, op, none⟩) m c5) m (ps.map .string)) := Lib.hid (owns_kept hrow.out (below_kept (S := fun _ => False) hb4 (Nat.le_refl _)) (fun _ _ h => h))
      have HH4 := Lib.hid (hhs.out.below hb4)
      have HT4 := Lib.hid (own_mono ho4 hbw.out.size)
      obtain ⟨N, hN⟩ : ∃ N, Ts.length = N := ⟨_, rfl⟩
      rw [hN] at HT4 HTN ⊢
      have HNN := Lib.hid hN
      have HL0 : Hid ((rBs l gq (ps.take k)).length ≤ k * n) := hlen
      obtain ⟨L0, hL0⟩ : ∃ L0, rBs l gq (ps.take k) = L0 := ⟨_, rfl⟩
      rw [hL0] at HH4 HL0 HRS
      have htn := HTN.out
      clear HTKS ho4 hb4 hrow hhs hbw e0 hN hlen hL0 HTN
      go_wp2_with fail
      go_loopw [5, 11, 12] (fun v f i wq => ∃ (j fr : Nat) (done : List (Int × Int)), j ≤ N ∧ i = .int .i64 j ∧ f = .int .i64 fr ∧ Hid (IvTo gq Ts j fr done) ∧ Hid (done.length ≤ j) ∧ Hid (HssIn wq w.heap.size v (L0 ++ done.map fun iv => thP l p iv.1 iv.2)) ∧ Hid (wq.ownsRow w.heap.size 3 1 (.slice A6 N c6) N (Ts.map (.int .i64))) ∧ Hid (wq.ownsRow w.heap.size 9 1 (.slice (some ⟨gp, op, none⟩) m c5) m (ps.map .string)) ∧ Hid (Below w.heap.size w wq)) (fun _ _ i _ => N - (intOf i).toNat)
      case atStart => exact ⟨0, 0, [], Nat.zero_le _, rfl, rfl, Lib.hid (IvTo.start _ _), Lib.hid (Nat.le_refl _), Lib.hid (by simpa using HH4.out), HT4, HP4, HB4⟩
      case round =>
        clear HB4 HP4 HH4 HT4
        obtain ⟨j, fr, done, hj, rfl, rfl, hiv, hdl, hhs, htk, hrow, hbw⟩ := hrel
        obtain ⟨wx, rfl⟩ : ∃ wx : World, wx = wr := ⟨_, rfl⟩
        by_cases hlt2 : j < N
        rotate_left
        · obtain rfl : N = j := by omega
          have HDN : Hid (done = ivs gq Ts) := Lib.hid (hiv.out.end (by rw [HNN.out]; omega))
          have HDE : Hid (L0 ++ (done.map fun iv => thP l p iv.1 iv.2) = rBs l gq (ps.take (k + 1))) := Lib.hid (by rw [HRS.out, HR1.out, HDN.out])
          rw [HDE.out] at hhs
          have HLE : Hid ((rBs l gq (ps.take (k + 1))).length ≤ (k + 1) * n) := Lib.hid (by
            rw [← HDE.out, List.length_append, List.length_map, Nat.succ_mul]
            have := HL0.out
            have := hdl.out
            omega)
          go_wp2_with fail
          go_roundw
          case rel => exact ⟨k + 1, by omega, by go_num, hhs, HLE, hrow, hbw⟩
          case measure => simp [intOf]; omega
        obtain ⟨b, hbj⟩ : ∃ b, Ts[j]? = some b := ⟨Ts[j]'(by rw [HNN.out]; exact hlt2), List.getElem?_eq_getElem _⟩
        have hfr : fr ≤ j := hiv.out.fr (by rw [HNN.out]; exact hlt2)
        obtain ⟨a, haj⟩ : ∃ a, Ts[fr]? = some a := ⟨Ts[fr]'(by rw [HNN.out]; omega), List.getElem?_eq_getElem _⟩
        obtain ⟨gt, ot, hA6, hgt, hct⟩ := (RowIn.of_own htk.out).at (by omega)
        have HCT : Hid (∀ (q : Nat) (z : Int), Ts[q]? = some z → wx.cell? ⟨gt, ot + q, none⟩ = some (.int .i64 z)) := Lib.hid (fun q z hz => hct q _ (by simp [hz]))
        have HGT : Hid (gt < wx.heap.size) := Lib.hid hgt
        have HAJ := Lib.hid haj
        have HBJ := Lib.hid hbj
        have ca := HCT.out fr a haj
        have cb := HCT.out j b hbj
        obtain ⟨bb1, bb2⟩ := HTB.out b (List.mem_of_getElem? hbj)
        have hj8 : (j : Int) < (N : Int) := by omega
        have hj9 : (0 : Int) ≤ (j : Int) := by omega
        have hf8 : (fr : Int) < (N : Int) := by omega
        have hf9 : (0 : Int) ≤ (fr : Int) := by omega
        have hdl' := hdl.out
        obtain ⟨A8, c8, hv8⟩ := hhs.out.shape
        rw [hv8] at hhs ⊢
        subst hA6
        clear haj hbj hct hv8
        obtain ⟨M, hMM⟩ : ∃ M, (L0 ++ done.map fun iv => thP l p iv.1 iv.2).length = M := ⟨_, rfl⟩
        have HMB : Hid (M ≤ 20000) := Lib.hid (by
          rw [← hMM, List.length_append, List.length_map]
          have := HL0.out
          have h2 : k * n ≤ 100 * 100 := Nat.mul_le_mul (by omega) hb
          omega)
        rw [hMM] at hhs ⊢
        have HMM := Lib.hid hMM
        have hmb := HMB.out
        clear hMM
        have HNE : Hid (j < Ts.length) := Lib.hid (by rw [HNN.out]; exact hlt2)
        by_cases hend : j + 1 = N
        · have HIV : Hid (IvTo gq Ts (j + 1) (j + 1) (done ++ [(a, b)])) := Lib.hid (hiv.out.cut HNE.out HAJ.out HBJ.out (Or.inl (by rw [HNN.out]; exact hend)))
          have heq : ((j : Int) + 1 == (N : Int)) = true := by rw [beq_iff_eq]; omega
          have hwj : IntKind.i64.wrap ((j : Int) + 1) = (j : Int) + 1 := IntWalk.i64_in _ (by omega)
          clear hend
          go_wp2_with fail
          go_quiet (fail)
          clear heq hwj
          obtain ⟨wn, hwn⟩ : ∃ wn, wx.drewN nq = wn := ⟨_, rfl⟩
          rw [hwn]
          have HBN : Hid (Below w.heap.size w wn.drew) := Lib.hid (below_drew (by rw [← hwn]; exact below_drewN hbw.out _))
          have HTD : Hid (wn.drew.ownsRow w.heap.size 3 1 (.slice (some ⟨gt, ot, none⟩) N c6) N (Ts.map (.int .i64))) := Lib.hid (by rw [← hwn]; exact htk.out)
          have HPD : Hid (wn.drew.ownsRow w.heap.size 9 1 (.slice (some ⟨gp, op, none⟩) m c5) m (ps.map .string)) := Lib.hid (by rw [← hwn]; exact hrow.out)
          have HHD : Hid (HssIn wn.drew w.heap.size (.slice A8 M c8) (L0 ++ done.map fun iv => thP l p iv.1 iv.2)) := Lib.hid (by rw [← hwn]; exact hhs.out)
          have HCD : Hid (wn.drew.cell? ⟨gt, ot + fr, none⟩ = some (.int .i64 a) ∧ wn.drew.cell? ⟨gt, ot + j, none⟩ = some (.int .i64 b)) := Lib.hid (by rw [← hwn]; exact ⟨HCT.out fr a HAJ.out, HCT.out j b HBJ.out⟩)
          have HGD : Hid (gt < wn.drew.heap.size) := Lib.hid (by rw [← hwn]; exact HGT.out)
          have HTH : Hid (Calls Tryd.prog 30 #[.slice A n c, .string p, .int .i64 a, .int .i64 b] wn.drew fun e w' => ∃ (A' : Option Addr) (c' : Nat), e = .returned (.slice A' (thP l p a b).length c') ∧ w'.ownsRow wn.drew.heap.size 71 2 (.slice A' (thP l p a b).length c') (thP l p a b).length ((thP l p a b).flatMap hasC) ∧ Below wn.drew.heap.size wn.drew w') := Lib.hid (rthings_any _ B A l n c p a b HN.out (HL.out.below (HBN.out.mono hB)) (Nat.le_trans hB HBN.out.size) (by omega) HSH.out)
          clear hwn ca cb hrow hhs htk hbw
          go_wp2_with fail
          refine wp_planN (fun W => W.cell? ⟨gt, ot + fr, none⟩ = some (.int .i64 a) ∧ W.cell? ⟨gt, ot + j, none⟩ = some (.int .i64 b)) [(0, 1), (1, 1), (2, 1), (3, 1), (4, 1), (5, 1), (6, 1), (7, 1), (8, 1), (9, 1), (10, 1), (11, 2), (12, 2), (13, 3), (14, 0)] (by kernel_rfl) (by kernel_rfl) HCD.out ?_
          simp only [planNL, List.getElem?_cons_zero, List.getElem?_cons_succ]
          repeat (first | (refine planN_on _ (by rfl) (fun W hW => by (obtain ⟨x0, x1⟩ := hW; go_simp; try with_reducible rfl)) ?_; simp only [Act.put, List.setIfInBounds_toArray, List.set_cons_zero, List.set_cons_succ]) | (refine planN_off (by rfl) ?_; simp only [Act.put, List.setIfInBounds_toArray, List.set_cons_zero, List.set_cons_succ]) | (refine planN_on0 _ (by rfl) (fun W hW => by (go_simp; try with_reducible rfl)) ?_; simp only [Act.put, List.setIfInBounds_toArray, List.set_cons_zero, List.set_cons_succ]))
          refine planN_turn ?_
          go_wp2_with fail
          refine HTH.out.mono ?_
          rintro e w7 ⟨A9, c9, rfl, ho7, hb7⟩
          have HB7 : Hid (Below w.heap.size w w7) := Lib.hid (HBN.out.trans (hb7.mono HBN.out.size))
          have HO7 := Lib.hid (own_mono ho7 HBN.out.size)
          have HT7 := Lib.hid (owns_kept HTD.out (below_kept (S := fun _ => False) hb7 (Nat.le_refl _)) (fun _ _ h => h))
          have HP7 := Lib.hid (owns_kept HPD.out (below_kept (S := fun _ => False) hb7 (Nat.le_refl _)) (fun _ _ h => h))
          have HH7 := Lib.hid (HHD.out.below hb7)
          have HC7 : Hid (w7.cell? ⟨gt, ot + fr, none⟩ = some (.int .i64 a) ∧ w7.cell? ⟨gt, ot + j, none⟩ = some (.int .i64 b)) := Lib.hid ⟨(hb7.cell (p := ⟨gt, ot + fr, none⟩) HGD.out).trans HCD.out.1, (hb7.cell (p := ⟨gt, ot + j, none⟩) HGD.out).trans HCD.out.2⟩
          have HG7 : Hid (gt < w7.heap.size) := Lib.hid (Nat.lt_of_lt_of_le HGD.out hb7.size)
          clear ho7 hb7 HTH HTD HPD HHD HCD
          go_wp2_with fail
          refine ⟨HC7.out, ?_⟩
          refine planN_turn ?_
          go_wp2_with fail
          obtain ⟨w8, hw8⟩ : ∃ w8, w7.alloc (.cells #[.slice A9 (thP l p a b).length c9] 66) = w8 := ⟨_, rfl⟩
          rw [hw8]
          have HB8 : Hid (Below w.heap.size w w8) := Lib.hid (by rw [← hw8]; exact HB7.out.alloc HB7.out.size _)
          have HO8 : Hid (w8.ownsRow w.heap.size 71 2 (.slice A9 (thP l p a b).length c9) (thP l p a b).length ((thP l p a b).flatMap hasC)) := Lib.hid (by rw [← hw8]; exact HO7.out.alloc _)
          have HT8 : Hid (w8.ownsRow w.heap.size 3 1 (.slice (some ⟨gt, ot, none⟩) N c6) N (Ts.map (.int .i64))) := Lib.hid (by rw [← hw8]; exact HT7.out.alloc _)
          have HP8 : Hid (w8.ownsRow w.heap.size 9 1 (.slice (some ⟨gp, op, none⟩) m c5) m (ps.map .string)) := Lib.hid (by rw [← hw8]; exact HP7.out.alloc _)
          have HH8 : Hid (HssIn w8 w.heap.size (.slice A8 M c8) (L0 ++ done.map fun iv => thP l p iv.1 iv.2)) := Lib.hid (by rw [← hw8]; exact HH7.out.below ((Below.refl _ _).alloc (Nat.le_refl _) _))
          have HR8 : Hid (RowIn w8 (w7.heap.size + 1) 1 (some ⟨w7.heap.size, 0, none⟩) 1 [.slice A9 (thP l p a b).length c9]) := Lib.hid (by rw [← hw8]; exact one_val _ _ _)
          have HC8 : Hid (w8.cell? ⟨gt, ot + fr, none⟩ = some (.int .i64 a) ∧ w8.cell? ⟨gt, ot + j, none⟩ = some (.int .i64 b)) := Lib.hid (by rw [← hw8]; exact ⟨(World.cell?_alloc_lt _ _ ⟨gt, ot + fr, none⟩ HG7.out).trans HC7.out.1, (World.cell?_alloc_lt _ _ ⟨gt, ot + j, none⟩ HG7.out).trans HC7.out.2⟩)
          have HZ8 := Lib.hid HB8.out.size
          obtain ⟨vs, hv1, hv2⟩ := HH8.out
          rw [HMM.out] at hv1
          have HV1 := Lib.hid hv1
          have HV2 := Lib.hid hv2
          clear hw8 HO7 HT7 HP7 HH7 HB7 hv1 hv2 HH8
          refine ⟨HC8.out, ?_⟩
          refine planN_last ?_
          go_wp2_with (first
            | (at_builtin; refine wpList_append_row _ rfl _ _ 28 rfl w.heap.size 66 i0 _ 1 24 Tryd.underlying28 hi0 hz0 hz1 hz2 rfl (by omega) (.slice A8 M c8) M _ rfl HV1.out (w7.heap.size + 1) (some ⟨w7.heap.size, 0, none⟩) 1 1 [.slice A9 (thP l p a b).length c9] rfl HR8.out (fun h => by cases h) (fun u hu => by rw [List.mem_singleton] at hu; subst hu; rfl) (by unfold maxLen; omega) (by omega) HZ8.out ?_; intro v9 w9 ho9 hg9 hv9))
          have HB9 : Hid (Below w.heap.size w w9) := Lib.hid (HB8.out.grown hg9 HB8.out.size (fun q hq => (HV1.out.lt _ hq).1))
          have HT9 := Lib.hid (own_other HT8.out HV1.out (by decide) hg9)
          have HP9 := Lib.hid (own_other HP8.out HV1.out (by decide) hg9)
          have HH9 : Hid (HssIn w9 w.heap.size v9 (L0 ++ (done ++ [(a, b)]).map fun iv => thP l p iv.1 iv.2)) := Lib.hid (by
            rw [List.map_append, ← List.append_assoc]
            exact HssIn.snoc (by rw [HMM.out]; exact HV1.out) HV2.out HO8.out HMM.out ho9 hg9)
          clear ho9 hg9 hv9 HV1 HV2 HO8 HT8 HP8 HB8 HR8
          repeat (first | (refine planN_on _ (by rfl) (fun W hW => by (obtain ⟨x0, x1⟩ := hW; go_simp; try with_reducible rfl)) ?_; simp only [Act.put, List.setIfInBounds_toArray, List.set_cons_zero, List.set_cons_succ]) | (refine planN_off (by rfl) ?_; simp only [Act.put, List.setIfInBounds_toArray, List.set_cons_zero, List.set_cons_succ]) | (refine planN_on0 _ (by rfl) (fun W hW => by (go_simp; try with_reducible rfl)) ?_; simp only [Act.put, List.setIfInBounds_toArray, List.set_cons_zero, List.set_cons_succ]))
          refine planN_done ?_
          go_wp2_with fail
          go_roundw
          case rel => exact ⟨j + 1, j + 1, done ++ [(a, b)], by omega, by go_num, by go_num, HIV, Lib.hid (by rw [List.length_append]; simp; omega), HH9, HT9, HP9, HB9⟩
          case measure => simp [intOf]; omega
        obtain ⟨cz, hcz⟩ : ∃ cz, Ts[j + 1]? = some cz := ⟨Ts[j + 1]'(by rw [HNN.out]; omega), List.getElem?_eq_getElem _⟩
        have cc := HCT.out (j + 1) cz hcz
        obtain ⟨bc1, bc2⟩ := HTB.out cz (List.mem_of_getElem? hcz)
        have HCZ := Lib.hid hcz
        have heq : ((j : Int) + 1 == (N : Int)) = false := by rw [Bool.eq_false_iff]; intro e; rw [beq_iff_eq] at e; omega
        have hj1 : (j : Int) + 1 < (N : Int) := by omega
        have hj2 : (0 : Int) ≤ (j : Int) + 1 := by omega
        have hj3 : ((j : Int) + 1).toNat = j + 1 := by omega
        have hwj : IntKind.i64.wrap ((j : Int) + 1) = (j : Int) + 1 := IntWalk.i64_in _ (by omega)
        have hwc : IntKind.i64.wrap (cz - b) = cz - b := IntWalk.i64_in _ (by omega)
        clear hcz hend
        by_cases hgc : gq < cz - b
        · have HIV : Hid (IvTo gq Ts (j + 1) (j + 1) (done ++ [(a, b)])) := Lib.hid (hiv.out.cut HNE.out HAJ.out HBJ.out (Or.inr ⟨cz, HCZ.out, hgc⟩))
          have dgc : decide (gq < cz - b) = true := decide_eq_true hgc
          go_wp2_with fail
          go_quiet ((go_at_call 29; exact quiet_left (HGP.out _)))
          clear heq hwj hwc dgc hj1 hj2 hj3 cc
          obtain ⟨wn, hwn⟩ : ∃ wn, wx.drewN nq = wn := ⟨_, rfl⟩
          rw [hwn]
          have HBN : Hid (Below w.heap.size w wn.drew) := Lib.hid (below_drew (by rw [← hwn]; exact below_drewN hbw.out _))
          have HTD : Hid (wn.drew.ownsRow w.heap.size 3 1 (.slice (some ⟨gt, ot, none⟩) N c6) N (Ts.map (.int .i64))) := Lib.hid (by rw [← hwn]; exact htk.out)
          have HPD : Hid (wn.drew.ownsRow w.heap.size 9 1 (.slice (some ⟨gp, op, none⟩) m c5) m (ps.map .string)) := Lib.hid (by rw [← hwn]; exact hrow.out)
          have HHD : Hid (HssIn wn.drew w.heap.size (.slice A8 M c8) (L0 ++ done.map fun iv => thP l p iv.1 iv.2)) := Lib.hid (by rw [← hwn]; exact hhs.out)
          have HCD : Hid (wn.drew.cell? ⟨gt, ot + fr, none⟩ = some (.int .i64 a) ∧ wn.drew.cell? ⟨gt, ot + j, none⟩ = some (.int .i64 b)) := Lib.hid (by rw [← hwn]; exact ⟨HCT.out fr a HAJ.out, HCT.out j b HBJ.out⟩)
          have HGD : Hid (gt < wn.drew.heap.size) := Lib.hid (by rw [← hwn]; exact HGT.out)
          have HTH : Hid (Calls Tryd.prog 30 #[.slice A n c, .string p, .int .i64 a, .int .i64 b] wn.drew fun e w' => ∃ (A' : Option Addr) (c' : Nat), e = .returned (.slice A' (thP l p a b).length c') ∧ w'.ownsRow wn.drew.heap.size 71 2 (.slice A' (thP l p a b).length c') (thP l p a b).length ((thP l p a b).flatMap hasC) ∧ Below wn.drew.heap.size wn.drew w') := Lib.hid (rthings_any _ B A l n c p a b HN.out (HL.out.below (HBN.out.mono hB)) (Nat.le_trans hB HBN.out.size) (by omega) HSH.out)
          clear hwn ca cb hrow hhs htk hbw
          go_wp2_with fail
          refine wp_planN (fun W => W.cell? ⟨gt, ot + fr, none⟩ = some (.int .i64 a) ∧ W.cell? ⟨gt, ot + j, none⟩ = some (.int .i64 b)) [(0, 1), (1, 1), (2, 1), (3, 1), (4, 1), (5, 1), (6, 1), (7, 1), (8, 1), (9, 1), (10, 1), (11, 2), (12, 2), (13, 3), (14, 0)] (by kernel_rfl) (by kernel_rfl) HCD.out ?_
          simp only [planNL, List.getElem?_cons_zero, List.getElem?_cons_succ]
          repeat (first | (refine planN_on _ (by rfl) (fun W hW => by (obtain ⟨x0, x1⟩ := hW; go_simp; try with_reducible rfl)) ?_; simp only [Act.put, List.setIfInBounds_toArray, List.set_cons_zero, List.set_cons_succ]) | (refine planN_off (by rfl) ?_; simp only [Act.put, List.setIfInBounds_toArray, List.set_cons_zero, List.set_cons_succ]) | (refine planN_on0 _ (by rfl) (fun W hW => by (go_simp; try with_reducible rfl)) ?_; simp only [Act.put, List.setIfInBounds_toArray, List.set_cons_zero, List.set_cons_succ]))
          refine planN_turn ?_
          go_wp2_with fail
          refine HTH.out.mono ?_
          rintro e w7 ⟨A9, c9, rfl, ho7, hb7⟩
          have HB7 : Hid (Below w.heap.size w w7) := Lib.hid (HBN.out.trans (hb7.mono HBN.out.size))
          have HO7 := Lib.hid (own_mono ho7 HBN.out.size)
          have HT7 := Lib.hid (owns_kept HTD.out (below_kept (S := fun _ => False) hb7 (Nat.le_refl _)) (fun _ _ h => h))
          have HP7 := Lib.hid (owns_kept HPD.out (below_kept (S := fun _ => False) hb7 (Nat.le_refl _)) (fun _ _ h => h))
          have HH7 := Lib.hid (HHD.out.below hb7)
          have HC7 : Hid (w7.cell? ⟨gt, ot + fr, none⟩ = some (.int .i64 a) ∧ w7.cell? ⟨gt, ot + j, none⟩ = some (.int .i64 b)) := Lib.hid ⟨(hb7.cell (p := ⟨gt, ot + fr, none⟩) HGD.out).trans HCD.out.1, (hb7.cell (p := ⟨gt, ot + j, none⟩) HGD.out).trans HCD.out.2⟩
          have HG7 : Hid (gt < w7.heap.size) := Lib.hid (Nat.lt_of_lt_of_le HGD.out hb7.size)
          clear ho7 hb7 HTH HTD HPD HHD HCD
          go_wp2_with fail
          refine ⟨HC7.out, ?_⟩
          refine planN_turn ?_
          go_wp2_with fail
          obtain ⟨w8, hw8⟩ : ∃ w8, w7.alloc (.cells #[.slice A9 (thP l p a b).length c9] 66) = w8 := ⟨_, rfl⟩
          rw [hw8]
          have HB8 : Hid (Below w.heap.size w w8) := Lib.hid (by rw [← hw8]; exact HB7.out.alloc HB7.out.size _)
          have HO8 : Hid (w8.ownsRow w.heap.size 71 2 (.slice A9 (thP l p a b).length c9) (thP l p a b).length ((thP l p a b).flatMap hasC)) := Lib.hid (by rw [← hw8]; exact HO7.out.alloc _)
          have HT8 : Hid (w8.ownsRow w.heap.size 3 1 (.slice (some ⟨gt, ot, none⟩) N c6) N (Ts.map (.int .i64))) := Lib.hid (by rw [← hw8]; exact HT7.out.alloc _)
          have HP8 : Hid (w8.ownsRow w.heap.size 9 1 (.slice (some ⟨gp, op, none⟩) m c5) m (ps.map .string)) := Lib.hid (by rw [← hw8]; exact HP7.out.alloc _)
          have HH8 : Hid (HssIn w8 w.heap.size (.slice A8 M c8) (L0 ++ done.map fun iv => thP l p iv.1 iv.2)) := Lib.hid (by rw [← hw8]; exact HH7.out.below ((Below.refl _ _).alloc (Nat.le_refl _) _))
          have HR8 : Hid (RowIn w8 (w7.heap.size + 1) 1 (some ⟨w7.heap.size, 0, none⟩) 1 [.slice A9 (thP l p a b).length c9]) := Lib.hid (by rw [← hw8]; exact one_val _ _ _)
          have HC8 : Hid (w8.cell? ⟨gt, ot + fr, none⟩ = some (.int .i64 a) ∧ w8.cell? ⟨gt, ot + j, none⟩ = some (.int .i64 b)) := Lib.hid (by rw [← hw8]; exact ⟨(World.cell?_alloc_lt _ _ ⟨gt, ot + fr, none⟩ HG7.out).trans HC7.out.1, (World.cell?_alloc_lt _ _ ⟨gt, ot + j, none⟩ HG7.out).trans HC7.out.2⟩)
          have HZ8 := Lib.hid HB8.out.size
          obtain ⟨vs, hv1, hv2⟩ := HH8.out
          rw [HMM.out] at hv1
          have HV1 := Lib.hid hv1
          have HV2 := Lib.hid hv2
          clear hw8 HO7 HT7 HP7 HH7 HB7 hv1 hv2 HH8
          refine ⟨HC8.out, ?_⟩
          refine planN_last ?_
          go_wp2_with (first
            | (at_builtin; refine wpList_append_row _ rfl _ _ 28 rfl w.heap.size 66 i0 _ 1 24 Tryd.underlying28 hi0 hz0 hz1 hz2 rfl (by omega) (.slice A8 M c8) M _ rfl HV1.out (w7.heap.size + 1) (some ⟨w7.heap.size, 0, none⟩) 1 1 [.slice A9 (thP l p a b).length c9] rfl HR8.out (fun h => by cases h) (fun u hu => by rw [List.mem_singleton] at hu; subst hu; rfl) (by unfold maxLen; omega) (by omega) HZ8.out ?_; intro v9 w9 ho9 hg9 hv9))
          have HB9 : Hid (Below w.heap.size w w9) := Lib.hid (HB8.out.grown hg9 HB8.out.size (fun q hq => (HV1.out.lt _ hq).1))
          have HT9 := Lib.hid (own_other HT8.out HV1.out (by decide) hg9)
          have HP9 := Lib.hid (own_other HP8.out HV1.out (by decide) hg9)
          have HH9 : Hid (HssIn w9 w.heap.size v9 (L0 ++ (done ++ [(a, b)]).map fun iv => thP l p iv.1 iv.2)) := Lib.hid (by
            rw [List.map_append, ← List.append_assoc]
            exact HssIn.snoc (by rw [HMM.out]; exact HV1.out) HV2.out HO8.out HMM.out ho9 hg9)
          clear ho9 hg9 hv9 HV1 HV2 HO8 HT8 HP8 HB8 HR8
          repeat (first | (refine planN_on _ (by rfl) (fun W hW => by (obtain ⟨x0, x1⟩ := hW; go_simp; try with_reducible rfl)) ?_; simp only [Act.put, List.setIfInBounds_toArray, List.set_cons_zero, List.set_cons_succ]) | (refine planN_off (by rfl) ?_; simp only [Act.put, List.setIfInBounds_toArray, List.set_cons_zero, List.set_cons_succ]) | (refine planN_on0 _ (by rfl) (fun W hW => by (go_simp; try with_reducible rfl)) ?_; simp only [Act.put, List.setIfInBounds_toArray, List.set_cons_zero, List.set_cons_succ]))
          refine planN_done ?_
          go_wp2_with fail
          go_roundw
          case rel => exact ⟨j + 1, j + 1, done ++ [(a, b)], by omega, by go_num, by go_num, HIV, Lib.hid (by rw [List.length_append]; simp; omega), HH9, HT9, HP9, HB9⟩
          case measure => simp [intOf]; omega
        · have HIV : Hid (IvTo gq Ts (j + 1) fr done) := Lib.hid (hiv.out.on HNE.out HBJ.out HCZ.out hgc)
          have dgc : decide (gq < cz - b) = false := decide_eq_false hgc
          go_wp2_with fail
          go_quiet ((go_at_call 29; exact quiet_left (HGP.out _)))
          clear heq hwj hwc dgc hj1 hj2 hj3 cc
          go_wp2_with fail
          go_roundw
          case rel => exact ⟨j + 1, fr, done, by omega, by go_num, rfl, HIV, Lib.hid (by omega), hhs, htk, hrow, Lib.hid (below_drewN hbw.out _)⟩
          case measure => simp [intOf]; omega

end Go.Proofs.YtcgangmmehbdoaaDoor

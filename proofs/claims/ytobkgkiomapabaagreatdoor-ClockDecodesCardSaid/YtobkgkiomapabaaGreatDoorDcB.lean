/- The document's clock: Tell, Tick, place, Heard, Active. -/
import Derived.Test.YtobkgkiomapabaaGreatDoorDcA
namespace Go.Proofs.YtobkgkiomapabaaGreatDoor
open Go.RowKit Go.Maps Go.Shelf
set_option linter.unusedVariables false

/-- What the document tells of the sources. -/
def tellD (m : Int) (any : Bool) : Int := if any = true ∧ -2 ≤ m then m else -2
def TellsD (c : Ck) (v : Int) : Prop := ∃ m any, v = tellD m any ∧ Told c m any
/-- The first k have been gone through. -/
def SeenD (l : List Sc) (k : Nat) (s : List UInt8) : Prop := ∃ j x, j < k ∧ l[j]? = some x ∧ x.1.data.toList = s
theorem SeenD.next {l : List Sc} {k : Nat} {x : Sc} (hx : l[k]? = some x) : ∀ s, SeenD l (k + 1) s → SeenD l k s ∨ s = x.1.data.toList := by
  rintro s ⟨j, y, hj, hy, rfl⟩
  by_cases e : j = k
  · subst e
    rw [hx] at hy
    cases hy
    exact Or.inr rfl
  · exact Or.inl ⟨j, y, by omega, hy, rfl⟩
theorem told_all {c : Ck} {l : List Sc} {m : Int} {any : Bool} (hr : Rows' c.src l) (h : Partly c (SeenD l l.length) m any) : Told c m any := by
  have hs : ∀ s x, c.src s = some x → SeenD l l.length s := fun s x hx => by
    have h1 := (hr.mem ⟨s.toArray⟩ x).1 (by simpa using hx)
    obtain ⟨j, hj⟩ := List.mem_iff_getElem?.1 h1
    exact ⟨j, _, (List.getElem?_eq_some_iff.1 hj).1, hj, by simp⟩
  rcases h with ⟨h1, h2, h3⟩ | ⟨h1, h2, h3⟩
  · exact Or.inl ⟨h1, h2, fun s x hx _ => h3 s x hx (hs s x hx)⟩
  · exact Or.inr ⟨h1, h2, fun s x hx _ => h3 s x hx (hs s x hx)⟩

set_option maxHeartbeats 2000000 in
set_option maxRecDepth 100000 in
theorem tell_any (D db cc n : Nat) (A : Option Addr) (l : List Sc) (c : Ck) (w : World) (hn : l.length = n) (hb : n ≤ 10000) (h : DocIn w D db A cc l c) :
    Calls Tryz.prog 21 #[.pointer (some ⟨db, 0, none⟩)] w fun e w' => ∃ v, e = .returned (.int .i64 v) ∧ TellsD c v ∧ Below w.heap.size w w' := by
  have H := Lib.hid h
  have HN := Lib.hid hn
  have HC : Hid (∀ V, Below w.heap.size w V → V.cell? ⟨db, 0, none⟩ = some (.int .i64 c.slack) ∧ V.cell? ⟨db, 4, none⟩ = some (.slice A n cc)) := Lib.hid (fun V hV => by
    have k := (h.below hV).blk
    rw [hn] at k
    exact ⟨k.cell 0, k.cell 4⟩)
  have hs0 := h.ok.s0
  have hs1 := h.ok.s1
  clear h hn
  go_enter Tryz.func21, Tryz.ntmps21
  go_wp2_with fail
  go_loopw [3, 4, 5] (fun lv av i wr => ∃ (k : Nat) (least : Int) (any : Bool), k ≤ n ∧ i = .int .i64 k ∧ lv = .int .i64 least ∧ av = .bool any ∧ -1099511627777 ≤ least ∧ least ≤ 1099511627776 ∧ Hid (Partly c (SeenD l k) least any) ∧ Hid (Below w.heap.size w wr)) (fun _ _ i _ => n - (intOf i).toNat)
  case atStart => exact ⟨0, 0, false, Nat.zero_le _, rfl, rfl, rfl, by omega, by omega, Lib.hid (Partly.start c (fun s x _ => by rintro ⟨j, y, hj, _⟩; omega)), Lib.hid (Below.refl _ _)⟩
  case round =>
    obtain ⟨k, least, any, hk, rfl, rfl, rfl, hl0, hl1, hpart, hbw⟩ := hrel
    obtain ⟨c0, c4⟩ := HC.out wr hbw.out
    by_cases hlt : k < n
    · obtain ⟨x, hx⟩ : ∃ x, l[k]? = some x := ⟨l[k]'(by rw [HN.out]; exact hlt), List.getElem?_eq_getElem _⟩
      have HX := Lib.hid hx
      obtain ⟨xn, x1, x2⟩ := x
      have hok := H.out.rows.ok _ (List.mem_of_getElem? hx)
      obtain ⟨b1, b2, b3, b4, _⟩ := hok
      have HSR : Hid (c.src xn.data.toList = some (x1, x2)) := Lib.hid ((H.out.rows.mem xn (x1, x2)).2 (List.mem_of_getElem? hx))
      have HR : Hid (DocIn wr D db A cc l c) := Lib.hid (H.out.below hbw.out)
      obtain ⟨g, o, rfl, hg, e0, e1, e2⟩ := HR.out.at hx
      dsimp only at e0 e1 e2 b1 b2 b3 b4
      have HA : Hid (∀ q, Calls Tryz.prog 40 #[.pointer (some ⟨db, 0, none⟩), .agg #[.string xn, .int .i64 x1, .int .i64 x2]] (wr.drewN q) fun e w' => e = .returned (.bool (act c (x1, x2))) ∧ Below (wr.drewN q).heap.size (wr.drewN q) w') := Lib.hid (fun q => ractive_any D db cc _ l c (xn, x1, x2) (wr.drewN q) (HR.out.keep (Nat.le_refl _) (fun _ _ _ => rfl)) b3 b4)
      have HNX : Hid (∀ s, SeenD l (k + 1) s → SeenD l k s ∨ s = xn.data.toList) := Lib.hid (SeenD.next hx)
      have hk8 : (k : Int) < (n : Int) := by omega
      have hk9 : (0 : Int) ≤ (k : Int) := by omega
      clear hx
      go_wp2_with fail
      go_quiet (fail)
      go_wp2_with fail
      refine (HA.out _).mono ?_
      rintro e w1 ⟨rfl, hb1⟩
      have HB1 : Hid (Below w.heap.size w w1) := Lib.hid (hbw.out.trans ((below_drewN (Below.refl _ wr) _).trans (hb1.mono hbw.out.size)))
      clear hb1 HA e0 e1 e2 c0 c4
      cases ha : act c (x1, x2)
      · have HP : Hid (Partly c (SeenD l (k + 1)) least any) := Lib.hid (hpart.out.idle HSR.out ha HNX.out)
        clear ha
        go_wp2_with fail
        go_roundw
        case rel => exact ⟨k + 1, least, any, by omega, by go_num, rfl, rfl, hl0, hl1, HP, HB1⟩
        case measure => simp [intOf]; omega
      · cases any
        · have HP : Hid (Partly c (SeenD l (k + 1)) (x1 - c.slack - 1) true) := Lib.hid (hpart.out.takes HSR.out ha HNX.out (Or.inl rfl))
          clear ha
          go_wp2_with fail
          go_roundw
          case rel => exact ⟨k + 1, x1 - c.slack - 1, true, by omega, by go_num, rfl, rfl, by omega, by omega, HP, HB1⟩
          case measure => simp [intOf]; omega
        · by_cases hm : x1 - c.slack - 1 < least
          · have HP : Hid (Partly c (SeenD l (k + 1)) (x1 - c.slack - 1) true) := Lib.hid (hpart.out.takes HSR.out ha HNX.out (Or.inr hm))
            have hm1 : decide (x1 - c.slack - 1 < least) = true := decide_eq_true hm
            clear ha
            go_wp2_with fail
            go_roundw
            case rel => exact ⟨k + 1, x1 - c.slack - 1, true, by omega, by go_num, rfl, rfl, by omega, by omega, HP, HB1⟩
            case measure => simp [intOf]; omega
          · have HP : Hid (Partly c (SeenD l (k + 1)) least true) := Lib.hid (hpart.out.leaves HSR.out HNX.out (by omega))
            have hm1 : decide (x1 - c.slack - 1 < least) = false := decide_eq_false hm
            clear ha
            go_wp2_with fail
            go_roundw
            case rel => exact ⟨k + 1, least, true, by omega, by go_num, rfl, rfl, hl0, hl1, HP, HB1⟩
            case measure => simp [intOf]; omega
    · obtain rfl : n = k := by omega
      have HT : Hid (Told c least any) := Lib.hid (told_all H.out.rows (by rw [HN.out]; exact hpart.out))
      cases any
      · have HV : Hid (tellD least false = -2) := Lib.hid (by unfold tellD; simp)
        go_wp2_with fail
        go_ret
        exact ⟨-2, rfl, ⟨least, false, HV.out.symm, HT.out⟩, hbw.out⟩
      · by_cases h2 : least < -2
        · have HV : Hid (tellD least true = -2) := Lib.hid (by unfold tellD; rw [if_neg (by omega)])
          go_wp2_with fail
          go_ret
          exact ⟨-2, rfl, ⟨least, true, HV.out.symm, HT.out⟩, hbw.out⟩
        · have HV : Hid (tellD least true = least) := Lib.hid (by unfold tellD; rw [if_pos ⟨rfl, by omega⟩])
          have h3 : decide (least < -2) = false := decide_eq_false h2
          go_wp2_with fail
          go_ret
          exact ⟨least, rfl, ⟨least, true, HV.out.symm, HT.out⟩, hbw.out⟩

/-- What the sources tell is above the mark, or not: the program's Rose says the same. -/
theorem tells_rose {c : Ck} {v : Int} (h : TellsD c v) (ho : c.Ok) : Rose c { c with mark := max c.mark v } := by
  obtain ⟨m, any, rfl, ht⟩ := h
  refine ⟨m, any, ht, ?_⟩
  have h1 := ho.m0
  unfold tellD
  cases any
  · rw [if_neg (by simp)]
    simp only [Bool.false_eq_true, if_false]
    rw [show max c.mark (-2) = c.mark from by omega]
  · by_cases h2 : -2 ≤ m
    · rw [if_pos ⟨rfl, h2⟩]
      simp
    · rw [if_neg (by omega)]
      simp only [if_true]
      rw [show max c.mark (-2) = c.mark from by omega, show max c.mark m = c.mark from by omega]

theorem tells_ok {c : Ck} {v : Int} {l : List Sc} (h : TellsD c v) (hr : Rows' c.src l) (ho : c.Ok) : ({ c with mark := max c.mark v } : Ck).Ok := by
  obtain ⟨m, any, rfl, ht⟩ := h
  obtain ⟨s0, s1, i0, i1, n0, n1, m0, m1⟩ := ho
  have hm : tellD m any ≤ 1099511627776 := by
    unfold tellD
    split
    · rename_i h2
      rcases ht with ⟨h3, _⟩ | ⟨_, ⟨s, x, hs, _, rfl⟩, _⟩
      · rw [h3] at h2; simp at h2
      · have h4 := hr.ok _ ((hr.mem ⟨s.toArray⟩ x).1 (by simpa using hs))
        dsimp only at h4
        omega
    · omega
  exact ⟨s0, s1, i0, i1, n0, n1, by show -1 ≤ max c.mark (tellD m any); omega, by show max c.mark (tellD m any) ≤ 1099511627776; omega⟩


/-! ### place -/
/-- How many sources are ahead of a name; is it there? -/
def PlaceD (l : List Sc) (s : ByteArray) (k : Nat) (b : Bool) : Prop := k ≤ l.length ∧ (∀ j x, j < k → l[j]? = some x → ltN x.1 s) ∧ (∀ x, l[k]? = some x → ¬ ltN x.1 s) ∧ (b = true ↔ ∃ x, l[k]? = some x ∧ x.1 = s)
theorem place_src {f : List UInt8 → Option (Int × Int)} {l : List Sc} {s : ByteArray} {k : Nat} {b : Bool} (hr : Rows' f l) (h : PlaceD l s k b) : (b = true → ∃ x, l[k]? = some (s, x) ∧ f s.data.toList = some x) ∧ (b = false → f s.data.toList = none) := by
  obtain ⟨h1, h2, h3, h4⟩ := h
  refine ⟨fun hb => ?_, fun hb => ?_⟩
  · obtain ⟨⟨xn, x⟩, hx, rfl⟩ := h4.1 hb
    exact ⟨x, hx, (hr.mem _ _).2 (List.mem_of_getElem? hx)⟩
  · cases hf : f s.data.toList with
    | none => rfl
    | some x =>
      exfalso
      obtain ⟨j, hj⟩ := List.mem_iff_getElem?.1 ((hr.mem s x).1 hf)
      rcases Nat.lt_trichotomy j k with h | h | h
      · exact ltN_irr _ (h2 j _ h hj)
      · subst h
        have := h4.2 ⟨_, hj, rfl⟩
        rw [hb] at this
        cases this
      · have hkl : k < l.length := by have := (List.getElem?_eq_some_iff.1 hj).1; omega
        have hlt := List.pairwise_iff_getElem.1 hr.asc k j hkl (List.getElem?_eq_some_iff.1 hj).1 h
        rw [(List.getElem?_eq_some_iff.1 hj).2] at hlt
        exact h3 _ (List.getElem?_eq_getElem hkl) hlt

set_option maxHeartbeats 2000000 in
set_option maxRecDepth 100000 in
theorem place_any (D db cc n : Nat) (A : Option Addr) (l : List Sc) (c : Ck) (s : ByteArray) (w : World) (hn : l.length = n) (hb : n ≤ 10000) (h : DocIn w D db A cc l c) :
    Calls Tryz.prog 44 #[.pointer (some ⟨db, 0, none⟩), .string s] w fun e w' => ∃ (k : Nat) (b : Bool) (p : Value × Value), p = (.int .i64 k, .bool b) ∧ e = .returned (.tuple #[p.1, p.2]) ∧ PlaceD l s k b ∧ Below w.heap.size w w' := by
  have c4 : w.cell? ⟨db, 4, none⟩ = some (.slice A n cc) := by have := h.blk.cell 4; rw [hn] at this; exact this
  have H := Lib.hid h
  have HN := Lib.hid hn
  clear h hn
  go_enter Tryz.func44, Tryz.ntmps44
  go_wp2_with fail
  go_loopw [6] (fun i wr => ∃ k : Nat, k ≤ n ∧ i = .int .i64 k ∧ Hid (∀ j x, j < k → l[j]? = some x → ltN x.1 s) ∧ wr = w) (fun i _ => n - (intOf i).toNat)
  case atStart => exact ⟨0, Nat.zero_le _, rfl, Lib.hid (fun j x hj => by omega), rfl⟩
  case round =>
    obtain ⟨k, hk, rfl, hlo, rfl⟩ := hrel
    obtain ⟨w, rfl⟩ : ∃ w : World, w = wr := ⟨_, rfl⟩
    have HBD : Hid (∀ q, Below w.heap.size w (w.drewN q)) := Lib.hid (fun q => Go.Proofs.YtobkgkiomapabaaGreatDoor.below_drewN (Below.refl _ _) q)
    by_cases hlt : k < n
    · obtain ⟨x, hx⟩ : ∃ x, l[k]? = some x := ⟨l[k]'(by rw [HN.out]; exact hlt), List.getElem?_eq_getElem _⟩
      have HX := Lib.hid hx
      obtain ⟨xn, x1, x2⟩ := x
      obtain ⟨g, o, rfl, hg, e0, e1, e2⟩ := H.out.at hx
      dsimp only at e0
      have hk8 : (k : Int) < (n : Int) := by omega
      have hk9 : (0 : Int) ≤ (k : Int) := by omega
      clear hx e1 e2
      cases hq : Op.bytesLess xn.toList s.toList
      · have HQ : Hid (∀ y, l[k]? = some y → ¬ ltN y.1 s) := Lib.hid (fun y hy e => by rw [HX.out] at hy; cases hy; rw [(less_iff _ _).2 e] at hq; cases hq)
        by_cases he : xn = s
        · have q1 : (xn.toList == s.toList) = true := (beq_list xn s).2 he
          have HP : Hid (PlaceD l s k true) := Lib.hid ⟨by rw [HN.out]; exact hk, hlo.out, HQ.out, fun _ => ⟨_, HX.out, he⟩, fun _ => rfl⟩
          clear he
          go_wp2_with fail
          go_quiet (fail)
          go_wp2_with fail
          go_ret2
          exact ⟨k, true, _, rfl, rfl, HP.out, HBD.out _⟩
        · have q1 : (xn.toList == s.toList) = false := beq_no he
          have HP : Hid (PlaceD l s k false) := Lib.hid ⟨by rw [HN.out]; exact hk, hlo.out, HQ.out, fun h => (by cases h), fun ⟨y, hy, h2⟩ => (by rw [HX.out] at hy; cases hy; exact absurd h2 he)⟩
          clear he
          go_wp2_with fail
          go_quiet (fail)
          go_wp2_with fail
          go_ret2
          exact ⟨k, false, _, rfl, rfl, HP.out, HBD.out _⟩
      · have HQ : Hid (ltN xn s) := Lib.hid ((less_iff _ _).1 hq)
        go_wp2_with fail
        go_roundw
        case rel =>
          refine ⟨k + 1, by omega, by go_num, Lib.hid (fun j y hj hy => ?_), by first | rfl | trivial⟩
          by_cases e : j = k
          · subst e
            rw [HX.out] at hy
            cases hy
            exact HQ.out
          · exact hlo.out j y (by omega) hy
        case measure => simp [intOf]; omega
    · have HNO : Hid (l[k]? = none) := Lib.hid (List.getElem?_eq_none (by rw [HN.out]; omega))
      have HP : Hid (PlaceD l s k false) := Lib.hid ⟨by rw [HN.out]; exact hk, hlo.out, fun x hx => (by rw [HNO.out] at hx; cases hx), fun h => (by cases h), fun ⟨y, hy, h2⟩ => (by rw [HNO.out] at hy; cases hy)⟩
      have hk7 : decide ((k : Int) < (n : Int)) = false := decide_eq_false (by omega)
      go_wp2_with fail
      go_quiet (fail)
      go_wp2_with fail
      go_ret2
      exact ⟨k, false, _, rfl, rfl, HP.out, HBD.out _⟩


set_option maxHeartbeats 2000000 in
set_option maxRecDepth 100000 in
theorem ractive_says (D db n : Nat) (c : Ck) (s : ByteArray) (w : World) (hb : n ≤ 10000) (h : DocAt w D db n c) :
    Calls Tryz.prog 27 #[.pointer (some ⟨db, 0, none⟩), .string s] w fun e w' => e = .returned (.bool (activeOf c s.data.toList)) ∧ Below w.heap.size w w' := by
  obtain ⟨A, cc, l, hl, h⟩ := h
  obtain ⟨m, hm⟩ : ∃ m, l.length = m := ⟨_, rfl⟩
  have HC : Hid (∀ V, Below w.heap.size w V → V.cell? ⟨db, 4, none⟩ = some (.slice A m cc)) := Lib.hid (fun V hV => by
    have k := (h.below hV).blk
    rw [hm] at k
    exact k.cell 4)
  have HPL := Lib.hid (place_any D db cc m A l c s w hm (by omega) h)
  have H := Lib.hid h
  have HM := Lib.hid hm
  clear h hm
  go_enter Tryz.func27, Tryz.ntmps27
  go_wp2_with fail
  refine HPL.out.mono ?_
  rintro e w1 ⟨k, b, _, rfl, rfl, hp, hb1⟩
  obtain ⟨hp1, hp2⟩ := place_src H.out.rows hp
  have HB1 := Lib.hid hb1
  have c4 := HC.out w1 hb1
  cases b
  · have HV : Hid (activeOf c s.data.toList = false) := Lib.hid (by unfold activeOf; rw [hp2 rfl])
    clear hp1 hp2 hp hb1 HPL
    go_wp2_with fail
    go_ret
    exact ⟨ret_bool HV.out.symm, HB1.out⟩
  · obtain ⟨⟨x1, x2⟩, hx, hs⟩ := hp1 rfl
    have HV : Hid (activeOf c s.data.toList = act c (x1, x2)) := Lib.hid (by unfold activeOf; rw [hs])
    have hkl := (List.getElem?_eq_some_iff.1 hx).1
    have H1 := Lib.hid (H.out.below hb1)
    obtain ⟨b1, b2, b3, b4, _⟩ := H.out.rows.ok _ (List.mem_of_getElem? hx)
    obtain ⟨g, o, rfl, hg, e0, e1, e2⟩ := H1.out.at hx
    dsimp only at e0 e1 e2 b3 b4
    have HA := Lib.hid (ractive_any D db cc _ l c (s, x1, x2) w1 H1.out b3 b4)
    have hk8 : (k : Int) < (m : Int) := by rw [HM.out] at hkl; omega
    have hk9 : (0 : Int) ≤ (k : Int) := by omega
    clear hp1 hp2 hp hb1 HPL hx hs
    go_wp2_with fail
    refine HA.out.mono ?_
    rintro e w2 ⟨rfl, hb2⟩
    go_wp2_with fail
    go_ret
    exact ⟨ret_bool HV.out.symm, HB1.out.trans (hb2.mono HB1.out.size)⟩

end Go.Proofs.YtobkgkiomapabaaGreatDoor

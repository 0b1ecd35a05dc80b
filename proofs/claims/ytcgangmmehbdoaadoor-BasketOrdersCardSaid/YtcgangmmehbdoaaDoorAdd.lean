/- add. -/
import Derived.Test.YtcgangmmehbdoaaDoorBkW
namespace Go.Proofs.YtcgangmmehbdoaaDoor
open Go.Shelf Go.RowKit Go.Maps
set_option linter.unusedVariables false

/-- What the first loop has counted: of the things that are no more to come. -/
def seenB (f : Bsk) (left : Lit → Bool) (x : ByteArray) : Bool := (f x).isSome && !left (.string x.data.toList)
theorem beh_some {f : Bsk} {x y : ByteArray} (h : behB f x y = true) : (f x).isSome = true ∧ (f y).isSome = true := by
  unfold behB at h
  cases hx : f x with
  | none => rw [hx] at h; cases h
  | some a =>
    cases hy : f y with
    | none => rw [hx, hy] at h; cases h
    | some b => exact ⟨rfl, rfl⟩
theorem left_same (left : Lit → Bool) (s x : ByteArray) : (left (.string x.data.toList) && !(Lit.string x.data.toList).sameKey (.string s.data.toList)) = (left (.string x.data.toList) && !decide (x = s)) := by rw [str_same]
theorem seen_next {f : Bsk} {left : Lit → Bool} {s : ByteArray} (hs : (f s).isSome = true) (hl : left (.string s.data.toList) = true) (x : ByteArray) :
    seenB f (fun z => left z && !z.sameKey (.string s.data.toList)) x = (seenB f left x || decide (x = s)) ∧ seenB f left s = false := by
  refine ⟨?_, by unfold seenB; rw [hl]; simp⟩
  unfold seenB
  dsimp only
  rw [left_same]
  by_cases h : x = s
  · subst h; simp [hs]
  · simp [h]

set_option maxHeartbeats 4000000 in
set_option maxRecDepth 100000 in
theorem add_any (w : World) (bb sb cb mb n1 n2 m A : Nat) (S : ByteArray → Nat) (C : ByteArray → ByteArray → Nat) (f : Bsk) (hb : BkIn w bb sb cb n1 n2 A S C) (hm : MapIs Tryd.prog 9 okInt w mb m (mapG (bskG f))) (hs : mb ≠ sb) (hc : mb ≠ cb) (hsz : m ≤ 1000) (h1 : n1 ≤ 1000000000) (h2 : n2 ≤ 1000000000000) (hA : A ≤ 1000000000) (hS : ∀ x, S x ≤ 1000000000) (hC : ∀ x y, C x y ≤ 1000000000) :
    Calls Tryd.prog 24 #[.pointer (some ⟨bb, 0, none⟩), .map (some mb)] w fun e w' => e = .returned (.tuple #[]) ∧ BkIn w' bb sb cb (n1 + m) (n2 + 1000 * m) (A + 1) (fun x => S x + one (f x).isSome) (fun x y => C x y + one (behB f x y)) ∧ Kept (bkF bb sb cb) w w' := by
  have c0 : w.cell? ⟨bb, 0, none⟩ = some (.int .i64 A) := hb.blk.cell 0
  have z0 : w.frozen? ⟨bb, 0, none⟩ = false := hb.blk.frozen 0
  obtain ⟨hn1, hn2⟩ := hb.nes
  have hn3 := hb.ne
  have hbm : mb ≠ bb := hm.ne_blk hb.blk
  obtain ⟨w1, hw1⟩ : ∃ w1, w.setCell ⟨bb, 0, none⟩ (.int .i64 ((A : Int) + 1)) = w1 := ⟨_, rfl⟩
  have HK1 : Hid (Kept (bkF bb sb cb) w w1) := Lib.hid (by rw [← hw1]; exact (Kept.refl _ _).setCell (Or.inl (Or.inl rfl)) _)
  have HBK1 : Hid (BkIn w1 bb sb cb n1 n2 (A + 1) S C) := Lib.hid (by
    obtain ⟨M, hM, hCC⟩ := hb.ct
    rw [← hw1]
    refine ⟨?_, hb.sg.setCell hn1 _, ⟨M, hM.setCell hn2 _, hCC⟩, hb.ne⟩
    have := hb.blk.set_ 0 (.int .i64 ((A : Int) + 1))
    simpa using this)
  have HM1 : Hid (MapIs Tryd.prog 9 okInt w1 mb m (mapG (bskG f))) := Lib.hid (by rw [← hw1]; exact hm.setCell hbm _)
  have HS := Lib.hid hS
  have HC := Lib.hid hC
  clear hb hm hS hC
  go_enter Tryd.func24, Tryd.ntmps24
  go_wp2_with (first
    | (at_range; refine wpList_rangeM _ rfl _ 50 rfl 9 3 (string_keyed Tryd.underlying9) Tryd.underlying50 okInt mb m _ rfl HM1.out ?_; intro w2 cnt0 hrg0 hg0 hs0 hc0)
    | fail)
  have HRG0 := Lib.hid hrg0
  have hk2 : Kept (fun _ => False) w1 w2 := (Kept.refl _ _).grown hg0 (fun j hj => by cases hj)
  have HK2 : Hid (Kept (bkF bb sb cb) w w2) := Lib.hid (HK1.out.trans' hk2 (fun _ _ h => h.elim))
  have HBK2 : Hid (BkIn w2 bb sb cb n1 n2 (A + 1) S C) := Lib.hid (HBK1.out.kept hk2 (fun h => h) (fun h => h) (fun h => h))
  obtain ⟨r, hr⟩ : ∃ r, w1.heap.size = r := ⟨_, rfl⟩
  rw [hr] at HRG0 ⊢
  have hrn : r ≠ bb ∧ r ≠ sb ∧ r ≠ cb ∧ r ≠ mb := by
    have := HBK1.out.lt
    have := HM1.out.lt
    omega
  obtain ⟨r1, r2, r3, r4⟩ := hrn
  have HRW : Hid (w.heap.size ≤ r) := Lib.hid (by rw [← hr]; exact HK1.out.size)
  clear hrg0 hg0 hs0 hk2 HK1 HBK1 HM1 hw1 hr c0 z0
  go_frame
  go_loopw [] (fun wr => ∃ (left : Lit → Bool) (cnt : Nat), Hid (MapGoes Tryd.prog 9 okInt wr mb r m (mapG (bskG f)) left cnt) ∧ cnt ≤ m ∧ Hid (BkIn wr bb sb cb (n1 + (m - cnt)) (n2 + 1000 * (m - cnt)) (A + 1) (fun x => S x + one (seenB f left x)) (fun x y => C x y + one (seenB f left x && behB f x y))) ∧ Hid (Kept (bkF bb sb cb) w wr)) (fun wr => wr.rangeLeft mb r)
  case atStart =>
    refine ⟨_, cnt0, HRG0, hc0, Lib.hid ?_, HK2⟩
    have hz : ∀ x, seenB f (fun kl => (mapG (bskG f) kl).isSome) x = false := fun x => by
      show ((f x).isSome && !(mapG (bskG f) (.string x.data.toList)).isSome) = false
      rw [mapG_at]
      unfold bskG
      cases f x <;> rfl
    exact (HBK2.out.mono (by omega) (by omega)).congr rfl (fun x => by rw [hz]; rfl) (fun x y => by rw [hz]; rfl)
  case round =>
    obtain ⟨left, cnt, hrg, hcnt, hbk, hkw⟩ := hrel
    go_wp2_with (first
      | (at_next; refine wpList_nextS _ rfl _ rfl 9 Tryd.underlying9 okInt (fun z : Int => .int .i64 z) (fun v hv => mk_int hv) mb r m _ _ _ rfl hrg.out ?_ ?_)
      | fail)
    · intro h0 hl
      have HF : Hid (BkIn wr bb sb cb (n1 + m) (n2 + 1000 * m) (A + 1) (fun x => S x + one (f x).isSome) (fun x y => C x y + one (behB f x y))) := Lib.hid (by
        have hz : ∀ x, seenB f left x = (f x).isSome := fun x => by unfold seenB; rw [hl]; simp
        refine (hbk.out.mono (by omega) (by omega)).congr rfl (fun x => by rw [hz]) (fun x y => ?_)
        rw [hz]
        cases hx : behB f x y
        · simp
        · simp [(beh_some hx).1])
      clear hl h0
      go_wp2_with fail
      go_end0
      exact ⟨rfl, HF.out, hkw.out⟩
    · intro x at1 w3 cnt1 hsx hlx hok hMx hrg3 hlt3 hg3 hs3 hen
      rw [mapG_at] at hMx
      have hfx : f x = some at1 := by
        unfold bskG at hMx
        cases hf : f x with
        | none => rw [hf] at hMx; cases hMx
        | some z => rw [hf] at hMx; simp at hMx; rw [hMx]
      have hk3 : Kept (fun q => q = r) wr w3 := (Kept.refl _ _).grown hg3 (fun j hj => by cases hj; exact Or.inl rfl)
      have HBK3 : Hid (BkIn w3 bb sb cb (n1 + (m - cnt)) (n2 + 1000 * (m - cnt)) (A + 1) (fun x => S x + one (seenB f left x)) (fun x y => C x y + one (seenB f left x && behB f x y))) := Lib.hid (hbk.out.kept hk3 (Ne.symm r1) (Ne.symm r2) (Ne.symm r3))
      have HK3 : Hid (Kept (bkF bb sb cb) w w3) := Lib.hid (hkw.out.trans' hk3 (fun i hi h => by have := HRW.out; omega))
      have HRG3 := Lib.hid hrg3
      have HLT3 : Hid (cnt1 < wr.rangeLeft mb r) := Lib.hid (by rw [hrg.out.left_eq]; exact hlt3)
      have HSN := Lib.hid (fun y => seen_next (f := f) (left := left) (s := x) (by rw [hfx]; rfl) hlx y)
      have HFX := Lib.hid hfx
      have HSX : Hid (seenB f left x = false) := Lib.hid (HSN.out x).2
      have d1 : w3.cell? ⟨bb, 1, none⟩ = some (.map (some sb)) := HBK3.out.blk.cell 1
      have hsr : S x + one (seenB f left x) = S x := by rw [HSX.out]; rfl
      have HGX : Hid ((mapG (cntG (fun x => S x + one (seenB f left x))) (.string x.data.toList)).getD (.int .i64 0) = .int .i64 (S x)) := Lib.hid (by rw [mapG_at, cntG_get, hsr])
      have hSx := HS.out x
      have hcnt1 : cnt1 < cnt := hlt3
      clear hMx hfx hk3 hrg3 hlt3 hg3 hs3 hlx hrg hbk hkw hok hsr
      go_wp2_with (first
        | (at_lookup; refine wpList_lookM _ rfl _ _ 50 rfl 9 3 (string_keyed Tryd.underlying9) Tryd.underlying50 okInt _ (zeroInt _) rfl sb _ _ rfl HBK3.out.sg _ _ rfl (WideMaps.keyOf_string_mk Tryd.underlying9 hsx) _ HGX.out ?_)
        | (at_mapUpdate; refine wpList_storeM _ rfl _ _ _ 50 rfl 9 3 (string_keyed Tryd.underlying9) Tryd.underlying50 okInt sb _ _ rfl HBK3.out.sg (by unfold maxLen; omega) _ (.int .i64 ((S x : Int) + 1)) _ rfl rfl (WideMaps.keyOf_string_mk Tryd.underlying9 hsx) rfl ?_; intro w4 hm4 hg4 hs4; have HG4 := Lib.hid hg4; have HM4 := Lib.hid hm4; have hk4 : Kept (fun q => q = sb) w3 w4 := (Kept.refl _ _).grown hg4 (fun j hj => by cases hj; exact Or.inl rfl); have HK4 := Lib.hid hk4; have HMB4 : Hid (MapIs Tryd.prog 9 okInt w4 mb m (mapG (bskG f))) := Lib.hid (HRG3.out.map.kept hk4 hs); clear hm4 hg4 hs4 hk4)
        | (at_range; refine wpList_rangeM _ rfl _ 50 rfl 9 3 (string_keyed Tryd.underlying9) Tryd.underlying50 okInt mb m _ rfl HMB4.out ?_; intro w5 cnt5 hrg5 hg5 hs5 hc5)
        | fail)
      have hk5 : Kept (fun _ => False) w4 w5 := (Kept.refl _ _).grown hg5 (fun j hj => by cases hj)
      have hk35 : Kept (fun q => q = sb) w3 w5 := HK4.out.trans' hk5 (fun _ _ h => h.elim)
      have HK5 : Hid (Kept (bkF bb sb cb) w w5) := Lib.hid (HK3.out.trans' hk35 (fun _ _ h => Or.inr (Or.inl h)))
      have HRO5 : Hid (MapGoes Tryd.prog 9 okInt w5 mb r m (mapG (bskG f)) (fun z => left z && !z.sameKey (.string x.data.toList)) cnt1) := Lib.hid (HRG3.out.kept hk35 hs r2)
      have HBK5 : Hid (BkIn w5 bb sb cb (n1 + (m - cnt) + 1) (n2 + 1000 * (m - cnt)) (A + 1) (fun y => S y + one (seenB f (fun z => left z && !z.sameKey (.string x.data.toList)) y)) (fun a b => C a b + one (seenB f left a && behB f a b))) := Lib.hid (by
        obtain ⟨M, hM, hCC⟩ := HBK3.out.ct
        refine ⟨HBK3.out.blk.kept hk35 (Ne.symm hn1), ?_, ⟨M, hM.kept hk35 (Ne.symm hn3), hCC⟩, hn3⟩
        refine (HM4.out.kept hk5 (fun h => h)).congr (fun kl => ?_)
        have := cntG_upd (fun x => S x + one (seenB f left x)) x kl
        have e1 : ((S x + one (seenB f left x) : Nat) : Int) = (S x : Int) := by rw [HSX.out]; simp [one]
        rw [e1] at this
        rw [this]
        have e2 : bmpS (fun x => S x + one (seenB f left x)) x = fun y => S y + one (seenB f (fun z => left z && !z.sameKey (.string x.data.toList)) y) := by
          funext y
          unfold bmpS
          rw [(HSN.out y).1]
          by_cases h : y = x
          · subst h; simp [one, HSX.out]
          · simp [h]
        rw [e2])
      obtain ⟨r', hr'⟩ : ∃ r', w4.heap.size = r' := ⟨_, rfl⟩
      rw [hr'] at hrg5 ⊢
      have HRG5 := Lib.hid hrg5
      have hrn' : r' ≠ bb ∧ r' ≠ sb ∧ r' ≠ cb ∧ r' ≠ mb ∧ r' ≠ r := by
        have h1 := HBK3.out.lt
        have h2 := HMB4.out.lt
        have h3 := HRG3.out.lt
        have h4 := HK4.out.size
        omega
      obtain ⟨q1, q2, q3, q4, q5⟩ := hrn'
      have HRW' : Hid (w.heap.size ≤ r') := Lib.hid (by rw [← hr']; exact Nat.le_trans HK3.out.size HK4.out.size)
      clear hk5 hk35 hr' hrg5 hg5 hs5 HK4 HM4 HG4 HMB4 d1 HGX HBK3 HK3 hen
      go_frame
      go_loopw [] (fun wq => ∃ (left2 : Lit → Bool) (cnt2 : Nat), Hid (MapGoes Tryd.prog 9 okInt wq mb r' m (mapG (bskG f)) left2 cnt2) ∧ Hid (MapGoes Tryd.prog 9 okInt wq mb r m (mapG (bskG f)) (fun z => left z && !z.sameKey (.string x.data.toList)) cnt1) ∧ cnt2 ≤ m ∧ Hid (BkIn wq bb sb cb (n1 + (m - cnt) + 1) (n2 + 1000 * (m - cnt) + (m - cnt2)) (A + 1) (fun y => S y + one (seenB f (fun z => left z && !z.sameKey (.string x.data.toList)) y)) (fun a b => C a b + one (seenB f left a && behB f a b) + one (decide (a = x) && (seenB f left2 b && behB f a b)))) ∧ Hid (Kept (bkF bb sb cb) w wq)) (fun wq => wq.rangeLeft mb r')
      case atStart =>
        refine ⟨_, cnt5, HRG5, HRO5, hc5, Lib.hid ?_, HK5⟩
        have hz : ∀ y, seenB f (fun kl => (mapG (bskG f) kl).isSome) y = false := fun y => by
          show ((f y).isSome && !(mapG (bskG f) (.string y.data.toList)).isSome) = false
          rw [mapG_at]
          unfold bskG
          cases f y <;> rfl
        exact (HBK5.out.mono (by omega) (by omega)).congr rfl (fun x => rfl) (fun a b => by rw [hz]; simp [one])
      case round =>
        obtain ⟨left2, cnt2, hrg, hro, hcnt2, hbk, hkw⟩ := hrel
        go_wp2_with (first
          | (at_next; refine wpList_nextS _ rfl _ rfl 9 Tryd.underlying9 okInt (fun z : Int => .int .i64 z) (fun v hv => mk_int hv) mb r' m _ _ _ rfl hrg.out ?_ ?_)
          | fail)
        · intro h0 hl
          have HF : Hid (BkIn wr bb sb cb (n1 + (m - cnt1)) (n2 + 1000 * (m - cnt1)) (A + 1) (fun y => S y + one (seenB f (fun z => left z && !z.sameKey (.string x.data.toList)) y)) (fun a b => C a b + one (seenB f (fun z => left z && !z.sameKey (.string x.data.toList)) a && behB f a b))) := Lib.hid (by
            have hz : ∀ y, seenB f left2 y = (f y).isSome := fun y => by unfold seenB; rw [hl]; simp
            refine (hbk.out.mono (by omega) (by omega)).congr rfl (fun x => rfl) (fun a b => ?_)
            rw [(HSN.out a).1, hz]
            by_cases ha : a = x
            · subst ha
              rw [HSX.out]
              cases hx : behB f a b
              · simp [one]
              · simp [one, (beh_some hx).2]
            · simp [ha, one])
          have HLL : Hid (wr.rangeLeft mb r = cnt1) := Lib.hid hro.out.left_eq
          clear hl h0 hrg hbk
          go_wp2_with fail
          go_roundw
          case rel => exact ⟨_, cnt1, hro, by omega, HF, hkw⟩
          case measure => rw [HLL.out]; exact HLT3.out
        · intro y at2 w6 cnt3 hsy hly hok hMy hrg6 hlt6 hg6 hs6 hen
          rw [mapG_at] at hMy
          have hfy : f y = some at2 := by
            unfold bskG at hMy
            cases hf : f y with
            | none => rw [hf] at hMy; cases hMy
            | some z => rw [hf] at hMy; simp at hMy; rw [hMy]
          have HBE : Hid (behB f x y = decide (at1 < at2)) := Lib.hid (by unfold behB; rw [HFX.out, hfy])
          have hk6 : Kept (fun q => q = r') wr w6 := (Kept.refl _ _).grown hg6 (fun j hj => by cases hj; exact Or.inl rfl)
          have HBK6 := Lib.hid (hbk.out.kept hk6 (Ne.symm q1) (Ne.symm q2) (Ne.symm q3))
          have HK6 : Hid (Kept (bkF bb sb cb) w w6) := Lib.hid (hkw.out.trans' hk6 (fun i hi h => by have := HRW'.out; omega))
          have HRO6 := Lib.hid (hro.out.kept hk6 (Ne.symm q4) (Ne.symm q5))
          have HRG6 := Lib.hid hrg6
          have HLT6 : Hid (cnt3 < wr.rangeLeft mb r') := Lib.hid (by rw [hrg.out.left_eq]; exact hlt6)
          have HSN2 := Lib.hid (fun b => seen_next (f := f) (left := left2) (s := y) (by rw [hfy]; rfl) hly b)
          have HSY : Hid (seenB f left2 y = false) := Lib.hid (HSN2.out y).2
          have hcnt3 : cnt3 < cnt2 := hlt6
          clear hMy hk6 hrg6 hlt6 hg6 hs6 hly hrg hbk hkw hok hro hfy
          by_cases hgt : at1 < at2
          · have hent0 : ∃ M, MapIs Tryd.prog 69 okInt w6 cb (n2 + 1000 * (m - cnt) + (m - cnt2)) M ∧ Cnt2 M _ := HBK6.out.ct
            obtain ⟨M, hM, hCC⟩ := hent0
            have hgx := hCC.get hsx hsy
            have hq0 : C x y + one (seenB f left x && behB f x y) + one (decide (x = x) && (seenB f left2 y && behB f x y)) = C x y := by rw [HSX.out, HSY.out]; simp [one]
            have hbmp := hCC.bump hsx hsy
            rw [hq0] at hgx hbmp
            have hCq := HC.out x y
            generalize hq : C x y = q at *
            have hent := hM.drew.entry twoLaw Tryd.underlying51 (z := .int .i64 0) zeroInt rfl (by unfold maxLen; omega) (two_keyOf x y hsx hsy) (val := .int .i64 ((q : Int) + 1)) rfl
            have hlook := hM.drew.look twoKeyed Tryd.underlying51 (zeroInt _) rfl (two_keyOf x y hsx hsy)
            rw [hgx] at hent hlook
            obtain ⟨st, w9, w10, hE, hL9, hS9, hm10, hg10, hs10, hg9, hs9⟩ := hent
            have HM10 := Lib.hid hm10
            have hk10 : Kept (fun q => q = cb) w6 w10 := (⟨rfl, rfl, rfl, Nat.le_refl _, fun _ _ _ => rfl⟩ : Kept (fun q => q = cb) w6 w6.drew).trans ((Kept.refl _ _).grown hg10 (fun j hj => by cases hj; exact Or.inl rfl))
            have HB10 : Hid (BkIn w10 bb sb cb (n1 + (m - cnt) + 1) (n2 + 1000 * (m - cnt) + (m - cnt3)) (A + 1) (fun y => S y + one (seenB f (fun z => left z && !z.sameKey (.string x.data.toList)) y)) (fun a b => C a b + one (seenB f left a && behB f a b) + one (decide (a = x) && (seenB f (fun z => left2 z && !z.sameKey (.string y.data.toList)) b && behB f a b)))) := Lib.hid (by
              refine ⟨HBK6.out.blk.kept hk10 (Ne.symm hn2), HBK6.out.sg.kept hk10 hn3, ⟨_, HM10.out.mono (by omega), hbmp.congr (fun a b => ?_)⟩, hn3⟩
              unfold bmpC
              rw [(HSN2.out b).1]
              by_cases h : a = x ∧ b = y
              · obtain ⟨rfl, rfl⟩ := h
                rw [if_pos ⟨rfl, rfl⟩]
                simp [one, HSX.out, HSY.out, HBE.out, hgt]
              · rw [if_neg h]
                congr 1
                congr 1
                by_cases ha : a = x
                · have hb : ¬ b = y := fun e => h ⟨ha, e⟩
                  simp [ha, hb]
                · simp [ha])
            have HK10 : Hid (Kept (bkF bb sb cb) w w10) := Lib.hid (HK6.out.trans' hk10 (fun _ _ h => Or.inr (Or.inr h)))
            have HRG10 := Lib.hid (HRG6.out.kept hk10 hc q3)
            have HRO10 := Lib.hid (HRO6.out.kept hk10 hc r3)
            have d2 : w6.cell? ⟨bb, 2, none⟩ = some (.map (some cb)) := HBK6.out.blk.cell 2
            simp only [goInt] at hE hS9
            clear hm10 hg10 hs10 hg9 hs9 hM hCC hbmp hgx hq0 hk10 hq
            go_wp2_with fail
            go_region
            go_wp2_with fail
            go_roundw
            case rel => exact ⟨_, cnt3, HRG10, HRO10, by omega, HB10, HK10⟩
            case measure => rw [HRG10.out.left_eq]; exact HLT6.out
          · have HB10 : Hid (BkIn w6 bb sb cb (n1 + (m - cnt) + 1) (n2 + 1000 * (m - cnt) + (m - cnt3)) (A + 1) (fun y => S y + one (seenB f (fun z => left z && !z.sameKey (.string x.data.toList)) y)) (fun a b => C a b + one (seenB f left a && behB f a b) + one (decide (a = x) && (seenB f (fun z => left2 z && !z.sameKey (.string y.data.toList)) b && behB f a b)))) := Lib.hid (by
              refine (HBK6.out.mono (by omega) (by omega)).congr rfl (fun _ => rfl) (fun a b => ?_)
              rw [(HSN2.out b).1]
              congr 1
              congr 1
              by_cases ha : a = x
              · subst ha
                by_cases hb : b = y
                · subst hb; rw [HBE.out, decide_eq_false hgt]; simp
                · simp [hb]
              · simp [ha])
            clear HBK6
            go_wp2_with fail
            go_roundw
            case rel => exact ⟨_, cnt3, HRG6, HRO6, by omega, HB10, HK6⟩
            case measure => rw [HRG6.out.left_eq]; exact HLT6.out

end Go.Proofs.YtcgangmmehbdoaaDoor
